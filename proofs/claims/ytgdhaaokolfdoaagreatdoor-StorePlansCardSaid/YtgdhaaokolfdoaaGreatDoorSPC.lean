/- StorePlans: the row and its tied card hold for every input. Conditions: none beyond the row's. -/
import Derived.Test.YtgdhaaokolfdoaaGreatDoorPX
import Derived.Test.YtgdhaaokolfdoaaGreatDoorRF
import Derived.Test.YtgdhaaokolfdoaaGreatDoorA8
namespace Go.Proofs.YtgdhaaokolfdoaaGreatDoor
namespace storePlans
open Go.ChangeShapes Go.WideShapes Go.ChangeAt Go.RowKit Go.Sg
theorem cells46 : Tryz.prog.cellsOf 46 = 8 := by kernel_rfl
set_option maxRecDepth 100000 in
theorem lifted (os : Os) (started : os.Started) (H : Type) (enc : TypeId × Value → H) :
    ReturnsInHanded {} Tryz.checked os 5 .any (fun w args => (Rows.storePlansSpec.pre enc Tryz.prog Tryz.f5 [] false w args ∧ laidMetH Tryz.prog laid w) ∧ sizedMet enc Tryz.prog Tryz.f5 (OpenSpec.ofChange Rows.storePlansSpec) false w args)
      (Rows.storePlansSpec.post enc Tryz.prog Tryz.f5 false true false false) := by
  refine returnsInHanded_of_change_and (C := Tryz.checked) (X := fun w _ => laidMetH Tryz.prog laid w) (fun _ _ _ hh h => h.of_heap hh) own started (by kernel_rfl) Tryz.func5
    (ChangeSpec.witness_shaped (enc := enc) (C := Tryz.checked) (os := os) (X := fun w _ => laidMetH Tryz.prog laid w) false (World.laidAll Tryz.prog os laid) #[.agg #[.int .i64 0, .int .i64 0, .int .i64 0, .int .i64 0, .int .i64 0, .int .i64 0, .int .i64 0, .int .u64 0], .int .i64 0] 8 (World.laidAll_os _ _ _) (World.shaped_of_ZipB (by kernel_rfl) (by kernel_rfl)) (by kernel_rfl) (by kernel_rfl) (by kernel_rfl) (laid_met os _)) ?_
  intro W base args ds gs before hval0 hW _ _ hL _
  have hval : ∀ (j : Nat) t v, Tryz.f5.params[j]? = some t → args[j]? = some v → Value.okWide Tryz.prog W .any base t v := hval0
  have hW' := hW
  obtain ⟨p, q, hA0, hV, rfl, hfz, hnd⟩ := hW
  have hA : DataW.TrodAll enc Tryz.prog W 0 (fun _ => true) true Tryz.f5.params.toList args.toList ds p := hA0
  rw [Tryz.params5] at hA hval
  obtain ⟨v0, vs0, d0, ds0, p0, q0, hargs, rfl, rfl, h0, r0⟩ := trodAll_cons hA
  obtain ⟨v1, vs1, d1, ds1, p1, q1, rfl, rfl, rfl, h1, r1⟩ := trodAll_cons r0
  obtain ⟨rfl, rfl, rfl⟩ := trodAll_nil r1
  obtain rfl : args = #[v0, v1] := by cases args; simp_all
  obtain ⟨g, rfl, rfl, rfl, hwg⟩ := open_int Tryz.underlying3 (hval 1 3 v1 rfl rfl) h1
  obtain ⟨c0, c1, c2, c3, c4, c5, c6, c7, y0, y1, y2, y3, y4, y5, y6, y7, n, rfl, rfl, rfl, k0, k1, k2, k3, k4, k5, k6, k7⟩ := open_agg8 Tryz.underlying46 (by kernel_rfl) cells46 (hval 0 46 v0 rfl rfl) h0
  obtain ⟨z0, e0, -, -⟩ := DataW.trod_int Tryz.underlying3 k0
  obtain ⟨z1, e1, -, -⟩ := DataW.trod_int Tryz.underlying3 k1
  obtain ⟨z2, e2, -, -⟩ := DataW.trod_int Tryz.underlying3 k2
  obtain ⟨z3, e3, -, -⟩ := DataW.trod_int Tryz.underlying3 k3
  obtain ⟨z4, e4, -, -⟩ := DataW.trod_int Tryz.underlying3 k4
  obtain ⟨z5, e5, -, -⟩ := DataW.trod_int Tryz.underlying3 k5
  obtain ⟨z6, e6, -, -⟩ := DataW.trod_int Tryz.underlying3 k6
  obtain ⟨z7, e7, -, -⟩ := DataW.trod_int Tryz.underlying29 k7
  clear k0 k1 k2 k3 k4 k5 k6 k7
  obtain rfl := (List.cons.inj e0).1
  obtain rfl := (List.cons.inj e1).1
  obtain rfl := (List.cons.inj e2).1
  obtain rfl := (List.cons.inj e3).1
  obtain rfl := (List.cons.inj e4).1
  obtain rfl := (List.cons.inj e5).1
  obtain rfl := (List.cons.inj e6).1
  obtain rfl := (List.cons.inj e7).1
  refine (storePlans_walk ⟨z0, z1, z2, z3, z4, z5, z6, z7⟩ g W (tab_of_laid hL)).mono fun e W' ⟨he, hg⟩ => ?_
  subst he
  exact ⟨_, rfl, law_post (tb := 4) Tryz.laidOut (by kernel_rfl) rfl (by kernel_rfl) Tryz.underlying4 hW' (hg.below (fun _ _ h => h)) rfl⟩
theorem f_place : (Rows.storePlansRow.inPlace == Tryz.prog.inPlace 5) = true := by kernel_rfl
theorem f_unf : (Rows.storePlansRow.unfollowed == Tryz.prog.unfollowed 5) = true := by kernel_rfl
theorem f_rec : (Rows.storePlansRow.recurses == Tryz.prog.recurses 5) = true := by kernel_rfl
theorem f_named : (Rows.storePlansRow.named == Tryz.prog.varsNamed 5) = true := by kernel_rfl
theorem facts : joinedFacts Tryz.prog 5 Tryz.f5 Rows.storePlansSpec Rows.storePlansRow = true := by
  simp only [joinedFacts, Bool.and_eq_true]
  refine ⟨?_, by kernel_rfl⟩
  refine ⟨?_, by kernel_rfl⟩
  refine ⟨?_, by kernel_rfl⟩
  refine ⟨?_, by kernel_rfl⟩
  refine ⟨?_, pf_make⟩
  refine ⟨?_, pf_lifted⟩
  refine ⟨?_, pf_enter⟩
  refine ⟨?_, pf_heard⟩
  refine ⟨?_, by kernel_rfl⟩
  refine ⟨?_, pf_keys⟩
  refine ⟨?_, by kernel_rfl⟩
  refine ⟨?_, by kernel_rfl⟩
  refine ⟨?_, by kernel_rfl⟩
  refine ⟨?_, by kernel_rfl⟩
  refine ⟨?_, by kernel_rfl⟩
  refine ⟨?_, by kernel_rfl⟩
  refine ⟨?_, by kernel_rfl⟩
  refine ⟨?_, by kernel_rfl⟩
  refine ⟨?_, by kernel_rfl⟩
  refine ⟨?_, f_named⟩
  refine ⟨?_, f_rec⟩
  refine ⟨?_, f_unf⟩
  refine ⟨?_, f_place⟩
  refine ⟨?_, pf_knobs⟩
  refine ⟨?_, by kernel_rfl⟩
  refine ⟨?_, pf_stops⟩
  refine ⟨?_, by kernel_rfl⟩
  refine ⟨?_, by kernel_rfl⟩
  refine ⟨?_, by kernel_rfl⟩
  refine ⟨?_, pf_maps⟩
  exact ⟨by kernel_rfl, Tryz.laidOut⟩
theorem f_func : Tryz.prog.funcNamed Rows.storePlansRow.func = some 5 := by kernel_rfl
theorem f_inst : Tryz.f5.isInstance Tryz.prog Rows.storePlansRow.origin Rows.storePlansRow.targs := of_decide_eq_true (by kernel_rfl)
theorem f_wrap : Tryz.f5.isWrapper Tryz.prog Rows.storePlansRow.wrapper Rows.storePlansRow.mainSum := by
  unfold Func.isWrapper; first | (rw [if_pos (by decide +kernel)]; kernel_rfl) | (rw [if_neg (by decide +kernel)]; exact ⟨rfl, rfl⟩)
theorem over : Rows.storePlansRow.holds Tryz.pinned (OpenSpec.ofChange Rows.storePlansSpec) :=
  OpenClaim.holds_of_wide 5 Tryz.f5 rfl rfl rfl rfl rfl rfl rfl ⟨rfl, rfl, rfl, rfl, rfl⟩ rfl rfl rfl rfl rfl f_func Tryz.func5 facts f_inst f_wrap
    (fun os started H enc _ => lifted os started H enc)
theorem f_wft : Rows.storePlansRow.wfByText (OpenSpec.ofChange Rows.storePlansSpec) = true := by kernel_rfl
theorem f_goes : false = Rows.storePlansRow.goesBy Tryz.prog := by kernel_rfl
theorem f_want : ([46, 3].all fun u => !Tryz.prog.wantsStandIn u) = true := by kernel_rfl
theorem card_holds : Claim7.holds Tryz.pinned (.plain (OpenSpec.ofChange Rows.storePlansSpec)) Rows.storePlansCard :=
  Claim7.holds_tied_plain_at .later [] [.data] true (true, "e398d9c22f2f7fd5244c9c4088e24dc147c9b492cf57d8d70d9d24d47e8ca071") false
    over (fun _ h => by cases h) f_wft (fun _ h => by cases h) storePlans_row_tie rfl ⟨rfl, rfl⟩ pf_main rfl
    (fun f fn hf hfn => by
      obtain rfl : f = 5 := Option.some.inj (f_func.symm.trans hf) |>.symm
      obtain rfl : fn = Tryz.f5 := (Option.some.inj (Tryz.func5.symm.trans hfn)).symm
      exact ⟨pf_looks, fun j t ht => by
        rw [Tryz.params5] at ht
        have hm : t ∈ [46, 3] := by simpa using Array.mem_of_getElem? ht
        have hall := f_want
        exact (show Tryz.prog.wantsStandIn t = false by simpa using List.all_eq_true.1 hall t hm)⟩)
    f_goes
end storePlans
theorem storePlans_card : Rows.StorePlansCardSaid := storePlans.card_holds
#print axioms storePlans_card
end Go.Proofs.YtgdhaaokolfdoaaGreatDoor
