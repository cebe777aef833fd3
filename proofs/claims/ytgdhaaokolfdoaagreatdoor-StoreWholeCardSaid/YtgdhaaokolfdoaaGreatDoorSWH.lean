/- StoreWhole: the row and its tied card hold for every input. Conditions: none beyond the row's. -/
import Derived.Test.YtgdhaaokolfdoaaGreatDoorWBN
import Derived.Test.YtgdhaaokolfdoaaGreatDoorRF
set_option linter.unusedVariables false
set_option linter.unusedSimpArgs false
set_option linter.unnecessarySimpa false
namespace Go.Proofs.YtgdhaaokolfdoaaGreatDoor
namespace storeWhole
open Go.ChangeShapes Go.WideShapes Go.ChangeAt Go.RowKit Go.Sg
set_option maxRecDepth 100000 in
theorem lifted (os : Os) (started : os.Started) (H : Type) (enc : TypeId × Value → H) :
    ReturnsInHanded {} Tryz.checked os 8 .any (fun w args => (Rows.storeWholeSpec.pre enc Tryz.prog Tryz.f8 [] false w args ∧ laidMetH Tryz.prog laid w) ∧ sizedMet enc Tryz.prog Tryz.f8 (OpenSpec.ofChange Rows.storeWholeSpec) false w args)
      (Rows.storeWholeSpec.post enc Tryz.prog Tryz.f8 false true false false) := by
  refine returnsInHanded_of_change_and (C := Tryz.checked) (X := fun w _ => laidMetH Tryz.prog laid w) (fun _ _ _ hh h => h.of_heap hh) own started (by kernel_rfl) Tryz.func8
    (ChangeSpec.witness_shaped (enc := enc) (C := Tryz.checked) (os := os) (X := fun w _ => laidMetH Tryz.prog laid w) false (World.laidAll Tryz.prog os laid) #[.agg #[.slice none 0 0, .int .i64 0, .slice none 0 0]] 8 (World.laidAll_os _ _ _) (World.shaped_of_ZipB (by kernel_rfl) (by kernel_rfl)) (by kernel_rfl) (by kernel_rfl) (by kernel_rfl) (laid_met os _)) ?_
  intro W base args ds gs before hval0 hW _ _ hL _
  have hval : ∀ (j : Nat) t v, Tryz.f8.params[j]? = some t → args[j]? = some v → Value.okWide Tryz.prog W .any base t v := hval0
  have hW' := hW
  obtain ⟨p, q, hA0, hV, rfl, hfz, hnd⟩ := hW
  have hA : DataW.TrodAll enc Tryz.prog W 0 (fun _ => true) true Tryz.f8.params.toList args.toList ds p := hA0
  rw [Tryz.params8] at hA hval
  obtain ⟨v0, vs0, d0, ds0, p0, q0, hargs, rfl, rfl, h0, r0⟩ := trodAll_cons hA
  obtain ⟨rfl, rfl, rfl⟩ := trodAll_nil r0
  obtain rfl : args = #[v0] := by cases args; simp_all
  obtain ⟨a, n, c, l, k, fa, fn, fc, fl, rfl, hll, hA1, hk, hf, hr⟩ := open_storm (hval 0 76 v0 rfl rfl) h0
  refine (whole_in hll W (tab_of_laid hL) hA1 hk hf hr).mono fun e W' ⟨he, hg⟩ => ?_
  subst he
  exact ⟨_, rfl, law_post (tb := 4) Tryz.laidOut (by kernel_rfl) rfl (by kernel_rfl) Tryz.underlying4 hW' (hg.below (fun _ _ h => h)) rfl⟩
theorem f_place : (Rows.storeWholeRow.inPlace == Tryz.prog.inPlace 8) = true := by kernel_rfl
theorem f_unf : (Rows.storeWholeRow.unfollowed == Tryz.prog.unfollowed 8) = true := by kernel_rfl
theorem f_rec : (Rows.storeWholeRow.recurses == Tryz.prog.recurses 8) = true := by kernel_rfl
theorem f_named : (Rows.storeWholeRow.named == Tryz.prog.varsNamed 8) = true := by kernel_rfl
theorem facts : joinedFacts Tryz.prog 8 Tryz.f8 Rows.storeWholeSpec Rows.storeWholeRow = true := by
  simp only [joinedFacts, Bool.and_eq_true]
  refine ⟨?_, by kernel_rfl⟩
  refine ⟨?_, by kernel_rfl⟩
  refine ⟨?_, by kernel_rfl⟩
  refine ⟨?_, by kernel_rfl⟩
  refine ⟨?_, pf_make⟩
  refine ⟨?_, pf_lifted⟩
  refine ⟨?_, pf_enter⟩
  refine ⟨?_, pf_heard⟩
  refine ⟨?_, by kernel_rfl⟩
  refine ⟨?_, pf_keys⟩
  refine ⟨?_, by kernel_rfl⟩
  refine ⟨?_, by kernel_rfl⟩
  refine ⟨?_, by kernel_rfl⟩
  refine ⟨?_, by kernel_rfl⟩
  refine ⟨?_, by kernel_rfl⟩
  refine ⟨?_, by kernel_rfl⟩
  refine ⟨?_, by kernel_rfl⟩
  refine ⟨?_, by kernel_rfl⟩
  refine ⟨?_, by kernel_rfl⟩
  refine ⟨?_, f_named⟩
  refine ⟨?_, f_rec⟩
  refine ⟨?_, f_unf⟩
  refine ⟨?_, f_place⟩
  refine ⟨?_, pf_knobs⟩
  refine ⟨?_, by kernel_rfl⟩
  refine ⟨?_, pf_stops⟩
  refine ⟨?_, by kernel_rfl⟩
  refine ⟨?_, by kernel_rfl⟩
  refine ⟨?_, by kernel_rfl⟩
  refine ⟨?_, pf_maps⟩
  exact ⟨by kernel_rfl, Tryz.laidOut⟩
theorem f_func : Tryz.prog.funcNamed Rows.storeWholeRow.func = some 8 := by kernel_rfl
theorem f_inst : Tryz.f8.isInstance Tryz.prog Rows.storeWholeRow.origin Rows.storeWholeRow.targs := of_decide_eq_true (by kernel_rfl)
theorem f_wrap : Tryz.f8.isWrapper Tryz.prog Rows.storeWholeRow.wrapper Rows.storeWholeRow.mainSum := by
  unfold Func.isWrapper; first | (rw [if_pos (by decide +kernel)]; kernel_rfl) | (rw [if_neg (by decide +kernel)]; exact ⟨rfl, rfl⟩)
theorem over : Rows.storeWholeRow.holds Tryz.pinned (OpenSpec.ofChange Rows.storeWholeSpec) :=
  OpenClaim.holds_of_wide 8 Tryz.f8 rfl rfl rfl rfl rfl rfl rfl ⟨rfl, rfl, rfl, rfl, rfl⟩ rfl rfl rfl rfl rfl f_func Tryz.func8 facts f_inst f_wrap
    (fun os started H enc _ => lifted os started H enc)
theorem f_wft : Rows.storeWholeRow.wfByText (OpenSpec.ofChange Rows.storeWholeSpec) = true := by kernel_rfl
theorem f_goes : false = Rows.storeWholeRow.goesBy Tryz.prog := by kernel_rfl
theorem f_want : ([76].all fun u => !Tryz.prog.wantsStandIn u) = true := by kernel_rfl
theorem card_holds : Claim7.holds Tryz.pinned (.plain (OpenSpec.ofChange Rows.storeWholeSpec)) Rows.storeWholeCard :=
  Claim7.holds_tied_plain_at .later [] [.data] true (true, "e398d9c22f2f7fd5244c9c4088e24dc147c9b492cf57d8d70d9d24d47e8ca071") false
    over (fun _ h => by cases h) f_wft (fun _ h => by cases h) storeWhole_row_tie rfl ⟨rfl, rfl⟩ pf_main rfl
    (fun f fn hf hfn => by
      obtain rfl : f = 8 := Option.some.inj (f_func.symm.trans hf) |>.symm
      obtain rfl : fn = Tryz.f8 := (Option.some.inj (Tryz.func8.symm.trans hfn)).symm
      exact ⟨pf_looks, fun j t ht => by
        rw [Tryz.params8] at ht
        have hm : t ∈ [76] := by simpa using Array.mem_of_getElem? ht
        have hall := f_want
        exact (show Tryz.prog.wantsStandIn t = false by simpa using List.all_eq_true.1 hall t hm)⟩)
    f_goes
end storeWhole
theorem storeWhole_card : Rows.StoreWholeCardSaid := storeWhole.card_holds
#print axioms storeWhole_card
end Go.Proofs.YtgdhaaokolfdoaaGreatDoor
