/- DirApart: the row and its tied card hold for every input. Conditions: none beyond the row's. -/
import Derived.Test.YtgdhaaokolfdoaaGreatDoorKBL
import Derived.Test.YtgdhaaokolfdoaaGreatDoorKBK
import Derived.Test.YtgdhaaokolfdoaaGreatDoorRF
set_option linter.unusedVariables false
set_option linter.unusedSimpArgs false
set_option linter.unnecessarySimpa false
namespace Go.Proofs.YtgdhaaokolfdoaaGreatDoor
namespace dirApart
open Go.ChangeShapes Go.WideShapes Go.ChangeAt Go.RowKit Go.Sg
set_option maxRecDepth 100000 in
theorem lifted (os : Os) (started : os.Started) (H : Type) (enc : TypeId × Value → H) :
    ReturnsInHanded {} Tryz.checked os 9 .any (fun w args => (Rows.dirApartSpec.pre enc Tryz.prog Tryz.f9 [] false w args ∧ laidMetH Tryz.prog laid w) ∧ sizedMet enc Tryz.prog Tryz.f9 (OpenSpec.ofChange Rows.dirApartSpec) false w args)
      (Rows.dirApartSpec.post enc Tryz.prog Tryz.f9 false true false false) := by
  refine returnsInHanded_of_change_and (C := Tryz.checked) (X := fun w _ => laidMetH Tryz.prog laid w) (fun _ _ _ hh h => h.of_heap hh) own started (by kernel_rfl) Tryz.func9
    (ChangeSpec.witness_shaped (enc := enc) (C := Tryz.checked) (os := os) (X := fun w _ => laidMetH Tryz.prog laid w) false (World.laidAll Tryz.prog os laid) #[.slice none 0 0] 8 (World.laidAll_os _ _ _) (World.shaped_of_ZipB (by kernel_rfl) (by kernel_rfl)) (by kernel_rfl) (by kernel_rfl) (by kernel_rfl) (laid_met os _)) ?_
  intro W base args ds gs before hval0 hW _ _ hL _
  have hval : ∀ (j : Nat) t v, Tryz.f9.params[j]? = some t → args[j]? = some v → Value.okWide Tryz.prog W .any base t v := hval0
  have hW' := hW
  obtain ⟨p, q, hA0, hV, rfl, hfz, hnd⟩ := hW
  have hA : DataW.TrodAll enc Tryz.prog W 0 (fun _ => true) true Tryz.f9.params.toList args.toList ds p := hA0
  rw [Tryz.params9] at hA hval
  obtain ⟨v0, vs0, d0, ds0, p0, q0, hargs, rfl, rfl, h0, r0⟩ := trodAll_cons hA
  obtain ⟨rfl, rfl, rfl⟩ := trodAll_nil r0
  obtain rfl : args = #[v0] := by cases args; simp_all
  obtain ⟨a, n, c, l, rfl, hll, hA⟩ := open_actd (hval 0 81 v0 rfl rfl) h0
  refine (dirApart_in hll W (tab_of_laid hL) hA).mono fun e W' ⟨he, hg⟩ => ?_
  subst he
  exact ⟨_, rfl, law_post (tb := 4) Tryz.laidOut (by kernel_rfl) rfl (by kernel_rfl) Tryz.underlying4 hW' (hg.below (fun _ _ h => h)) rfl⟩
theorem f_place : (Rows.dirApartRow.inPlace == Tryz.prog.inPlace 9) = true := by kernel_rfl
theorem f_unf : (Rows.dirApartRow.unfollowed == Tryz.prog.unfollowed 9) = true := by kernel_rfl
theorem f_rec : (Rows.dirApartRow.recurses == Tryz.prog.recurses 9) = true := by kernel_rfl
theorem f_named : (Rows.dirApartRow.named == Tryz.prog.varsNamed 9) = true := by kernel_rfl
theorem facts : joinedFacts Tryz.prog 9 Tryz.f9 Rows.dirApartSpec Rows.dirApartRow = true := by
  simp only [joinedFacts, Bool.and_eq_true]
  refine ⟨?_, by kernel_rfl⟩
  refine ⟨?_, by kernel_rfl⟩
  refine ⟨?_, by kernel_rfl⟩
  refine ⟨?_, by kernel_rfl⟩
  refine ⟨?_, pf_make⟩
  refine ⟨?_, pf_lifted⟩
  refine ⟨?_, pf_enter⟩
  refine ⟨?_, pf_heard⟩
  refine ⟨?_, by kernel_rfl⟩
  refine ⟨?_, pf_keys⟩
  refine ⟨?_, by kernel_rfl⟩
  refine ⟨?_, by kernel_rfl⟩
  refine ⟨?_, by kernel_rfl⟩
  refine ⟨?_, by kernel_rfl⟩
  refine ⟨?_, by kernel_rfl⟩
  refine ⟨?_, by kernel_rfl⟩
  refine ⟨?_, by kernel_rfl⟩
  refine ⟨?_, by kernel_rfl⟩
  refine ⟨?_, by kernel_rfl⟩
  refine ⟨?_, f_named⟩
  refine ⟨?_, f_rec⟩
  refine ⟨?_, f_unf⟩
  refine ⟨?_, f_place⟩
  refine ⟨?_, pf_knobs⟩
  refine ⟨?_, by kernel_rfl⟩
  refine ⟨?_, pf_stops⟩
  refine ⟨?_, by kernel_rfl⟩
  refine ⟨?_, by kernel_rfl⟩
  refine ⟨?_, by kernel_rfl⟩
  refine ⟨?_, pf_maps⟩
  exact ⟨by kernel_rfl, Tryz.laidOut⟩
theorem f_func : Tryz.prog.funcNamed Rows.dirApartRow.func = some 9 := by kernel_rfl
theorem f_inst : Tryz.f9.isInstance Tryz.prog Rows.dirApartRow.origin Rows.dirApartRow.targs := of_decide_eq_true (by kernel_rfl)
theorem f_wrap : Tryz.f9.isWrapper Tryz.prog Rows.dirApartRow.wrapper Rows.dirApartRow.mainSum := by
  unfold Func.isWrapper; first | (rw [if_pos (by decide +kernel)]; kernel_rfl) | (rw [if_neg (by decide +kernel)]; exact ⟨rfl, rfl⟩)
theorem over : Rows.dirApartRow.holds Tryz.pinned (OpenSpec.ofChange Rows.dirApartSpec) :=
  OpenClaim.holds_of_wide 9 Tryz.f9 rfl rfl rfl rfl rfl rfl rfl ⟨rfl, rfl, rfl, rfl, rfl⟩ rfl rfl rfl rfl rfl f_func Tryz.func9 facts f_inst f_wrap
    (fun os started H enc _ => lifted os started H enc)
theorem f_wft : Rows.dirApartRow.wfByText (OpenSpec.ofChange Rows.dirApartSpec) = true := by kernel_rfl
theorem f_goes : false = Rows.dirApartRow.goesBy Tryz.prog := by kernel_rfl
theorem f_want : ([81].all fun u => !Tryz.prog.wantsStandIn u) = true := by kernel_rfl
theorem card_holds : Claim7.holds Tryz.pinned (.plain (OpenSpec.ofChange Rows.dirApartSpec)) Rows.dirApartCard :=
  Claim7.holds_tied_plain_at .later [] [.data] true (true, "e398d9c22f2f7fd5244c9c4088e24dc147c9b492cf57d8d70d9d24d47e8ca071") false
    over (fun _ h => by cases h) f_wft (fun _ h => by cases h) dirApart_row_tie rfl ⟨rfl, rfl⟩ pf_main rfl
    (fun f fn hf hfn => by
      obtain rfl : f = 9 := Option.some.inj (f_func.symm.trans hf) |>.symm
      obtain rfl : fn = Tryz.f9 := (Option.some.inj (Tryz.func9.symm.trans hfn)).symm
      exact ⟨pf_looks, fun j t ht => by
        rw [Tryz.params9] at ht
        have hm : t ∈ [81] := by simpa using Array.mem_of_getElem? ht
        have hall := f_want
        exact (show Tryz.prog.wantsStandIn t = false by simpa using List.all_eq_true.1 hall t hm)⟩)
    f_goes
end dirApart
theorem dirApart_card : Rows.DirApartCardSaid := dirApart.card_holds
#print axioms dirApart_card
end Go.Proofs.YtgdhaaokolfdoaaGreatDoor
