/- StoreNil: the row and its tied card hold for every input. Conditions: none beyond the row's. -/
import Derived.Test.YtgdhaaokolfdoaaGreatDoorNW
import Derived.Test.YtgdhaaokolfdoaaGreatDoorRF
namespace Go.Proofs.YtgdhaaokolfdoaaGreatDoor
namespace storeNil
open Go.ChangeShapes Go.WideShapes Go.ChangeAt Go.RowKit Go.Sg
set_option maxRecDepth 100000 in
theorem lifted (os : Os) (started : os.Started) (H : Type) (enc : TypeId × Value → H) :
    ReturnsInHanded {} Tryz.checked os 7 .any (fun w args => (Rows.storeNilSpec.pre enc Tryz.prog Tryz.f7 [] false w args ∧ laidMetH Tryz.prog laid w) ∧ sizedMet enc Tryz.prog Tryz.f7 (OpenSpec.ofChange Rows.storeNilSpec) false w args)
      (Rows.storeNilSpec.post enc Tryz.prog Tryz.f7 false true false false) := by
  refine returnsInHanded_of_change_and (C := Tryz.checked) (X := fun w _ => laidMetH Tryz.prog laid w) (fun _ _ _ hh h => h.of_heap hh) own started (by kernel_rfl) Tryz.func7
    (ChangeSpec.witness_shaped (enc := enc) (C := Tryz.checked) (os := os) (X := fun w _ => laidMetH Tryz.prog laid w) false (World.laidAll Tryz.prog os laid) #[.int .i64 0] 8 (World.laidAll_os _ _ _) (World.shaped_of_ZipB (by kernel_rfl) (by kernel_rfl)) (by kernel_rfl) (by kernel_rfl) (by kernel_rfl) (laid_met os _)) ?_
  intro W base args ds gs before hval0 hW _ _ hL _
  have hval : ∀ (j : Nat) t v, Tryz.f7.params[j]? = some t → args[j]? = some v → Value.okWide Tryz.prog W .any base t v := hval0
  have hW' := hW
  obtain ⟨p, q, hA0, hV, rfl, hfz, hnd⟩ := hW
  have hA : DataW.TrodAll enc Tryz.prog W 0 (fun _ => true) true Tryz.f7.params.toList args.toList ds p := hA0
  rw [Tryz.params7] at hA hval
  obtain ⟨v0, d0, rfl, rfl, h0⟩ := trodAll_one hA
  obtain ⟨n, rfl, rfl, rfl, hwn⟩ := open_int Tryz.underlying3 (hval 0 3 v0 rfl rfl) h0
  refine (storeNil_walk n W (tab_of_laid hL)).mono fun e W' ⟨he, hg⟩ => ?_
  subst he
  exact ⟨_, rfl, law_post (tb := 4) Tryz.laidOut (by kernel_rfl) rfl (by kernel_rfl) Tryz.underlying4 hW' (hg.below (fun _ _ h => h)) rfl⟩
theorem f_place : (Rows.storeNilRow.inPlace == Tryz.prog.inPlace 7) = true := by kernel_rfl
theorem f_unf : (Rows.storeNilRow.unfollowed == Tryz.prog.unfollowed 7) = true := by kernel_rfl
theorem f_rec : (Rows.storeNilRow.recurses == Tryz.prog.recurses 7) = true := by kernel_rfl
theorem f_named : (Rows.storeNilRow.named == Tryz.prog.varsNamed 7) = true := by kernel_rfl
theorem facts : joinedFacts Tryz.prog 7 Tryz.f7 Rows.storeNilSpec Rows.storeNilRow = true := by
  simp only [joinedFacts, Bool.and_eq_true]
  refine ⟨?_, by kernel_rfl⟩
  refine ⟨?_, by kernel_rfl⟩
  refine ⟨?_, by kernel_rfl⟩
  refine ⟨?_, by kernel_rfl⟩
  refine ⟨?_, pf_make⟩
  refine ⟨?_, pf_lifted⟩
  refine ⟨?_, pf_enter⟩
  refine ⟨?_, pf_heard⟩
  refine ⟨?_, by kernel_rfl⟩
  refine ⟨?_, pf_keys⟩
  refine ⟨?_, by kernel_rfl⟩
  refine ⟨?_, by kernel_rfl⟩
  refine ⟨?_, by kernel_rfl⟩
  refine ⟨?_, by kernel_rfl⟩
  refine ⟨?_, by kernel_rfl⟩
  refine ⟨?_, by kernel_rfl⟩
  refine ⟨?_, by kernel_rfl⟩
  refine ⟨?_, by kernel_rfl⟩
  refine ⟨?_, by kernel_rfl⟩
  refine ⟨?_, f_named⟩
  refine ⟨?_, f_rec⟩
  refine ⟨?_, f_unf⟩
  refine ⟨?_, f_place⟩
  refine ⟨?_, pf_knobs⟩
  refine ⟨?_, by kernel_rfl⟩
  refine ⟨?_, pf_stops⟩
  refine ⟨?_, by kernel_rfl⟩
  refine ⟨?_, by kernel_rfl⟩
  refine ⟨?_, by kernel_rfl⟩
  refine ⟨?_, pf_maps⟩
  exact ⟨by kernel_rfl, Tryz.laidOut⟩
theorem f_func : Tryz.prog.funcNamed Rows.storeNilRow.func = some 7 := by kernel_rfl
theorem f_inst : Tryz.f7.isInstance Tryz.prog Rows.storeNilRow.origin Rows.storeNilRow.targs := of_decide_eq_true (by kernel_rfl)
theorem f_wrap : Tryz.f7.isWrapper Tryz.prog Rows.storeNilRow.wrapper Rows.storeNilRow.mainSum := by
  unfold Func.isWrapper; first | (rw [if_pos (by decide +kernel)]; kernel_rfl) | (rw [if_neg (by decide +kernel)]; exact ⟨rfl, rfl⟩)
theorem over : Rows.storeNilRow.holds Tryz.pinned (OpenSpec.ofChange Rows.storeNilSpec) :=
  OpenClaim.holds_of_wide 7 Tryz.f7 rfl rfl rfl rfl rfl rfl rfl ⟨rfl, rfl, rfl, rfl, rfl⟩ rfl rfl rfl rfl rfl f_func Tryz.func7 facts f_inst f_wrap
    (fun os started H enc _ => lifted os started H enc)
theorem f_wft : Rows.storeNilRow.wfByText (OpenSpec.ofChange Rows.storeNilSpec) = true := by kernel_rfl
theorem card_holds : Claim7.holds Tryz.pinned (.plain (OpenSpec.ofChange Rows.storeNilSpec)) Rows.storeNilCard :=
  Claim7.holds_tied_plain_at .later [] [.data] true (true, "e398d9c22f2f7fd5244c9c4088e24dc147c9b492cf57d8d70d9d24d47e8ca071") false
    over (fun _ h => by cases h) f_wft (fun _ h => by cases h) storeNil_row_tie rfl ⟨rfl, rfl⟩ pf_main rfl
    (fun f fn hf hfn => by
      obtain rfl : f = 7 := Option.some.inj (f_func.symm.trans hf) |>.symm
      obtain rfl : fn = Tryz.f7 := (Option.some.inj (Tryz.func7.symm.trans hfn)).symm
      exact ⟨pf_looks, fun j t ht => by
        rw [Tryz.params7] at ht
        have hm : t ∈ [3] := by simpa using Array.mem_of_getElem? ht
        have hall := pf_want3
        exact (show Tryz.prog.wantsStandIn t = false by simpa using List.all_eq_true.1 hall t hm)⟩)
    pf_goes
end storeNil
theorem storeNil_card : Rows.StoreNilCardSaid := storeNil.card_holds
#print axioms storeNil_card
end Go.Proofs.YtgdhaaokolfdoaaGreatDoor
