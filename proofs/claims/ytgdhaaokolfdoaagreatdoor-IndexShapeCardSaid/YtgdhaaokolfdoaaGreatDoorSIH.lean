/- IndexShape: the row and its tied card hold for every input. Conditions: none beyond the row's. -/
import Derived.Test.YtgdhaaokolfdoaaGreatDoorNZD
import Derived.Test.YtgdhaaokolfdoaaGreatDoorNAY
import Derived.Test.YtgdhaaokolfdoaaGreatDoorRFN
set_option maxRecDepth 100000
set_option linter.all false
namespace Go.Proofs.YtgdhaaokolfdoaaGreatDoor
namespace indexShape
open Go.ChangeShapes Go.WideShapes Go.ChangeAt Go.RowKit Go.Sg
theorem lifted (os : Os) (started : os.Started) (H : Type) (enc : TypeId × Value -> H) :
  ReturnsInHanded {} Tryz.checked os 16 .any (fun w args => (Rows.indexShapeSpec.pre enc Tryz.prog Tryz.f16 [] false w args /\ laidMetH Tryz.prog laid w) /\ sizedMet enc Tryz.prog Tryz.f16 (OpenSpec.ofChange Rows.indexShapeSpec) false w args)
   (Rows.indexShapeSpec.post enc Tryz.prog Tryz.f16 false true false false) := by
 refine returnsInHanded_of_change_and (C := Tryz.checked) (X := fun w _ => laidMetH Tryz.prog laid w) (fun _ _ _ hh h => h.of_heap hh) own started (by kernel_rfl) Tryz.func16
  (ChangeSpec.witness_shaped (enc := enc) (C := Tryz.checked) (os := os) (X := fun w _ => laidMetH Tryz.prog laid w) false (World.laidAll Tryz.prog os laid) #[.slice none 0 0] 8 (World.laidAll_os _ _ _) (World.shaped_of_ZipB (by kernel_rfl) (by kernel_rfl)) (by kernel_rfl) (by kernel_rfl) (by kernel_rfl) (laid_met os _)) ?_
 intro W base args ds gs before hval0 hW _ _ hL _;have hval : ∀ (j : Nat) t v, Tryz.f16.params[j]? = some t -> args[j]? = some v -> Value.okWide Tryz.prog W .any base t v := hval0
 have hW' := hW;obtain ⟨p, q, hA0, hV, rfl, hfz, hnd⟩ := hW;have hA : DataW.TrodAll enc Tryz.prog W 0 (fun _ => true) true Tryz.f16.params.toList args.toList ds p := hA0;rw [Tryz.params16] at hA hval;obtain ⟨v0, vs0, d0, ds0, p0, q0, hargs, rfl, rfl, h0, r0⟩ := trodAll_cons hA;obtain ⟨rfl, rfl, rfl⟩ := trodAll_nil r0;obtain rfl : args = #[v0] := by cases args; simp_all
 obtain ⟨a, n, c, l, rfl, hll, hA⟩ := open_actx (hval 0 104 v0 rfl rfl) h0;refine (indexShape_in hll W (tab_of_laid hL) hA).mono fun e W' ⟨he, hg⟩ => ?_
 subst he;exact ⟨_, rfl, law_post (tb := 4) Tryz.laidOut (by kernel_rfl) rfl (by kernel_rfl) Tryz.underlying4 hW' (hg.below (fun _ _ h => h)) rfl⟩
theorem f_place : (Rows.indexShapeRow.inPlace == Tryz.prog.inPlace 16) = true := by kernel_rfl
theorem f_unf : (Rows.indexShapeRow.unfollowed == Tryz.prog.unfollowed 16) = true := by kernel_rfl
theorem f_rec : (Rows.indexShapeRow.recurses == Tryz.prog.recurses 16) = true := by kernel_rfl
theorem f_named : (Rows.indexShapeRow.named == Tryz.prog.varsNamed 16) = true := by kernel_rfl
theorem facts : joinedFacts Tryz.prog 16 Tryz.f16 Rows.indexShapeSpec Rows.indexShapeRow = true := by
 simp only [joinedFacts, Bool.and_eq_true];refine ⟨?_, by kernel_rfl⟩;refine ⟨?_, by kernel_rfl⟩;refine ⟨?_, by kernel_rfl⟩;refine ⟨?_, by kernel_rfl⟩;refine ⟨?_, pf_make⟩;refine ⟨?_, pf_lifted⟩;refine ⟨?_, pf_enter⟩;refine ⟨?_, pf_heard⟩;refine ⟨?_, by kernel_rfl⟩;refine ⟨?_, pf_keys⟩;refine ⟨?_, by kernel_rfl⟩;refine ⟨?_, by kernel_rfl⟩;refine ⟨?_, by kernel_rfl⟩;refine ⟨?_, by kernel_rfl⟩;refine ⟨?_, by kernel_rfl⟩;refine ⟨?_, by kernel_rfl⟩;refine ⟨?_, by kernel_rfl⟩;refine ⟨?_, by kernel_rfl⟩;refine ⟨?_, by kernel_rfl⟩;refine ⟨?_, f_named⟩;refine ⟨?_, f_rec⟩;refine ⟨?_, f_unf⟩;refine ⟨?_, f_place⟩;refine ⟨?_, pf_knobs⟩;refine ⟨?_, by kernel_rfl⟩;refine ⟨?_, pf_stops⟩;refine ⟨?_, by kernel_rfl⟩;refine ⟨?_, by kernel_rfl⟩;refine ⟨?_, by kernel_rfl⟩;refine ⟨?_, pf_maps⟩;exact ⟨by kernel_rfl, Tryz.laidOut⟩
theorem f_func : Tryz.prog.funcNamed Rows.indexShapeRow.func = some 16 := by kernel_rfl
theorem f_inst : Tryz.f16.isInstance Tryz.prog Rows.indexShapeRow.origin Rows.indexShapeRow.targs := of_decide_eq_true (by kernel_rfl)
theorem f_wrap : Tryz.f16.isWrapper Tryz.prog Rows.indexShapeRow.wrapper Rows.indexShapeRow.mainSum := by
 unfold Func.isWrapper; first | (rw [if_pos (by decide +kernel)]; kernel_rfl) | (rw [if_neg (by decide +kernel)]; exact ⟨rfl, rfl⟩)
theorem over : Rows.indexShapeRow.holds Tryz.pinned (OpenSpec.ofChange Rows.indexShapeSpec) :=
 OpenClaim.holds_of_wide 16 Tryz.f16 rfl rfl rfl rfl rfl rfl rfl ⟨rfl, rfl, rfl, rfl, rfl⟩ rfl rfl rfl rfl rfl f_func Tryz.func16 facts f_inst f_wrap
  (fun os started H enc _ => lifted os started H enc)
theorem f_wft : Rows.indexShapeRow.wfByText (OpenSpec.ofChange Rows.indexShapeSpec) = true := by kernel_rfl
theorem f_goes : false = Rows.indexShapeRow.goesBy Tryz.prog := by kernel_rfl
theorem f_want : ([104].all fun u => !Tryz.prog.wantsStandIn u) = true := by kernel_rfl
theorem card_holds : Claim7.holds Tryz.pinned (.plain (OpenSpec.ofChange Rows.indexShapeSpec)) Rows.indexShapeCard :=
 Claim7.holds_tied_plain_at .later [] [.data] true (true, "e398d9c22f2f7fd5244c9c4088e24dc147c9b492cf57d8d70d9d24d47e8ca071") false
  over (fun _ h => by cases h) f_wft (fun _ h => by cases h) indexShape_row_tie rfl ⟨rfl, rfl⟩ pf_main rfl
  (fun f fn hf hfn => by
   obtain rfl : f = 16 := Option.some.inj (f_func.symm.trans hf) |>.symm
   obtain rfl : fn = Tryz.f16 := (Option.some.inj (Tryz.func16.symm.trans hfn)).symm;exact ⟨pf_looks, fun j t ht => by
    rw [Tryz.params16] at ht;have hm : t ∈ [104] := (by simpa using Array.mem_of_getElem? ht);have hall := f_want;exact (show Tryz.prog.wantsStandIn t = false by simpa using List.all_eq_true.1 hall t hm)⟩)
  f_goes
end indexShape
theorem indexShape_card : Rows.IndexShapeCardSaid := indexShape.card_holds
#print axioms indexShape_card
end Go.Proofs.YtgdhaaokolfdoaaGreatDoor
