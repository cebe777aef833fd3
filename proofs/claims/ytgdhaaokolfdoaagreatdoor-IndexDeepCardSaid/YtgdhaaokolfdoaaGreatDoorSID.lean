/- IndexDeep: the row and its tied card hold for every input. Conditions: none beyond the row's. -/
import Derived.Test.YtgdhaaokolfdoaaGreatDoorLZC
import Derived.Test.YtgdhaaokolfdoaaGreatDoorLAY
import Derived.Test.YtgdhaaokolfdoaaGreatDoorRFL
import Derived.Carry
import Derived.ProofKit
import Derived.OpenShut
import Derived.Deep.Slices
import Derived.Deep.Fields
import Derived.ChangeSame
set_option linter.unusedVariables false
set_option linter.unusedSimpArgs false
set_option linter.unnecessarySimpa false
namespace Go.Sg
open Go.RowKit Go.ChangeShapes
theorem trodAll_below {H : Type} {enc : TypeId × Value → H} {P : Program} (hl : laidOutB P = true) {W W' : World} (hb : Below W.heap.size W W') :
    ∀ {ts : List TypeId} {vs : List Value} {ds : List (DataW H)} {ps : List MemPlace}, (∀ t ∈ ts, P.readableRec t = true ∧ t < P.types.size) → (∀ x ∈ ps, x.block < W.heap.size) →
      DataW.TrodAll enc P W 0 (fun _ => true) true ts vs ds ps → DataW.TrodAll enc P W' 0 (fun b => decide (b < W.heap.size)) true ts vs ds ps
  | [], vs, ds, ps, _, _, h => by obtain ⟨rfl, rfl, rfl⟩ := trodAll_nil h; exact h
  | t :: ts, vs, ds, ps, ht, hp, h => by
    obtain ⟨v, vs', d, ds', p, q, rfl, rfl, rfl, h0, r0⟩ := trodAll_cons h
    exact ⟨p, q, Below.trod hl (ht t (by simp)).1 (ht t (by simp)).2 h0 hb (fun x hx => hp x (by simp [hx])),
      trodAll_below hl hb (fun u hu => ht u (by simp [hu])) (fun x hx => hp x (by simp [hx])) r0, rfl⟩
theorem law_post {H : Type} {enc : TypeId × Value → H} {P : Program} {f : Func} {s : ChangeSpec} {apart : Bool} {W W' : World} {args : Array Value} {ds gs : List (DataW H)} {before : List MemPlace} {tb : TypeId}
    (hl : laidOutB P = true) (hts' : (f.params.toList.all fun t => P.readableRec t && decide (t < P.types.size)) = true) (hv : s.vars = []) (hr : f.resultTypes = #[tb]) (hu : P.underlying tb = some .bool)
    (hW : DataW.Whole enc P f.params.toList s.vars apart W args.toList ds gs before) (hb : Below W.heap.size W W') (hfn : s.fn H ds = { results := [.lit (.bool true)], args := ds }) :
    s.post enc P f apart true false false W args (.bool true) W' := by
  have hts : ∀ t ∈ f.params.toList, P.readableRec t = true ∧ t < P.types.size := fun t ht => by
    have := List.all_eq_true.1 hts' t ht
    simpa using this
  have hW0 := hW
  have hlt := hW.lt
  obtain ⟨p, q, hA, hV, rfl, _, _⟩ := hW
  rw [hv] at hV
  cases gs with
  | cons _ _ => simp [DataW.TrodVars] at hV
  | nil =>
    have hq : q = [] := hV
    subst hq
    have hfn : s.fn H (ds ++ []) = { results := [.lit (.bool true)], args := ds } := by rw [List.append_nil]; exact hfn
    refine ⟨ds, [], _, [], p, [], hW0, ?_, ?_, ?_, hb.frame _, fun h => by cases h⟩
    · rw [hfn, hr]
      exact trodAll_mk1 (shut_bool hu true)
    · rw [hfn]
      exact trodAll_below hl hb hts (fun x hx => hlt x (by simp [hx])) hA
    · rw [hfn, hv]; rfl
end Go.Sg
namespace Go.Proofs.YtgdhaaokolfdoaaGreatDoor
namespace indexDeep
open Go.ChangeShapes Go.WideShapes Go.ChangeAt Go.RowKit Go.Sg
set_option maxRecDepth 100000 in
theorem lifted (os : Os) (started : os.Started) (H : Type) (enc : TypeId × Value → H) :
    ReturnsInHanded {} Tryz.checked os 15 .any (fun w args => (Rows.indexDeepSpec.pre enc Tryz.prog Tryz.f15 [] false w args ∧ laidMetH Tryz.prog laid w) ∧ sizedMet enc Tryz.prog Tryz.f15 (OpenSpec.ofChange Rows.indexDeepSpec) false w args)
      (Rows.indexDeepSpec.post enc Tryz.prog Tryz.f15 false true false false) := by
  refine returnsInHanded_of_change_and (C := Tryz.checked) (X := fun w _ => laidMetH Tryz.prog laid w) (fun _ _ _ hh h => h.of_heap hh) own started (by kernel_rfl) Tryz.func15
    (ChangeSpec.witness_shaped (enc := enc) (C := Tryz.checked) (os := os) (X := fun w _ => laidMetH Tryz.prog laid w) false (World.laidAll Tryz.prog os laid) #[.slice none 0 0] 8 (World.laidAll_os _ _ _) (World.shaped_of_ZipB (by kernel_rfl) (by kernel_rfl)) (by kernel_rfl) (by kernel_rfl) (by kernel_rfl) (laid_met os _)) ?_
  intro W base args ds gs before hval0 hW _ _ hL _
  have hval : ∀ (j : Nat) t v, Tryz.f15.params[j]? = some t → args[j]? = some v → Value.okWide Tryz.prog W .any base t v := hval0
  have hW' := hW
  obtain ⟨p, q, hA0, hV, rfl, hfz, hnd⟩ := hW
  have hA : DataW.TrodAll enc Tryz.prog W 0 (fun _ => true) true Tryz.f15.params.toList args.toList ds p := hA0
  rw [Tryz.params15] at hA hval
  obtain ⟨v0, vs0, d0, ds0, p0, q0, hargs, rfl, rfl, h0, r0⟩ := trodAll_cons hA
  obtain ⟨rfl, rfl, rfl⟩ := trodAll_nil r0
  obtain rfl : args = #[v0] := by cases args; simp_all
  obtain ⟨a, n, c, l, rfl, hll, hA⟩ := open_actx (hval 0 104 v0 rfl rfl) h0
  refine (indexDeep_in hll W (tab_of_laid hL) hA).mono fun e W' ⟨he, hg⟩ => ?_
  subst he
  exact ⟨_, rfl, law_post (tb := 4) Tryz.laidOut (by kernel_rfl) rfl (by kernel_rfl) Tryz.underlying4 hW' (hg.below (fun _ _ h => h)) rfl⟩
theorem f_place : (Rows.indexDeepRow.inPlace == Tryz.prog.inPlace 15) = true := by kernel_rfl
theorem f_unf : (Rows.indexDeepRow.unfollowed == Tryz.prog.unfollowed 15) = true := by kernel_rfl
theorem f_rec : (Rows.indexDeepRow.recurses == Tryz.prog.recurses 15) = true := by kernel_rfl
theorem f_named : (Rows.indexDeepRow.named == Tryz.prog.varsNamed 15) = true := by kernel_rfl
theorem facts : joinedFacts Tryz.prog 15 Tryz.f15 Rows.indexDeepSpec Rows.indexDeepRow = true := by
  simp only [joinedFacts, Bool.and_eq_true]
  refine ⟨?_, by kernel_rfl⟩
  refine ⟨?_, by kernel_rfl⟩
  refine ⟨?_, by kernel_rfl⟩
  refine ⟨?_, by kernel_rfl⟩
  refine ⟨?_, pf_make⟩
  refine ⟨?_, pf_lifted⟩
  refine ⟨?_, pf_enter⟩
  refine ⟨?_, pf_heard⟩
  refine ⟨?_, by kernel_rfl⟩
  refine ⟨?_, pf_keys⟩
  refine ⟨?_, by kernel_rfl⟩
  refine ⟨?_, by kernel_rfl⟩
  refine ⟨?_, by kernel_rfl⟩
  refine ⟨?_, by kernel_rfl⟩
  refine ⟨?_, by kernel_rfl⟩
  refine ⟨?_, by kernel_rfl⟩
  refine ⟨?_, by kernel_rfl⟩
  refine ⟨?_, by kernel_rfl⟩
  refine ⟨?_, by kernel_rfl⟩
  refine ⟨?_, f_named⟩
  refine ⟨?_, f_rec⟩
  refine ⟨?_, f_unf⟩
  refine ⟨?_, f_place⟩
  refine ⟨?_, pf_knobs⟩
  refine ⟨?_, by kernel_rfl⟩
  refine ⟨?_, pf_stops⟩
  refine ⟨?_, by kernel_rfl⟩
  refine ⟨?_, by kernel_rfl⟩
  refine ⟨?_, by kernel_rfl⟩
  refine ⟨?_, pf_maps⟩
  exact ⟨by kernel_rfl, Tryz.laidOut⟩
theorem f_func : Tryz.prog.funcNamed Rows.indexDeepRow.func = some 15 := by kernel_rfl
theorem f_inst : Tryz.f15.isInstance Tryz.prog Rows.indexDeepRow.origin Rows.indexDeepRow.targs := of_decide_eq_true (by kernel_rfl)
theorem f_wrap : Tryz.f15.isWrapper Tryz.prog Rows.indexDeepRow.wrapper Rows.indexDeepRow.mainSum := by
  unfold Func.isWrapper; first | (rw [if_pos (by decide +kernel)]; kernel_rfl) | (rw [if_neg (by decide +kernel)]; exact ⟨rfl, rfl⟩)
theorem over : Rows.indexDeepRow.holds Tryz.pinned (OpenSpec.ofChange Rows.indexDeepSpec) :=
  OpenClaim.holds_of_wide 15 Tryz.f15 rfl rfl rfl rfl rfl rfl rfl ⟨rfl, rfl, rfl, rfl, rfl⟩ rfl rfl rfl rfl rfl f_func Tryz.func15 facts f_inst f_wrap
    (fun os started H enc _ => lifted os started H enc)
theorem f_wft : Rows.indexDeepRow.wfByText (OpenSpec.ofChange Rows.indexDeepSpec) = true := by kernel_rfl
theorem f_goes : false = Rows.indexDeepRow.goesBy Tryz.prog := by kernel_rfl
theorem f_want : ([104].all fun u => !Tryz.prog.wantsStandIn u) = true := by kernel_rfl
theorem card_holds : Claim7.holds Tryz.pinned (.plain (OpenSpec.ofChange Rows.indexDeepSpec)) Rows.indexDeepCard :=
  Claim7.holds_tied_plain_at .later [] [.data] true (true, "e398d9c22f2f7fd5244c9c4088e24dc147c9b492cf57d8d70d9d24d47e8ca071") false
    over (fun _ h => by cases h) f_wft (fun _ h => by cases h) indexDeep_row_tie rfl ⟨rfl, rfl⟩ pf_main rfl
    (fun f fn hf hfn => by
      obtain rfl : f = 15 := Option.some.inj (f_func.symm.trans hf) |>.symm
      obtain rfl : fn = Tryz.f15 := (Option.some.inj (Tryz.func15.symm.trans hfn)).symm
      exact ⟨pf_looks, fun j t ht => by
        rw [Tryz.params15] at ht
        have hm : t ∈ [104] := by simpa using Array.mem_of_getElem? ht
        have hall := f_want
        exact (show Tryz.prog.wantsStandIn t = false by simpa using List.all_eq_true.1 hall t hm)⟩)
    f_goes
end indexDeep
theorem indexDeep_card : Rows.IndexDeepCardSaid := indexDeep.card_holds
#print axioms indexDeep_card
end Go.Proofs.YtgdhaaokolfdoaaGreatDoor
