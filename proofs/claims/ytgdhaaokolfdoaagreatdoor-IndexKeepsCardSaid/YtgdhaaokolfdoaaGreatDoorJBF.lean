/- A pack of texts: DL. Conditions: those that each text names. -/
import Derived.Test.YtgdhaaokolfdoaaGreatDoorJBE
set_option linter.unusedVariables false
set_option linter.unusedSimpArgs false
set_option linter.unnecessarySimpa false
namespace Go.Proofs.YtgdhaaokolfdoaaGreatDoor
open Go.RowKit Go.Sg Go.Sg.Bits Go.Sg.Clk CP SF
abbrev FrX (B : Blk) (X : Nat → Prop) (w w' : World) : Prop := Fr (fun b => (B.base ≤ b ∧ MutB B w b) ∨ X b) w w'
theorem FrX.refl (B : Blk) (X : Nat → Prop) (w : World) : FrX B X w w := Fr.refl _ _
theorem FrX.of {B : Blk} {X : Nat → Prop} {w w' : World} (h : FrB B w w') : FrX B X w w' := Fr.mono h fun _ _ h => .inl h
theorem FrX.none {B : Blk} {X : Nat → Prop} {w w' : World} (h : Fr (fun _ => False) w w') : FrX B X w w' := Fr.mono h fun _ _ h => h.elim
theorem FrX.trans {B : Blk} {X : Nat → Prop} {w w1 w2 : World} (h : FrX B X w w1) (k : FrX B X w1 w2) : FrX B X w w2 := by
  refine Fr.trans h k fun b hb hs => ?_
  rcases Classical.em ((B.base ≤ b ∧ MutB B w b) ∨ X b) with hm | hm
  · exact hm
  · rcases hs with hs | hs
    · have e := Fr.block h b hb hm
      refine .inl ⟨hs.1, fun c t f hc => hs.2.1 c t f (e.trans hc), ?_⟩
      rw [← e]; exact hs.2.2
    · exact .inr hs
theorem DirAt.frX {w w' : World} {B : Blk} {X : Nat → Prop} {bd s : Nat} {x : DirD} (h : DirAt w bd s x) (F : FrX B X w w') (hX : ¬ X bd) : DirAt w' bd s x :=
  Fr.heap F h fun hs => by
    rcases hs with hs | hs
    · exact absurd (hs.2.1 _ _ _ h) (by decide)
    · exact hX hs
theorem RowT.frX {w w' : World} {B : Blk} {X : Nat → Prop} {a : Option Addr} {l : List Rf} (h : RowT w a l) (F : FrX B X w w') (hX : ∀ b off, a = some ⟨b, off, none⟩ → l ≠ [] → ¬ X b) : RowT w' a l :=
  ⟨h.row.fr F fun b off e _ hne hs => by
    obtain ⟨c, hc⟩ := h.ty b off e hne
    rcases hs with hs | hs
    · exact absurd (hs.2.1 c 35 _ hc) (by decide)
    · exact hX b off e hne hs, fun b off e hne => by
    obtain ⟨c, hc⟩ := h.ty b off e hne
    exact ⟨c, Fr.heap F hc fun hs => by
      rcases hs with hs | hs
      · exact absurd (hs.2.1 c 35 _ hc) (by decide)
      · exact hX b off e hne hs⟩⟩
theorem flat_set (l : List Rf) : ∀ (k : Nat) (p s : Int), k < l.length → (l.set k (p, s)).flatMap refC = ((l.flatMap refC).set (k * 2) (.int .i64 p)).set (k * 2 + 1) (.int .i64 s) := by
  induction l with
  | nil => intro k p s h; simp at h
  | cons y l ih =>
    intro k p s h
    cases k with
    | zero => simp [refC]
    | succ k =>
      have e : (k + 1) * 2 = k * 2 + 1 + 1 := by omega
      have h' : k < l.length := by simpa using h
      rw [e]
      simp only [List.set_cons_succ, List.flatMap_cons, refC, List.cons_append, List.nil_append]
      rw [ih k p s h']
theorem own_set {w : World} {base c g : Nat} {l : List Rf} (h : OwnR w base (.slice (some ⟨g, 0, none⟩) l.length c) l) {k : Nat} (hk : k < l.length) (p s : Int) :
    ((w.setCell ⟨g, k * 2, none⟩ (.int .i64 p)).setCell ⟨g, k * 2 + 1, none⟩ (.int .i64 s)).ownsRow base 35 2 (.slice (some ⟨g, 0, none⟩) (l.set k (p, s)).length c) (l.set k (p, s)).length ((l.set k (p, s)).flatMap refC) := by
  obtain ⟨hl, ⟨h0, h1⟩ | ⟨g', cap, cur, hv, hb, hg, hc, hm, hs, ht⟩⟩ := h
  · cases h0
  · cases hv
    refine ⟨by rw [refsC_len], .inr ⟨g, c, (cur.setIfInBounds (k * 2) (.int .i64 p)).setIfInBounds (k * 2 + 1) (.int .i64 s), by rw [List.length_set], hb, ?_, by rw [List.length_set]; exact hc, hm, by simpa using hs, ?_⟩⟩
    · rw [heap_setCell_cells _ _ _ _ (heap_setCell_cells _ _ _ _ hg)]
    · rw [flat_set l k p s hk, List.length_set, ← ht]
      simp only [Array.toList_setIfInBounds, List.take_set]
theorem set2_f {W : World} {g i j : Nat} (u v : Value) : Fr (fun b => b = g) W ((W.setCell ⟨g, i, none⟩ u).setCell ⟨g, j, none⟩ v) :=
  Fr.setCell (S := fun b => b = g) (Fr.setCell (S := fun b => b = g) (Fr.refl _ _) (fun _ => rfl) _) (fun _ => rfl) _
theorem set2_frX {w W : World} {B : Blk} {X : Nat → Prop} {g i j : Nat} (h : FrX B X w W) (hg : w.heap.size ≤ g ∨ X g) (u v : Value) : FrX B X w ((W.setCell ⟨g, i, none⟩ u).setCell ⟨g, j, none⟩ v) := by
  have hs : g < w.heap.size → (B.base ≤ g ∧ MutB B w g) ∨ X g := fun hl => by
    rcases hg with h | h
    · omega
    · exact .inr h
  exact Fr.setCell (Fr.setCell h hs _) hs _
theorem set2_st {W : World} {B : Blk} {y : Cs} {P : Prot} {a : Bool} {N g i j : Nat} {c : Array Value} (h : StoreC W B y P a N) (hg : W.heap[g]? = some (.cells c 35)) (h0 : 0 < g) (u v : Value) : StoreC ((W.setCell ⟨g, i, none⟩ u).setCell ⟨g, j, none⟩ v) B y P a N :=
  h.frL (set2_f u v) hg (by decide) h0
theorem set2_down {W : World} {B : Blk} {y : Cs} {P : Prot} {N g i j : Nat} {c : Array Value} (h : DownC W B y P N) (hg : W.heap[g]? = some (.cells c 35)) (u v : Value) : DownC ((W.setCell ⟨g, i, none⟩ u).setCell ⟨g, j, none⟩ v) B y P N :=
  h.frL (set2_f u v) hg (by decide)
theorem rowT_chunk {w : World} {b off : Nat} {l : List Rf} (h : RowT w (some ⟨b, off, none⟩) l) (per k : Nat) : RowT w (some ⟨b, off + k * per * 2, none⟩) (chunk l per k) :=
  ⟨⟨fun i x hx => by
    have hi : i < per := by
      have h1 := (List.getElem?_eq_some_iff.1 hx).1
      rw [chunk_len] at h1; omega
    rw [chunk_get hi] at hx
    obtain ⟨b', off', e, hb, h0, h1⟩ := h.row.at_ _ x hx
    cases e
    have e1 : off + k * per * 2 + i * 2 = off + (k * per + i) * 2 := by rw [Nat.add_mul]; omega
    exact ⟨b, _, rfl, hb, by rw [e1]; exact h0, by rw [e1]; exact h1⟩⟩,
   fun b' off' e hne => by
    cases e
    exact h.ty b off rfl (by rintro rfl; simp [chunk] at hne)⟩
end Go.Proofs.YtgdhaaokolfdoaaGreatDoor
