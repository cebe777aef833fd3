/- The rows of places of the reference's clock. Conditions: none. -/
import Derived.Test.YtfeemnhkdjkgpaaPut
import Derived.Test.YtfeemnhkdjkgpaaLast
namespace Go.Sg.Clk
open Go.RowKit
def Pl.rcells (p : Pl) : List Value := [.bool p.full, .bool p.marked, .int .i64 p.key, p.v]
def rcellsOf (pl : List Pl) : Array Value := (pl.flatMap Pl.rcells).toArray
theorem rflat_get : ∀ (pl : List Pl) (i j : Nat) (p : Pl), pl[i]? = some p → j < 4 → (pl.flatMap Pl.rcells)[i * 4 + j]? = p.rcells[j]?
  | [], i, j, p, h, _ => by simp at h
  | q :: pl, 0, j, p, h, hj => by
    simp at h; subst h
    simp only [List.flatMap_cons, Nat.zero_mul, Nat.zero_add]
    rw [List.getElem?_append_left (by simp [Pl.rcells]; omega)]
  | q :: pl, i + 1, j, p, h, hj => by
    simp only [List.flatMap_cons]
    rw [List.getElem?_append_right (by simp [Pl.rcells]; omega)]
    have := rflat_get pl i j p (by simpa using h) hj
    rw [← this]
    congr 1
    simp [Pl.rcells]; omega

theorem rcells_get {pl : List Pl} {i : Nat} {p : Pl} (h : pl[i]? = some p) (j : Nat) (hj : j < 4) : (rcellsOf pl)[i * 4 + j]? = p.rcells[j]? := by
  simpa [rcellsOf] using rflat_get pl i j p h hj

theorem rflat_len (pl : List Pl) : (pl.flatMap Pl.rcells).length = pl.length * 4 := by
  induction pl with
  | nil => rfl
  | cons p pl ih => simp only [List.flatMap_cons, List.length_append, ih, List.length_cons]; simp [Pl.rcells]; omega
theorem size_rcells (pl : List Pl) : (rcellsOf pl).size = pl.length * 4 := by simp only [rcellsOf, List.size_toArray, rflat_len]

theorem rflat_set : ∀ (pl : List Pl) (i j : Nat) (v : Value) (p q : Pl), pl[i]? = some p → j < 4 → p.rcells.set j v = q.rcells →
    (pl.flatMap Pl.rcells).set (i * 4 + j) v = (pl.set i q).flatMap Pl.rcells
  | [], i, j, v, p, q, h, _, _ => by simp at h
  | r :: pl, 0, j, v, p, q, h, hj, hq => by
    simp at h; subst h
    simp only [List.flatMap_cons, Nat.zero_mul, Nat.zero_add, List.set_cons_zero]
    rw [List.set_append_left _ _ (by simp [Pl.rcells]; omega), hq]
  | r :: pl, i + 1, j, v, p, q, h, hj, hq => by
    simp only [List.flatMap_cons, List.set_cons_succ]
    rw [List.set_append_right _ _ (by simp [Pl.rcells]; omega)]
    have := rflat_set pl i j v p q (by simpa using h) hj hq
    rw [← this]
    congr 2
    simp [Pl.rcells]; omega

theorem rcells_set {pl : List Pl} {i : Nat} {p : Pl} (h : pl[i]? = some p) (j : Nat) (hj : j < 4) (v : Value) (q : Pl) (hq : p.rcells.set j v = q.rcells) :
    (rcellsOf pl).setIfInBounds (i * 4 + j) v = rcellsOf (pl.set i q) := by
  simp [rcellsOf, rflat_set pl i j v p q h hj hq]


/-- A slice of places of the reference. -/
structure RSl (tp : TypeId) (w : World) (b cap : Nat) (pl : List Pl) : Prop where
  h : ∃ rest : List Value, w.heap[b]? = some (.cells (pl.flatMap Pl.rcells ++ rest).toArray tp)
theorem RSl.cell {tp : TypeId} {w : World} {b cap : Nat} {pl : List Pl} (h : RSl tp w b cap pl) {i : Nat} {p : Pl} (hp : pl[i]? = some p) (j : Nat) (hj : j < 4) : w.cell? ⟨b, i * 4 + j, none⟩ = p.rcells[j]? := by
  obtain ⟨rest, h⟩ := h.h
  rw [cell_of_heap h]
  have := rflat_get pl i j p hp hj
  have hi := (List.getElem?_eq_some_iff.1 hp).1
  simp only [List.getElem?_toArray]
  rw [List.getElem?_append_left (by rw [rflat_len]; omega), this]
theorem RSl.k0 {tp : TypeId} {w : World} {b cap : Nat} {pl : List Pl} (h : RSl tp w b cap pl) {i : Nat} {p : Pl} (hp : pl[i]? = some p) : w.cell? ⟨b, i * 4, none⟩ = some (.bool p.full) := h.cell hp 0 (by omega)
theorem RSl.k1 {tp : TypeId} {w : World} {b cap : Nat} {pl : List Pl} (h : RSl tp w b cap pl) {i : Nat} {p : Pl} (hp : pl[i]? = some p) : w.cell? ⟨b, i * 4 + 1, none⟩ = some (.bool p.marked) := h.cell hp 1 (by omega)
theorem RSl.k2 {tp : TypeId} {w : World} {b cap : Nat} {pl : List Pl} (h : RSl tp w b cap pl) {i : Nat} {p : Pl} (hp : pl[i]? = some p) : w.cell? ⟨b, i * 4 + 2, none⟩ = some (.int .i64 p.key) := h.cell hp 2 (by omega)
theorem RSl.k3 {tp : TypeId} {w : World} {b cap : Nat} {pl : List Pl} (h : RSl tp w b cap pl) {i : Nat} {p : Pl} (hp : pl[i]? = some p) : w.cell? ⟨b, i * 4 + 3, none⟩ = some p.v := h.cell hp 3 (by omega)
theorem RSl.fr {tp : TypeId} {S : Nat → Prop} {w w' : World} {b cap : Nat} {pl : List Pl} (h : RSl tp w b cap pl) (hf : Fr S w w') (hb : ¬ S b) : RSl tp w' b cap pl := by
  obtain ⟨rest, h⟩ := h.h
  exact ⟨rest, hf.heap h hb⟩
theorem RSl.lt {tp : TypeId} {w : World} {b cap : Nat} {pl : List Pl} (h : RSl tp w b cap pl) : b < w.heap.size := by
  obtain ⟨rest, h⟩ := h.h
  exact lt_of_heap h
end Go.Sg.Clk
