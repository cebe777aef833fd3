/- The clock's plain model: a ring of places. -/
import Derived.Test.YtgdhaaokolfdoaaGreatDoorLib
namespace Go.Sg.Clk
open Go.RowKit

/-- A page that is in memory. -/
structure Pg where
  stamp : Int
  la : Option Addr
  ll : Nat
  lc : Nat
  dirty : Bool
abbrev Pg.load (p : Pg) : Value := .slice p.la p.ll p.lc
abbrev Pg.val (p : Pg) : Value := .agg #[.int .i64 p.stamp, p.load, .bool p.dirty]
def Pg.zero : Pg := ⟨0, none, 0, 0, false⟩
structure Pl where
  key : Int
  v : Pg
  full : Bool
  marked : Bool

def Pl.cells (p : Pl) : List Value := [.int .i64 p.key, .int .i64 p.v.stamp, p.v.load, .bool p.v.dirty, .bool p.full, .bool p.marked]
def cellsOf (pl : List Pl) : Array Value := (pl.flatMap Pl.cells).toArray
def Pl.none (z : Pg) : Pl := ⟨0, z, false, false⟩

theorem flat_get : ∀ (pl : List Pl) (i j : Nat) (p : Pl), pl[i]? = some p → j < 6 → (pl.flatMap Pl.cells)[i * 6 + j]? = p.cells[j]?
  | [], i, j, p, h, _ => by simp at h
  | q :: pl, 0, j, p, h, hj => by
    simp at h; subst h
    simp only [List.flatMap_cons, Nat.zero_mul, Nat.zero_add]
    rw [List.getElem?_append_left (by simp [Pl.cells]; omega)]
  | q :: pl, i + 1, j, p, h, hj => by
    simp only [List.flatMap_cons]
    rw [List.getElem?_append_right (by simp [Pl.cells]; omega)]
    have := flat_get pl i j p (by simpa using h) hj
    rw [← this]
    congr 1
    simp [Pl.cells]; omega

theorem cells_get {pl : List Pl} {i : Nat} {p : Pl} (h : pl[i]? = some p) (j : Nat) (hj : j < 6) : (cellsOf pl)[i * 6 + j]? = p.cells[j]? := by
  simpa [cellsOf] using flat_get pl i j p h hj

theorem flat_len (pl : List Pl) : (pl.flatMap Pl.cells).length = pl.length * 6 := by
  induction pl with
  | nil => rfl
  | cons p pl ih => simp only [List.flatMap_cons, List.length_append, ih, List.length_cons]; simp [Pl.cells]; omega
theorem size_cells (pl : List Pl) : (cellsOf pl).size = pl.length * 6 := by simp only [cellsOf, List.size_toArray, flat_len]

theorem flat_set : ∀ (pl : List Pl) (i j : Nat) (v : Value) (p q : Pl), pl[i]? = some p → j < 6 → p.cells.set j v = q.cells →
    (pl.flatMap Pl.cells).set (i * 6 + j) v = (pl.set i q).flatMap Pl.cells
  | [], i, j, v, p, q, h, _, _ => by simp at h
  | r :: pl, 0, j, v, p, q, h, hj, hq => by
    simp at h; subst h
    simp only [List.flatMap_cons, Nat.zero_mul, Nat.zero_add, List.set_cons_zero]
    rw [List.set_append_left _ _ (by simp [Pl.cells]; omega), hq]
  | r :: pl, i + 1, j, v, p, q, h, hj, hq => by
    simp only [List.flatMap_cons, List.set_cons_succ]
    rw [List.set_append_right _ _ (by simp [Pl.cells]; omega)]
    have := flat_set pl i j v p q (by simpa using h) hj hq
    rw [← this]
    congr 2
    simp [Pl.cells]; omega

theorem cells_set {pl : List Pl} {i : Nat} {p : Pl} (h : pl[i]? = some p) (j : Nat) (hj : j < 6) (v : Value) (q : Pl) (hq : p.cells.set j v = q.cells) :
    (cellsOf pl).setIfInBounds (i * 6 + j) v = cellsOf (pl.set i q) := by
  simp [cellsOf, flat_set pl i j v p q h hj hq]

/-- The place of a number. -/
def find (pl : List Pl) (key : Int) : Option Nat := pl.findIdx? fun p => p.full && p.key == key

/-- No two things have one number. -/
def Nd (pl : List Pl) : Prop := ∀ (i j : Nat) (p q : Pl), pl[i]? = some p → pl[j]? = some q → p.full = true → q.full = true → p.key = q.key → i = j

structure At (tc tp : TypeId) (ok : Pg → Prop) (w : World) (bc bp bm : Nat) (pl : List Pl) (hand : Nat) : Prop where
  c : w.heap[bc]? = some (.cells #[.slice (some ⟨bp, 0, none⟩) pl.length pl.length, .map (some bm), .int .i64 hand] tc)
  p : w.heap[bp]? = some (.cells (cellsOf pl) tp)
  m : ∃ l ck, w.heap[bm]? = some (.map (ents l) ck) ∧ (keys l).Nodup ∧ (∀ k, look l k = (find pl k).map fun i => .int .i64 i) ∧ l.length = pl.countP (·.full)
  room : 1 ≤ pl.length ∧ pl.length ≤ 4096
  hand : hand < pl.length
  vs : ∀ p ∈ pl, ok p.v
  nd : Nd pl

theorem find_some {pl : List Pl} {key : Int} {i : Nat} (h : find pl key = some i) : ∃ p, pl[i]? = some p ∧ p.full = true ∧ p.key = key := by
  rw [find, List.findIdx?_eq_some_iff_getElem] at h
  obtain ⟨hi, hp, _⟩ := h
  simp at hp
  exact ⟨pl[i], by simp, hp.1, hp.2⟩

end Go.Sg.Clk
namespace Go.Sg.Clk
/-- The places that are, with their numbers. -/
def fullAt (k : Nat) (pl : List Pl) : List (Nat × Pl) := (((List.range k).map fun i => (i, pl[i]?)).filterMap fun x => x.2.bind fun p => if p.full then some (x.1, p) else none)

theorem fullAt_succ (k : Nat) (pl : List Pl) (p : Pl) (h : pl[k]? = some p) : fullAt (k + 1) pl = if p.full then fullAt k pl ++ [(k, p)] else fullAt k pl := by
  simp only [fullAt, List.range_succ, List.map_append, List.map_cons, List.map_nil, List.filterMap_append, List.filterMap_cons, List.filterMap_nil, h, Option.bind_some]
  cases p.full <;> simp

theorem fullAt_len (k : Nat) (pl : List Pl) : (fullAt k pl).length ≤ k := by
  refine Nat.le_trans (List.length_filterMap_le _ _) ?_
  simp

theorem fullAt_prefix (pl : List Pl) : ∀ (k m : Nat), k ≤ m → m ≤ pl.length → fullAt k pl <+: fullAt m pl := by
  intro k m h hm
  induction m with
  | zero => obtain rfl : k = 0 := by omega
            exact List.prefix_rfl
  | succ m ih =>
    by_cases hk : k = m + 1
    · subst hk; exact List.prefix_rfl
    · have := ih (by omega) (by omega)
      have hp : pl[m]? = some pl[m] := List.getElem?_eq_getElem (by omega)
      rw [fullAt_succ m pl _ hp]
      split
      · exact this.trans (List.prefix_append _ _)
      · exact this
end Go.Sg.Clk
namespace Go.Sg.Clk

/-- The first place that is empty. -/
def empty (pl : List Pl) : Option Nat := pl.findIdx? fun p => !p.full
def emptyI (pl : List Pl) : Int := match empty pl with
  | some i => i
  | none => -1
theorem emptyI_some {pl : List Pl} {i : Nat} (h : empty pl = some i) : emptyI pl = i := by rw [emptyI, h]
theorem emptyI_none {pl : List Pl} (h : empty pl = none) : emptyI pl = -1 := by rw [emptyI, h]
def isFull (pl : List Pl) (i : Nat) : Bool := (pl[i]?).any (·.full)
def fulls (k : Nat) (pl : List Pl) : List Nat := (List.range k).filter (isFull pl)

theorem fullAt_fst (k : Nat) (pl : List Pl) (hk : k ≤ pl.length) : (fullAt k pl).map (·.1) = fulls k pl := by
  induction k with
  | zero => rfl
  | succ k ih =>
    have hp : pl[k]? = some pl[k] := List.getElem?_eq_getElem (by omega)
    rw [fullAt_succ k pl _ hp, fulls, List.range_succ, List.filter_append]
    have ih := ih (by omega)
    rw [fulls] at ih
    cases hf : (pl[k]).full with
    | true => simp [ih, isFull, hp, hf]
    | false => simp [ih, isFull, hp, hf]

theorem empty_none {pl : List Pl} (h : ∀ i, i < pl.length → isFull pl i = true) : empty pl = none := by
  rw [empty, List.findIdx?_eq_none_iff]
  intro p hp
  obtain ⟨i, hi, rfl⟩ := List.getElem_of_mem hp
  have := h i hi
  simpa [isFull, hi] using this

theorem empty_some {pl : List Pl} {k : Nat} (hk : k < pl.length) (h : ∀ i, i < k → isFull pl i = true) (hn : isFull pl k = false) : empty pl = some k := by
  rw [empty, List.findIdx?_eq_some_iff_getElem]
  refine ⟨hk, by simpa [isFull, hk] using hn, fun j hj => ?_⟩
  have := h j hj
  simpa [isFull, show j < pl.length by omega] using this

theorem empty_of_done {pl : List Pl} (h : (fullAt pl.length pl).map (·.1) = List.range (fullAt pl.length pl).length) :
    empty pl = if (fullAt pl.length pl).length = pl.length then none else some (fullAt pl.length pl).length := by
  rw [fullAt_fst _ _ (Nat.le_refl _)] at h
  have hle := fullAt_len pl.length pl
  generalize (fullAt pl.length pl).length = m at *
  have mem : ∀ i, i < pl.length → (isFull pl i = true ↔ i < m) := fun i hi => by
    have h1 : i ∈ fulls pl.length pl ↔ i < m := by rw [h]; simp
    rw [← h1, fulls, List.mem_filter]
    simp [hi]
  split
  · subst m; exact empty_none fun i hi => (mem i hi).2 hi
  · exact empty_some (by omega) (fun i hi => (mem i (by omega)).2 hi) (by have := mem m (by omega); simpa using this)

theorem empty_of_stop {pl : List Pl} {pre : List (Nat × Pl)} {x : Nat × Pl} (hp : pre ++ [x] <+: fullAt pl.length pl) (hpre : pre.map (·.1) = List.range pre.length) (hx : x.1 ≠ pre.length) :
    empty pl = some pre.length ∧ pre.length < pl.length := by
  obtain ⟨rest, hrest⟩ := hp
  have h : List.range pre.length ++ (x.1 :: rest.map (·.1)) = fulls pl.length pl := by
    rw [← fullAt_fst _ _ (Nat.le_refl _), ← hrest]; simp [hpre]
  have hs : (fulls pl.length pl).Pairwise (· < ·) := List.Pairwise.filter _ List.pairwise_lt_range
  rw [← h, List.pairwise_append] at hs
  obtain ⟨-, h2, h3⟩ := hs
  rw [List.pairwise_cons] at h2
  have hge : pre.length ≤ x.1 := by
    rcases Nat.lt_or_ge x.1 pre.length with h' | h'
    · have := h3 x.1 (by simpa using h') x.1 (by simp); omega
    · exact h'
  have hmem : ∀ i, i ∈ List.range pre.length ++ (x.1 :: rest.map (·.1)) ↔ i < pl.length ∧ isFull pl i = true := fun i => by rw [h, fulls]; simp
  have hxl : x.1 < pl.length := ((hmem x.1).1 (by simp)).1
  refine ⟨empty_some (by omega) (fun i hi => ((hmem i).1 (by simp; exact .inl hi)).2) ?_, by omega⟩
  cases hf : isFull pl pre.length with
  | false => rfl
  | true =>
    have := (hmem pre.length).2 ⟨by omega, hf⟩
    simp at this
    rcases this with h' | ⟨a, h'⟩
    · omega
    · have := h2.1 pre.length (by simp; exact ⟨a, h'⟩); omega

/-- The clock's hand goes on till a place that is not marked. -/
def spin : Nat → List Pl → Nat → List Pl × Nat
  | 0, pl, h => (pl, h)
  | f + 1, pl, h => match pl[h]? with
    | some p => if p.marked then spin f (pl.set h { p with marked := false }) ((h + 1) % pl.length) else (pl, h)
    | none => (pl, h)

structure Put where
  pl : List Pl
  hand : Nat
  gone : Option Pl

/-- What a put leaves. -/
def putM (pl : List Pl) (hand : Nat) (key : Int) (v : Pg) : Put :=
  match find pl key with
  | some i => ⟨pl.set i ⟨key, v, true, true⟩, hand, none⟩
  | none => match empty pl with
    | some i => ⟨pl.set i ⟨key, v, true, true⟩, hand, none⟩
    | none => let s := spin pl.length pl hand
      ⟨s.1.set s.2 ⟨key, v, true, true⟩, (s.2 + 1) % pl.length, s.1[s.2]?⟩
end Go.Sg.Clk

namespace Go.Sg.Clk
open Go.RowKit
theorem find_iff {pl : List Pl} (hn : Nd pl) (k : Int) (i : Nat) : find pl k = some i ↔ ∃ p, pl[i]? = some p ∧ p.full = true ∧ p.key = k := by
  constructor
  · exact find_some
  · rintro ⟨p, hp, hf, hk⟩
    cases h : find pl k with
    | none =>
      rw [find, List.findIdx?_eq_none_iff] at h
      have := h p (List.mem_of_getElem? hp)
      simp [hf, hk] at this
    | some j =>
      obtain ⟨q, hq, hqf, hqk⟩ := find_some h
      rw [hn i j p q hp hq hf hqf (by rw [hk, hqk])]

theorem find_eq {pl : List Pl} (hn : Nd pl) {k : Int} {x : Option Nat} (h : ∀ i, (∃ p, pl[i]? = some p ∧ p.full = true ∧ p.key = k) ↔ x = some i) : find pl k = x := by
  apply Option.ext
  intro i
  rw [find_iff hn, h]

theorem get_set {pl : List Pl} {i : Nat} {p : Pl} (hp : pl[i]? = some p) (q : Pl) (j : Nat) : (pl.set i q)[j]? = if i = j then some q else pl[j]? := by
  rw [List.getElem?_set]
  split
  · rename_i h; subst h; simp [(List.getElem?_eq_some_iff.1 hp).1]
  · rfl

theorem find_none {pl : List Pl} {k : Int} (h : find pl k = none) {i : Nat} {p : Pl} (hp : pl[i]? = some p) (hf : p.full = true) : p.key ≠ k := by
  rw [find, List.findIdx?_eq_none_iff] at h
  have := h p (List.mem_of_getElem? hp)
  intro e
  simp [hf, e] at this

theorem nd_set {pl : List Pl} (hn : Nd pl) {i : Nat} {p : Pl} (hp : pl[i]? = some p) (q : Pl) (h : q.full = true → (p.full = true ∧ q.key = p.key) ∨ find pl q.key = none) : Nd (pl.set i q) := by
  intro a b x y hx hy hxf hyf hk
  rw [get_set hp] at hx hy
  split at hx <;> split at hy
  · omega
  · rename_i h1 h2
    cases hx
    rcases h hxf with ⟨h3, h4⟩ | h3
    · subst h1; exact hn _ _ p y hp hy h3 hyf (by rw [← hk, h4])
    · exact absurd hk.symm (find_none h3 hy hyf)
  · rename_i h1 h2
    cases hy
    rcases h hyf with ⟨h3, h4⟩ | h3
    · subst h2; exact hn _ _ x p hx hp hxf h3 (by rw [hk, h4])
    · exact absurd hk (find_none h3 hx hxf)
  · exact hn a b x y hx hy hxf hyf hk

theorem find_set {pl : List Pl} (hn : Nd pl) {i : Nat} {p : Pl} (hp : pl[i]? = some p) (q : Pl) (h : q.full = true → (p.full = true ∧ q.key = p.key) ∨ find pl q.key = none) (k : Int) :
    find (pl.set i q) k = if q.full = true ∧ q.key = k then some i else if p.full = true ∧ p.key = k then none else find pl k := by
  refine find_eq (nd_set hn hp q h) fun j => ?_
  constructor
  · rintro ⟨x, hx, hf, hk⟩
    rw [get_set hp] at hx
    split at hx
    · rename_i e; subst e; cases hx; rw [if_pos ⟨hf, hk⟩]
    · rename_i e
      have h1 : ¬ (q.full = true ∧ q.key = k) := by
        rintro ⟨a, b⟩
        rcases h a with ⟨c, d⟩ | c
        · exact e (hn _ _ p x hp hx c hf (by rw [← d, b, hk]))
        · exact find_none c hx hf (by rw [hk, b])
      have h2 : ¬ (p.full = true ∧ p.key = k) := fun ⟨a, b⟩ => e (hn _ _ p x hp hx a hf (by rw [b, hk]))
      rw [if_neg h1, if_neg h2, find_iff hn]
      exact ⟨x, hx, hf, hk⟩
  · intro hj
    split at hj
    · rename_i e; cases hj; exact ⟨q, by rw [get_set hp, if_pos rfl], e.1, e.2⟩
    · rename_i e
      split at hj
      · cases hj
      · rename_i e2
        obtain ⟨x, hx, hf, hk⟩ := find_some hj
        refine ⟨x, ?_, hf, hk⟩
        rw [get_set hp, if_neg]
        · exact hx
        · rintro rfl; rw [hp] at hx; cases hx; exact e2 ⟨hf, hk⟩

theorem count_set {pl : List Pl} {i : Nat} {p : Pl} (hp : pl[i]? = some p) (q : Pl) :
    (pl.set i q).countP (·.full) = pl.countP (·.full) - (if p.full = true then 1 else 0) + if q.full = true then 1 else 0 := by
  obtain ⟨hi, rfl⟩ := List.getElem?_eq_some_iff.1 hp
  rw [List.countP_set hi]

theorem count_pos {pl : List Pl} {i : Nat} {p : Pl} (hp : pl[i]? = some p) (hf : p.full = true) : 0 < pl.countP (·.full) :=
  List.countP_pos_iff.2 ⟨p, List.mem_of_getElem? hp, hf⟩

section
variable {tc tp : TypeId} {ok : Pg → Prop} {w w' : World} {bc bp bm hand : Nat} {pl : List Pl}

theorem At.fr {S : Nat → Prop} (h : At tc tp ok w bc bp bm pl hand) (hf : Fr S w w') (h1 : ¬ S bc) (h2 : ¬ S bp) (h3 : ¬ S bm) : At tc tp ok w' bc bp bm pl hand := by
  obtain ⟨l, ck, hm, r⟩ := h.m
  exact ⟨hf.heap h.c h1, hf.heap h.p h2, ⟨l, ck, hf.heap hm h3, r⟩, h.room, h.hand, h.vs, h.nd⟩

theorem At.ne (h : At tc tp ok w bc bp bm pl hand) : bc ≠ bp ∧ bc ≠ bm ∧ bp ≠ bm := by
  obtain ⟨l, ck, hm, r⟩ := h.m
  have hc := h.c
  have hp := h.p
  have hr := h.room
  refine ⟨?_, ?_, ?_⟩
  · rintro rfl
    rw [hc] at hp
    cases hp' : pl with
    | nil => simp [hp'] at hr
    | cons x r =>
      rw [hp'] at hp
      simp [cellsOf, Pl.cells] at hp
  · rintro rfl; rw [hc] at hm; cases hm
  · rintro rfl; rw [hp] at hm; cases hm

/-- One cell of a place turns; its number and whether it is there do not. -/
theorem At.set (h : At tc tp ok w bc bp bm pl hand) {i : Nat} {p : Pl} (hp : pl[i]? = some p) (j : Nat) (hj : j < 6) (v : Value) (q : Pl) (hq : p.cells.set j v = q.cells)
    (hk : q.key = p.key) (hf : q.full = p.full) (hv : ok q.v) : At tc tp ok (w.setCell ⟨bp, i * 6 + j, none⟩ v) bc bp bm (pl.set i q) hand := by
  obtain ⟨n1, n2, n3⟩ := h.ne
  obtain ⟨l, ck, hm, hnd, hl, hc⟩ := h.m
  have hs : q.full = true → (p.full = true ∧ q.key = p.key) ∨ find pl q.key = none := fun a => .inl ⟨by rw [← hf, a], hk⟩
  refine ⟨?_, ?_, ⟨l, ck, ?_, hnd, fun k => ?_, ?_⟩, by simpa using h.room, by simpa using h.hand, fun x hx => ?_, nd_set h.nd hp q hs⟩
  · rw [heap_setCell_ne _ _ _ _ (by simpa using n1.symm), h.c]; simp
  · rw [heap_setCell_cells _ _ _ _ h.p, cells_set hp j hj v q hq]
  · rw [heap_setCell_ne _ _ _ _ (by simpa using n3), hm]
  · rw [hl, find_set h.nd hp q hs, hk, hf]
    split
    · rename_i e; rw [(find_iff h.nd k i).2 ⟨p, hp, e.1, e.2⟩]
    · rfl
  · rw [hc, count_set hp, hf]
    split
    · rename_i e; have := count_pos hp e; omega
    · omega
  · rcases List.mem_or_eq_of_mem_set hx with h' | rfl
    · exact h.vs x h'
    · exact hv
end
end Go.Sg.Clk
namespace Go.Sg.Clk
open Go.RowKit
/-- How many marks there are. -/
def marks (pl : List Pl) : Nat := pl.countP (·.marked)
theorem marks_le (pl : List Pl) : marks pl ≤ pl.length := List.countP_le_length
theorem marks_pos {pl : List Pl} {i : Nat} {p : Pl} (hp : pl[i]? = some p) (hf : p.marked = true) : 0 < marks pl :=
  List.countP_pos_iff.2 ⟨p, List.mem_of_getElem? hp, hf⟩
theorem marks_set {pl : List Pl} {i : Nat} {p : Pl} (hp : pl[i]? = some p) (hm : p.marked = true) : marks (pl.set i { p with marked := false }) + 1 = marks pl := by
  have := marks_pos hp hm
  obtain ⟨hi, rfl⟩ := List.getElem?_eq_some_iff.1 hp
  rw [marks, List.countP_set hi]
  rw [marks] at this
  simp [marks, hm]
  omega
theorem spin_mark {k : Nat} {pl : List Pl} {h : Nat} {p : Pl} (hp : pl[h]? = some p) (hm : p.marked = true) : spin (k + 1) pl h = spin k (pl.set h { p with marked := false }) ((h + 1) % pl.length) := by
  simp [spin, hp, hm]
theorem spin_stop {k : Nat} {pl : List Pl} {h : Nat} {p : Pl} (hp : pl[h]? = some p) (hm : p.marked = false) : spin k pl h = (pl, h) := by
  cases k <;> simp [spin, hp, hm]
theorem At.turn {tc tp : TypeId} {ok : Pg → Prop} {w : World} {bc bp bm hand : Nat} {pl : List Pl} (h : At tc tp ok w bc bp bm pl hand) {n : Nat} (hn : n < pl.length) :
    At tc tp ok (w.setCell ⟨bc, 2, none⟩ (.int .i64 n)) bc bp bm pl n := by
  obtain ⟨n1, n2, n3⟩ := h.ne
  obtain ⟨l, ck, hm, r⟩ := h.m
  refine ⟨?_, ?_, ⟨l, ck, ?_, r⟩, h.room, hn, h.vs, h.nd⟩
  · rw [heap_setCell_cells _ _ _ _ h.c]; simp
  · rw [heap_setCell_ne _ _ _ _ (by simpa using n1), h.p]
  · rw [heap_setCell_ne _ _ _ _ (by simpa using n2), hm]
theorem At.drewN {tc tp : TypeId} {ok : Pg → Prop} {w : World} {bc bp bm hand : Nat} {pl : List Pl} (h : At tc tp ok w bc bp bm pl hand) (n : Nat) : At tc tp ok (w.drewN n) bc bp bm pl hand := ⟨h.c, h.p, h.m, h.room, h.hand, h.vs, h.nd⟩
theorem At.drew {tc tp : TypeId} {ok : Pg → Prop} {w : World} {bc bp bm hand : Nat} {pl : List Pl} (h : At tc tp ok w bc bp bm pl hand) : At tc tp ok w.drew bc bp bm pl hand := ⟨h.c, h.p, h.m, h.room, h.hand, h.vs, h.nd⟩
end Go.Sg.Clk

namespace Go.Sg.Clk
open Go.RowKit
section
variable {tc tp : TypeId} {ok : Pg → Prop} {w w' : World} {bc bp bm hand : Nat} {pl : List Pl}
theorem heap_place {W : World} (h : W.heap[bp]? = some (.cells (cellsOf pl) tp)) {i : Nat} {p : Pl} (hp : pl[i]? = some p) (q : Pl) :
    ((((((W.setCell ⟨bp, i * 6, none⟩ (.int .i64 q.key)).setCell ⟨bp, i * 6 + 1, none⟩ (.int .i64 q.v.stamp)).setCell ⟨bp, i * 6 + 2, none⟩ q.v.load).setCell ⟨bp, i * 6 + 3, none⟩ (.bool q.v.dirty)).setCell ⟨bp, i * 6 + 4, none⟩ (.bool q.full)).setCell ⟨bp, i * 6 + 5, none⟩ (.bool q.marked)).heap[bp]? =
      some (.cells (cellsOf (pl.set i q)) tp) := by
  rw [heap_setCell_cells _ _ _ _ (heap_setCell_cells _ _ _ _ (heap_setCell_cells _ _ _ _ (heap_setCell_cells _ _ _ _ (heap_setCell_cells _ _ _ _ (heap_setCell_cells _ _ _ _ h)))))]
  have at_ : ∀ r : Pl, (pl.set i r)[i]? = some r := fun r => by rw [get_set hp, if_pos rfl]
  have s0 := cells_set hp 0 (by omega) (.int .i64 q.key) { p with key := q.key } rfl
  have s1 := cells_set (at_ { p with key := q.key }) 1 (by omega) (.int .i64 q.v.stamp) ⟨q.key, { p.v with stamp := q.v.stamp }, p.full, p.marked⟩ rfl
  have s2 := cells_set (at_ ⟨q.key, { p.v with stamp := q.v.stamp }, p.full, p.marked⟩) 2 (by omega) q.v.load ⟨q.key, ⟨q.v.stamp, q.v.la, q.v.ll, q.v.lc, p.v.dirty⟩, p.full, p.marked⟩ rfl
  have s3 := cells_set (at_ ⟨q.key, ⟨q.v.stamp, q.v.la, q.v.ll, q.v.lc, p.v.dirty⟩, p.full, p.marked⟩) 3 (by omega) (.bool q.v.dirty) ⟨q.key, q.v, p.full, p.marked⟩ rfl
  have s4 := cells_set (at_ ⟨q.key, q.v, p.full, p.marked⟩) 4 (by omega) (.bool q.full) ⟨q.key, q.v, q.full, p.marked⟩ rfl
  have s5 := cells_set (at_ ⟨q.key, q.v, q.full, p.marked⟩) 5 (by omega) (.bool q.marked) q rfl
  simp only [List.set_set, Nat.add_zero] at s0 s1 s2 s3 s4 s5
  rw [s0, s1, s2, s3, s4, s5]

/-- A place turns whole, and the map with it. -/
theorem At.place (h : At tc tp ok w bc bp bm pl hand) {i : Nat} {p : Pl} (hp : pl[i]? = some p) (q : Pl) (hq : q.full = true → (p.full = true ∧ q.key = p.key) ∨ find pl q.key = none) (hv : ok q.v) {hand' : Nat} (hh : hand' < pl.length) {W : World}
    (hc : W.heap[bc]? = some (.cells #[.slice (some ⟨bp, 0, none⟩) pl.length pl.length, .map (some bm), .int .i64 hand'] tc)) (hb : W.heap[bp]? = some (.cells (cellsOf (pl.set i q)) tp)) {l' : List Ent} {ck' : Nat} (hm : W.heap[bm]? = some (.map (ents l') ck')) (hnd : (keys l').Nodup)
    (hl : ∀ k, look l' k = if q.full = true ∧ q.key = k then some (.int .i64 i) else if p.full = true ∧ p.key = k then none else (find pl k).map fun i => .int .i64 i)
    (hn : l'.length = pl.countP (·.full) - (if p.full = true then 1 else 0) + if q.full = true then 1 else 0) : At tc tp ok W bc bp bm (pl.set i q) hand' := by
  refine ⟨by simpa using hc, hb, ⟨l', ck', hm, hnd, fun k => ?_, ?_⟩, by simpa using h.room, by simpa using hh, fun x hx => ?_, nd_set h.nd hp q hq⟩
  · rw [hl, find_set h.nd hp q hq]
    split
    · rfl
    · split <;> rfl
  · rw [hn, count_set hp]
  · rcases List.mem_or_eq_of_mem_set hx with h' | rfl
    · exact h.vs x h'
    · exact hv
end
end Go.Sg.Clk

namespace Go.Sg.Clk
section
variable {tc tp : TypeId} {ok : Pg → Prop} {w w' : World} {bc bp bm hand : Nat} {pl : List Pl}
theorem At.c0 (h : At tc tp ok w bc bp bm pl hand) : w.cell? ⟨bc, 0, none⟩ = some (.slice (some ⟨bp, 0, none⟩) pl.length pl.length) := by simpa using cell_of_heap h.c 0
theorem At.c1 (h : At tc tp ok w bc bp bm pl hand) : w.cell? ⟨bc, 1, none⟩ = some (.map (some bm)) := by simpa using cell_of_heap h.c 1
theorem At.c2 (h : At tc tp ok w bc bp bm pl hand) : w.cell? ⟨bc, 2, none⟩ = some (.int .i64 hand) := by simpa using cell_of_heap h.c 2
theorem At.z2 (h : At tc tp ok w bc bp bm pl hand) : w.frozen? ⟨bc, 2, none⟩ = false := frozen_of_heap h.c 2
theorem At.k0 (h : At tc tp ok w bc bp bm pl hand) {i : Nat} {p : Pl} (hp : pl[i]? = some p) : w.cell? ⟨bp, i * 6, none⟩ = some (.int .i64 p.key) := by
  have := cell_of_heap h.p (i * 6 + 0); rw [cells_get hp 0 (by omega)] at this; simpa [Pl.cells] using this
theorem At.k1 (h : At tc tp ok w bc bp bm pl hand) {i : Nat} {p : Pl} (hp : pl[i]? = some p) : w.cell? ⟨bp, i * 6 + 1, none⟩ = some (.int .i64 p.v.stamp) := by
  have := cell_of_heap h.p (i * 6 + 1); rw [cells_get hp 1 (by omega)] at this; simpa [Pl.cells] using this
theorem At.k2 (h : At tc tp ok w bc bp bm pl hand) {i : Nat} {p : Pl} (hp : pl[i]? = some p) : w.cell? ⟨bp, i * 6 + 2, none⟩ = some (.slice p.v.la p.v.ll p.v.lc) := by
  have := cell_of_heap h.p (i * 6 + 2); rw [cells_get hp 2 (by omega)] at this; simpa [Pl.cells] using this
theorem At.k3 (h : At tc tp ok w bc bp bm pl hand) {i : Nat} {p : Pl} (hp : pl[i]? = some p) : w.cell? ⟨bp, i * 6 + 3, none⟩ = some (.bool p.v.dirty) := by
  have := cell_of_heap h.p (i * 6 + 3); rw [cells_get hp 3 (by omega)] at this; simpa [Pl.cells] using this
theorem At.k4 (h : At tc tp ok w bc bp bm pl hand) {i : Nat} {p : Pl} (hp : pl[i]? = some p) : w.cell? ⟨bp, i * 6 + 4, none⟩ = some (.bool p.full) := by
  have := cell_of_heap h.p (i * 6 + 4); rw [cells_get hp 4 (by omega)] at this; simpa [Pl.cells] using this
theorem At.k5 (h : At tc tp ok w bc bp bm pl hand) {i : Nat} {p : Pl} (hp : pl[i]? = some p) : w.cell? ⟨bp, i * 6 + 5, none⟩ = some (.bool p.marked) := by
  have := cell_of_heap h.p (i * 6 + 5); rw [cells_get hp 5 (by omega)] at this; simpa [Pl.cells] using this
theorem At.zp (h : At tc tp ok w bc bp bm pl hand) (o : Nat) : w.frozen? ⟨bp, o, none⟩ = false := frozen_of_heap h.p o
end
end Go.Sg.Clk

namespace Go.Sg.Clk
def Pl.unmark (p : Pl) : Pl := { p with marked := false }
theorem spin_same (f : Nat) : ∀ (pl : List Pl) (h : Nat), (spin f pl h).1.map Pl.unmark = pl.map Pl.unmark := by
  induction f with
  | zero => intro pl h; rfl
  | succ f ih =>
    intro pl h
    unfold spin
    split
    · rename_i p hp
      split
      · rw [ih, List.map_set]
        obtain ⟨hi, rfl⟩ := List.getElem?_eq_some_iff.1 hp
        apply List.ext_getElem?
        intro j
        rw [List.getElem?_set]
        split
        · rename_i e; subst e; simp [hi, Pl.unmark]
        · rfl
      · rfl
    · rfl
theorem spin_len (f : Nat) (pl : List Pl) (h : Nat) : (spin f pl h).1.length = pl.length := by
  have := congrArg List.length (spin_same f pl h); simpa using this
theorem spin_lt (f : Nat) : ∀ (pl : List Pl) (h : Nat), h < pl.length → (spin f pl h).2 < pl.length := by
  induction f with
  | zero => intro pl h hh; exact hh
  | succ f ih =>
    intro pl h hh
    unfold spin
    split
    · rename_i p hp
      split
      · have := ih (pl.set h { p with marked := false }) ((h + 1) % pl.length) (by rw [List.length_set]; exact Nat.mod_lt _ (by omega))
        simpa using this
      · exact hh
    · exact hh
theorem spin_get {f : Nat} {pl : List Pl} {h : Nat} (j : Nat) : ((spin f pl h).1[j]?).map Pl.unmark = (pl[j]?).map Pl.unmark := by
  rw [← List.getElem?_map, ← List.getElem?_map, spin_same]
theorem find_unmark (pl : List Pl) (k : Int) : find pl k = find (pl.map Pl.unmark) k := by
  simp only [find, List.findIdx?_map]; rfl
theorem spin_find (f : Nat) (pl : List Pl) (h : Nat) (k : Int) : find (spin f pl h).1 k = find pl k := by
  rw [find_unmark, spin_same, ← find_unmark]
theorem empty_unmark (pl : List Pl) : empty pl = empty (pl.map Pl.unmark) := by
  simp only [empty, List.findIdx?_map]; rfl
theorem spin_empty (f : Nat) (pl : List Pl) (h : Nat) : empty (spin f pl h).1 = empty pl := by
  rw [empty_unmark, spin_same, ← empty_unmark]
theorem full_of_empty {pl : List Pl} (h : empty pl = none) {i : Nat} {p : Pl} (hp : pl[i]? = some p) : p.full = true := by
  rw [empty, List.findIdx?_eq_none_iff] at h
  have := h p (List.mem_of_getElem? hp)
  simpa using this
theorem putM_full {pl : List Pl} {hand : Nat} {key : Int} {v : Pg} (hf : find pl key = none) (he : empty pl = none) :
    putM pl hand key v = ⟨(spin pl.length pl hand).1.set (spin pl.length pl hand).2 ⟨key, v, true, true⟩, ((spin pl.length pl hand).2 + 1) % pl.length, (spin pl.length pl hand).1[(spin pl.length pl hand).2]?⟩ := by
  simp [putM, hf, he]
end Go.Sg.Clk
namespace Go.Sg.Clk
open Go.RowKit
theorem cells_made (n : Nat) : madeCells #[.int .i64 0, .int .i64 0, .slice none 0 0, .bool false, .bool false, .bool false] (n * 6) = cellsOf (List.replicate n (Pl.none Pg.zero)) := by
  apply Array.ext
  · rw [size_madeCells, size_cells]; simp
  · intro i h1 h2
    have hi : i < n * 6 := by simpa [size_madeCells] using h1
    have e : (cellsOf (List.replicate n (Pl.none Pg.zero)))[i]? = (Pl.none Pg.zero).cells[i % 6]? := by
      have hd : i = i / 6 * 6 + i % 6 := by omega
      have hq : (List.replicate n (Pl.none Pg.zero))[i / 6]? = some (Pl.none Pg.zero) := by rw [List.getElem?_replicate, if_pos (by omega)]
      have := cells_get hq (i % 6) (by omega)
      rw [← hd] at this
      exact this
    rw [Array.getElem?_eq_getElem h2] at e
    have h4 : i % 6 < 6 := by omega
    have e2 : (Pl.none Pg.zero).cells[i % 6]? = some ((Pl.none Pg.zero).cells[i % 6]'(by simp [Pl.cells]; omega)) := List.getElem?_eq_getElem _
    rw [e2] at e
    rw [Option.some.inj e]
    simp [madeCells, Pl.cells, Pl.none, Pg.zero, getElem!_def]
    generalize i % 6 = j at *
    match j, h4 with
    | 0, _ => rfl
    | 1, _ => rfl
    | 2, _ => rfl
    | 3, _ => rfl
    | 4, _ => rfl
    | 5, _ => rfl
theorem At.fresh {tc tp : TypeId} {ok : Pg → Prop} {w : World} {n : Nat} (hz : ok Pg.zero) (h1 : 1 ≤ n) (h2 : n ≤ 4096) :
    At tc tp ok (((w.alloc (.cells (madeCells #[.int .i64 0, .int .i64 0, .slice none 0 0, .bool false, .bool false, .bool false] (n * 6)) tp)).alloc (.map #[] 0)).alloc (.cells #[.slice (some ⟨w.heap.size, 0, none⟩) n n, .map (some (w.heap.size + 1)), .int .i64 0] tc))
      (w.heap.size + 2) w.heap.size (w.heap.size + 1) (List.replicate n (Pl.none Pg.zero)) 0 := by
  refine ⟨?_, ?_, ⟨[], 0, ?_, by simp [keys], fun k => ?_, ?_⟩, by simp; omega, by simp; omega, fun p hp => ?_, ?_⟩
  · have := heap_alloc_new ((w.alloc (.cells (madeCells #[.int .i64 0, .int .i64 0, .slice none 0 0, .bool false, .bool false, .bool false] (n * 6)) tp)).alloc (.map #[] 0)) (.cells #[.slice (some ⟨w.heap.size, 0, none⟩) n n, .map (some (w.heap.size + 1)), .int .i64 0] tc)
    simp only [World.size_alloc] at this
    simpa using this
  · rw [heap_alloc_lt _ _ _ (by simp; omega), heap_alloc_lt _ _ _ (by simp), heap_alloc_new, cells_made]
  · have := heap_alloc_new (w.alloc (.cells (madeCells #[.int .i64 0, .int .i64 0, .slice none 0 0, .bool false, .bool false, .bool false] (n * 6)) tp)) (.map #[] 0)
    simp only [World.size_alloc] at this
    rw [heap_alloc_lt _ _ _ (by simp), this]
    rfl
  · have : find (List.replicate n (Pl.none Pg.zero)) k = none := by
      rw [find, List.findIdx?_eq_none_iff]
      intro p hp
      rw [List.eq_of_mem_replicate hp]; rfl
    rw [this]; rfl
  · simp [List.countP_replicate, Pl.none]
  · rw [List.eq_of_mem_replicate hp]; exact hz
  · intro i j p q hp _ hf
    rw [List.eq_of_mem_replicate (List.mem_of_getElem? hp)] at hf
    cases hf
end Go.Sg.Clk
