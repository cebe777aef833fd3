/- A library of our own: frames of worlds, maps keyed by integers by their rows of entries. -/
import Derived.WalkKit
import Derived.WalkLawsBesides
import Derived.RangeFuncWrites
import Derived.RangeFuncLeaves
import Derived.Below
import Derived.Laws.OwnMore
import Derived.OwnWalk
import Derived.Maps.AppendAt
namespace Go.Sg
open Go.RowKit
@[go_sem] theorem wide_fn (f : FuncId) : Fence.wide.fn f = True := rfl
@[go_sem] theorem wide_round_fn (l : Nat) (f : FuncId) : (Fence.wide.inRound l).fn f = True := rfl
@[go_sem] theorem wide_depth : Fence.wide.depth = none := rfl
theorem hid {p : Prop} (h : p) : Hid p := h

/-- Only the blocks of S, and new ones, have turned. -/
structure Fr (S : Nat → Prop) (w w' : World) : Prop where
  os : w'.os = w.os
  tape : w'.tape = w.tape
  output : w'.output = w.output
  size : w.heap.size ≤ w'.heap.size
  block : ∀ b, b < w.heap.size → ¬ S b → w'.heap[b]? = w.heap[b]?

theorem Fr.refl (S : Nat → Prop) (w : World) : Fr S w w := ⟨rfl, rfl, rfl, Nat.le_refl _, fun _ _ _ => rfl⟩

theorem Fr.trans {S S' : Nat → Prop} {w w1 w2 : World} (h : Fr S w w1) (k : Fr S' w1 w2) (hs : ∀ b, b < w.heap.size → S' b → S b) : Fr S w w2 :=
  ⟨k.os.trans h.os, k.tape.trans h.tape, k.output.trans h.output, Nat.le_trans h.size k.size,
   fun b hb hn => (k.block b (Nat.lt_of_lt_of_le hb h.size) (fun hs' => hn (hs b hb hs'))).trans (h.block b hb hn)⟩

theorem Fr.mono {S S' : Nat → Prop} {w w1 : World} (h : Fr S w w1) (hs : ∀ b, b < w.heap.size → S b → S' b) : Fr S' w w1 :=
  ⟨h.os, h.tape, h.output, h.size, fun b hb hn => h.block b hb (fun hs' => hn (hs b hb hs'))⟩

theorem heap_alloc_lt (w : World) (o : Obj) (b : Nat) (h : b < w.heap.size) : (w.alloc o).heap[b]? = w.heap[b]? := by
  show (w.heap.push o)[b]? = _
  rw [Array.getElem?_push, if_neg (Nat.ne_of_lt h)]
theorem heap_alloc_new (w : World) (o : Obj) : (w.alloc o).heap[w.heap.size]? = some o := by
  show (w.heap.push o)[w.heap.size]? = _
  rw [Array.getElem?_push, if_pos rfl]
theorem heap_setCell_ne (w : World) (a : Addr) (v : Value) (b : Nat) (h : a.block ≠ b) : (w.setCell a v).heap[b]? = w.heap[b]? := by
  simp [World.setCell, Array.getElem?_modify, h]
theorem heap_setCell_cells (w : World) (b o : Nat) (v : Value) {c : Array Value} {t : TypeId} {f : Nat × Nat} (h : w.heap[b]? = some (.cells c t f)) :
    (w.setCell ⟨b, o, none⟩ v).heap[b]? = some (.cells (c.setIfInBounds o v) t f) := by
  simp [World.setCell, Array.getElem?_modify, h]
theorem heap_putObj_ne (w : World) (r : Nat) (o : Obj) (b : Nat) (h : r ≠ b) : (w.putObj r o).heap[b]? = w.heap[b]? := by
  simp [World.putObj, h]
theorem heap_putObj_same (w : World) (r : Nat) (o : Obj) (h : r < w.heap.size) : (w.putObj r o).heap[r]? = some o := by
  simp [World.putObj, h]
theorem lt_of_heap {w : World} {b : Nat} {o : Obj} (h : w.heap[b]? = some o) : b < w.heap.size := (Array.getElem?_eq_some_iff.1 h).1

theorem Fr.alloc {S : Nat → Prop} {w w1 : World} (h : Fr S w w1) (o : Obj) : Fr S w (w1.alloc o) :=
  ⟨h.os, h.tape, h.output, Nat.le_trans h.size (by simp), fun b hb hn => (heap_alloc_lt w1 o b (Nat.lt_of_lt_of_le hb h.size)).trans (h.block b hb hn)⟩
theorem Fr.setCell {S : Nat → Prop} {w w1 : World} (h : Fr S w w1) {a : Addr} (ha : a.block < w.heap.size → S a.block) (v : Value) : Fr S w (w1.setCell a v) :=
  ⟨h.os, h.tape, h.output, by simpa using h.size, fun b hb hn => (heap_setCell_ne w1 a v b (by rintro rfl; exact hn (ha hb))).trans (h.block b hb hn)⟩
theorem Fr.putObj {S : Nat → Prop} {w w1 : World} (h : Fr S w w1) {r : Nat} (ha : r < w.heap.size → S r) (o : Obj) : Fr S w (w1.putObj r o) :=
  ⟨h.os, h.tape, h.output, by simpa [World.putObj] using h.size, fun b hb hn => (heap_putObj_ne w1 r o b (by rintro rfl; exact hn (ha hb))).trans (h.block b hb hn)⟩
theorem Fr.drew {S : Nat → Prop} {w w1 : World} (h : Fr S w w1) : Fr S w w1.drew := ⟨h.os, h.tape, h.output, h.size, h.block⟩
theorem Fr.drewN {S : Nat → Prop} {w w1 : World} (h : Fr S w w1) (n : Nat) : Fr S w (w1.drewN n) := ⟨h.os, h.tape, h.output, h.size, h.block⟩
theorem Fr.heap {S : Nat → Prop} {w w1 : World} (h : Fr S w w1) {b : Nat} {o : Obj} (hb : w.heap[b]? = some o) (hn : ¬ S b) : w1.heap[b]? = some o := (h.block b (lt_of_heap hb) hn).trans hb
theorem Fr.cell {S : Nat → Prop} {w w1 : World} (h : Fr S w w1) {p : Addr} (hb : p.block < w.heap.size) (hn : ¬ S p.block) : w1.cell? p = w.cell? p := World.cell?_of_block (h.block _ hb hn)
theorem Fr.of_below {S : Nat → Prop} {w w1 : World} (h : Below w.heap.size w w1) : Fr S w w1 := ⟨h.os, h.tape, h.output, h.size, fun b hb _ => h.block b hb⟩
theorem Fr.of_grownBy {w w1 : World} {r : Nat} (h : w.grownBy w1 (some r)) : Fr (· = r) w w1 := ⟨h.os, h.tape, h.output, h.size, fun b hb hn => h.block b hb (fun e => hn (by cases e; rfl))⟩
theorem Fr.below {S : Nat → Prop} {w w1 : World} (h : Fr S w w1) (hs : ∀ b, b < w.heap.size → ¬ S b) : Below w.heap.size w w1 :=
  ⟨h.os, h.tape, h.output, h.size, fun b hb => h.block b hb (hs b hb)⟩

theorem cell_of_heap {w : World} {b : Nat} {c : Array Value} {t : TypeId} {f : Nat × Nat} (h : w.heap[b]? = some (.cells c t f)) (o : Nat) : w.cell? ⟨b, o, none⟩ = c[o]? := by
  simp [World.cell?, h]
theorem frozen_of_heap {w : World} {b : Nat} {c : Array Value} {t : TypeId} (h : w.heap[b]? = some (.cells c t (0, 0))) (o : Nat) : w.frozen? ⟨b, o, none⟩ = false := by
  simp [World.frozen?, h]

@[go_sem] theorem heap_drewN (w : World) (n : Nat) : (w.drewN n).heap = w.heap := rfl
@[go_sem] theorem heap_drew (w : World) : w.drew.heap = w.heap := rfl
@[go_sem] theorem heap_setCell_ne' (w : World) (a o : Nat) (v : Value) (b : Nat) (h : a ≠ b) : (w.setCell ⟨a, o, none⟩ v).heap[b]? = w.heap[b]? := heap_setCell_ne w _ v b h
@[go_sem] theorem heap_putObj_ne' (w : World) (r : Nat) (o : Obj) (b : Nat) (h : r ≠ b) : (w.putObj r o).heap[b]? = w.heap[b]? := heap_putObj_ne w r o b h
@[go_sem] theorem cell_putObj (w : World) (r : Nat) (o : Obj) (b i : Nat) (h : r ≠ b) : (w.putObj r o).cell? ⟨b, i, none⟩ = w.cell? ⟨b, i, none⟩ := by
  simp [World.cell?, heap_putObj_ne w r o b h]
@[go_sem] theorem frozen_putObj (w : World) (r : Nat) (o : Obj) (b i : Nat) (h : r ≠ b) : (w.putObj r o).frozen? ⟨b, i, none⟩ = w.frozen? ⟨b, i, none⟩ := by
  simp [World.frozen?, heap_putObj_ne w r o b h]
@[go_sem] theorem size_putObj (w : World) (r : Nat) (o : Obj) : (w.putObj r o).heap.size = w.heap.size := by simp [World.putObj]
@[go_sem] theorem heap_alloc_lt' (w : World) (o : Obj) (b : Nat) (h : b < w.heap.size) : (w.alloc o).heap[b]? = w.heap[b]? := heap_alloc_lt w o b h

/-! ### What a range over a function leaves alone -/
theorem own_block {β : Type} (B : Nat) (b : β → Nat) (o : β → Obj) (h : ∀ s, (o s).isCells = true ∨ b s < B) : OwnFrom B (fun s W => W.heap[b s]? = some (o s)) := by
  intro s W W' row hs hg hr
  refine (hg.block (b s) (lt_of_heap hs) ?_).trans hs
  intro e
  obtain ⟨hB, o', ho', hc⟩ := hr (b s) e.symm
  rcases h s with h | h
  · rw [hs] at ho'; cases ho'; rw [h] at hc; cases hc
  · omega
theorem own_fr {β : Type} {S : Nat → Prop} {w : World} {B : Nat} (hB : w.heap.size ≤ B) : OwnFrom B (fun (_ : β) W => Fr S w W) := by
  intro s W W' row hs hg hr
  exact hs.trans (S' := fun b => W.heap.size ≤ b ∨ B ≤ b) ⟨hg.os, hg.tape, hg.output, hg.size, fun b hb hn => hg.block b hb (fun e => hn (.inr (hr b e.symm).1))⟩
    (fun b hb h => by have := hs.size; omega)
theorem own_pure {β : Type} (B : Nat) (p : β → Prop) : OwnFrom B (fun s (_ : World) => p s) := fun _ _ _ _ hs _ _ => hs
theorem own_and {β : Type} {B : Nat} {I I' : β → World → Prop} (h : OwnFrom B I) (h' : OwnFrom B I') : OwnFrom B (fun s W => I s W ∧ I' s W) := h.and h'
theorem own_ex {β γ : Type} {B : Nat} {I : γ → β → World → Prop} (h : ∀ c, OwnFrom B (I c)) : OwnFrom B (fun s W => ∃ c, I c s W) := by
  rintro s W W' row ⟨c, hc⟩ hg hr
  exact ⟨c, h c s W W' row hc hg hr⟩

/-- A function whose range over a function is over returns. -/
theorem marks_ret1 {n : Nat} {P : Program} {fn : Func} {R : Ending → World → Prop} {tmps : Array Value} {D t : Nat} {W : World} (h : fn.results = #[.tmp t]) (hK : W.heap[D]? = some (.deferred (some [])))
    (hR : R (.returned (tmps.getD t undef)) (W.putObj D (.deferred none))) : bodyPostM Fence.wide n P fn R .ret { tmps := tmps, defers := [{ target := .collected D, args := #[] }] } W :=
  ⟨by simp, .inl ⟨_, _, rfl, run_takeDeferred hK, _, results_tmp h _ _ _, hR⟩⟩
theorem marks_ret2 {n : Nat} {P : Program} {fn : Func} {R : Ending → World → Prop} {tmps : Array Value} {D t u : Nat} {W : World} (h : fn.results = #[.tmp t, .tmp u]) (hK : W.heap[D]? = some (.deferred (some [])))
    (hR : R (.returned (.tuple #[tmps.getD t undef, tmps.getD u undef])) (W.putObj D (.deferred none))) : bodyPostM Fence.wide n P fn R .ret { tmps := tmps, defers := [{ target := .collected D, args := #[] }] } W :=
  ⟨by simp, .inl ⟨_, _, rfl, run_takeDeferred hK, _, results_tmp2 h _ _ _, hR⟩⟩

/-! ### Maps whose keys are int -/
structure Ent where
  k : Int
  v : Value
  born : Nat

def Ent.entry (e : Ent) : MapEntry := ⟨.int .i64 e.k, e.v, e.born⟩
def ents (l : List Ent) : Array MapEntry := (l.map Ent.entry).toArray
def look (l : List Ent) (k : Int) : Option Value := (l.find? (·.k == k)).map (·.v)
def put : List Ent → Int → Value → Nat → List Ent
  | [], k, v, c => [⟨k, v, c⟩]
  | e :: l, k, v, c => if e.k == k then ⟨k, v, e.born⟩ :: l else e :: put l k v c
def del : List Ent → Int → List Ent
  | [], _ => []
  | e :: l, k => if e.k == k then l else e :: del l k

theorem findNow_ents (k : Int) (l : List Ent) : ∀ i, Instr.findNow (.int .i64) (.int .i64 k) (l.map Ent.entry) i =
    some ((l.findIdx? (·.k == k)).bind fun j => (l[j]?).map fun e => (i + j, e.v)) := by
  induction l with
  | nil => intro i; rfl
  | cons e l ih =>
    intro i
    simp only [List.map_cons, Instr.findNow, Ent.entry, Instr.sameNow, if_true, List.findIdx?_cons]
    by_cases h : k = e.k
    · subst h; simp
    · have h1 : (k == e.k) = false := by simpa using h
      have h2 : (e.k == k) = false := by simpa using fun x => h x.symm
      rw [h1, h2]
      simp only [Bool.false_eq_true, if_false]
      rw [ih (i + 1)]
      cases l.findIdx? (·.k == k) with
      | none => rfl
      | some j => simp only [Option.map_some, Option.bind_some, List.getElem?_cons_succ]; congr 2; funext e; congr 1; omega

section
variable {P : Program} {T K E : TypeId} {w : World} {bm : Nat} {l : List Ent} {ck : Nat}

theorem run_getObj_map (h : w.heap[bm]? = some (.map (ents l) ck)) : (getObj bm).run P w = .ok (.map (ents l) ck) w := by
  simp [getObj, Sem.run, h]

theorem run_findKey (hk : P.underlying K = some (.int .i64)) (k : Int) : (Instr.findKey K (.int .i64 k) (ents l).toList).run P w =
    .ok ((l.findIdx? (·.k == k)).bind fun j => (l[j]?).map fun e => (j, e.v)) w := by
  simp only [Instr.findKey, Sem.run_bind, run_underlying hk, Result.andThen, ents, findNow_ents, Nat.zero_add]
  rfl

theorem run_checkKey (hk : P.underlying K = some (.int .i64)) (k : Int) (b : Bool) : (Instr.checkKey b 10000 K (.int .i64 k)).run P w = .ok () w := by
  exact MapKept.run_checkKey (n := 9999) hk (by trivial) b

theorem look_eq (l : List Ent) (k : Int) : ((l.findIdx? (·.k == k)).bind fun j => (l[j]?).map fun e => (j, e.v)).map (·.2) = look l k := by
  induction l with
  | nil => rfl
  | cons e l ih =>
    simp only [List.findIdx?_cons, look, List.find?_cons]
    by_cases h : e.k = k
    · subst h; simp
    · have h2 : (e.k == k) = false := by simpa using h
      rw [h2]
      simp only [Bool.false_eq_true, if_false]
      rw [look] at ih
      rw [← ih]
      cases l.findIdx? (·.k == k) with
      | none => rfl
      | some j => simp [Option.map_map]; cases l[j]? <;> rfl

theorem run_lookup {z : Value} (ok : Bool) (ht : P.underlying T = some (.map K E)) (hk : P.underlying K = some (.int .i64)) (hz : ∀ w, (zeroValue E).run P w = .ok z w)
    (h : w.heap[bm]? = some (.map (ents l) ck)) (k : Int) :
    (Instr.lookup T (.map (some bm)) (.int .i64 k) ok).run P w =
      .ok (if ok then .tuple #[(look l k).getD z, .bool (look l k).isSome] else (look l k).getD z) w := by
  simp only [Instr.lookup, Sem.run_bind, run_underlying ht, Result.andThen, run_getObj_map h, run_checkKey hk, run_findKey hk, Sem.run_pure]
  have e := look_eq l k
  cases hf : ((l.findIdx? (·.k == k)).bind fun j => (l[j]?).map fun e => (j, e.v)) with
  | none => rw [hf] at e; rw [← e]; simp [hz]
  | some x => rw [hf] at e; rw [← e]; cases ok <;> rfl

theorem put_some (k : Int) (v : Value) (c : Nat) : ∀ (l : List Ent) (j : Nat), l.findIdx? (·.k == k) = some j →
    (l.map Ent.entry).modify j (fun e => { e with key := .int .i64 k, val := v }) = (put l k v c).map Ent.entry ∧ ∃ e, l[j]? = some e ∧ e.k = k
  | [], j, h => by simp at h
  | e :: l, j, h => by
    rw [List.findIdx?_cons] at h
    by_cases hk : (e.k == k) = true
    · rw [hk] at h
      simp only [if_true, Option.some.injEq] at h
      subst h
      have hk' : e.k = k := by simpa using hk
      exact ⟨by simp [put, hk, Ent.entry], e, rfl, hk'⟩
    · have hk' : (e.k == k) = false := by simpa using hk
      rw [hk'] at h
      simp only [Bool.false_eq_true, if_false, Option.map_eq_some_iff] at h
      obtain ⟨i, hi, rfl⟩ := h
      obtain ⟨h1, h2⟩ := put_some k v c l i hi
      exact ⟨by simp [put, hk', h1], by simpa using h2⟩

theorem put_none (k : Int) (v : Value) (c : Nat) : ∀ (l : List Ent), l.findIdx? (·.k == k) = none → put l k v c = l ++ [⟨k, v, c⟩]
  | [], _ => rfl
  | e :: l, h => by
    rw [List.findIdx?_cons] at h
    by_cases hk : (e.k == k) = true
    · rw [hk] at h; simp at h
    · have hk' : (e.k == k) = false := by simpa using hk
      rw [hk'] at h
      simp only [Bool.false_eq_true, if_false, Option.map_eq_none_iff] at h
      simp [put, hk', put_none k v c l h]

theorem look_isSome (l : List Ent) (k : Int) : (look l k).isSome = (l.findIdx? (·.k == k)).isSome := by
  induction l with
  | nil => rfl
  | cons e l ih =>
    simp only [look, List.find?_cons, List.findIdx?_cons]
    by_cases hk : (e.k == k) = true
    · simp [hk]
    · have hk' : (e.k == k) = false := by simpa using hk
      rw [hk']
      simp only [look] at ih
      simp [ih]

theorem run_keyThatStays (k : Int) : (Instr.keyThatStays (.int .i64 k) (.int .i64 k)).run P w = .ok (.int .i64 k) w := by
  simp [Instr.keyThatStays, Instr.sameBits]

theorem run_setObj_map' {o o' : Obj} (h : w.heap[bm]? = some o) (ho : o.isCells = false) : (setObj bm o').run P w = .ok () (w.putObj bm o') := by
  cases o <;> first | (simp [Obj.isCells] at ho; done) | simp [setObj, Sem.run, h, World.putObj]

/-- The map's clock behind a put. -/
def bump (l : List Ent) (k : Int) (ck : Nat) : Nat := if (look l k).isSome then ck else ck + 1

theorem run_mapUpdate (ht : P.underlying T = some (.map K E)) (hk : P.underlying K = some (.int .i64))
    (h : w.heap[bm]? = some (.map (ents l) ck)) (k : Int) (v : Value) :
    (Instr.mapUpdate T (.map (some bm)) (.int .i64 k) v).run P w =
      .ok () (w.putObj bm (.map (ents (put l k v ck)) (bump l k ck))) := by
  unfold bump
  simp only [Instr.mapUpdate, Sem.run_bind, run_underlying ht, Result.andThen, run_getObj_map h, run_checkKey hk, run_findKey hk]
  rw [look_isSome]
  cases hf : l.findIdx? (·.k == k) with
  | none =>
    simp only [Option.bind_none]
    rw [run_setObj_map' h rfl, put_none k v ck l hf]
    simp [ents, Ent.entry]
  | some j =>
    obtain ⟨h1, e, h2, h3⟩ := put_some k v ck l j hf
    have h4 : (((ents l)[j]?).map (·.key)).getD (.int .i64 k) = .int .i64 k := by simp [ents, h2, Ent.entry, h3]
    simp only [Option.bind_some, h2, Option.map_some]
    rw [h4]
    simp only [Sem.run_bind, run_keyThatStays, Result.andThen]
    rw [run_setObj_map' h rfl]
    simp only [Option.isSome_some, if_true]
    congr 3
    rw [ents, ents, ← h1]
    simp

theorem del_some (k : Int) : ∀ (l : List Ent) (j : Nat), l.findIdx? (·.k == k) = some j → (l.map Ent.entry).eraseIdx j = (del l k).map Ent.entry
  | [], j, h => by simp at h
  | e :: l, j, h => by
    rw [List.findIdx?_cons] at h
    by_cases hk : (e.k == k) = true
    · rw [hk] at h
      simp only [if_true, Option.some.injEq] at h
      subst h
      simp [del, hk]
    · have hk' : (e.k == k) = false := by simpa using hk
      rw [hk'] at h
      simp only [Bool.false_eq_true, if_false, Option.map_eq_some_iff] at h
      obtain ⟨i, hi, rfl⟩ := h
      simp [del, hk', del_some k l i hi]

theorem del_none (k : Int) : ∀ (l : List Ent), l.findIdx? (·.k == k) = none → del l k = l
  | [], _ => rfl
  | e :: l, h => by
    rw [List.findIdx?_cons] at h
    by_cases hk : (e.k == k) = true
    · rw [hk] at h; simp at h
    · have hk' : (e.k == k) = false := by simpa using hk
      rw [hk'] at h
      simp only [Bool.false_eq_true, if_false, Option.map_eq_none_iff] at h
      simp [del, hk', del_none k l h]

theorem run_delete (ht : P.underlying T = some (.map K E)) (hk : P.underlying K = some (.int .i64))
    (h : w.heap[bm]? = some (.map (ents l) ck)) (k : Int) (t' : TypeId) (ts : Array TypeId) (hts : ts[0]? = some T) :
    (Builtin.delete_ ts t' #[.map (some bm), .int .i64 k]).run P w = .ok (.tuple #[]) (w.putObj bm (.map (ents (del l k)) ck)) := by
  simp only [Builtin.delete_, hts]
  simp only [List.getElem?_toArray, List.getElem?_cons_zero, List.getElem?_cons_succ, Sem.run_bind, run_underlying ht, Result.andThen, run_getObj_map h, run_checkKey hk, run_findKey hk]
  cases hf : l.findIdx? (·.k == k) with
  | none =>
    simp only [Option.bind_none, Sem.run_bind]
    rw [run_setObj_map' h rfl, del_none k l hf]
    rfl
  | some j =>
    obtain ⟨h1, e, h2, h3⟩ := put_some k (.bool true) ck l j hf
    simp only [Option.bind_some, h2, Option.map_some, Sem.run_bind]
    rw [run_setObj_map' h rfl]
    have := del_some k l j hf
    simp only [Result.andThen]
    congr 3
    rw [ents, ents, ← this]
    have hj : j < (l.map Ent.entry).toArray.size := by
      have := (List.getElem?_eq_some_iff.1 h2).1
      simpa using this
    simp [Array.eraseIdxIfInBounds, hj]
    have := (List.getElem?_eq_some_iff.1 h2).1
    simp [this]

theorem run_len_map (ht : P.underlying T = some (.map K E)) (h : w.heap[bm]? = some (.map (ents l) ck)) (t' : TypeId) (ts : Array TypeId) (hts : ts[0]? = some T) :
    (Builtin.len_ ts t' #[.map (some bm)]).run P w = .ok (.int .i64 l.length) w := by
  simp only [Builtin.len_, hts]
  simp only [List.getElem?_toArray, List.getElem?_cons_zero, Sem.run_bind, run_underlying ht, Result.andThen, run_getObj_map h]
  simp [ents, goInt]
end

theorem look_put (l : List Ent) (k : Int) (v : Value) (c : Nat) (k' : Int) : look (put l k v c) k' = if k = k' then some v else look l k' := by
  induction l with
  | nil =>
    by_cases h : k = k'
    · simp [put, look, h]
    · have : (k == k') = false := by simpa using h
      simp [put, look, h]
  | cons e l ih =>
    unfold put
    by_cases hk : (e.k == k) = true
    · have hk' : e.k = k := by simpa using hk
      rw [if_pos hk]
      by_cases h : k = k'
      · simp [look, h]
      · simp [look, h, hk']
    · rw [if_neg hk]
      simp only [look, List.find?_cons] at ih ⊢
      by_cases h' : (e.k == k') = true
      · have h2 : e.k = k' := by simpa using h'
        have h3 : k ≠ k' := fun x => hk (by simp [h2, x])
        simp [h', h3]
      · have h'' : (e.k == k') = false := by simpa using h'
        rw [h'']
        exact ih

def keys (l : List Ent) : List Int := l.map (·.k)

theorem keys_put (l : List Ent) (k : Int) (v : Value) (c : Nat) : keys (put l k v c) = if (look l k).isSome then keys l else keys l ++ [k] := by
  induction l with
  | nil => rfl
  | cons e l ih =>
    unfold put
    by_cases hk : (e.k == k) = true
    · have hk' : e.k = k := by simpa using hk
      simp [keys, look, hk, hk']
    · have hk' : (e.k == k) = false := by simpa using hk
      have e1 : look (e :: l) k = look l k := by simp [look, List.find?_cons, hk']
      rw [hk', e1]
      simp only [Bool.false_eq_true, if_false]
      show e.k :: keys (put l k v c) = _
      rw [ih]
      split <;> rfl

theorem look_none (l : List Ent) (k : Int) : look l k = none ↔ k ∉ keys l := by
  simp [look, keys]

theorem length_keys (l : List Ent) : (keys l).length = l.length := by simp [keys]
theorem length_put (l : List Ent) (k : Int) (v : Value) (c : Nat) : (put l k v c).length = if (look l k).isSome then l.length else l.length + 1 := by
  rw [← length_keys, keys_put]
  split <;> simp [length_keys]

theorem nodup_put {l : List Ent} (h : (keys l).Nodup) (k : Int) (v : Value) (c : Nat) : (keys (put l k v c)).Nodup := by
  rw [keys_put]
  split
  · exact h
  · rename_i hn
    have : k ∉ keys l := (look_none l k).1 (by simpa using hn)
    rw [List.nodup_append]
    refine ⟨h, by simp, ?_⟩
    rintro a ha b hb rfl
    simp at hb
    subst hb
    exact this ha

theorem keys_del (l : List Ent) (k : Int) : keys (del l k) = (keys l).erase k := by
  induction l with
  | nil => rfl
  | cons e l ih =>
    unfold del
    by_cases hk : (e.k == k) = true
    · simp [keys, hk, List.erase_cons]
    · have hk' : (e.k == k) = false := by simpa using hk
      simp only [keys] at ih
      simp [keys, List.erase_cons, hk', ih]

theorem length_del (l : List Ent) (k : Int) : (del l k).length = if (look l k).isSome then l.length - 1 else l.length := by
  rw [← length_keys, keys_del]
  cases h : look l k with
  | none => rw [List.erase_of_not_mem ((look_none l k).1 h)]; simp [length_keys]
  | some x =>
    have hk : k ∈ keys l := by
      rcases Decidable.em (k ∈ keys l) with h' | h'
      · exact h'
      · rw [(look_none l k).2 h'] at h; cases h
    rw [List.length_erase_of_mem hk]; simp [length_keys]

theorem nodup_del {l : List Ent} (h : (keys l).Nodup) (k : Int) : (keys (del l k)).Nodup := by
  rw [keys_del]; exact h.erase k

theorem look_del {l : List Ent} (h : (keys l).Nodup) (k k' : Int) : look (del l k) k' = if k = k' then none else look l k' := by
  induction l with
  | nil => simp [del, look]
  | cons e l ih =>
    have hn : (keys l).Nodup := by simp [keys] at h ⊢; exact h.2
    have he : e.k ∉ keys l := by simp [keys] at h ⊢; exact h.1
    unfold del
    by_cases hk : (e.k == k) = true
    · have hk' : e.k = k := by simpa using hk
      rw [if_pos hk]
      by_cases hh : k = k'
      · subst hh
        rw [if_pos rfl]
        exact (look_none l k).2 (hk' ▸ he)
      · simp [look, hh, hk']
    · rw [if_neg hk]
      have ih := ih hn
      simp only [look, List.find?_cons] at ih ⊢
      by_cases h' : (e.k == k') = true
      · have h2 : e.k = k' := by simpa using h'
        have h3 : k ≠ k' := fun x => hk (by simp [h2, x])
        simp [h', h3]
      · have h'' : (e.k == k') = false := by simpa using h'
        rw [h'']
        exact ih
end Go.Sg
namespace Go.Sg
open Go.RowKit
/-- 'make([]T, n)'. -/
theorem run_make_len {P : Program} (t e : TypeId) (i : TypeInfo) (z : Value) (ht : P.underlying t = some (.slice e)) (hi : P.info? e = some i) (hz : i.zero = some z) (n : Nat) (hb : i.bytes * n ≤ 281474976710656) (hn : n ≤ 9223372036854775807) (w : World) :
    (Instr.makeSlice t (.int .i64 (n : Int)) (.int .i64 (n : Int))).run P w = .ok (.slice (some ⟨w.heap.size, 0, none⟩) n n) (w.alloc (.cells (madeCells z.cells (n * i.size)) e)) := by
  have hc : (i.bytes : Int) * (n : Int) ≤ 281474976710656 := by
    have h1 : ((i.bytes * n : Nat) : Int) ≤ 281474976710656 := by omega
    rw [Int.natCast_mul] at h1
    exact h1
  have h := run_make (P := P) w t e i z ht hi hz .i64 .i64 n n (by omega) (by omega) hc (by omega)
  rw [Int.toNat_natCast] at h
  exact h
end Go.Sg

namespace Go.Sg
open Go.RowKit
theorem Fr.setNew {S : Nat → Prop} {w w1 : World} (h : Fr S w w1) {b o : Nat} (hb : w.heap.size ≤ b) (v : Value) : Fr S w (w1.setCell ⟨b, o, none⟩ v) := h.setCell (fun h' => absurd h' (by simp; omega)) v
theorem cells2 {w : World} {b : Nat} {x y : Value} {t : TypeId} (h : w.heap[b]? = some (.cells #[x, y] t)) : w.cell? ⟨b, 0, none⟩ = some x ∧ w.cell? ⟨b, 1, none⟩ = some y ∧ (∀ o, w.frozen? ⟨b, o, none⟩ = false) ∧ b < w.heap.size :=
  ⟨by simpa using cell_of_heap h 0, by simpa using cell_of_heap h 1, fun o => frozen_of_heap h o, lt_of_heap h⟩
theorem cells4 {w : World} {b : Nat} {x y z u : Value} {t : TypeId} (h : w.heap[b]? = some (.cells #[x, y, z, u] t)) :
    w.cell? ⟨b, 0, none⟩ = some x ∧ w.cell? ⟨b, 1, none⟩ = some y ∧ w.cell? ⟨b, 2, none⟩ = some z ∧ w.cell? ⟨b, 3, none⟩ = some u ∧ (∀ o, w.frozen? ⟨b, o, none⟩ = false) ∧ b < w.heap.size :=
  ⟨by simpa using cell_of_heap h 0, by simpa using cell_of_heap h 1, by simpa using cell_of_heap h 2, by simpa using cell_of_heap h 3, fun o => frozen_of_heap h o, lt_of_heap h⟩
theorem heap_two {w w' : World} {A B : Obj} (h : (w.alloc A).alloc B = w') : w'.heap[w.heap.size]? = some A ∧ w'.heap[w.heap.size + 1]? = some B ∧ Fr (fun _ => False) w w' := by
  subst h
  refine ⟨?_, ?_, ((Fr.refl _ _).alloc _).alloc _⟩
  · rw [heap_alloc_lt _ _ _ (by simp)]; exact heap_alloc_new _ _
  · have := heap_alloc_new (w.alloc A) B; simpa using this
theorem heap_three {w w' : World} {A B C : Obj} (h : ((w.alloc A).alloc B).alloc C = w') :
    w'.heap[w.heap.size]? = some A ∧ w'.heap[w.heap.size + 1]? = some B ∧ w'.heap[w.heap.size + 1 + 1]? = some C ∧ Fr (fun _ => False) w w' := by
  obtain ⟨w2, hw⟩ : ∃ w2, (w.alloc A).alloc B = w2 := ⟨_, rfl⟩
  obtain ⟨h1, h2, h3⟩ := heap_two hw
  rw [hw] at h
  have hs : w2.heap.size = w.heap.size + 1 + 1 := by rw [← hw]; simp
  subst h
  refine ⟨?_, ?_, ?_, h3.alloc _⟩
  · rw [heap_alloc_lt _ _ _ (lt_of_heap h1)]; exact h1
  · rw [heap_alloc_lt _ _ _ (lt_of_heap h2)]; exact h2
  · have := heap_alloc_new w2 C; rw [hs] at this; exact this
theorem heap_four {w w' : World} {A B C D : Obj} (h : (((w.alloc A).alloc B).alloc C).alloc D = w') :
    w'.heap[w.heap.size]? = some A ∧ w'.heap[w.heap.size + 1]? = some B ∧ w'.heap[w.heap.size + 1 + 1]? = some C ∧ w'.heap[w.heap.size + 1 + 1 + 1]? = some D ∧ Fr (fun _ => False) w w' := by
  obtain ⟨w2, hw⟩ : ∃ w2, ((w.alloc A).alloc B).alloc C = w2 := ⟨_, rfl⟩
  obtain ⟨h1, h2, h3, hF⟩ := heap_three hw
  rw [hw] at h
  have hs : w2.heap.size = w.heap.size + 1 + 1 + 1 := by rw [← hw]; simp
  subst h
  refine ⟨?_, ?_, ?_, ?_, hF.alloc _⟩
  · rw [heap_alloc_lt _ _ _ (lt_of_heap h1)]; exact h1
  · rw [heap_alloc_lt _ _ _ (lt_of_heap h2)]; exact h2
  · rw [heap_alloc_lt _ _ _ (lt_of_heap h3)]; exact h3
  · have := heap_alloc_new w2 D; rw [hs] at this; exact this
theorem cells3 {w : World} {b : Nat} {x y z : Value} {t : TypeId} (h : w.heap[b]? = some (.cells #[x, y, z] t)) :
    w.cell? ⟨b, 0, none⟩ = some x ∧ w.cell? ⟨b, 1, none⟩ = some y ∧ w.cell? ⟨b, 2, none⟩ = some z ∧ (∀ o, w.frozen? ⟨b, o, none⟩ = false) ∧ b < w.heap.size :=
  ⟨by simpa using cell_of_heap h 0, by simpa using cell_of_heap h 1, by simpa using cell_of_heap h 2, fun o => frozen_of_heap h o, lt_of_heap h⟩
theorem heap_ne {w : World} {a b : Nat} {o o' : Obj} (h : w.heap[a]? = some o) (h' : w.heap[b]? = some o') (hne : o ≠ o') : a ≠ b := by
  rintro rfl
  rw [h] at h'
  exact hne (Option.some.inj h')
theorem fr_grown {S : Nat → Prop} {w wr w' : World} {base e size n : Nat} {v : Value} {xs : List Value} {o : Obj} (F : Fr S w wr) (hb : w.heap.size ≤ base) (hown : wr.ownsRow base e size v n xs) (hg : (wr.alloc o).grownBy w' v.ownBlock) : Fr S w w' := by
  refine F.trans (S' := fun b => base ≤ b) ⟨hg.os, hg.tape, hg.output, Nat.le_trans (by simp) hg.size, fun b hb hn => ?_⟩ (fun b hb' h => by omega)
  rw [hg.block b (Nat.lt_of_lt_of_le hb (by simp)) (fun e => hn (hown.lt b e.symm).1)]
  exact heap_alloc_lt _ _ _ hb
/-- A slice of int that reads as ks. -/
def Ints (w : World) (v : Value) (ks : List Int) : Prop :=
  ∃ a cap, v = .slice a ks.length cap ∧ ∀ (i : Nat) (k : Int), ks[i]? = some k → ∃ g, a = some ⟨g, 0, none⟩ ∧ g < w.heap.size ∧ w.cell? ⟨g, i, none⟩ = some (.int .i64 k)
theorem Ints.fr {S : Nat → Prop} {w w' : World} {v : Value} {ks : List Int} (h : Ints w v ks) (F : Fr S w w') (hS : ∀ b, b < w.heap.size → ¬ S b) : Ints w' v ks := by
  obtain ⟨a, cap, e, h⟩ := h
  refine ⟨a, cap, e, fun i k hk => ?_⟩
  obtain ⟨g, ha, hl, hc⟩ := h i k hk
  exact ⟨g, ha, Nat.lt_of_lt_of_le hl F.size, (F.cell (p := ⟨g, i, none⟩) hl (hS g hl)).trans hc⟩
theorem ints_of_own {w : World} {base e : Nat} {v : Value} {ks : List Int} (h : w.ownsRow base e 1 v ks.length (ks.map (Value.int .i64))) : Ints w v ks := by
  obtain ⟨_, ⟨rfl, h0⟩ | ⟨g, cap, cur, rfl, _, hg, _, _, _, ht⟩⟩ := h
  · refine ⟨none, 0, by rw [h0], fun i k hk => ?_⟩
    have := (List.getElem?_eq_some_iff.1 hk).1
    omega
  · refine ⟨_, cap, rfl, fun i k hk => ⟨g, rfl, lt_of_heap hg, ?_⟩⟩
    have hi := (List.getElem?_eq_some_iff.1 hk).1
    rw [cell_of_heap hg]
    have : (cur.toList.take (ks.length * 1))[i]? = some (.int .i64 k) := by rw [ht, List.getElem?_map, hk]; rfl
    rw [List.getElem?_take, if_pos (by omega)] at this
    simpa using this
end Go.Sg
