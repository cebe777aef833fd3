/- A pack of texts: Lib, Clk, CP, CQ, Put. Conditions: those that each text names. -/
import Derived.WalkKit
import Derived.WalkLawsBesides
import Derived.RangeFuncWrites
import Derived.RangeFuncLeaves
import Derived.Below
import Derived.Laws.OwnMore
import Derived.OwnWalk
import Derived.Maps.AppendAt
import Derived.Test.YtgdhaaokolfdoaaGreatDoorProg
import Derived.Deep.QuietTactic
import Derived.BigQuiet
import Derived.RegionTactic
import Derived.BigRegion
import Derived.Deep.LoopGhost
import Derived.Shelf.Abstract
import Derived.OwnWalkIn
import Derived.TacticsInMore
import Derived.LoopNIn
import Derived.LoopIn
import Derived.RangeFuncCalls
import Derived.Sort.BigQuietIn
import Derived.RangeFuncNested
set_option linter.unusedVariables false
set_option linter.unusedSimpArgs false
set_option linter.unnecessarySimpa false
/- A library of our own: frames of worlds, maps keyed by integers by their rows of entries. -/
namespace Go.Sg
open Go.RowKit
@[go_sem] theorem wide_fn (f : FuncId) : Fence.wide.fn f = True := rfl
@[go_sem] theorem wide_round_fn (l : Nat) (f : FuncId) : (Fence.wide.inRound l).fn f = True := rfl
@[go_sem] theorem wide_depth : Fence.wide.depth = none := rfl
theorem hid {p : Prop} (h : p) : Hid p := h

/-- Only the blocks of S, and new ones, have turned. -/
structure Fr (S : Nat → Prop) (w w' : World) : Prop where
  os : w'.os = w.os
  tape : w'.tape = w.tape
  output : w'.output = w.output
  size : w.heap.size ≤ w'.heap.size
  block : ∀ b, b < w.heap.size → ¬ S b → w'.heap[b]? = w.heap[b]?

theorem Fr.refl (S : Nat → Prop) (w : World) : Fr S w w := ⟨rfl, rfl, rfl, Nat.le_refl _, fun _ _ _ => rfl⟩

theorem Fr.trans {S S' : Nat → Prop} {w w1 w2 : World} (h : Fr S w w1) (k : Fr S' w1 w2) (hs : ∀ b, b < w.heap.size → S' b → S b) : Fr S w w2 :=
  ⟨k.os.trans h.os, k.tape.trans h.tape, k.output.trans h.output, Nat.le_trans h.size k.size,
   fun b hb hn => (k.block b (Nat.lt_of_lt_of_le hb h.size) (fun hs' => hn (hs b hb hs'))).trans (h.block b hb hn)⟩

theorem Fr.mono {S S' : Nat → Prop} {w w1 : World} (h : Fr S w w1) (hs : ∀ b, b < w.heap.size → S b → S' b) : Fr S' w w1 :=
  ⟨h.os, h.tape, h.output, h.size, fun b hb hn => h.block b hb (fun hs' => hn (hs b hb hs'))⟩

theorem heap_alloc_lt (w : World) (o : Obj) (b : Nat) (h : b < w.heap.size) : (w.alloc o).heap[b]? = w.heap[b]? := by
  show (w.heap.push o)[b]? = _
  rw [Array.getElem?_push, if_neg (Nat.ne_of_lt h)]
theorem heap_alloc_new (w : World) (o : Obj) : (w.alloc o).heap[w.heap.size]? = some o := by
  show (w.heap.push o)[w.heap.size]? = _
  rw [Array.getElem?_push, if_pos rfl]
theorem heap_setCell_ne (w : World) (a : Addr) (v : Value) (b : Nat) (h : a.block ≠ b) : (w.setCell a v).heap[b]? = w.heap[b]? := by
  simp [World.setCell, Array.getElem?_modify, h]
theorem heap_setCell_cells (w : World) (b o : Nat) (v : Value) {c : Array Value} {t : TypeId} {f : Nat × Nat} (h : w.heap[b]? = some (.cells c t f)) :
    (w.setCell ⟨b, o, none⟩ v).heap[b]? = some (.cells (c.setIfInBounds o v) t f) := by
  simp [World.setCell, Array.getElem?_modify, h]
theorem heap_putObj_ne (w : World) (r : Nat) (o : Obj) (b : Nat) (h : r ≠ b) : (w.putObj r o).heap[b]? = w.heap[b]? := by
  simp [World.putObj, h]
theorem heap_putObj_same (w : World) (r : Nat) (o : Obj) (h : r < w.heap.size) : (w.putObj r o).heap[r]? = some o := by
  simp [World.putObj, h]
theorem lt_of_heap {w : World} {b : Nat} {o : Obj} (h : w.heap[b]? = some o) : b < w.heap.size := (Array.getElem?_eq_some_iff.1 h).1

theorem Fr.alloc {S : Nat → Prop} {w w1 : World} (h : Fr S w w1) (o : Obj) : Fr S w (w1.alloc o) :=
  ⟨h.os, h.tape, h.output, Nat.le_trans h.size (by simp), fun b hb hn => (heap_alloc_lt w1 o b (Nat.lt_of_lt_of_le hb h.size)).trans (h.block b hb hn)⟩
theorem Fr.setCell {S : Nat → Prop} {w w1 : World} (h : Fr S w w1) {a : Addr} (ha : a.block < w.heap.size → S a.block) (v : Value) : Fr S w (w1.setCell a v) :=
  ⟨h.os, h.tape, h.output, by simpa using h.size, fun b hb hn => (heap_setCell_ne w1 a v b (by rintro rfl; exact hn (ha hb))).trans (h.block b hb hn)⟩
theorem Fr.putObj {S : Nat → Prop} {w w1 : World} (h : Fr S w w1) {r : Nat} (ha : r < w.heap.size → S r) (o : Obj) : Fr S w (w1.putObj r o) :=
  ⟨h.os, h.tape, h.output, by simpa [World.putObj] using h.size, fun b hb hn => (heap_putObj_ne w1 r o b (by rintro rfl; exact hn (ha hb))).trans (h.block b hb hn)⟩
theorem Fr.drew {S : Nat → Prop} {w w1 : World} (h : Fr S w w1) : Fr S w w1.drew := ⟨h.os, h.tape, h.output, h.size, h.block⟩
theorem Fr.drewN {S : Nat → Prop} {w w1 : World} (h : Fr S w w1) (n : Nat) : Fr S w (w1.drewN n) := ⟨h.os, h.tape, h.output, h.size, h.block⟩
theorem Fr.heap {S : Nat → Prop} {w w1 : World} (h : Fr S w w1) {b : Nat} {o : Obj} (hb : w.heap[b]? = some o) (hn : ¬ S b) : w1.heap[b]? = some o := (h.block b (lt_of_heap hb) hn).trans hb
theorem Fr.cell {S : Nat → Prop} {w w1 : World} (h : Fr S w w1) {p : Addr} (hb : p.block < w.heap.size) (hn : ¬ S p.block) : w1.cell? p = w.cell? p := World.cell?_of_block (h.block _ hb hn)
theorem Fr.of_below {S : Nat → Prop} {w w1 : World} (h : Below w.heap.size w w1) : Fr S w w1 := ⟨h.os, h.tape, h.output, h.size, fun b hb _ => h.block b hb⟩
theorem Fr.of_grownBy {w w1 : World} {r : Nat} (h : w.grownBy w1 (some r)) : Fr (· = r) w w1 := ⟨h.os, h.tape, h.output, h.size, fun b hb hn => h.block b hb (fun e => hn (by cases e; rfl))⟩
theorem Fr.below {S : Nat → Prop} {w w1 : World} (h : Fr S w w1) (hs : ∀ b, b < w.heap.size → ¬ S b) : Below w.heap.size w w1 :=
  ⟨h.os, h.tape, h.output, h.size, fun b hb => h.block b hb (hs b hb)⟩

theorem cell_of_heap {w : World} {b : Nat} {c : Array Value} {t : TypeId} {f : Nat × Nat} (h : w.heap[b]? = some (.cells c t f)) (o : Nat) : w.cell? ⟨b, o, none⟩ = c[o]? := by
  simp [World.cell?, h]
theorem frozen_of_heap {w : World} {b : Nat} {c : Array Value} {t : TypeId} (h : w.heap[b]? = some (.cells c t (0, 0))) (o : Nat) : w.frozen? ⟨b, o, none⟩ = false := by
  simp [World.frozen?, h]

@[go_sem] theorem heap_drewN (w : World) (n : Nat) : (w.drewN n).heap = w.heap := rfl
@[go_sem] theorem heap_drew (w : World) : w.drew.heap = w.heap := rfl
@[go_sem] theorem heap_setCell_ne' (w : World) (a o : Nat) (v : Value) (b : Nat) (h : a ≠ b) : (w.setCell ⟨a, o, none⟩ v).heap[b]? = w.heap[b]? := heap_setCell_ne w _ v b h
@[go_sem] theorem heap_putObj_ne' (w : World) (r : Nat) (o : Obj) (b : Nat) (h : r ≠ b) : (w.putObj r o).heap[b]? = w.heap[b]? := heap_putObj_ne w r o b h
@[go_sem] theorem cell_putObj (w : World) (r : Nat) (o : Obj) (b i : Nat) (h : r ≠ b) : (w.putObj r o).cell? ⟨b, i, none⟩ = w.cell? ⟨b, i, none⟩ := by
  simp [World.cell?, heap_putObj_ne w r o b h]
@[go_sem] theorem frozen_putObj (w : World) (r : Nat) (o : Obj) (b i : Nat) (h : r ≠ b) : (w.putObj r o).frozen? ⟨b, i, none⟩ = w.frozen? ⟨b, i, none⟩ := by
  simp [World.frozen?, heap_putObj_ne w r o b h]
@[go_sem] theorem size_putObj (w : World) (r : Nat) (o : Obj) : (w.putObj r o).heap.size = w.heap.size := by simp [World.putObj]
@[go_sem] theorem heap_alloc_lt' (w : World) (o : Obj) (b : Nat) (h : b < w.heap.size) : (w.alloc o).heap[b]? = w.heap[b]? := heap_alloc_lt w o b h

/-! ### What a range over a function leaves alone -/
theorem own_block {β : Type} (B : Nat) (b : β → Nat) (o : β → Obj) (h : ∀ s, (o s).isCells = true ∨ b s < B) : OwnFrom B (fun s W => W.heap[b s]? = some (o s)) := by
  intro s W W' row hs hg hr
  refine (hg.block (b s) (lt_of_heap hs) ?_).trans hs
  intro e
  obtain ⟨hB, o', ho', hc⟩ := hr (b s) e.symm
  rcases h s with h | h
  · rw [hs] at ho'; cases ho'; rw [h] at hc; cases hc
  · omega
theorem own_fr {β : Type} {S : Nat → Prop} {w : World} {B : Nat} (hB : w.heap.size ≤ B) : OwnFrom B (fun (_ : β) W => Fr S w W) := by
  intro s W W' row hs hg hr
  exact hs.trans (S' := fun b => W.heap.size ≤ b ∨ B ≤ b) ⟨hg.os, hg.tape, hg.output, hg.size, fun b hb hn => hg.block b hb (fun e => hn (.inr (hr b e.symm).1))⟩
    (fun b hb h => by have := hs.size; omega)
theorem own_pure {β : Type} (B : Nat) (p : β → Prop) : OwnFrom B (fun s (_ : World) => p s) := fun _ _ _ _ hs _ _ => hs
theorem own_and {β : Type} {B : Nat} {I I' : β → World → Prop} (h : OwnFrom B I) (h' : OwnFrom B I') : OwnFrom B (fun s W => I s W ∧ I' s W) := h.and h'
theorem own_ex {β γ : Type} {B : Nat} {I : γ → β → World → Prop} (h : ∀ c, OwnFrom B (I c)) : OwnFrom B (fun s W => ∃ c, I c s W) := by
  rintro s W W' row ⟨c, hc⟩ hg hr
  exact ⟨c, h c s W W' row hc hg hr⟩

/-- A function whose range over a function is over returns. -/
theorem marks_ret1 {n : Nat} {P : Program} {fn : Func} {R : Ending → World → Prop} {tmps : Array Value} {D t : Nat} {W : World} (h : fn.results = #[.tmp t]) (hK : W.heap[D]? = some (.deferred (some [])))
    (hR : R (.returned (tmps.getD t undef)) (W.putObj D (.deferred none))) : bodyPostM Fence.wide n P fn R .ret { tmps := tmps, defers := [{ target := .collected D, args := #[] }] } W :=
  ⟨by simp, .inl ⟨_, _, rfl, run_takeDeferred hK, _, results_tmp h _ _ _, hR⟩⟩

/-! ### Maps whose keys are int -/
structure Ent where
  k : Int
  v : Value
  born : Nat

def Ent.entry (e : Ent) : MapEntry := ⟨.int .i64 e.k, e.v, e.born⟩
def ents (l : List Ent) : Array MapEntry := (l.map Ent.entry).toArray
def look (l : List Ent) (k : Int) : Option Value := (l.find? (·.k == k)).map (·.v)
def put : List Ent → Int → Value → Nat → List Ent
  | [], k, v, c => [⟨k, v, c⟩]
  | e :: l, k, v, c => if e.k == k then ⟨k, v, e.born⟩ :: l else e :: put l k v c
def del : List Ent → Int → List Ent
  | [], _ => []
  | e :: l, k => if e.k == k then l else e :: del l k

theorem findNow_ents (k : Int) (l : List Ent) : ∀ i, Instr.findNow (.int .i64) (.int .i64 k) (l.map Ent.entry) i =
    some ((l.findIdx? (·.k == k)).bind fun j => (l[j]?).map fun e => (i + j, e.v)) := by
  induction l with
  | nil => intro i; rfl
  | cons e l ih =>
    intro i
    simp only [List.map_cons, Instr.findNow, Ent.entry, Instr.sameNow, if_true, List.findIdx?_cons]
    by_cases h : k = e.k
    · subst h; simp
    · have h1 : (k == e.k) = false := by simpa using h
      have h2 : (e.k == k) = false := by simpa using fun x => h x.symm
      rw [h1, h2]
      simp only [Bool.false_eq_true, if_false]
      rw [ih (i + 1)]
      cases l.findIdx? (·.k == k) with
      | none => rfl
      | some j => simp only [Option.map_some, Option.bind_some, List.getElem?_cons_succ]; congr 2; funext e; congr 1; omega

section
variable {P : Program} {T K E : TypeId} {w : World} {bm : Nat} {l : List Ent} {ck : Nat}

theorem run_getObj_map (h : w.heap[bm]? = some (.map (ents l) ck)) : (getObj bm).run P w = .ok (.map (ents l) ck) w := by
  simp [getObj, Sem.run, h]

theorem run_findKey (hk : P.underlying K = some (.int .i64)) (k : Int) : (Instr.findKey K (.int .i64 k) (ents l).toList).run P w =
    .ok ((l.findIdx? (·.k == k)).bind fun j => (l[j]?).map fun e => (j, e.v)) w := by
  simp only [Instr.findKey, Sem.run_bind, run_underlying hk, Result.andThen, ents, findNow_ents, Nat.zero_add]
  rfl

theorem run_checkKey (hk : P.underlying K = some (.int .i64)) (k : Int) (b : Bool) : (Instr.checkKey b 10000 K (.int .i64 k)).run P w = .ok () w := by
  exact MapKept.run_checkKey (n := 9999) hk (by trivial) b

theorem look_eq (l : List Ent) (k : Int) : ((l.findIdx? (·.k == k)).bind fun j => (l[j]?).map fun e => (j, e.v)).map (·.2) = look l k := by
  induction l with
  | nil => rfl
  | cons e l ih =>
    simp only [List.findIdx?_cons, look, List.find?_cons]
    by_cases h : e.k = k
    · subst h; simp
    · have h2 : (e.k == k) = false := by simpa using h
      rw [h2]
      simp only [Bool.false_eq_true, if_false]
      rw [look] at ih
      rw [← ih]
      cases l.findIdx? (·.k == k) with
      | none => rfl
      | some j => simp [Option.map_map]; cases l[j]? <;> rfl

theorem run_lookup {z : Value} (ok : Bool) (ht : P.underlying T = some (.map K E)) (hk : P.underlying K = some (.int .i64)) (hz : ∀ w, (zeroValue E).run P w = .ok z w)
    (h : w.heap[bm]? = some (.map (ents l) ck)) (k : Int) :
    (Instr.lookup T (.map (some bm)) (.int .i64 k) ok).run P w =
      .ok (if ok then .tuple #[(look l k).getD z, .bool (look l k).isSome] else (look l k).getD z) w := by
  simp only [Instr.lookup, Sem.run_bind, run_underlying ht, Result.andThen, run_getObj_map h, run_checkKey hk, run_findKey hk, Sem.run_pure]
  have e := look_eq l k
  cases hf : ((l.findIdx? (·.k == k)).bind fun j => (l[j]?).map fun e => (j, e.v)) with
  | none => rw [hf] at e; rw [← e]; simp [hz]
  | some x => rw [hf] at e; rw [← e]; cases ok <;> rfl

theorem put_some (k : Int) (v : Value) (c : Nat) : ∀ (l : List Ent) (j : Nat), l.findIdx? (·.k == k) = some j →
    (l.map Ent.entry).modify j (fun e => { e with key := .int .i64 k, val := v }) = (put l k v c).map Ent.entry ∧ ∃ e, l[j]? = some e ∧ e.k = k
  | [], j, h => by simp at h
  | e :: l, j, h => by
    rw [List.findIdx?_cons] at h
    by_cases hk : (e.k == k) = true
    · rw [hk] at h
      simp only [if_true, Option.some.injEq] at h
      subst h
      have hk' : e.k = k := by simpa using hk
      exact ⟨by simp [put, hk, Ent.entry], e, rfl, hk'⟩
    · have hk' : (e.k == k) = false := by simpa using hk
      rw [hk'] at h
      simp only [Bool.false_eq_true, if_false, Option.map_eq_some_iff] at h
      obtain ⟨i, hi, rfl⟩ := h
      obtain ⟨h1, h2⟩ := put_some k v c l i hi
      exact ⟨by simp [put, hk', h1], by simpa using h2⟩

theorem put_none (k : Int) (v : Value) (c : Nat) : ∀ (l : List Ent), l.findIdx? (·.k == k) = none → put l k v c = l ++ [⟨k, v, c⟩]
  | [], _ => rfl
  | e :: l, h => by
    rw [List.findIdx?_cons] at h
    by_cases hk : (e.k == k) = true
    · rw [hk] at h; simp at h
    · have hk' : (e.k == k) = false := by simpa using hk
      rw [hk'] at h
      simp only [Bool.false_eq_true, if_false, Option.map_eq_none_iff] at h
      simp [put, hk', put_none k v c l h]

theorem look_isSome (l : List Ent) (k : Int) : (look l k).isSome = (l.findIdx? (·.k == k)).isSome := by
  induction l with
  | nil => rfl
  | cons e l ih =>
    simp only [look, List.find?_cons, List.findIdx?_cons]
    by_cases hk : (e.k == k) = true
    · simp [hk]
    · have hk' : (e.k == k) = false := by simpa using hk
      rw [hk']
      simp only [look] at ih
      simp [ih]

theorem run_keyThatStays (k : Int) : (Instr.keyThatStays (.int .i64 k) (.int .i64 k)).run P w = .ok (.int .i64 k) w := by
  simp [Instr.keyThatStays, Instr.sameBits]

theorem run_setObj_map' {o o' : Obj} (h : w.heap[bm]? = some o) (ho : o.isCells = false) : (setObj bm o').run P w = .ok () (w.putObj bm o') := by
  cases o <;> first | (simp [Obj.isCells] at ho; done) | simp [setObj, Sem.run, h, World.putObj]

/-- The map's clock behind a put. -/
def bump (l : List Ent) (k : Int) (ck : Nat) : Nat := if (look l k).isSome then ck else ck + 1

theorem run_mapUpdate (ht : P.underlying T = some (.map K E)) (hk : P.underlying K = some (.int .i64))
    (h : w.heap[bm]? = some (.map (ents l) ck)) (k : Int) (v : Value) :
    (Instr.mapUpdate T (.map (some bm)) (.int .i64 k) v).run P w =
      .ok () (w.putObj bm (.map (ents (put l k v ck)) (bump l k ck))) := by
  unfold bump
  simp only [Instr.mapUpdate, Sem.run_bind, run_underlying ht, Result.andThen, run_getObj_map h, run_checkKey hk, run_findKey hk]
  rw [look_isSome]
  cases hf : l.findIdx? (·.k == k) with
  | none =>
    simp only [Option.bind_none]
    rw [run_setObj_map' h rfl, put_none k v ck l hf]
    simp [ents, Ent.entry]
  | some j =>
    obtain ⟨h1, e, h2, h3⟩ := put_some k v ck l j hf
    have h4 : (((ents l)[j]?).map (·.key)).getD (.int .i64 k) = .int .i64 k := by simp [ents, h2, Ent.entry, h3]
    simp only [Option.bind_some, h2, Option.map_some]
    rw [h4]
    simp only [Sem.run_bind, run_keyThatStays, Result.andThen]
    rw [run_setObj_map' h rfl]
    simp only [Option.isSome_some, if_true]
    congr 3
    rw [ents, ents, ← h1]
    simp

theorem del_some (k : Int) : ∀ (l : List Ent) (j : Nat), l.findIdx? (·.k == k) = some j → (l.map Ent.entry).eraseIdx j = (del l k).map Ent.entry
  | [], j, h => by simp at h
  | e :: l, j, h => by
    rw [List.findIdx?_cons] at h
    by_cases hk : (e.k == k) = true
    · rw [hk] at h
      simp only [if_true, Option.some.injEq] at h
      subst h
      simp [del, hk]
    · have hk' : (e.k == k) = false := by simpa using hk
      rw [hk'] at h
      simp only [Bool.false_eq_true, if_false, Option.map_eq_some_iff] at h
      obtain ⟨i, hi, rfl⟩ := h
      simp [del, hk', del_some k l i hi]

theorem del_none (k : Int) : ∀ (l : List Ent), l.findIdx? (·.k == k) = none → del l k = l
  | [], _ => rfl
  | e :: l, h => by
    rw [List.findIdx?_cons] at h
    by_cases hk : (e.k == k) = true
    · rw [hk] at h; simp at h
    · have hk' : (e.k == k) = false := by simpa using hk
      rw [hk'] at h
      simp only [Bool.false_eq_true, if_false, Option.map_eq_none_iff] at h
      simp [del, hk', del_none k l h]

theorem run_delete (ht : P.underlying T = some (.map K E)) (hk : P.underlying K = some (.int .i64))
    (h : w.heap[bm]? = some (.map (ents l) ck)) (k : Int) (t' : TypeId) (ts : Array TypeId) (hts : ts[0]? = some T) :
    (Builtin.delete_ ts t' #[.map (some bm), .int .i64 k]).run P w = .ok (.tuple #[]) (w.putObj bm (.map (ents (del l k)) ck)) := by
  simp only [Builtin.delete_, hts]
  simp only [List.getElem?_toArray, List.getElem?_cons_zero, List.getElem?_cons_succ, Sem.run_bind, run_underlying ht, Result.andThen, run_getObj_map h, run_checkKey hk, run_findKey hk]
  cases hf : l.findIdx? (·.k == k) with
  | none =>
    simp only [Option.bind_none, Sem.run_bind]
    rw [run_setObj_map' h rfl, del_none k l hf]
    rfl
  | some j =>
    obtain ⟨h1, e, h2, h3⟩ := put_some k (.bool true) ck l j hf
    simp only [Option.bind_some, h2, Option.map_some, Sem.run_bind]
    rw [run_setObj_map' h rfl]
    have := del_some k l j hf
    simp only [Result.andThen]
    congr 3
    rw [ents, ents, ← this]
    have hj : j < (l.map Ent.entry).toArray.size := by
      have := (List.getElem?_eq_some_iff.1 h2).1
      simpa using this
    simp [Array.eraseIdxIfInBounds, hj]
    have := (List.getElem?_eq_some_iff.1 h2).1
    simp [this]

end

theorem look_put (l : List Ent) (k : Int) (v : Value) (c : Nat) (k' : Int) : look (put l k v c) k' = if k = k' then some v else look l k' := by
  induction l with
  | nil =>
    by_cases h : k = k'
    · simp [put, look, h]
    · have : (k == k') = false := by simpa using h
      simp [put, look, h]
  | cons e l ih =>
    unfold put
    by_cases hk : (e.k == k) = true
    · have hk' : e.k = k := by simpa using hk
      rw [if_pos hk]
      by_cases h : k = k'
      · simp [look, h]
      · simp [look, h, hk']
    · rw [if_neg hk]
      simp only [look, List.find?_cons] at ih ⊢
      by_cases h' : (e.k == k') = true
      · have h2 : e.k = k' := by simpa using h'
        have h3 : k ≠ k' := fun x => hk (by simp [h2, x])
        simp [h', h3]
      · have h'' : (e.k == k') = false := by simpa using h'
        rw [h'']
        exact ih

def keys (l : List Ent) : List Int := l.map (·.k)

theorem keys_put (l : List Ent) (k : Int) (v : Value) (c : Nat) : keys (put l k v c) = if (look l k).isSome then keys l else keys l ++ [k] := by
  induction l with
  | nil => rfl
  | cons e l ih =>
    unfold put
    by_cases hk : (e.k == k) = true
    · have hk' : e.k = k := by simpa using hk
      simp [keys, look, hk, hk']
    · have hk' : (e.k == k) = false := by simpa using hk
      have e1 : look (e :: l) k = look l k := by simp [look, List.find?_cons, hk']
      rw [hk', e1]
      simp only [Bool.false_eq_true, if_false]
      show e.k :: keys (put l k v c) = _
      rw [ih]
      split <;> rfl

theorem look_none (l : List Ent) (k : Int) : look l k = none ↔ k ∉ keys l := by
  simp [look, keys]

theorem length_keys (l : List Ent) : (keys l).length = l.length := by simp [keys]
theorem length_put (l : List Ent) (k : Int) (v : Value) (c : Nat) : (put l k v c).length = if (look l k).isSome then l.length else l.length + 1 := by
  rw [← length_keys, keys_put]
  split <;> simp [length_keys]

theorem nodup_put {l : List Ent} (h : (keys l).Nodup) (k : Int) (v : Value) (c : Nat) : (keys (put l k v c)).Nodup := by
  rw [keys_put]
  split
  · exact h
  · rename_i hn
    have : k ∉ keys l := (look_none l k).1 (by simpa using hn)
    rw [List.nodup_append]
    refine ⟨h, by simp, ?_⟩
    rintro a ha b hb rfl
    simp at hb
    subst hb
    exact this ha

theorem keys_del (l : List Ent) (k : Int) : keys (del l k) = (keys l).erase k := by
  induction l with
  | nil => rfl
  | cons e l ih =>
    unfold del
    by_cases hk : (e.k == k) = true
    · simp [keys, hk, List.erase_cons]
    · have hk' : (e.k == k) = false := by simpa using hk
      simp only [keys] at ih
      simp [keys, List.erase_cons, hk', ih]

theorem length_del (l : List Ent) (k : Int) : (del l k).length = if (look l k).isSome then l.length - 1 else l.length := by
  rw [← length_keys, keys_del]
  cases h : look l k with
  | none => rw [List.erase_of_not_mem ((look_none l k).1 h)]; simp [length_keys]
  | some x =>
    have hk : k ∈ keys l := by
      rcases Decidable.em (k ∈ keys l) with h' | h'
      · exact h'
      · rw [(look_none l k).2 h'] at h; cases h
    rw [List.length_erase_of_mem hk]; simp [length_keys]

theorem nodup_del {l : List Ent} (h : (keys l).Nodup) (k : Int) : (keys (del l k)).Nodup := by
  rw [keys_del]; exact h.erase k

theorem look_del {l : List Ent} (h : (keys l).Nodup) (k k' : Int) : look (del l k) k' = if k = k' then none else look l k' := by
  induction l with
  | nil => simp [del, look]
  | cons e l ih =>
    have hn : (keys l).Nodup := by simp [keys] at h ⊢; exact h.2
    have he : e.k ∉ keys l := by simp [keys] at h ⊢; exact h.1
    unfold del
    by_cases hk : (e.k == k) = true
    · have hk' : e.k = k := by simpa using hk
      rw [if_pos hk]
      by_cases hh : k = k'
      · subst hh
        rw [if_pos rfl]
        exact (look_none l k).2 (hk' ▸ he)
      · simp [look, hh, hk']
    · rw [if_neg hk]
      have ih := ih hn
      simp only [look, List.find?_cons] at ih ⊢
      by_cases h' : (e.k == k') = true
      · have h2 : e.k = k' := by simpa using h'
        have h3 : k ≠ k' := fun x => hk (by simp [h2, x])
        simp [h', h3]
      · have h'' : (e.k == k') = false := by simpa using h'
        rw [h'']
        exact ih
end Go.Sg
namespace Go.Sg
open Go.RowKit
/-- 'make([]T, n)'. -/
theorem run_make_len {P : Program} (t e : TypeId) (i : TypeInfo) (z : Value) (ht : P.underlying t = some (.slice e)) (hi : P.info? e = some i) (hz : i.zero = some z) (n : Nat) (hb : i.bytes * n ≤ 281474976710656) (hn : n ≤ 9223372036854775807) (w : World) :
    (Instr.makeSlice t (.int .i64 (n : Int)) (.int .i64 (n : Int))).run P w = .ok (.slice (some ⟨w.heap.size, 0, none⟩) n n) (w.alloc (.cells (madeCells z.cells (n * i.size)) e)) := by
  have hc : (i.bytes : Int) * (n : Int) ≤ 281474976710656 := by
    have h1 : ((i.bytes * n : Nat) : Int) ≤ 281474976710656 := by omega
    rw [Int.natCast_mul] at h1
    exact h1
  have h := run_make (P := P) w t e i z ht hi hz .i64 .i64 n n (by omega) (by omega) hc (by omega)
  rw [Int.toNat_natCast] at h
  exact h
end Go.Sg

namespace Go.Sg
open Go.RowKit
theorem Fr.setNew {S : Nat → Prop} {w w1 : World} (h : Fr S w w1) {b o : Nat} (hb : w.heap.size ≤ b) (v : Value) : Fr S w (w1.setCell ⟨b, o, none⟩ v) := h.setCell (fun h' => absurd h' (by simp; omega)) v
theorem cells2 {w : World} {b : Nat} {x y : Value} {t : TypeId} (h : w.heap[b]? = some (.cells #[x, y] t)) : w.cell? ⟨b, 0, none⟩ = some x ∧ w.cell? ⟨b, 1, none⟩ = some y ∧ (∀ o, w.frozen? ⟨b, o, none⟩ = false) ∧ b < w.heap.size :=
  ⟨by simpa using cell_of_heap h 0, by simpa using cell_of_heap h 1, fun o => frozen_of_heap h o, lt_of_heap h⟩
theorem cells4 {w : World} {b : Nat} {x y z u : Value} {t : TypeId} (h : w.heap[b]? = some (.cells #[x, y, z, u] t)) :
    w.cell? ⟨b, 0, none⟩ = some x ∧ w.cell? ⟨b, 1, none⟩ = some y ∧ w.cell? ⟨b, 2, none⟩ = some z ∧ w.cell? ⟨b, 3, none⟩ = some u ∧ (∀ o, w.frozen? ⟨b, o, none⟩ = false) ∧ b < w.heap.size :=
  ⟨by simpa using cell_of_heap h 0, by simpa using cell_of_heap h 1, by simpa using cell_of_heap h 2, by simpa using cell_of_heap h 3, fun o => frozen_of_heap h o, lt_of_heap h⟩
theorem heap_two {w w' : World} {A B : Obj} (h : (w.alloc A).alloc B = w') : w'.heap[w.heap.size]? = some A ∧ w'.heap[w.heap.size + 1]? = some B ∧ Fr (fun _ => False) w w' := by
  subst h
  refine ⟨?_, ?_, ((Fr.refl _ _).alloc _).alloc _⟩
  · rw [heap_alloc_lt _ _ _ (by simp)]; exact heap_alloc_new _ _
  · have := heap_alloc_new (w.alloc A) B; simpa using this
theorem heap_three {w w' : World} {A B C : Obj} (h : ((w.alloc A).alloc B).alloc C = w') :
    w'.heap[w.heap.size]? = some A ∧ w'.heap[w.heap.size + 1]? = some B ∧ w'.heap[w.heap.size + 1 + 1]? = some C ∧ Fr (fun _ => False) w w' := by
  obtain ⟨w2, hw⟩ : ∃ w2, (w.alloc A).alloc B = w2 := ⟨_, rfl⟩
  obtain ⟨h1, h2, h3⟩ := heap_two hw
  rw [hw] at h
  have hs : w2.heap.size = w.heap.size + 1 + 1 := by rw [← hw]; simp
  subst h
  refine ⟨?_, ?_, ?_, h3.alloc _⟩
  · rw [heap_alloc_lt _ _ _ (lt_of_heap h1)]; exact h1
  · rw [heap_alloc_lt _ _ _ (lt_of_heap h2)]; exact h2
  · have := heap_alloc_new w2 C; rw [hs] at this; exact this
theorem cells3 {w : World} {b : Nat} {x y z : Value} {t : TypeId} (h : w.heap[b]? = some (.cells #[x, y, z] t)) :
    w.cell? ⟨b, 0, none⟩ = some x ∧ w.cell? ⟨b, 1, none⟩ = some y ∧ w.cell? ⟨b, 2, none⟩ = some z ∧ (∀ o, w.frozen? ⟨b, o, none⟩ = false) ∧ b < w.heap.size :=
  ⟨by simpa using cell_of_heap h 0, by simpa using cell_of_heap h 1, by simpa using cell_of_heap h 2, fun o => frozen_of_heap h o, lt_of_heap h⟩
theorem heap_ne {w : World} {a b : Nat} {o o' : Obj} (h : w.heap[a]? = some o) (h' : w.heap[b]? = some o') (hne : o ≠ o') : a ≠ b := by
  rintro rfl
  rw [h] at h'
  exact hne (Option.some.inj h')
theorem fr_grown {S : Nat → Prop} {w wr w' : World} {base e size n : Nat} {v : Value} {xs : List Value} {o : Obj} (F : Fr S w wr) (hb : w.heap.size ≤ base) (hown : wr.ownsRow base e size v n xs) (hg : (wr.alloc o).grownBy w' v.ownBlock) : Fr S w w' := by
  refine F.trans (S' := fun b => base ≤ b) ⟨hg.os, hg.tape, hg.output, Nat.le_trans (by simp) hg.size, fun b hb hn => ?_⟩ (fun b hb' h => by omega)
  rw [hg.block b (Nat.lt_of_lt_of_le hb (by simp)) (fun e => hn (hown.lt b e.symm).1)]
  exact heap_alloc_lt _ _ _ hb
/-- A slice of int that reads as ks. -/
def Ints (w : World) (v : Value) (ks : List Int) : Prop :=
  ∃ a cap, v = .slice a ks.length cap ∧ ∀ (i : Nat) (k : Int), ks[i]? = some k → ∃ g, a = some ⟨g, 0, none⟩ ∧ g < w.heap.size ∧ w.cell? ⟨g, i, none⟩ = some (.int .i64 k)
theorem Ints.fr {S : Nat → Prop} {w w' : World} {v : Value} {ks : List Int} (h : Ints w v ks) (F : Fr S w w') (hS : ∀ b, b < w.heap.size → ¬ S b) : Ints w' v ks := by
  obtain ⟨a, cap, e, h⟩ := h
  refine ⟨a, cap, e, fun i k hk => ?_⟩
  obtain ⟨g, ha, hl, hc⟩ := h i k hk
  exact ⟨g, ha, Nat.lt_of_lt_of_le hl F.size, (F.cell (p := ⟨g, i, none⟩) hl (hS g hl)).trans hc⟩
theorem ints_of_own {w : World} {base e : Nat} {v : Value} {ks : List Int} (h : w.ownsRow base e 1 v ks.length (ks.map (Value.int .i64))) : Ints w v ks := by
  obtain ⟨_, ⟨rfl, h0⟩ | ⟨g, cap, cur, rfl, _, hg, _, _, _, ht⟩⟩ := h
  · refine ⟨none, 0, by rw [h0], fun i k hk => ?_⟩
    have := (List.getElem?_eq_some_iff.1 hk).1
    omega
  · refine ⟨_, cap, rfl, fun i k hk => ⟨g, rfl, lt_of_heap hg, ?_⟩⟩
    have hi := (List.getElem?_eq_some_iff.1 hk).1
    rw [cell_of_heap hg]
    have : (cur.toList.take (ks.length * 1))[i]? = some (.int .i64 k) := by rw [ht, List.getElem?_map, hk]; rfl
    rw [List.getElem?_take, if_pos (by omega)] at this
    simpa using this
end Go.Sg

/- The clock's plain model: a ring of places. -/
namespace Go.Sg.Clk
open Go.RowKit

/-- A page that is in memory. -/
structure Pg where
  stamp : Int
  la : Option Addr
  ll : Nat
  lc : Nat
  dirty : Bool
abbrev Pg.load (p : Pg) : Value := .slice p.la p.ll p.lc
abbrev Pg.val (p : Pg) : Value := .agg #[.int .i64 p.stamp, p.load, .bool p.dirty]
def Pg.zero : Pg := ⟨0, none, 0, 0, false⟩
structure Pl where
  key : Int
  v : Pg
  full : Bool
  marked : Bool

def Pl.cells (p : Pl) : List Value := [.int .i64 p.key, .int .i64 p.v.stamp, p.v.load, .bool p.v.dirty, .bool p.full, .bool p.marked]
def cellsOf (pl : List Pl) : Array Value := (pl.flatMap Pl.cells).toArray
def Pl.none (z : Pg) : Pl := ⟨0, z, false, false⟩

theorem flat_get : ∀ (pl : List Pl) (i j : Nat) (p : Pl), pl[i]? = some p → j < 6 → (pl.flatMap Pl.cells)[i * 6 + j]? = p.cells[j]?
  | [], i, j, p, h, _ => by simp at h
  | q :: pl, 0, j, p, h, hj => by
    simp at h; subst h
    simp only [List.flatMap_cons, Nat.zero_mul, Nat.zero_add]
    rw [List.getElem?_append_left (by simp [Pl.cells]; omega)]
  | q :: pl, i + 1, j, p, h, hj => by
    simp only [List.flatMap_cons]
    rw [List.getElem?_append_right (by simp [Pl.cells]; omega)]
    have := flat_get pl i j p (by simpa using h) hj
    rw [← this]
    congr 1
    simp [Pl.cells]; omega

theorem cells_get {pl : List Pl} {i : Nat} {p : Pl} (h : pl[i]? = some p) (j : Nat) (hj : j < 6) : (cellsOf pl)[i * 6 + j]? = p.cells[j]? := by
  simpa [cellsOf] using flat_get pl i j p h hj

theorem flat_len (pl : List Pl) : (pl.flatMap Pl.cells).length = pl.length * 6 := by
  induction pl with
  | nil => rfl
  | cons p pl ih => simp only [List.flatMap_cons, List.length_append, ih, List.length_cons]; simp [Pl.cells]; omega
theorem size_cells (pl : List Pl) : (cellsOf pl).size = pl.length * 6 := by simp only [cellsOf, List.size_toArray, flat_len]

theorem flat_set : ∀ (pl : List Pl) (i j : Nat) (v : Value) (p q : Pl), pl[i]? = some p → j < 6 → p.cells.set j v = q.cells →
    (pl.flatMap Pl.cells).set (i * 6 + j) v = (pl.set i q).flatMap Pl.cells
  | [], i, j, v, p, q, h, _, _ => by simp at h
  | r :: pl, 0, j, v, p, q, h, hj, hq => by
    simp at h; subst h
    simp only [List.flatMap_cons, Nat.zero_mul, Nat.zero_add, List.set_cons_zero]
    rw [List.set_append_left _ _ (by simp [Pl.cells]; omega), hq]
  | r :: pl, i + 1, j, v, p, q, h, hj, hq => by
    simp only [List.flatMap_cons, List.set_cons_succ]
    rw [List.set_append_right _ _ (by simp [Pl.cells]; omega)]
    have := flat_set pl i j v p q (by simpa using h) hj hq
    rw [← this]
    congr 2
    simp [Pl.cells]; omega

theorem cells_set {pl : List Pl} {i : Nat} {p : Pl} (h : pl[i]? = some p) (j : Nat) (hj : j < 6) (v : Value) (q : Pl) (hq : p.cells.set j v = q.cells) :
    (cellsOf pl).setIfInBounds (i * 6 + j) v = cellsOf (pl.set i q) := by
  simp [cellsOf, flat_set pl i j v p q h hj hq]

/-- The place of a number. -/
def find (pl : List Pl) (key : Int) : Option Nat := pl.findIdx? fun p => p.full && p.key == key

/-- No two things have one number. -/
def Nd (pl : List Pl) : Prop := ∀ (i j : Nat) (p q : Pl), pl[i]? = some p → pl[j]? = some q → p.full = true → q.full = true → p.key = q.key → i = j

structure At (tc tp : TypeId) (ok : Pg → Prop) (w : World) (bc bp bm : Nat) (pl : List Pl) (hand : Nat) : Prop where
  c : w.heap[bc]? = some (.cells #[.slice (some ⟨bp, 0, none⟩) pl.length pl.length, .map (some bm), .int .i64 hand] tc)
  p : w.heap[bp]? = some (.cells (cellsOf pl) tp)
  m : ∃ l ck, w.heap[bm]? = some (.map (ents l) ck) ∧ (keys l).Nodup ∧ (∀ k, look l k = (find pl k).map fun i => .int .i64 i) ∧ l.length = pl.countP (·.full)
  room : 1 ≤ pl.length ∧ pl.length ≤ 4096
  hand : hand < pl.length
  vs : ∀ p ∈ pl, ok p.v
  nd : Nd pl

theorem find_some {pl : List Pl} {key : Int} {i : Nat} (h : find pl key = some i) : ∃ p, pl[i]? = some p ∧ p.full = true ∧ p.key = key := by
  rw [find, List.findIdx?_eq_some_iff_getElem] at h
  obtain ⟨hi, hp, _⟩ := h
  simp at hp
  exact ⟨pl[i], by simp, hp.1, hp.2⟩

end Go.Sg.Clk
namespace Go.Sg.Clk
/-- The places that are, with their numbers. -/
def fullAt (k : Nat) (pl : List Pl) : List (Nat × Pl) := (((List.range k).map fun i => (i, pl[i]?)).filterMap fun x => x.2.bind fun p => if p.full then some (x.1, p) else none)

theorem fullAt_succ (k : Nat) (pl : List Pl) (p : Pl) (h : pl[k]? = some p) : fullAt (k + 1) pl = if p.full then fullAt k pl ++ [(k, p)] else fullAt k pl := by
  simp only [fullAt, List.range_succ, List.map_append, List.map_cons, List.map_nil, List.filterMap_append, List.filterMap_cons, List.filterMap_nil, h, Option.bind_some]
  cases p.full <;> simp

theorem fullAt_len (k : Nat) (pl : List Pl) : (fullAt k pl).length ≤ k := by
  refine Nat.le_trans (List.length_filterMap_le _ _) ?_
  simp

theorem fullAt_prefix (pl : List Pl) : ∀ (k m : Nat), k ≤ m → m ≤ pl.length → fullAt k pl <+: fullAt m pl := by
  intro k m h hm
  induction m with
  | zero => obtain rfl : k = 0 := by omega
            exact List.prefix_rfl
  | succ m ih =>
    by_cases hk : k = m + 1
    · subst hk; exact List.prefix_rfl
    · have := ih (by omega) (by omega)
      have hp : pl[m]? = some pl[m] := List.getElem?_eq_getElem (by omega)
      rw [fullAt_succ m pl _ hp]
      split
      · exact this.trans (List.prefix_append _ _)
      · exact this
end Go.Sg.Clk
namespace Go.Sg.Clk

/-- The first place that is empty. -/
def empty (pl : List Pl) : Option Nat := pl.findIdx? fun p => !p.full
def emptyI (pl : List Pl) : Int := match empty pl with
  | some i => i
  | none => -1
theorem emptyI_some {pl : List Pl} {i : Nat} (h : empty pl = some i) : emptyI pl = i := by rw [emptyI, h]
theorem emptyI_none {pl : List Pl} (h : empty pl = none) : emptyI pl = -1 := by rw [emptyI, h]
def isFull (pl : List Pl) (i : Nat) : Bool := (pl[i]?).any (·.full)
def fulls (k : Nat) (pl : List Pl) : List Nat := (List.range k).filter (isFull pl)

theorem fullAt_fst (k : Nat) (pl : List Pl) (hk : k ≤ pl.length) : (fullAt k pl).map (·.1) = fulls k pl := by
  induction k with
  | zero => rfl
  | succ k ih =>
    have hp : pl[k]? = some pl[k] := List.getElem?_eq_getElem (by omega)
    rw [fullAt_succ k pl _ hp, fulls, List.range_succ, List.filter_append]
    have ih := ih (by omega)
    rw [fulls] at ih
    cases hf : (pl[k]).full with
    | true => simp [ih, isFull, hp, hf]
    | false => simp [ih, isFull, hp, hf]

theorem empty_none {pl : List Pl} (h : ∀ i, i < pl.length → isFull pl i = true) : empty pl = none := by
  rw [empty, List.findIdx?_eq_none_iff]
  intro p hp
  obtain ⟨i, hi, rfl⟩ := List.getElem_of_mem hp
  have := h i hi
  simpa [isFull, hi] using this

theorem empty_some {pl : List Pl} {k : Nat} (hk : k < pl.length) (h : ∀ i, i < k → isFull pl i = true) (hn : isFull pl k = false) : empty pl = some k := by
  rw [empty, List.findIdx?_eq_some_iff_getElem]
  refine ⟨hk, by simpa [isFull, hk] using hn, fun j hj => ?_⟩
  have := h j hj
  simpa [isFull, show j < pl.length by omega] using this

theorem empty_of_done {pl : List Pl} (h : (fullAt pl.length pl).map (·.1) = List.range (fullAt pl.length pl).length) :
    empty pl = if (fullAt pl.length pl).length = pl.length then none else some (fullAt pl.length pl).length := by
  rw [fullAt_fst _ _ (Nat.le_refl _)] at h
  have hle := fullAt_len pl.length pl
  generalize (fullAt pl.length pl).length = m at *
  have mem : ∀ i, i < pl.length → (isFull pl i = true ↔ i < m) := fun i hi => by
    have h1 : i ∈ fulls pl.length pl ↔ i < m := by rw [h]; simp
    rw [← h1, fulls, List.mem_filter]
    simp [hi]
  split
  · subst m; exact empty_none fun i hi => (mem i hi).2 hi
  · exact empty_some (by omega) (fun i hi => (mem i (by omega)).2 hi) (by have := mem m (by omega); simpa using this)

theorem empty_of_stop {pl : List Pl} {pre : List (Nat × Pl)} {x : Nat × Pl} (hp : pre ++ [x] <+: fullAt pl.length pl) (hpre : pre.map (·.1) = List.range pre.length) (hx : x.1 ≠ pre.length) :
    empty pl = some pre.length ∧ pre.length < pl.length := by
  obtain ⟨rest, hrest⟩ := hp
  have h : List.range pre.length ++ (x.1 :: rest.map (·.1)) = fulls pl.length pl := by
    rw [← fullAt_fst _ _ (Nat.le_refl _), ← hrest]; simp [hpre]
  have hs : (fulls pl.length pl).Pairwise (· < ·) := List.Pairwise.filter _ List.pairwise_lt_range
  rw [← h, List.pairwise_append] at hs
  obtain ⟨-, h2, h3⟩ := hs
  rw [List.pairwise_cons] at h2
  have hge : pre.length ≤ x.1 := by
    rcases Nat.lt_or_ge x.1 pre.length with h' | h'
    · have := h3 x.1 (by simpa using h') x.1 (by simp); omega
    · exact h'
  have hmem : ∀ i, i ∈ List.range pre.length ++ (x.1 :: rest.map (·.1)) ↔ i < pl.length ∧ isFull pl i = true := fun i => by rw [h, fulls]; simp
  have hxl : x.1 < pl.length := ((hmem x.1).1 (by simp)).1
  refine ⟨empty_some (by omega) (fun i hi => ((hmem i).1 (by simp; exact .inl hi)).2) ?_, by omega⟩
  cases hf : isFull pl pre.length with
  | false => rfl
  | true =>
    have := (hmem pre.length).2 ⟨by omega, hf⟩
    simp at this
    rcases this with h' | ⟨a, h'⟩
    · omega
    · have := h2.1 pre.length (by simp; exact ⟨a, h'⟩); omega

/-- The clock's hand goes on till a place that is not marked. -/
def spin : Nat → List Pl → Nat → List Pl × Nat
  | 0, pl, h => (pl, h)
  | f + 1, pl, h => match pl[h]? with
    | some p => if p.marked then spin f (pl.set h { p with marked := false }) ((h + 1) % pl.length) else (pl, h)
    | none => (pl, h)

structure Put where
  pl : List Pl
  hand : Nat
  gone : Option Pl

/-- What a put leaves. -/
def putM (pl : List Pl) (hand : Nat) (key : Int) (v : Pg) : Put :=
  match find pl key with
  | some i => ⟨pl.set i ⟨key, v, true, true⟩, hand, none⟩
  | none => match empty pl with
    | some i => ⟨pl.set i ⟨key, v, true, true⟩, hand, none⟩
    | none => let s := spin pl.length pl hand
      ⟨s.1.set s.2 ⟨key, v, true, true⟩, (s.2 + 1) % pl.length, s.1[s.2]?⟩
end Go.Sg.Clk

namespace Go.Sg.Clk
open Go.RowKit
theorem find_iff {pl : List Pl} (hn : Nd pl) (k : Int) (i : Nat) : find pl k = some i ↔ ∃ p, pl[i]? = some p ∧ p.full = true ∧ p.key = k := by
  constructor
  · exact find_some
  · rintro ⟨p, hp, hf, hk⟩
    cases h : find pl k with
    | none =>
      rw [find, List.findIdx?_eq_none_iff] at h
      have := h p (List.mem_of_getElem? hp)
      simp [hf, hk] at this
    | some j =>
      obtain ⟨q, hq, hqf, hqk⟩ := find_some h
      rw [hn i j p q hp hq hf hqf (by rw [hk, hqk])]

theorem find_eq {pl : List Pl} (hn : Nd pl) {k : Int} {x : Option Nat} (h : ∀ i, (∃ p, pl[i]? = some p ∧ p.full = true ∧ p.key = k) ↔ x = some i) : find pl k = x := by
  apply Option.ext
  intro i
  rw [find_iff hn, h]

theorem get_set {pl : List Pl} {i : Nat} {p : Pl} (hp : pl[i]? = some p) (q : Pl) (j : Nat) : (pl.set i q)[j]? = if i = j then some q else pl[j]? := by
  rw [List.getElem?_set]
  split
  · rename_i h; subst h; simp [(List.getElem?_eq_some_iff.1 hp).1]
  · rfl

theorem find_none {pl : List Pl} {k : Int} (h : find pl k = none) {i : Nat} {p : Pl} (hp : pl[i]? = some p) (hf : p.full = true) : p.key ≠ k := by
  rw [find, List.findIdx?_eq_none_iff] at h
  have := h p (List.mem_of_getElem? hp)
  intro e
  simp [hf, e] at this

theorem nd_set {pl : List Pl} (hn : Nd pl) {i : Nat} {p : Pl} (hp : pl[i]? = some p) (q : Pl) (h : q.full = true → (p.full = true ∧ q.key = p.key) ∨ find pl q.key = none) : Nd (pl.set i q) := by
  intro a b x y hx hy hxf hyf hk
  rw [get_set hp] at hx hy
  split at hx <;> split at hy
  · omega
  · rename_i h1 h2
    cases hx
    rcases h hxf with ⟨h3, h4⟩ | h3
    · subst h1; exact hn _ _ p y hp hy h3 hyf (by rw [← hk, h4])
    · exact absurd hk.symm (find_none h3 hy hyf)
  · rename_i h1 h2
    cases hy
    rcases h hyf with ⟨h3, h4⟩ | h3
    · subst h2; exact hn _ _ x p hx hp hxf h3 (by rw [hk, h4])
    · exact absurd hk (find_none h3 hx hxf)
  · exact hn a b x y hx hy hxf hyf hk

theorem find_set {pl : List Pl} (hn : Nd pl) {i : Nat} {p : Pl} (hp : pl[i]? = some p) (q : Pl) (h : q.full = true → (p.full = true ∧ q.key = p.key) ∨ find pl q.key = none) (k : Int) :
    find (pl.set i q) k = if q.full = true ∧ q.key = k then some i else if p.full = true ∧ p.key = k then none else find pl k := by
  refine find_eq (nd_set hn hp q h) fun j => ?_
  constructor
  · rintro ⟨x, hx, hf, hk⟩
    rw [get_set hp] at hx
    split at hx
    · rename_i e; subst e; cases hx; rw [if_pos ⟨hf, hk⟩]
    · rename_i e
      have h1 : ¬ (q.full = true ∧ q.key = k) := by
        rintro ⟨a, b⟩
        rcases h a with ⟨c, d⟩ | c
        · exact e (hn _ _ p x hp hx c hf (by rw [← d, b, hk]))
        · exact find_none c hx hf (by rw [hk, b])
      have h2 : ¬ (p.full = true ∧ p.key = k) := fun ⟨a, b⟩ => e (hn _ _ p x hp hx a hf (by rw [b, hk]))
      rw [if_neg h1, if_neg h2, find_iff hn]
      exact ⟨x, hx, hf, hk⟩
  · intro hj
    split at hj
    · rename_i e; cases hj; exact ⟨q, by rw [get_set hp, if_pos rfl], e.1, e.2⟩
    · rename_i e
      split at hj
      · cases hj
      · rename_i e2
        obtain ⟨x, hx, hf, hk⟩ := find_some hj
        refine ⟨x, ?_, hf, hk⟩
        rw [get_set hp, if_neg]
        · exact hx
        · rintro rfl; rw [hp] at hx; cases hx; exact e2 ⟨hf, hk⟩

theorem count_set {pl : List Pl} {i : Nat} {p : Pl} (hp : pl[i]? = some p) (q : Pl) :
    (pl.set i q).countP (·.full) = pl.countP (·.full) - (if p.full = true then 1 else 0) + if q.full = true then 1 else 0 := by
  obtain ⟨hi, rfl⟩ := List.getElem?_eq_some_iff.1 hp
  rw [List.countP_set hi]

theorem count_pos {pl : List Pl} {i : Nat} {p : Pl} (hp : pl[i]? = some p) (hf : p.full = true) : 0 < pl.countP (·.full) :=
  List.countP_pos_iff.2 ⟨p, List.mem_of_getElem? hp, hf⟩

section
variable {tc tp : TypeId} {ok : Pg → Prop} {w w' : World} {bc bp bm hand : Nat} {pl : List Pl}

theorem At.fr {S : Nat → Prop} (h : At tc tp ok w bc bp bm pl hand) (hf : Fr S w w') (h1 : ¬ S bc) (h2 : ¬ S bp) (h3 : ¬ S bm) : At tc tp ok w' bc bp bm pl hand := by
  obtain ⟨l, ck, hm, r⟩ := h.m
  exact ⟨hf.heap h.c h1, hf.heap h.p h2, ⟨l, ck, hf.heap hm h3, r⟩, h.room, h.hand, h.vs, h.nd⟩

theorem At.ne (h : At tc tp ok w bc bp bm pl hand) : bc ≠ bp ∧ bc ≠ bm ∧ bp ≠ bm := by
  obtain ⟨l, ck, hm, r⟩ := h.m
  have hc := h.c
  have hp := h.p
  have hr := h.room
  refine ⟨?_, ?_, ?_⟩
  · rintro rfl
    rw [hc] at hp
    cases hp' : pl with
    | nil => simp [hp'] at hr
    | cons x r =>
      rw [hp'] at hp
      simp [cellsOf, Pl.cells] at hp
  · rintro rfl; rw [hc] at hm; cases hm
  · rintro rfl; rw [hp] at hm; cases hm

/-- One cell of a place turns; its number and whether it is there do not. -/
theorem At.set (h : At tc tp ok w bc bp bm pl hand) {i : Nat} {p : Pl} (hp : pl[i]? = some p) (j : Nat) (hj : j < 6) (v : Value) (q : Pl) (hq : p.cells.set j v = q.cells)
    (hk : q.key = p.key) (hf : q.full = p.full) (hv : ok q.v) : At tc tp ok (w.setCell ⟨bp, i * 6 + j, none⟩ v) bc bp bm (pl.set i q) hand := by
  obtain ⟨n1, n2, n3⟩ := h.ne
  obtain ⟨l, ck, hm, hnd, hl, hc⟩ := h.m
  have hs : q.full = true → (p.full = true ∧ q.key = p.key) ∨ find pl q.key = none := fun a => .inl ⟨by rw [← hf, a], hk⟩
  refine ⟨?_, ?_, ⟨l, ck, ?_, hnd, fun k => ?_, ?_⟩, by simpa using h.room, by simpa using h.hand, fun x hx => ?_, nd_set h.nd hp q hs⟩
  · rw [heap_setCell_ne _ _ _ _ (by simpa using n1.symm), h.c]; simp
  · rw [heap_setCell_cells _ _ _ _ h.p, cells_set hp j hj v q hq]
  · rw [heap_setCell_ne _ _ _ _ (by simpa using n3), hm]
  · rw [hl, find_set h.nd hp q hs, hk, hf]
    split
    · rename_i e; rw [(find_iff h.nd k i).2 ⟨p, hp, e.1, e.2⟩]
    · rfl
  · rw [hc, count_set hp, hf]
    split
    · rename_i e; have := count_pos hp e; omega
    · omega
  · rcases List.mem_or_eq_of_mem_set hx with h' | rfl
    · exact h.vs x h'
    · exact hv
end
end Go.Sg.Clk
namespace Go.Sg.Clk
open Go.RowKit
/-- How many marks there are. -/
def marks (pl : List Pl) : Nat := pl.countP (·.marked)
theorem marks_le (pl : List Pl) : marks pl ≤ pl.length := List.countP_le_length
theorem marks_pos {pl : List Pl} {i : Nat} {p : Pl} (hp : pl[i]? = some p) (hf : p.marked = true) : 0 < marks pl :=
  List.countP_pos_iff.2 ⟨p, List.mem_of_getElem? hp, hf⟩
theorem marks_set {pl : List Pl} {i : Nat} {p : Pl} (hp : pl[i]? = some p) (hm : p.marked = true) : marks (pl.set i { p with marked := false }) + 1 = marks pl := by
  have := marks_pos hp hm
  obtain ⟨hi, rfl⟩ := List.getElem?_eq_some_iff.1 hp
  rw [marks, List.countP_set hi]
  rw [marks] at this
  simp [marks, hm]
  omega
theorem spin_mark {k : Nat} {pl : List Pl} {h : Nat} {p : Pl} (hp : pl[h]? = some p) (hm : p.marked = true) : spin (k + 1) pl h = spin k (pl.set h { p with marked := false }) ((h + 1) % pl.length) := by
  simp [spin, hp, hm]
theorem spin_stop {k : Nat} {pl : List Pl} {h : Nat} {p : Pl} (hp : pl[h]? = some p) (hm : p.marked = false) : spin k pl h = (pl, h) := by
  cases k <;> simp [spin, hp, hm]
theorem At.turn {tc tp : TypeId} {ok : Pg → Prop} {w : World} {bc bp bm hand : Nat} {pl : List Pl} (h : At tc tp ok w bc bp bm pl hand) {n : Nat} (hn : n < pl.length) :
    At tc tp ok (w.setCell ⟨bc, 2, none⟩ (.int .i64 n)) bc bp bm pl n := by
  obtain ⟨n1, n2, n3⟩ := h.ne
  obtain ⟨l, ck, hm, r⟩ := h.m
  refine ⟨?_, ?_, ⟨l, ck, ?_, r⟩, h.room, hn, h.vs, h.nd⟩
  · rw [heap_setCell_cells _ _ _ _ h.c]; simp
  · rw [heap_setCell_ne _ _ _ _ (by simpa using n1), h.p]
  · rw [heap_setCell_ne _ _ _ _ (by simpa using n2), hm]
theorem At.drewN {tc tp : TypeId} {ok : Pg → Prop} {w : World} {bc bp bm hand : Nat} {pl : List Pl} (h : At tc tp ok w bc bp bm pl hand) (n : Nat) : At tc tp ok (w.drewN n) bc bp bm pl hand := ⟨h.c, h.p, h.m, h.room, h.hand, h.vs, h.nd⟩
end Go.Sg.Clk

namespace Go.Sg.Clk
open Go.RowKit
section
variable {tc tp : TypeId} {ok : Pg → Prop} {w w' : World} {bc bp bm hand : Nat} {pl : List Pl}
theorem heap_place {W : World} (h : W.heap[bp]? = some (.cells (cellsOf pl) tp)) {i : Nat} {p : Pl} (hp : pl[i]? = some p) (q : Pl) :
    ((((((W.setCell ⟨bp, i * 6, none⟩ (.int .i64 q.key)).setCell ⟨bp, i * 6 + 1, none⟩ (.int .i64 q.v.stamp)).setCell ⟨bp, i * 6 + 2, none⟩ q.v.load).setCell ⟨bp, i * 6 + 3, none⟩ (.bool q.v.dirty)).setCell ⟨bp, i * 6 + 4, none⟩ (.bool q.full)).setCell ⟨bp, i * 6 + 5, none⟩ (.bool q.marked)).heap[bp]? =
      some (.cells (cellsOf (pl.set i q)) tp) := by
  rw [heap_setCell_cells _ _ _ _ (heap_setCell_cells _ _ _ _ (heap_setCell_cells _ _ _ _ (heap_setCell_cells _ _ _ _ (heap_setCell_cells _ _ _ _ (heap_setCell_cells _ _ _ _ h)))))]
  have at_ : ∀ r : Pl, (pl.set i r)[i]? = some r := fun r => by rw [get_set hp, if_pos rfl]
  have s0 := cells_set hp 0 (by omega) (.int .i64 q.key) { p with key := q.key } rfl
  have s1 := cells_set (at_ { p with key := q.key }) 1 (by omega) (.int .i64 q.v.stamp) ⟨q.key, { p.v with stamp := q.v.stamp }, p.full, p.marked⟩ rfl
  have s2 := cells_set (at_ ⟨q.key, { p.v with stamp := q.v.stamp }, p.full, p.marked⟩) 2 (by omega) q.v.load ⟨q.key, ⟨q.v.stamp, q.v.la, q.v.ll, q.v.lc, p.v.dirty⟩, p.full, p.marked⟩ rfl
  have s3 := cells_set (at_ ⟨q.key, ⟨q.v.stamp, q.v.la, q.v.ll, q.v.lc, p.v.dirty⟩, p.full, p.marked⟩) 3 (by omega) (.bool q.v.dirty) ⟨q.key, q.v, p.full, p.marked⟩ rfl
  have s4 := cells_set (at_ ⟨q.key, q.v, p.full, p.marked⟩) 4 (by omega) (.bool q.full) ⟨q.key, q.v, q.full, p.marked⟩ rfl
  have s5 := cells_set (at_ ⟨q.key, q.v, q.full, p.marked⟩) 5 (by omega) (.bool q.marked) q rfl
  simp only [List.set_set, Nat.add_zero] at s0 s1 s2 s3 s4 s5
  rw [s0, s1, s2, s3, s4, s5]

/-- A place turns whole, and the map with it. -/
theorem At.place (h : At tc tp ok w bc bp bm pl hand) {i : Nat} {p : Pl} (hp : pl[i]? = some p) (q : Pl) (hq : q.full = true → (p.full = true ∧ q.key = p.key) ∨ find pl q.key = none) (hv : ok q.v) {hand' : Nat} (hh : hand' < pl.length) {W : World}
    (hc : W.heap[bc]? = some (.cells #[.slice (some ⟨bp, 0, none⟩) pl.length pl.length, .map (some bm), .int .i64 hand'] tc)) (hb : W.heap[bp]? = some (.cells (cellsOf (pl.set i q)) tp)) {l' : List Ent} {ck' : Nat} (hm : W.heap[bm]? = some (.map (ents l') ck')) (hnd : (keys l').Nodup)
    (hl : ∀ k, look l' k = if q.full = true ∧ q.key = k then some (.int .i64 i) else if p.full = true ∧ p.key = k then none else (find pl k).map fun i => .int .i64 i)
    (hn : l'.length = pl.countP (·.full) - (if p.full = true then 1 else 0) + if q.full = true then 1 else 0) : At tc tp ok W bc bp bm (pl.set i q) hand' := by
  refine ⟨by simpa using hc, hb, ⟨l', ck', hm, hnd, fun k => ?_, ?_⟩, by simpa using h.room, by simpa using hh, fun x hx => ?_, nd_set h.nd hp q hq⟩
  · rw [hl, find_set h.nd hp q hq]
    split
    · rfl
    · split <;> rfl
  · rw [hn, count_set hp]
  · rcases List.mem_or_eq_of_mem_set hx with h' | rfl
    · exact h.vs x h'
    · exact hv
end
end Go.Sg.Clk

namespace Go.Sg.Clk
section
variable {tc tp : TypeId} {ok : Pg → Prop} {w w' : World} {bc bp bm hand : Nat} {pl : List Pl}
theorem At.c0 (h : At tc tp ok w bc bp bm pl hand) : w.cell? ⟨bc, 0, none⟩ = some (.slice (some ⟨bp, 0, none⟩) pl.length pl.length) := by simpa using cell_of_heap h.c 0
theorem At.c1 (h : At tc tp ok w bc bp bm pl hand) : w.cell? ⟨bc, 1, none⟩ = some (.map (some bm)) := by simpa using cell_of_heap h.c 1
theorem At.k0 (h : At tc tp ok w bc bp bm pl hand) {i : Nat} {p : Pl} (hp : pl[i]? = some p) : w.cell? ⟨bp, i * 6, none⟩ = some (.int .i64 p.key) := by
  have := cell_of_heap h.p (i * 6 + 0); rw [cells_get hp 0 (by omega)] at this; simpa [Pl.cells] using this
theorem At.k1 (h : At tc tp ok w bc bp bm pl hand) {i : Nat} {p : Pl} (hp : pl[i]? = some p) : w.cell? ⟨bp, i * 6 + 1, none⟩ = some (.int .i64 p.v.stamp) := by
  have := cell_of_heap h.p (i * 6 + 1); rw [cells_get hp 1 (by omega)] at this; simpa [Pl.cells] using this
theorem At.k2 (h : At tc tp ok w bc bp bm pl hand) {i : Nat} {p : Pl} (hp : pl[i]? = some p) : w.cell? ⟨bp, i * 6 + 2, none⟩ = some (.slice p.v.la p.v.ll p.v.lc) := by
  have := cell_of_heap h.p (i * 6 + 2); rw [cells_get hp 2 (by omega)] at this; simpa [Pl.cells] using this
theorem At.k3 (h : At tc tp ok w bc bp bm pl hand) {i : Nat} {p : Pl} (hp : pl[i]? = some p) : w.cell? ⟨bp, i * 6 + 3, none⟩ = some (.bool p.v.dirty) := by
  have := cell_of_heap h.p (i * 6 + 3); rw [cells_get hp 3 (by omega)] at this; simpa [Pl.cells] using this
theorem At.k4 (h : At tc tp ok w bc bp bm pl hand) {i : Nat} {p : Pl} (hp : pl[i]? = some p) : w.cell? ⟨bp, i * 6 + 4, none⟩ = some (.bool p.full) := by
  have := cell_of_heap h.p (i * 6 + 4); rw [cells_get hp 4 (by omega)] at this; simpa [Pl.cells] using this
theorem At.k5 (h : At tc tp ok w bc bp bm pl hand) {i : Nat} {p : Pl} (hp : pl[i]? = some p) : w.cell? ⟨bp, i * 6 + 5, none⟩ = some (.bool p.marked) := by
  have := cell_of_heap h.p (i * 6 + 5); rw [cells_get hp 5 (by omega)] at this; simpa [Pl.cells] using this
theorem At.zp (h : At tc tp ok w bc bp bm pl hand) (o : Nat) : w.frozen? ⟨bp, o, none⟩ = false := frozen_of_heap h.p o
end
end Go.Sg.Clk

namespace Go.Sg.Clk
def Pl.unmark (p : Pl) : Pl := { p with marked := false }
theorem spin_same (f : Nat) : ∀ (pl : List Pl) (h : Nat), (spin f pl h).1.map Pl.unmark = pl.map Pl.unmark := by
  induction f with
  | zero => intro pl h; rfl
  | succ f ih =>
    intro pl h
    unfold spin
    split
    · rename_i p hp
      split
      · rw [ih, List.map_set]
        obtain ⟨hi, rfl⟩ := List.getElem?_eq_some_iff.1 hp
        apply List.ext_getElem?
        intro j
        rw [List.getElem?_set]
        split
        · rename_i e; subst e; simp [hi, Pl.unmark]
        · rfl
      · rfl
    · rfl
theorem spin_len (f : Nat) (pl : List Pl) (h : Nat) : (spin f pl h).1.length = pl.length := by
  have := congrArg List.length (spin_same f pl h); simpa using this
theorem spin_lt (f : Nat) : ∀ (pl : List Pl) (h : Nat), h < pl.length → (spin f pl h).2 < pl.length := by
  induction f with
  | zero => intro pl h hh; exact hh
  | succ f ih =>
    intro pl h hh
    unfold spin
    split
    · rename_i p hp
      split
      · have := ih (pl.set h { p with marked := false }) ((h + 1) % pl.length) (by rw [List.length_set]; exact Nat.mod_lt _ (by omega))
        simpa using this
      · exact hh
    · exact hh
theorem spin_get {f : Nat} {pl : List Pl} {h : Nat} (j : Nat) : ((spin f pl h).1[j]?).map Pl.unmark = (pl[j]?).map Pl.unmark := by
  rw [← List.getElem?_map, ← List.getElem?_map, spin_same]
theorem find_unmark (pl : List Pl) (k : Int) : find pl k = find (pl.map Pl.unmark) k := by
  simp only [find, List.findIdx?_map]; rfl
theorem spin_find (f : Nat) (pl : List Pl) (h : Nat) (k : Int) : find (spin f pl h).1 k = find pl k := by
  rw [find_unmark, spin_same, ← find_unmark]
theorem empty_unmark (pl : List Pl) : empty pl = empty (pl.map Pl.unmark) := by
  simp only [empty, List.findIdx?_map]; rfl
theorem spin_empty (f : Nat) (pl : List Pl) (h : Nat) : empty (spin f pl h).1 = empty pl := by
  rw [empty_unmark, spin_same, ← empty_unmark]
theorem full_of_empty {pl : List Pl} (h : empty pl = none) {i : Nat} {p : Pl} (hp : pl[i]? = some p) : p.full = true := by
  rw [empty, List.findIdx?_eq_none_iff] at h
  have := h p (List.mem_of_getElem? hp)
  simpa using this
theorem putM_full {pl : List Pl} {hand : Nat} {key : Int} {v : Pg} (hf : find pl key = none) (he : empty pl = none) :
    putM pl hand key v = ⟨(spin pl.length pl hand).1.set (spin pl.length pl hand).2 ⟨key, v, true, true⟩, ((spin pl.length pl hand).2 + 1) % pl.length, (spin pl.length pl hand).1[(spin pl.length pl hand).2]?⟩ := by
  simp [putM, hf, he]
end Go.Sg.Clk
namespace Go.Sg.Clk
open Go.RowKit
theorem cells_made (n : Nat) : madeCells #[.int .i64 0, .int .i64 0, .slice none 0 0, .bool false, .bool false, .bool false] (n * 6) = cellsOf (List.replicate n (Pl.none Pg.zero)) := by
  apply Array.ext
  · rw [size_madeCells, size_cells]; simp
  · intro i h1 h2
    have hi : i < n * 6 := by simpa [size_madeCells] using h1
    have e : (cellsOf (List.replicate n (Pl.none Pg.zero)))[i]? = (Pl.none Pg.zero).cells[i % 6]? := by
      have hd : i = i / 6 * 6 + i % 6 := by omega
      have hq : (List.replicate n (Pl.none Pg.zero))[i / 6]? = some (Pl.none Pg.zero) := by rw [List.getElem?_replicate, if_pos (by omega)]
      have := cells_get hq (i % 6) (by omega)
      rw [← hd] at this
      exact this
    rw [Array.getElem?_eq_getElem h2] at e
    have h4 : i % 6 < 6 := by omega
    have e2 : (Pl.none Pg.zero).cells[i % 6]? = some ((Pl.none Pg.zero).cells[i % 6]'(by simp [Pl.cells]; omega)) := List.getElem?_eq_getElem _
    rw [e2] at e
    rw [Option.some.inj e]
    simp [madeCells, Pl.cells, Pl.none, Pg.zero, getElem!_def]
    generalize i % 6 = j at *
    match j, h4 with
    | 0, _ => rfl
    | 1, _ => rfl
    | 2, _ => rfl
    | 3, _ => rfl
    | 4, _ => rfl
    | 5, _ => rfl
theorem At.fresh {tc tp : TypeId} {ok : Pg → Prop} {w : World} {n : Nat} (hz : ok Pg.zero) (h1 : 1 ≤ n) (h2 : n ≤ 4096) :
    At tc tp ok (((w.alloc (.cells (madeCells #[.int .i64 0, .int .i64 0, .slice none 0 0, .bool false, .bool false, .bool false] (n * 6)) tp)).alloc (.map #[] 0)).alloc (.cells #[.slice (some ⟨w.heap.size, 0, none⟩) n n, .map (some (w.heap.size + 1)), .int .i64 0] tc))
      (w.heap.size + 2) w.heap.size (w.heap.size + 1) (List.replicate n (Pl.none Pg.zero)) 0 := by
  refine ⟨?_, ?_, ⟨[], 0, ?_, by simp [keys], fun k => ?_, ?_⟩, by simp; omega, by simp; omega, fun p hp => ?_, ?_⟩
  · have := heap_alloc_new ((w.alloc (.cells (madeCells #[.int .i64 0, .int .i64 0, .slice none 0 0, .bool false, .bool false, .bool false] (n * 6)) tp)).alloc (.map #[] 0)) (.cells #[.slice (some ⟨w.heap.size, 0, none⟩) n n, .map (some (w.heap.size + 1)), .int .i64 0] tc)
    simp only [World.size_alloc] at this
    simpa using this
  · rw [heap_alloc_lt _ _ _ (by simp; omega), heap_alloc_lt _ _ _ (by simp), heap_alloc_new, cells_made]
  · have := heap_alloc_new (w.alloc (.cells (madeCells #[.int .i64 0, .int .i64 0, .slice none 0 0, .bool false, .bool false, .bool false] (n * 6)) tp)) (.map #[] 0)
    simp only [World.size_alloc] at this
    rw [heap_alloc_lt _ _ _ (by simp), this]
    rfl
  · have : find (List.replicate n (Pl.none Pg.zero)) k = none := by
      rw [find, List.findIdx?_eq_none_iff]
      intro p hp
      rw [List.eq_of_mem_replicate hp]; rfl
    rw [this]; rfl
  · simp [List.countP_replicate, Pl.none]
  · rw [List.eq_of_mem_replicate hp]; exact hz
  · intro i j p q hp _ hf
    rw [List.eq_of_mem_replicate (List.mem_of_getElem? hp)] at hf
    cases hf
end Go.Sg.Clk

/- The clock of pages: what find, Look, full, empty, victim compute. Conditions: the clock lies in the world as AtP says. -/
namespace Go.Proofs.YtgdhaaokolfdoaaGreatDoor
theorem Tryz.zero3 (w : World) : (zeroValue 3).run Tryz.prog w = .ok (.int .i64 0) w := by kernel_rfl
namespace CP
open Go.RowKit Go.Sg Go.Sg.Clk Go.Shelf
attribute [local go_sem] Oper.semAt_some
def isP (_ : Pg) : Prop := True
abbrev AtP := At 260 264 isP

theorem find_at {w : World} {bc bp bm hand : Nat} {pl : List Pl} (h : AtP w bc bp bm pl hand) (key : Int) :
    Calls Tryz.prog 154 #[.pointer (some ⟨bc, 0, none⟩), .int .i64 key] w fun e w' => e = .returned (.pointer ((find pl key).map fun i => ⟨bp, i * 6, none⟩)) ∧ w = w' := by
  obtain ⟨l, ck, hm, -, hlook, -⟩ := h.m
  have h0 := cell_of_heap h.c 0
  have h1 := cell_of_heap h.c 1
  simp at h0 h1
  have hl := run_lookup (P := Tryz.prog) (T := 258) true Tryz.underlying258 Tryz.underlying3 Tryz.zero3 hm key
  rw [hlook] at hl
  have hr := h.room
  cases hf : find pl key with
  | none =>
    rw [hf] at hl
    simp at hl
    clear hf hlook hm h
    go_enter Tryz.func154, Tryz.ntmps154
    go_wp2
    go_ret
    exact ⟨rfl, rfl⟩
  | some i =>
    rw [hf] at hl
    simp at hl
    have hi : i < pl.length := by
      obtain ⟨p, hp, -⟩ := find_some hf
      exact (List.getElem?_eq_some_iff.1 hp).1
    clear hf hlook hm h
    go_enter Tryz.func154, Tryz.ntmps154
    go_wp2
    go_ret
    exact ⟨rfl, rfl⟩


/-- What a look finds. -/
def lookM (pl : List Pl) (key : Int) : Pg := ((find pl key).bind fun i => (pl[i]?).map (·.v)).getD Pg.zero
theorem look_at {w : World} {bc bp bm hand : Nat} {pl : List Pl} (h : AtP w bc bp bm pl hand) (key : Int) :
    Calls Tryz.prog 155 #[.pointer (some ⟨bc, 0, none⟩), .int .i64 key] w fun e w' => e = .returned (.tuple #[(lookM pl key).val, .bool (find pl key).isSome]) ∧ Fr (fun _ => False) w w' := by
  have F := hid (fun W (FW : Fr (fun _ => False) w W) => find_at (h.fr FW (fun h => h) (fun h => h) (fun h => h)) key)
  cases hf : find pl key with
  | none =>
    rw [hf] at F
    have e2 : lookM pl key = Pg.zero := by simp [lookM, hf]
    have E2 := hid e2
    clear hf h e2
    go_enter Tryz.func155, Tryz.ntmps155
    go_wp2_with (go_at_call 154; refine (F.out _ ((Fr.refl _ _).alloc _)).mono ?_; rintro e w' ⟨rfl, rfl⟩)
    try simp only [Exit.inBlock, Exit.then]
    refine bodyPost_ret (v := .tuple #[Pg.zero.val, .bool false]) (by simp [results, go_sem, Pg.zero, *]) rfl ⟨by rw [E2.out]; rfl, ((Fr.refl _ _).alloc _).alloc _⟩
  | some i =>
    rw [hf] at F
    obtain ⟨p, hp, -⟩ := find_some hf
    have c1 := h.k1 hp
    have c2 := h.k2 hp
    have c3 := h.k3 hp
    have e2 : lookM pl key = p.v := by simp [lookM, hf, hp]
    have E2 := hid e2
    have hbp := lt_of_heap h.p
    clear hf h e2 hp
    go_enter Tryz.func155, Tryz.ntmps155
    go_wp2_with (go_at_call 154; refine (F.out _ ((Fr.refl _ _).alloc _)).mono ?_; rintro e w' ⟨rfl, rfl⟩)
    refine bodyPost_ret (v := .tuple #[p.v.val, .bool true]) (by simp [results, go_sem, *]) rfl ⟨by rw [E2.out]; rfl, ?_⟩
    first | exact (Fr.refl _ _).alloc _ | (refine Fr.setNew (Fr.setNew (Fr.setNew ((Fr.refl _ _).alloc _) ?_ _) ?_ _) ?_ _ <;> omega)

theorem full_any (a : Option Addr) (w : World) :
    Calls Tryz.prog 228 #[.pointer a] w fun e w' => e = .returned (.func (.func 268) #[] #[.pointer (some ⟨w.heap.size, 0, none⟩)]) ∧ w.alloc (.cells #[.pointer a] 154) = w' := by
  go_enter Tryz.func228, Tryz.ntmps228
  go_wp2
  go_ret
  exact ⟨rfl, rfl⟩

abbrev encP (x : Nat × Pl) : Array Value := #[.int .i64 x.1, .agg #[.int .i64 x.2.key, .int .i64 x.2.v.stamp, .slice x.2.v.la x.2.v.ll x.2.v.lc, .bool x.2.v.dirty, .bool x.2.full, .bool x.2.marked]]

set_option maxRecDepth 100000 in
set_option maxHeartbeats 2000000 in
theorem fullf_stops {w : World} {bc bp bm hand bx : Nat} {pl : List Pl} (h : AtP w bc bp bm pl hand) (hx : w.cell? ⟨bx, 0, none⟩ = some (.pointer (some ⟨bc, 0, none⟩))) :
    SeqStopsK Fence.wide 9 Tryz.prog 268 #[.pointer (some ⟨bx, 0, none⟩)] encP (fun W W' => W'.heap[bp]? = W.heap[bp]?) (fun xs => xs = fullAt pl.length pl) (fun pre => pre <+: fullAt pl.length pl) pl.length w := fun l J Jx W hW hJ _ hY h0 => by
  have hr := h.room
  have hbp := lt_of_heap h.p
  have hx' := (hW.cell (p := ⟨bx, 0, none⟩) (World.block_lt_of_cell? _ _ hx)).trans hx
  have hc0 := (hW.cell (p := ⟨bc, 0, none⟩) (lt_of_heap h.c)).trans (cell_of_heap h.c 0)
  simp at hc0
  have hp := (hW.block bp hbp).trans h.p
  clear hx hW
  refine callsIn_of_wp Tryz.func268 rfl trivial ?_ rfl
  simp only [Tryz.ntmps268, List.size_toArray, List.length_cons, List.length_nil, Nat.reduceAdd, Nat.reduceSub, Array.replicate_succ, Array.replicate_zero, List.push_toArray, List.append_toArray, List.nil_append, List.cons_append]
  gi_wp2
  gi_loopw [10] (fun i wr => ∃ k : Nat, k ≤ pl.length ∧ i = .int .i64 k ∧ J (fullAt k pl) wr ∧ wr.heap[bp]? = some (.cells (cellsOf pl) 264)) (fun i _ => pl.length - (intOf i).toNat)
  case atStart => exact ⟨0, Nat.zero_le _, rfl, h0, hp⟩
  case round =>
    obtain ⟨k, hk, rfl, hJs, hps⟩ := hrel
    by_cases hlt : k < pl.length
    · obtain ⟨⟨key, v, ful, mk⟩, hp⟩ : ∃ p, pl[k]? = some p := ⟨_, List.getElem?_eq_getElem hlt⟩
      obtain ⟨sta, la, ll, lc, di⟩ := v
      have c0 := cell_of_heap hps (k * 6 + 0)
      have c1 := cell_of_heap hps (k * 6 + 1)
      have c2 := cell_of_heap hps (k * 6 + 2)
      have c3 := cell_of_heap hps (k * 6 + 3)
      have c4 := cell_of_heap hps (k * 6 + 4)
      have c5 := cell_of_heap hps (k * 6 + 5)
      rw [cells_get hp _ (by omega)] at c0 c1 c2 c3 c4 c5
      simp [Pl.cells] at c0 c1 c2 c3 c4 c5
      have hs := fullAt_succ k pl _ hp
      have HS := hid hs
      have HP := hid hps
      have hbw := lt_of_heap hps
      clear hs hps hp
      cases ful with
      | false =>
        gi_wp2
        go_roundw
        case rel => exact ⟨k + 1, by omega, by simp, by rw [HS.out]; exact hJ _ _ _ none hJs (World.grownBy_alloc _ _ _) (fun r e => by cases e), (heap_alloc_lt _ _ _ hbw).trans HP.out⟩
        case measure => simp [intOf]; omega
      | true =>
        obtain ⟨fn, tmps, assign, body, hy, hR⟩ := hY _ (k, ⟨key, ⟨sta, la, ll, lc, di⟩, true, mk⟩) (wr.alloc (.cells #[.int .i64 key, .int .i64 sta, .slice la ll lc, .bool di, .bool true, .bool mk] 264)) (hJ _ _ _ none hJs (World.grownBy_alloc _ _ _) (fun r e => by cases e)) (Nat.lt_of_le_of_lt (fullAt_len _ _) hlt)
        dsimp only [encP] at hy
        gi_wp2
        refine hR.mono ?_
        rintro e W3 (⟨rfl, hJ3, hk3⟩ | ⟨rfl, hJx3⟩)
        · gi_wp2
          go_roundw
          case rel => exact ⟨k + 1, by omega, by simp, by rw [HS.out]; exact hJ3, (hk3.trans (heap_alloc_lt _ _ _ hbw)).trans HP.out⟩
          case measure => simp [intOf]; omega
        · gi_wp2
          refine bodyPost_ret (results_none rfl _ _ _) rfl ?_
          exact ⟨⟨_, rfl⟩, .inr ⟨_, (by have := fullAt_prefix pl (k + 1) pl.length (by omega) (Nat.le_refl _); rw [HS.out] at this; exact this), hJx3⟩⟩
    · obtain rfl : k = pl.length := by omega
      gi_wp2
      go_end0
      exact ⟨⟨_, rfl⟩, .inl ⟨_, rfl, hJs⟩⟩


set_option maxRecDepth 100000 in
set_option maxHeartbeats 2000000 in
theorem empty_at {w : World} {bc bp bm hand : Nat} {pl : List Pl} (h : AtP w bc bp bm pl hand) :
    Calls Tryz.prog 171 #[.pointer (some ⟨bc, 0, none⟩)] w fun e w' => e = .returned (.int .i64 (emptyI pl)) ∧ Fr (fun _ => False) w w' := by
  refine (callsIn_wide (n := 10)).1 ?_
  have hr := h.room
  have F := hid (full_any (some ⟨bc, 0, none⟩) (w.alloc (.cells #[.int .i64 0] 3)))
  refine callsIn_of_wp_marks Tryz.func171 rfl trivial ?_ rfl
  simp only [Tryz.ntmps171, List.size_toArray, List.length_cons, List.length_nil, Nat.reduceAdd, Nat.reduceSub, Array.replicate_succ, Array.replicate_zero, List.push_toArray, List.append_toArray, List.nil_append, List.cons_append]
  gi_wp2_with (gi_at_call 228; refine (callsIn_wide.2 F.out).mono ?_; rintro e w' ⟨rfl, rfl⟩)
  obtain ⟨W0, hW0⟩ : ∃ W0, (w.alloc (.cells #[.int .i64 0] 3)).alloc (.cells #[.pointer (some ⟨bc, 0, none⟩)] 154) = W0 := ⟨_, rfl⟩
  have hF0 : Fr (fun _ => False) w W0 := by rw [← hW0]; exact ((Fr.refl _ w).alloc _).alloc _
  have hsz : W0.heap.size = w.heap.size + 1 + 1 := by rw [← hW0]; simp
  have hnx : W0.heap[w.heap.size]? = some (.cells #[.int .i64 0] 3) := by rw [← hW0]; exact (heap_alloc_lt _ _ _ (by simp)).trans (heap_alloc_new _ _)
  have hbx : W0.cell? ⟨w.heap.size + 1, 0, none⟩ = some (.pointer (some ⟨bc, 0, none⟩)) := by rw [← hW0]; simp [go_sem]
  have h0 : AtP W0 bc bp bm pl hand := h.fr hF0 (fun h => h) (fun h => h) (fun h => h)
  have hbp := lt_of_heap h0.p
  simp only [hW0]
  refine wpIn_rangeFunc_ownG (F := Fence.wide) rfl (by omega) (gf := 268) (lb := #[.pointer (some ⟨w.heap.size + 1, 0, none⟩)]) rfl trivial (enters_of Tryz.func268 (by kernel_rfl) rfl)
    (fullf_stops h0 hbx) (fun h k => k.trans h) (fun W l o o' hl _ _ _ => heap_putObj_ne _ _ _ _ (by omega)) (Below.refl _ _) (fun _ => rfl)
    (fun pre W => (W.heap[w.heap.size]? = some (.cells #[.int .i64 pre.length] 3) ∧ Fr (fun _ => False) w W) ∧ pre.map (·.1) = List.range pre.length)
    (fun c pre W => (∃ k : Nat, (W.heap[w.heap.size]? = some (.cells #[.int .i64 k] 3) ∧ Fr (fun _ => False) w W) ∧ ∃ pre0 x, pre = pre0 ++ [x] ∧ pre0.length = k ∧ pre0.map (·.1) = List.range k ∧ x.1 ≠ k) ∧ c = .exit 0)
    (own_and (own_and (own_block _ _ _ (fun _ => .inl rfl)) (own_fr (by omega))) (own_pure _ _))
    (fun c => own_and (own_ex fun k => own_and (own_and (own_block _ _ _ (fun _ => .inl rfl)) (own_fr (by omega))) (own_pure _ _)) (own_pure _ _))
    ⟨⟨hnx, hF0⟩, rfl⟩
    (fun x => { tmps := #[.pointer (some ⟨bc, 0, none⟩), undef, .int .i64 0, .pointer (some ⟨w.heap.size, 0, none⟩), .int .i64 x.1, .pointer (some ⟨bc, 0, none⟩), .func (.func 268) #[] #[.pointer (some ⟨w.heap.size + 1, 0, none⟩)], .int .i64 x.1, .agg #[.int .i64 x.2.key, .int .i64 x.2.v.stamp, .slice x.2.v.la x.2.v.ll x.2.v.lc, .bool x.2.v.dirty, .bool x.2.full, .bool x.2.marked], undef, undef, undef, undef, undef, undef, undef, undef, undef, undef, undef, undef, undef], defers := [] }) ?assign ?body ?done ?stop
  case assign =>
    intro l x W K hK
    gi_wp2
    exact hK
  case body =>
    rintro l pre x W ⟨⟨hn, hFr⟩, hpre⟩ hlen
    have c0 := cell_of_heap hn 0
    have z0 := frozen_of_heap hn 0
    simp at c0
    have hw := lt_of_heap hn
    by_cases hx : x.1 = pre.length
    · have hd : ((x.1 : Int) == (pre.length : Int)) = true := by simp [hx]
      have hX := hid hx
      have HP := hid hpre
      have HN := hid hn
      clear hx hpre hn
      gi_wp2
      refine ⟨(KeepsOthers.setCell _ _ _).from _, heap_setCell_ne _ _ _ _ (by have := lt_of_heap h.p; simp; omega), ⟨?_, hFr.setCell (fun hh => absurd hh (Nat.lt_irrefl _)) _⟩, ?_⟩
      · rw [heap_setCell_cells _ _ _ _ HN.out]; simp
      · simp [HP.out, hX.out, List.range_succ]
    · have hd : ((x.1 : Int) == (pre.length : Int)) = false := by simp; omega
      have hX := hid hx
      have HP := hid hpre
      have HN := hid hn
      clear hx hpre hn
      gi_wp2
      exact ⟨(KeepsOthers.refl _).from _, ⟨_, ⟨HN.out, hFr⟩, _, _, rfl, rfl, HP.out, hX.out⟩, rfl⟩
  case done =>
    rintro D ys W hD rfl ⟨⟨hn, hFr⟩, hpre⟩ hK
    have c0 := cell_of_heap hn 0
    have z0 := frozen_of_heap hn 0
    simp at c0
    have e0 := (hFr.cell (p := ⟨bc, 0, none⟩) (lt_of_heap h.c) (fun h => h)).trans (cell_of_heap h.c 0)
    simp at e0
    have hm := fullAt_len pl.length pl
    by_cases hx : (fullAt pl.length pl).length = pl.length
    · have hd : (((fullAt pl.length pl).length : Int) == (pl.length : Int)) = true := by simp [hx]
      have hX := hid hx
      have HP := hid hpre
      have HN := hid hn
      clear hx hpre hn
      gi_wp2
      gi_big_quiet_th (fail)
      gi_wp2
      refine marks_ret1 (t := 2) rfl (show (W.drewN nq).heap[D]? = _ from hK) ⟨by rw [emptyI_none (by rw [empty_of_done HP.out, if_pos hX.out])]; rfl, (hFr.drewN _).putObj (fun hh => by omega) _⟩
    · have hd : (((fullAt pl.length pl).length : Int) == (pl.length : Int)) = false := by simp; omega
      have hX := hid hx
      have HP := hid hpre
      have HN := hid hn
      clear hx hpre hn
      gi_wp2
      gi_big_quiet_th (fail)
      gi_wp2
      refine marks_ret1 (t := 2) rfl (show (W.drewN nq).heap[D]? = _ from hK) ⟨by rw [emptyI_some (by rw [empty_of_done HP.out, if_neg hX.out])]; rfl, (hFr.drewN _).putObj (fun hh => by omega) _⟩
  case stop =>
    rintro D c pre W hD hSp ⟨⟨k, ⟨hn, hFr⟩, pre0, x, rfl, rfl, hpre, hne⟩, rfl⟩ hK
    have c0 := cell_of_heap hn 0
    have z0 := frozen_of_heap hn 0
    simp at c0
    have e0 := (hFr.cell (p := ⟨bc, 0, none⟩) (lt_of_heap h.c) (fun h => h)).trans (cell_of_heap h.c 0)
    simp at e0
    obtain ⟨he, hl⟩ := empty_of_stop hSp hpre hne
    have hd : ((pre0.length : Int) == (pl.length : Int)) = false := by simp; omega
    have HE := hid he
    have HS := hid hSp
    have HP := hid hpre
    have HN := hid hn
    have HX := hid hne
    clear hpre hn he hSp hne
    gi_wp2
    gi_big_quiet_th (fail)
    gi_wp2
    refine marks_ret1 (t := 2) rfl (show (W.drewN nq).heap[D]? = _ from hK) ⟨by rw [emptyI_some HE.out]; rfl, (hFr.drewN _).putObj (fun hh => by omega) _⟩


def VictimPost (pl : List Pl) (hand bc bp bm : Nat) (w : World) (e : Ending) (w' : World) : Prop :=
  e = .returned (.int .i64 (spin pl.length pl hand).2) ∧ AtP w' bc bp bm (spin pl.length pl hand).1 (((spin pl.length pl hand).2 + 1) % pl.length) ∧ Fr (fun b => b = bc ∨ b = bp) w w'

set_option maxHeartbeats 1000000 in
theorem victim_at {w : World} {bc bp bm hand : Nat} {pl : List Pl} (h : AtP w bc bp bm pl hand) :
    Calls Tryz.prog 172 #[.pointer (some ⟨bc, 0, none⟩)] w (VictimPost pl hand bc bp bm w) := by
  go_enter Tryz.func172, Tryz.ntmps172
  go_wp2
  go_step3
  go_wp2
  go_step3
  go_wp2
  go_loopg [3] pl.length (fun k _ wr => ∃ (pl' : List Pl) (hd : Nat), pl'.length = pl.length ∧ AtP wr bc bp bm pl' hd ∧ Fr (fun b => b = bc ∨ b = bp) w wr ∧ spin k pl' hd = spin pl.length pl hand ∧ marks pl' ≤ k)
  case atStart => exact ⟨pl, hand, rfl, h, Fr.refl _ _, rfl, marks_le _⟩
  case round =>
    obtain ⟨pl', hd, hlen, hA, hF, hs, hk⟩ := hrel
    have hr := hA.room
    have hh := hA.hand
    obtain ⟨n1, n2, n3⟩ := hA.ne
    have e0 := cell_of_heap hA.c 0
    have e2 := cell_of_heap hA.c 2
    have z2 := frozen_of_heap hA.c 2
    simp at e0 e2
    obtain ⟨p, hp⟩ : ∃ p, pl'[hd]? = some p := ⟨_, List.getElem?_eq_getElem hh⟩
    have c3 := cell_of_heap hA.p (hd * 6 + 5)
    have z3 := frozen_of_heap hA.p (hd * 6 + 5)
    rw [cells_get hp _ (by omega)] at c3
    simp [Pl.cells] at c3
    have HA := hid hA
    have HS := hid hs
    have HP := hid hp
    have HL := hid hlen
    have hmod := Nat.mod_lt (hd + 1) (show 0 < pl'.length by omega)
    clear hA hs hp hlen
    have hc1 : ((hd : Int) + 1) % (pl'.length : Int) = (((hd + 1) % pl'.length : Nat) : Int) := by simp
    have HC := hid hc1
    clear hc1
    cases hm : p.marked with
    | true =>
      rw [hm] at c3
      have HM := hid hm
      have hpos := marks_pos HP.out hm
      have hset := marks_set HP.out hm
      clear hm
      obtain ⟨g, rfl⟩ : ∃ g, gk = g + 1 := ⟨gk - 1, by omega⟩
      go_wp2
      go_quiet (fail)
      go_wp2
      go_region
      go_wp2
      go_roundg g
      case measure => omega
      case rel =>
        rw [HC.out]
        have hA := ((HA.out.drewN (nq + 1)).turn hmod).set HP.out 5 (by omega) (.bool false) { p with marked := false } rfl rfl rfl (trivial)
        exact ⟨_, _, by simp [HL.out], hA, ((hF.drewN _).setCell (fun _ => .inl rfl) _).setCell (fun _ => .inr rfl) _, by rw [← HS.out, spin_mark HP.out HM.out], by omega⟩
    | false =>
      rw [hm] at c3
      have HM := hid hm
      clear hm
      go_wp2
      go_quiet (fail)
      go_wp2
      go_region
      go_wp2
      rw [Exit.noGoto_ret]
      go_ret
      rw [HC.out]
      have e := spin_stop (k := gk) HP.out HM.out
      rw [HS.out] at e
      refine ⟨by rw [e]; rfl, ?_, (hF.drewN _).setCell (fun _ => .inl rfl) _⟩
      rw [e, ← HL.out]
      exact (HA.out.drewN (nq + 1)).turn hmod


end CP
end Go.Proofs.YtgdhaaokolfdoaaGreatDoor

/- The clock of pages: what Len, New, Get compute. Conditions: the clock lies in the world as AtP says. -/
namespace Go.Proofs.YtgdhaaokolfdoaaGreatDoor
namespace CP
open Go.RowKit Go.Sg Go.Sg.Clk Go.Shelf
theorem info264 : (Tryz.prog.info? 264).map (fun i => (i.zero, i.size, i.bytes)) = some (some (.agg #[.int .i64 0, .int .i64 0, .slice none 0 0, .bool false, .bool false, .bool false]), 6, 56) := by kernel_rfl
set_option maxHeartbeats 1000000 in
theorem new_ok (n : Nat) (h1 : 1 ≤ n) (h2 : n ≤ 4096) (w : World) :
    Calls Tryz.prog 96 #[.int .i64 n] w fun e w' => e = .returned (.pointer (some ⟨w.heap.size + 2, 0, none⟩)) ∧ AtP w' (w.heap.size + 2) w.heap.size (w.heap.size + 1) (List.replicate n (Pl.none Pg.zero)) 0 ∧ Fr (fun _ => False) w w' := by
  obtain ⟨i0, hi, hz0, hz1, hz2⟩ := info_parts info264
  have hmk := fun W => run_make_len (P := Tryz.prog) 257 264 i0 _ Tryz.underlying257 hi hz0 n (by rw [hz2]; omega) (by omega) W
  have hmm := fun (t : TypeId) (W : World) => run_makeMap (P := Tryz.prog) t W
  rw [hz1] at hmk
  clear hi hz0 hz1 hz2
  go_enter Tryz.func96, Tryz.ntmps96
  go_wp2
  go_ret
  exact ⟨rfl, At.fresh trivial h1 h2, (((Fr.refl _ _).alloc _).alloc _).alloc _⟩

theorem AtP_lts {w : World} {bc bp bm hand : Nat} {pl : List Pl} (h : AtP w bc bp bm pl hand) : bc < w.heap.size ∧ bp < w.heap.size ∧ bm < w.heap.size := by
  obtain ⟨l, ck, hm, _⟩ := h.m
  exact ⟨lt_of_heap h.c, lt_of_heap h.p, lt_of_heap hm⟩
def markM (pl : List Pl) (key : Int) : List Pl := match find pl key with
  | some i => pl.modify i fun p => { p with marked := true }
  | none => pl
theorem modify_eq {pl : List Pl} {i : Nat} {p : Pl} (hp : pl[i]? = some p) (f : Pl → Pl) : pl.modify i f = pl.set i (f p) := by
  apply List.ext_getElem?
  intro j
  rw [get_set hp, List.getElem?_modify]
  split
  · rename_i e; subst e; simp [hp]
  · simp
def GetPost (pl : List Pl) (hand bc bp bm : Nat) (key : Int) (w : World) (e : Ending) (w' : World) : Prop :=
  e = .returned (.tuple #[(lookM pl key).val, .bool (find pl key).isSome]) ∧ AtP w' bc bp bm (markM pl key) hand ∧ Fr (fun b => b = bp) w w'
set_option maxHeartbeats 1000000 in
theorem get_at {w : World} {bc bp bm hand : Nat} {pl : List Pl} (h : AtP w bc bp bm pl hand) (key : Int) :
    Calls Tryz.prog 86 #[.pointer (some ⟨bc, 0, none⟩), .int .i64 key] w (GetPost pl hand bc bp bm key w) := by
  have hfr := hid (fun W (FW : Fr (fun _ => False) w W) => (h.fr FW (fun h => h) (fun h => h) (fun h => h) : AtP W bc bp bm pl hand))
  obtain ⟨w1, hw1⟩ : ∃ w1, w.alloc (.cells #[.int .i64 0, .slice none 0 0, .bool false] 162) = w1 := ⟨_, rfl⟩
  have b1 : w1.heap[w.heap.size]? = some (.cells #[.int .i64 0, .slice none 0 0, .bool false] 162) := by rw [← hw1]; exact heap_alloc_new _ _
  have F1 : Fr (fun _ => False) w w1 := by rw [← hw1]; exact (Fr.refl _ _).alloc _
  have B1 := hid b1
  have hA1 := hid (hfr.out w1 F1)
  have hlt := AtP_lts h
  cases hf : find pl key with
  | none =>
    have e1 : markM pl key = pl := by simp [markM, hf]
    have HF := hid hf
    have E := hid e1
    have HW := hid hw1
    have FN := hid (find_at hA1.out key)
    rw [hf] at FN
    clear hf h e1 hw1 b1
    go_enter Tryz.func86, Tryz.ntmps86
    go_wp2_with fail
    rw [HW.out]
    refine FN.out.mono ?_
    rintro e w' ⟨rfl, rfl⟩
    go_wp2_with fail
    refine (look_at hA1.out key).mono ?_
    rintro e w2 ⟨rfl, F2⟩
    obtain ⟨c0, c1, c2, z, l⟩ := cells3 (F2.heap B1.out (fun h => h))
    rw [HF.out]
    generalize hlm : lookM pl key = lm
    have HLM := hid hlm
    clear hlm
    obtain ⟨st, la, ll, lc, di⟩ := lm
    go_wp2
    refine bodyPost_ret (v := .tuple #[.agg #[.int .i64 st, .slice la ll lc, .bool di], .bool false]) (by simp [results, go_sem, *]) rfl ⟨by rw [HLM.out, HF.out]; rfl, ?_, ?_⟩
    · rw [E.out]
      refine (hA1.out.fr F2 (fun h => h) (fun h => h) (fun h => h)).fr (S := fun b => b = w.heap.size) ?_ (by omega) (by omega) (by omega)
      repeat (with_reducible refine Fr.setCell ?_ (fun _ => by simp) _)
      exact Fr.refl _ _
    · repeat (with_reducible refine Fr.setNew ?_ (by omega) _)
      exact (F1.trans F2 (fun _ _ h => h)).mono (fun _ _ h => h.elim)
  | some i =>
    obtain ⟨p, hp, hful, hkey⟩ := find_some hf
    have k5 := hA1.out.k5 hp
    have zp := hA1.out.zp (i * 6 + 5)
    have h2 := hA1.out.set hp 5 (by omega) (.bool true) { p with marked := true } rfl rfl rfl trivial
    have hf2 : find (pl.set i { p with marked := true }) key = some i := by
      rw [find_set h.nd hp { p with marked := true } (fun a => .inl ⟨hful, rfl⟩)]; simp [hful, hkey]
    have e1 : markM pl key = pl.set i { p with marked := true } := by simp only [markM, hf]; exact modify_eq hp _
    have e3 : lookM pl key = p.v := by simp [lookM, hf, hp]
    have e4 : lookM (pl.set i { p with marked := true }) key = p.v := by
      have := get_set hp { p with marked := true } i
      rw [if_pos rfl] at this
      simp [lookM, hf2, this]
    have HF := hid hf
    have HF2 := hid hf2
    have E := hid (And.intro e1 (And.intro e3 e4))
    have HW := hid hw1
    have FN := hid (find_at hA1.out key)
    rw [hf] at FN
    have H2 := hid h2
    obtain ⟨w2, hw2⟩ : ∃ w2, w1.setCell ⟨bp, i * 6 + 5, none⟩ (.bool true) = w2 := ⟨_, rfl⟩
    have F12 : Fr (fun b => b = bp) w1 w2 := by rw [← hw2]; exact (Fr.refl (fun b => b = bp) _).setCell (a := ⟨bp, i * 6 + 5, none⟩) (fun _ => rfl) _
    have HW2 := hid hw2
    have l1 := F1.size
    clear hf h e1 e3 e4 hw1 b1 hf2 h2 hp hful hkey hw2
    go_enter Tryz.func86, Tryz.ntmps86
    go_wp2_with fail
    rw [HW.out]
    refine FN.out.mono ?_
    rintro e w' ⟨rfl, rfl⟩
    go_wp2_with fail
    rw [HW2.out]
    have hA2 := hid H2.out
    rw [HW2.out] at hA2
    refine (look_at hA2.out key).mono ?_
    rintro e w3 ⟨rfl, F3⟩
    have F13 := F12.trans F3 (fun _ _ h => h.elim)
    obtain ⟨c0, c1, c2, z, l⟩ := cells3 (F13.heap B1.out (by omega))
    rw [HF2.out, E.out.2.2]
    obtain ⟨key', ⟨st, la, ll, lc, di⟩, fu, ma⟩ := p
    clear k5 zp
    go_wp2
    refine bodyPost_ret (v := .tuple #[.agg #[.int .i64 st, .slice la ll lc, .bool di], .bool true]) (by simp [results, go_sem, *]) rfl ⟨by rw [E.out.2.1, HF.out]; rfl, ?_, ?_⟩
    · rw [E.out.1]
      refine (hA2.out.fr F3 (fun h => h) (fun h => h) (fun h => h)).fr (S := fun b => b = w.heap.size) ?_ (by omega) (by omega) (by omega)
      repeat (with_reducible refine Fr.setCell ?_ (fun _ => by simp) _)
      exact Fr.refl _ _
    · repeat (with_reducible refine Fr.setNew ?_ (by omega) _)
      exact (F1.mono (S' := fun b => b = bp) (fun _ _ h => h.elim)).trans F13 (fun _ _ h => h)
end CP
end Go.Proofs.YtgdhaaokolfdoaaGreatDoor

/- What a put of the clock's model does: in three cases. -/
namespace Go.Sg.Clk
open Go.RowKit

structure Did (pl : List Pl) (key : Int) (v : Pg) (M : Put) : Prop where
  len : M.pl.length = pl.length
  lt : M.hand < pl.length
  there : ∃ j, find M.pl key = some j ∧ M.pl[j]? = some ⟨key, v, true, true⟩
  nd : Nd M.pl
  cases : (∃ i, find pl key = some i ∧ M.gone = none ∧ M.pl.countP (·.full) = pl.countP (·.full)) ∨
    (find pl key = none ∧ M.gone = none ∧ M.pl.countP (·.full) = pl.countP (·.full) + 1) ∨
    (find pl key = none ∧ ∃ g, M.gone = some g ∧ g.key ≠ key ∧ pl.countP (·.full) = pl.length ∧ M.pl.countP (·.full) = pl.countP (·.full) ∧ find M.pl g.key = none)

theorem full_count {pl : List Pl} (h : empty pl = none) : pl.countP (·.full) = pl.length := by
  rw [List.countP_eq_length]
  intro p hp
  rw [empty, List.findIdx?_eq_none_iff] at h
  simpa using h p hp

theorem did {pl : List Pl} {hand : Nat} (hn : Nd pl) (hh : hand < pl.length) (key : Int) (v : Pg) : Did pl key v (putM pl hand key v) := by
  cases hf : find pl key with
  | some i =>
    obtain ⟨p, hp, hfu, hk⟩ := find_some hf
    have e : putM pl hand key v = ⟨pl.set i ⟨key, v, true, true⟩, hand, none⟩ := by simp [putM, hf]
    have hq : (⟨key, v, true, true⟩ : Pl).full = true → (p.full = true ∧ (⟨key, v, true, true⟩ : Pl).key = p.key) ∨ find pl (⟨key, v, true, true⟩ : Pl).key = none := fun _ => .inl ⟨hfu, hk.symm⟩
    refine ⟨by rw [e]; simp, by rw [e]; exact hh, ⟨i, ?_, ?_⟩, by rw [e]; exact nd_set hn hp _ hq, .inl ⟨i, hf, by rw [e], ?_⟩⟩
    · rw [e]; simp only; rw [find_set hn hp ⟨key, v, true, true⟩ hq]; simp
    · rw [e]; simp only; rw [get_set hp, if_pos rfl]
    · rw [e]; simp only; rw [count_set hp, hfu]; have := count_pos hp hfu; simp; omega
  | none =>
    cases he : empty pl with
    | some i =>
      obtain ⟨p, hp, hfu⟩ : ∃ p, pl[i]? = some p ∧ p.full = false := by
        rw [empty, List.findIdx?_eq_some_iff_getElem] at he
        obtain ⟨hi, h1, _⟩ := he
        exact ⟨pl[i], by simp, by simpa using h1⟩
      have e : putM pl hand key v = ⟨pl.set i ⟨key, v, true, true⟩, hand, none⟩ := by simp [putM, hf, he]
      have hq : (⟨key, v, true, true⟩ : Pl).full = true → (p.full = true ∧ (⟨key, v, true, true⟩ : Pl).key = p.key) ∨ find pl (⟨key, v, true, true⟩ : Pl).key = none := fun _ => .inr hf
      refine ⟨by rw [e]; simp, by rw [e]; exact hh, ⟨i, ?_, ?_⟩, by rw [e]; exact nd_set hn hp _ hq, .inr (.inl ⟨hf, by rw [e], ?_⟩)⟩
      · rw [e]; simp only; rw [find_set hn hp ⟨key, v, true, true⟩ hq]; simp
      · rw [e]; simp only; rw [get_set hp, if_pos rfl]
      · rw [e]; simp only; rw [count_set hp, hfu]; simp
    | none =>
      have e := putM_full (hand := hand) (v := v) hf he
      have hl := spin_len pl.length pl hand
      have hi := spin_lt pl.length pl hand hh
      have hf2 := spin_find pl.length pl hand key
      have he2 := spin_empty pl.length pl hand
      rw [hf] at hf2
      rw [he] at he2
      have hn2 : Nd (spin pl.length pl hand).1 := by
        intro a b x y hx hy hxf hyf hk
        have gx := spin_get (f := pl.length) (pl := pl) (h := hand) a
        have gy := spin_get (f := pl.length) (pl := pl) (h := hand) b
        rw [hx] at gx
        rw [hy] at gy
        cases hxa : pl[a]? with
        | none => rw [hxa] at gx; cases gx
        | some x' =>
          cases hyb : pl[b]? with
          | none => rw [hyb] at gy; cases gy
          | some y' =>
            rw [hxa] at gx
            rw [hyb] at gy
            simp only [Option.map_some, Option.some.injEq, Pl.unmark, Pl.mk.injEq] at gx gy
            exact hn a b x' y' hxa hyb (by rw [← gx.2.2.1, hxf]) (by rw [← gy.2.2.1, hyf]) (by rw [← gx.1, ← gy.1, hk])
      generalize spin pl.length pl hand = s at *
      obtain ⟨p, hp⟩ : ∃ p, s.1[s.2]? = some p := ⟨_, List.getElem?_eq_getElem (by omega)⟩
      have hfu := full_of_empty he2 hp
      have hq : (⟨key, v, true, true⟩ : Pl).full = true → (p.full = true ∧ (⟨key, v, true, true⟩ : Pl).key = p.key) ∨ find s.1 (⟨key, v, true, true⟩ : Pl).key = none := fun _ => .inr hf2
      have hne := find_none hf2 hp hfu
      refine ⟨by rw [e]; simpa using hl, by rw [e]; exact Nat.mod_lt _ (by omega), ⟨s.2, ?_, ?_⟩, by rw [e]; exact nd_set hn2 hp _ hq, .inr (.inr ⟨hf, p, by rw [e]; exact hp, hne, full_count he, ?_, ?_⟩)⟩
      · rw [e]; simp only; rw [find_set hn2 hp ⟨key, v, true, true⟩ hq]; simp
      · rw [e]; simp only; rw [get_set hp, if_pos rfl]
      · rw [e]; simp only; rw [count_set hp, hfu, full_count he2, full_count he, hl]; simp; omega
      · rw [e]; simp only; rw [find_set hn2 hp ⟨key, v, true, true⟩ hq]
        rw [if_neg (by rintro ⟨_, h⟩; exact hne h.symm), if_pos ⟨hfu, rfl⟩]
end Go.Sg.Clk
