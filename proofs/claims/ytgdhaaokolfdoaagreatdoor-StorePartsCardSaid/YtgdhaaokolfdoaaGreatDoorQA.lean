/- A pack of texts: Lib, Clk, CP, CQ, Put, CR, CS, CT, Mem, MA, By, Set, Bits, Shl, Tz, Free, Take, Lf, Fl, Fr, St, Md. Conditions: those that each text names. -/
import Derived.WalkKit
import Derived.WalkLawsBesides
import Derived.RangeFuncWrites
import Derived.RangeFuncLeaves
import Derived.Below
import Derived.Laws.OwnMore
import Derived.OwnWalk
import Derived.Maps.AppendAt
import Derived.Test.YtgdhaaokolfdoaaGreatDoorProg
import Derived.Deep.QuietTactic
import Derived.BigQuiet
import Derived.RegionTactic
import Derived.BigRegion
import Derived.Deep.LoopGhost
import Derived.Shelf.Abstract
import Derived.OwnWalkIn
import Derived.TacticsInMore
import Derived.LoopNIn
import Derived.LoopIn
import Derived.RangeFuncCalls
import Derived.Sort.BigQuietIn
import Derived.RangeFuncNested
import Derived.Lib.SliceRun
import Derived.Maps.RangeWalk
import Derived.Lib.SlKeysI
import Derived.Laws.BitsAllLaws
import Derived.Shelf.Spec.TrailingZeros
import Derived.Shelf.SlIterI.Nil
import Derived.Shelf.SortM.Plain
import Derived.Shelf.SortM.SortNone
import Derived.Ground.GgzProg
import Derived.Ground.SlgmProg
import Derived.Ground.Names7Prog
/- A library of our own: frames of worlds, maps keyed by integers by their rows of entries. -/
namespace Go.Sg
open Go.RowKit
@[go_sem] theorem wide_fn (f : FuncId) : Fence.wide.fn f = True := rfl
@[go_sem] theorem wide_round_fn (l : Nat) (f : FuncId) : (Fence.wide.inRound l).fn f = True := rfl
@[go_sem] theorem wide_depth : Fence.wide.depth = none := rfl
theorem hid {p : Prop} (h : p) : Hid p := h

/-- Only the blocks of S, and new ones, have turned. -/
structure Fr (S : Nat → Prop) (w w' : World) : Prop where
  os : w'.os = w.os
  tape : w'.tape = w.tape
  output : w'.output = w.output
  size : w.heap.size ≤ w'.heap.size
  block : ∀ b, b < w.heap.size → ¬ S b → w'.heap[b]? = w.heap[b]?

theorem Fr.refl (S : Nat → Prop) (w : World) : Fr S w w := ⟨rfl, rfl, rfl, Nat.le_refl _, fun _ _ _ => rfl⟩

theorem Fr.trans {S S' : Nat → Prop} {w w1 w2 : World} (h : Fr S w w1) (k : Fr S' w1 w2) (hs : ∀ b, b < w.heap.size → S' b → S b) : Fr S w w2 :=
  ⟨k.os.trans h.os, k.tape.trans h.tape, k.output.trans h.output, Nat.le_trans h.size k.size,
   fun b hb hn => (k.block b (Nat.lt_of_lt_of_le hb h.size) (fun hs' => hn (hs b hb hs'))).trans (h.block b hb hn)⟩

theorem Fr.mono {S S' : Nat → Prop} {w w1 : World} (h : Fr S w w1) (hs : ∀ b, b < w.heap.size → S b → S' b) : Fr S' w w1 :=
  ⟨h.os, h.tape, h.output, h.size, fun b hb hn => h.block b hb (fun hs' => hn (hs b hb hs'))⟩

theorem heap_alloc_lt (w : World) (o : Obj) (b : Nat) (h : b < w.heap.size) : (w.alloc o).heap[b]? = w.heap[b]? := by
  show (w.heap.push o)[b]? = _
  rw [Array.getElem?_push, if_neg (Nat.ne_of_lt h)]
theorem heap_alloc_new (w : World) (o : Obj) : (w.alloc o).heap[w.heap.size]? = some o := by
  show (w.heap.push o)[w.heap.size]? = _
  rw [Array.getElem?_push, if_pos rfl]
theorem heap_setCell_ne (w : World) (a : Addr) (v : Value) (b : Nat) (h : a.block ≠ b) : (w.setCell a v).heap[b]? = w.heap[b]? := by
  simp [World.setCell, Array.getElem?_modify, h]
theorem heap_setCell_cells (w : World) (b o : Nat) (v : Value) {c : Array Value} {t : TypeId} {f : Nat × Nat} (h : w.heap[b]? = some (.cells c t f)) :
    (w.setCell ⟨b, o, none⟩ v).heap[b]? = some (.cells (c.setIfInBounds o v) t f) := by
  simp [World.setCell, Array.getElem?_modify, h]
theorem heap_putObj_ne (w : World) (r : Nat) (o : Obj) (b : Nat) (h : r ≠ b) : (w.putObj r o).heap[b]? = w.heap[b]? := by
  simp [World.putObj, h]
theorem heap_putObj_same (w : World) (r : Nat) (o : Obj) (h : r < w.heap.size) : (w.putObj r o).heap[r]? = some o := by
  simp [World.putObj, h]
theorem lt_of_heap {w : World} {b : Nat} {o : Obj} (h : w.heap[b]? = some o) : b < w.heap.size := (Array.getElem?_eq_some_iff.1 h).1

theorem Fr.alloc {S : Nat → Prop} {w w1 : World} (h : Fr S w w1) (o : Obj) : Fr S w (w1.alloc o) :=
  ⟨h.os, h.tape, h.output, Nat.le_trans h.size (by simp), fun b hb hn => (heap_alloc_lt w1 o b (Nat.lt_of_lt_of_le hb h.size)).trans (h.block b hb hn)⟩
theorem Fr.setCell {S : Nat → Prop} {w w1 : World} (h : Fr S w w1) {a : Addr} (ha : a.block < w.heap.size → S a.block) (v : Value) : Fr S w (w1.setCell a v) :=
  ⟨h.os, h.tape, h.output, by simpa using h.size, fun b hb hn => (heap_setCell_ne w1 a v b (by rintro rfl; exact hn (ha hb))).trans (h.block b hb hn)⟩
theorem Fr.putObj {S : Nat → Prop} {w w1 : World} (h : Fr S w w1) {r : Nat} (ha : r < w.heap.size → S r) (o : Obj) : Fr S w (w1.putObj r o) :=
  ⟨h.os, h.tape, h.output, by simpa [World.putObj] using h.size, fun b hb hn => (heap_putObj_ne w1 r o b (by rintro rfl; exact hn (ha hb))).trans (h.block b hb hn)⟩
theorem Fr.drew {S : Nat → Prop} {w w1 : World} (h : Fr S w w1) : Fr S w w1.drew := ⟨h.os, h.tape, h.output, h.size, h.block⟩
theorem Fr.drewN {S : Nat → Prop} {w w1 : World} (h : Fr S w w1) (n : Nat) : Fr S w (w1.drewN n) := ⟨h.os, h.tape, h.output, h.size, h.block⟩
theorem Fr.heap {S : Nat → Prop} {w w1 : World} (h : Fr S w w1) {b : Nat} {o : Obj} (hb : w.heap[b]? = some o) (hn : ¬ S b) : w1.heap[b]? = some o := (h.block b (lt_of_heap hb) hn).trans hb
theorem Fr.cell {S : Nat → Prop} {w w1 : World} (h : Fr S w w1) {p : Addr} (hb : p.block < w.heap.size) (hn : ¬ S p.block) : w1.cell? p = w.cell? p := World.cell?_of_block (h.block _ hb hn)
theorem Fr.of_below {S : Nat → Prop} {w w1 : World} (h : Below w.heap.size w w1) : Fr S w w1 := ⟨h.os, h.tape, h.output, h.size, fun b hb _ => h.block b hb⟩
theorem Fr.of_grownBy {w w1 : World} {r : Nat} (h : w.grownBy w1 (some r)) : Fr (· = r) w w1 := ⟨h.os, h.tape, h.output, h.size, fun b hb hn => h.block b hb (fun e => hn (by cases e; rfl))⟩
theorem Fr.below {S : Nat → Prop} {w w1 : World} (h : Fr S w w1) (hs : ∀ b, b < w.heap.size → ¬ S b) : Below w.heap.size w w1 :=
  ⟨h.os, h.tape, h.output, h.size, fun b hb => h.block b hb (hs b hb)⟩

theorem cell_of_heap {w : World} {b : Nat} {c : Array Value} {t : TypeId} {f : Nat × Nat} (h : w.heap[b]? = some (.cells c t f)) (o : Nat) : w.cell? ⟨b, o, none⟩ = c[o]? := by
  simp [World.cell?, h]
theorem frozen_of_heap {w : World} {b : Nat} {c : Array Value} {t : TypeId} (h : w.heap[b]? = some (.cells c t (0, 0))) (o : Nat) : w.frozen? ⟨b, o, none⟩ = false := by
  simp [World.frozen?, h]

@[go_sem] theorem heap_drewN (w : World) (n : Nat) : (w.drewN n).heap = w.heap := rfl
@[go_sem] theorem heap_drew (w : World) : w.drew.heap = w.heap := rfl
@[go_sem] theorem heap_setCell_ne' (w : World) (a o : Nat) (v : Value) (b : Nat) (h : a ≠ b) : (w.setCell ⟨a, o, none⟩ v).heap[b]? = w.heap[b]? := heap_setCell_ne w _ v b h
@[go_sem] theorem heap_putObj_ne' (w : World) (r : Nat) (o : Obj) (b : Nat) (h : r ≠ b) : (w.putObj r o).heap[b]? = w.heap[b]? := heap_putObj_ne w r o b h
@[go_sem] theorem cell_putObj (w : World) (r : Nat) (o : Obj) (b i : Nat) (h : r ≠ b) : (w.putObj r o).cell? ⟨b, i, none⟩ = w.cell? ⟨b, i, none⟩ := by
  simp [World.cell?, heap_putObj_ne w r o b h]
@[go_sem] theorem frozen_putObj (w : World) (r : Nat) (o : Obj) (b i : Nat) (h : r ≠ b) : (w.putObj r o).frozen? ⟨b, i, none⟩ = w.frozen? ⟨b, i, none⟩ := by
  simp [World.frozen?, heap_putObj_ne w r o b h]
@[go_sem] theorem size_putObj (w : World) (r : Nat) (o : Obj) : (w.putObj r o).heap.size = w.heap.size := by simp [World.putObj]
@[go_sem] theorem heap_alloc_lt' (w : World) (o : Obj) (b : Nat) (h : b < w.heap.size) : (w.alloc o).heap[b]? = w.heap[b]? := heap_alloc_lt w o b h

/-! ### What a range over a function leaves alone -/
theorem own_block {β : Type} (B : Nat) (b : β → Nat) (o : β → Obj) (h : ∀ s, (o s).isCells = true ∨ b s < B) : OwnFrom B (fun s W => W.heap[b s]? = some (o s)) := by
  intro s W W' row hs hg hr
  refine (hg.block (b s) (lt_of_heap hs) ?_).trans hs
  intro e
  obtain ⟨hB, o', ho', hc⟩ := hr (b s) e.symm
  rcases h s with h | h
  · rw [hs] at ho'; cases ho'; rw [h] at hc; cases hc
  · omega
theorem own_fr {β : Type} {S : Nat → Prop} {w : World} {B : Nat} (hB : w.heap.size ≤ B) : OwnFrom B (fun (_ : β) W => Fr S w W) := by
  intro s W W' row hs hg hr
  exact hs.trans (S' := fun b => W.heap.size ≤ b ∨ B ≤ b) ⟨hg.os, hg.tape, hg.output, hg.size, fun b hb hn => hg.block b hb (fun e => hn (.inr (hr b e.symm).1))⟩
    (fun b hb h => by have := hs.size; omega)
theorem own_pure {β : Type} (B : Nat) (p : β → Prop) : OwnFrom B (fun s (_ : World) => p s) := fun _ _ _ _ hs _ _ => hs
theorem own_and {β : Type} {B : Nat} {I I' : β → World → Prop} (h : OwnFrom B I) (h' : OwnFrom B I') : OwnFrom B (fun s W => I s W ∧ I' s W) := h.and h'
theorem own_ex {β γ : Type} {B : Nat} {I : γ → β → World → Prop} (h : ∀ c, OwnFrom B (I c)) : OwnFrom B (fun s W => ∃ c, I c s W) := by
  rintro s W W' row ⟨c, hc⟩ hg hr
  exact ⟨c, h c s W W' row hc hg hr⟩

/-- A function whose range over a function is over returns. -/
theorem marks_ret1 {n : Nat} {P : Program} {fn : Func} {R : Ending → World → Prop} {tmps : Array Value} {D t : Nat} {W : World} (h : fn.results = #[.tmp t]) (hK : W.heap[D]? = some (.deferred (some [])))
    (hR : R (.returned (tmps.getD t undef)) (W.putObj D (.deferred none))) : bodyPostM Fence.wide n P fn R .ret { tmps := tmps, defers := [{ target := .collected D, args := #[] }] } W :=
  ⟨by simp, .inl ⟨_, _, rfl, run_takeDeferred hK, _, results_tmp h _ _ _, hR⟩⟩
theorem marks_ret2 {n : Nat} {P : Program} {fn : Func} {R : Ending → World → Prop} {tmps : Array Value} {D t u : Nat} {W : World} (h : fn.results = #[.tmp t, .tmp u]) (hK : W.heap[D]? = some (.deferred (some [])))
    (hR : R (.returned (.tuple #[tmps.getD t undef, tmps.getD u undef])) (W.putObj D (.deferred none))) : bodyPostM Fence.wide n P fn R .ret { tmps := tmps, defers := [{ target := .collected D, args := #[] }] } W :=
  ⟨by simp, .inl ⟨_, _, rfl, run_takeDeferred hK, _, results_tmp2 h _ _ _, hR⟩⟩

/-! ### Maps whose keys are int -/
structure Ent where
  k : Int
  v : Value
  born : Nat

def Ent.entry (e : Ent) : MapEntry := ⟨.int .i64 e.k, e.v, e.born⟩
def ents (l : List Ent) : Array MapEntry := (l.map Ent.entry).toArray
def look (l : List Ent) (k : Int) : Option Value := (l.find? (·.k == k)).map (·.v)
def put : List Ent → Int → Value → Nat → List Ent
  | [], k, v, c => [⟨k, v, c⟩]
  | e :: l, k, v, c => if e.k == k then ⟨k, v, e.born⟩ :: l else e :: put l k v c
def del : List Ent → Int → List Ent
  | [], _ => []
  | e :: l, k => if e.k == k then l else e :: del l k

theorem findNow_ents (k : Int) (l : List Ent) : ∀ i, Instr.findNow (.int .i64) (.int .i64 k) (l.map Ent.entry) i =
    some ((l.findIdx? (·.k == k)).bind fun j => (l[j]?).map fun e => (i + j, e.v)) := by
  induction l with
  | nil => intro i; rfl
  | cons e l ih =>
    intro i
    simp only [List.map_cons, Instr.findNow, Ent.entry, Instr.sameNow, if_true, List.findIdx?_cons]
    by_cases h : k = e.k
    · subst h; simp
    · have h1 : (k == e.k) = false := by simpa using h
      have h2 : (e.k == k) = false := by simpa using fun x => h x.symm
      rw [h1, h2]
      simp only [Bool.false_eq_true, if_false]
      rw [ih (i + 1)]
      cases l.findIdx? (·.k == k) with
      | none => rfl
      | some j => simp only [Option.map_some, Option.bind_some, List.getElem?_cons_succ]; congr 2; funext e; congr 1; omega

section
variable {P : Program} {T K E : TypeId} {w : World} {bm : Nat} {l : List Ent} {ck : Nat}

theorem run_getObj_map (h : w.heap[bm]? = some (.map (ents l) ck)) : (getObj bm).run P w = .ok (.map (ents l) ck) w := by
  simp [getObj, Sem.run, h]

theorem run_findKey (hk : P.underlying K = some (.int .i64)) (k : Int) : (Instr.findKey K (.int .i64 k) (ents l).toList).run P w =
    .ok ((l.findIdx? (·.k == k)).bind fun j => (l[j]?).map fun e => (j, e.v)) w := by
  simp only [Instr.findKey, Sem.run_bind, run_underlying hk, Result.andThen, ents, findNow_ents, Nat.zero_add]
  rfl

theorem run_checkKey (hk : P.underlying K = some (.int .i64)) (k : Int) (b : Bool) : (Instr.checkKey b 10000 K (.int .i64 k)).run P w = .ok () w := by
  exact MapKept.run_checkKey (n := 9999) hk (by trivial) b

theorem look_eq (l : List Ent) (k : Int) : ((l.findIdx? (·.k == k)).bind fun j => (l[j]?).map fun e => (j, e.v)).map (·.2) = look l k := by
  induction l with
  | nil => rfl
  | cons e l ih =>
    simp only [List.findIdx?_cons, look, List.find?_cons]
    by_cases h : e.k = k
    · subst h; simp
    · have h2 : (e.k == k) = false := by simpa using h
      rw [h2]
      simp only [Bool.false_eq_true, if_false]
      rw [look] at ih
      rw [← ih]
      cases l.findIdx? (·.k == k) with
      | none => rfl
      | some j => simp [Option.map_map]; cases l[j]? <;> rfl

theorem run_lookup {z : Value} (ok : Bool) (ht : P.underlying T = some (.map K E)) (hk : P.underlying K = some (.int .i64)) (hz : ∀ w, (zeroValue E).run P w = .ok z w)
    (h : w.heap[bm]? = some (.map (ents l) ck)) (k : Int) :
    (Instr.lookup T (.map (some bm)) (.int .i64 k) ok).run P w =
      .ok (if ok then .tuple #[(look l k).getD z, .bool (look l k).isSome] else (look l k).getD z) w := by
  simp only [Instr.lookup, Sem.run_bind, run_underlying ht, Result.andThen, run_getObj_map h, run_checkKey hk, run_findKey hk, Sem.run_pure]
  have e := look_eq l k
  cases hf : ((l.findIdx? (·.k == k)).bind fun j => (l[j]?).map fun e => (j, e.v)) with
  | none => rw [hf] at e; rw [← e]; simp [hz]
  | some x => rw [hf] at e; rw [← e]; cases ok <;> rfl

theorem put_some (k : Int) (v : Value) (c : Nat) : ∀ (l : List Ent) (j : Nat), l.findIdx? (·.k == k) = some j →
    (l.map Ent.entry).modify j (fun e => { e with key := .int .i64 k, val := v }) = (put l k v c).map Ent.entry ∧ ∃ e, l[j]? = some e ∧ e.k = k
  | [], j, h => by simp at h
  | e :: l, j, h => by
    rw [List.findIdx?_cons] at h
    by_cases hk : (e.k == k) = true
    · rw [hk] at h
      simp only [if_true, Option.some.injEq] at h
      subst h
      have hk' : e.k = k := by simpa using hk
      exact ⟨by simp [put, hk, Ent.entry], e, rfl, hk'⟩
    · have hk' : (e.k == k) = false := by simpa using hk
      rw [hk'] at h
      simp only [Bool.false_eq_true, if_false, Option.map_eq_some_iff] at h
      obtain ⟨i, hi, rfl⟩ := h
      obtain ⟨h1, h2⟩ := put_some k v c l i hi
      exact ⟨by simp [put, hk', h1], by simpa using h2⟩

theorem put_none (k : Int) (v : Value) (c : Nat) : ∀ (l : List Ent), l.findIdx? (·.k == k) = none → put l k v c = l ++ [⟨k, v, c⟩]
  | [], _ => rfl
  | e :: l, h => by
    rw [List.findIdx?_cons] at h
    by_cases hk : (e.k == k) = true
    · rw [hk] at h; simp at h
    · have hk' : (e.k == k) = false := by simpa using hk
      rw [hk'] at h
      simp only [Bool.false_eq_true, if_false, Option.map_eq_none_iff] at h
      simp [put, hk', put_none k v c l h]

theorem look_isSome (l : List Ent) (k : Int) : (look l k).isSome = (l.findIdx? (·.k == k)).isSome := by
  induction l with
  | nil => rfl
  | cons e l ih =>
    simp only [look, List.find?_cons, List.findIdx?_cons]
    by_cases hk : (e.k == k) = true
    · simp [hk]
    · have hk' : (e.k == k) = false := by simpa using hk
      rw [hk']
      simp only [look] at ih
      simp [ih]

theorem run_keyThatStays (k : Int) : (Instr.keyThatStays (.int .i64 k) (.int .i64 k)).run P w = .ok (.int .i64 k) w := by
  simp [Instr.keyThatStays, Instr.sameBits]

theorem run_setObj_map' {o o' : Obj} (h : w.heap[bm]? = some o) (ho : o.isCells = false) : (setObj bm o').run P w = .ok () (w.putObj bm o') := by
  cases o <;> first | (simp [Obj.isCells] at ho; done) | simp [setObj, Sem.run, h, World.putObj]

/-- The map's clock behind a put. -/
def bump (l : List Ent) (k : Int) (ck : Nat) : Nat := if (look l k).isSome then ck else ck + 1

theorem run_mapUpdate (ht : P.underlying T = some (.map K E)) (hk : P.underlying K = some (.int .i64))
    (h : w.heap[bm]? = some (.map (ents l) ck)) (k : Int) (v : Value) :
    (Instr.mapUpdate T (.map (some bm)) (.int .i64 k) v).run P w =
      .ok () (w.putObj bm (.map (ents (put l k v ck)) (bump l k ck))) := by
  unfold bump
  simp only [Instr.mapUpdate, Sem.run_bind, run_underlying ht, Result.andThen, run_getObj_map h, run_checkKey hk, run_findKey hk]
  rw [look_isSome]
  cases hf : l.findIdx? (·.k == k) with
  | none =>
    simp only [Option.bind_none]
    rw [run_setObj_map' h rfl, put_none k v ck l hf]
    simp [ents, Ent.entry]
  | some j =>
    obtain ⟨h1, e, h2, h3⟩ := put_some k v ck l j hf
    have h4 : (((ents l)[j]?).map (·.key)).getD (.int .i64 k) = .int .i64 k := by simp [ents, h2, Ent.entry, h3]
    simp only [Option.bind_some, h2, Option.map_some]
    rw [h4]
    simp only [Sem.run_bind, run_keyThatStays, Result.andThen]
    rw [run_setObj_map' h rfl]
    simp only [Option.isSome_some, if_true]
    congr 3
    rw [ents, ents, ← h1]
    simp

theorem del_some (k : Int) : ∀ (l : List Ent) (j : Nat), l.findIdx? (·.k == k) = some j → (l.map Ent.entry).eraseIdx j = (del l k).map Ent.entry
  | [], j, h => by simp at h
  | e :: l, j, h => by
    rw [List.findIdx?_cons] at h
    by_cases hk : (e.k == k) = true
    · rw [hk] at h
      simp only [if_true, Option.some.injEq] at h
      subst h
      simp [del, hk]
    · have hk' : (e.k == k) = false := by simpa using hk
      rw [hk'] at h
      simp only [Bool.false_eq_true, if_false, Option.map_eq_some_iff] at h
      obtain ⟨i, hi, rfl⟩ := h
      simp [del, hk', del_some k l i hi]

theorem del_none (k : Int) : ∀ (l : List Ent), l.findIdx? (·.k == k) = none → del l k = l
  | [], _ => rfl
  | e :: l, h => by
    rw [List.findIdx?_cons] at h
    by_cases hk : (e.k == k) = true
    · rw [hk] at h; simp at h
    · have hk' : (e.k == k) = false := by simpa using hk
      rw [hk'] at h
      simp only [Bool.false_eq_true, if_false, Option.map_eq_none_iff] at h
      simp [del, hk', del_none k l h]

theorem run_delete (ht : P.underlying T = some (.map K E)) (hk : P.underlying K = some (.int .i64))
    (h : w.heap[bm]? = some (.map (ents l) ck)) (k : Int) (t' : TypeId) (ts : Array TypeId) (hts : ts[0]? = some T) :
    (Builtin.delete_ ts t' #[.map (some bm), .int .i64 k]).run P w = .ok (.tuple #[]) (w.putObj bm (.map (ents (del l k)) ck)) := by
  simp only [Builtin.delete_, hts]
  simp only [List.getElem?_toArray, List.getElem?_cons_zero, List.getElem?_cons_succ, Sem.run_bind, run_underlying ht, Result.andThen, run_getObj_map h, run_checkKey hk, run_findKey hk]
  cases hf : l.findIdx? (·.k == k) with
  | none =>
    simp only [Option.bind_none, Sem.run_bind]
    rw [run_setObj_map' h rfl, del_none k l hf]
    rfl
  | some j =>
    obtain ⟨h1, e, h2, h3⟩ := put_some k (.bool true) ck l j hf
    simp only [Option.bind_some, h2, Option.map_some, Sem.run_bind]
    rw [run_setObj_map' h rfl]
    have := del_some k l j hf
    simp only [Result.andThen]
    congr 3
    rw [ents, ents, ← this]
    have hj : j < (l.map Ent.entry).toArray.size := by
      have := (List.getElem?_eq_some_iff.1 h2).1
      simpa using this
    simp [Array.eraseIdxIfInBounds, hj]
    have := (List.getElem?_eq_some_iff.1 h2).1
    simp [this]

theorem run_len_map (ht : P.underlying T = some (.map K E)) (h : w.heap[bm]? = some (.map (ents l) ck)) (t' : TypeId) (ts : Array TypeId) (hts : ts[0]? = some T) :
    (Builtin.len_ ts t' #[.map (some bm)]).run P w = .ok (.int .i64 l.length) w := by
  simp only [Builtin.len_, hts]
  simp only [List.getElem?_toArray, List.getElem?_cons_zero, Sem.run_bind, run_underlying ht, Result.andThen, run_getObj_map h]
  simp [ents, goInt]
end

theorem look_put (l : List Ent) (k : Int) (v : Value) (c : Nat) (k' : Int) : look (put l k v c) k' = if k = k' then some v else look l k' := by
  induction l with
  | nil =>
    by_cases h : k = k'
    · simp [put, look, h]
    · have : (k == k') = false := by simpa using h
      simp [put, look, h]
  | cons e l ih =>
    unfold put
    by_cases hk : (e.k == k) = true
    · have hk' : e.k = k := by simpa using hk
      rw [if_pos hk]
      by_cases h : k = k'
      · simp [look, h]
      · simp [look, h, hk']
    · rw [if_neg hk]
      simp only [look, List.find?_cons] at ih ⊢
      by_cases h' : (e.k == k') = true
      · have h2 : e.k = k' := by simpa using h'
        have h3 : k ≠ k' := fun x => hk (by simp [h2, x])
        simp [h', h3]
      · have h'' : (e.k == k') = false := by simpa using h'
        rw [h'']
        exact ih

def keys (l : List Ent) : List Int := l.map (·.k)

theorem keys_put (l : List Ent) (k : Int) (v : Value) (c : Nat) : keys (put l k v c) = if (look l k).isSome then keys l else keys l ++ [k] := by
  induction l with
  | nil => rfl
  | cons e l ih =>
    unfold put
    by_cases hk : (e.k == k) = true
    · have hk' : e.k = k := by simpa using hk
      simp [keys, look, hk, hk']
    · have hk' : (e.k == k) = false := by simpa using hk
      have e1 : look (e :: l) k = look l k := by simp [look, List.find?_cons, hk']
      rw [hk', e1]
      simp only [Bool.false_eq_true, if_false]
      show e.k :: keys (put l k v c) = _
      rw [ih]
      split <;> rfl

theorem look_none (l : List Ent) (k : Int) : look l k = none ↔ k ∉ keys l := by
  simp [look, keys]

theorem length_keys (l : List Ent) : (keys l).length = l.length := by simp [keys]
theorem length_put (l : List Ent) (k : Int) (v : Value) (c : Nat) : (put l k v c).length = if (look l k).isSome then l.length else l.length + 1 := by
  rw [← length_keys, keys_put]
  split <;> simp [length_keys]

theorem nodup_put {l : List Ent} (h : (keys l).Nodup) (k : Int) (v : Value) (c : Nat) : (keys (put l k v c)).Nodup := by
  rw [keys_put]
  split
  · exact h
  · rename_i hn
    have : k ∉ keys l := (look_none l k).1 (by simpa using hn)
    rw [List.nodup_append]
    refine ⟨h, by simp, ?_⟩
    rintro a ha b hb rfl
    simp at hb
    subst hb
    exact this ha

theorem keys_del (l : List Ent) (k : Int) : keys (del l k) = (keys l).erase k := by
  induction l with
  | nil => rfl
  | cons e l ih =>
    unfold del
    by_cases hk : (e.k == k) = true
    · simp [keys, hk, List.erase_cons]
    · have hk' : (e.k == k) = false := by simpa using hk
      simp only [keys] at ih
      simp [keys, List.erase_cons, hk', ih]

theorem length_del (l : List Ent) (k : Int) : (del l k).length = if (look l k).isSome then l.length - 1 else l.length := by
  rw [← length_keys, keys_del]
  cases h : look l k with
  | none => rw [List.erase_of_not_mem ((look_none l k).1 h)]; simp [length_keys]
  | some x =>
    have hk : k ∈ keys l := by
      rcases Decidable.em (k ∈ keys l) with h' | h'
      · exact h'
      · rw [(look_none l k).2 h'] at h; cases h
    rw [List.length_erase_of_mem hk]; simp [length_keys]

theorem nodup_del {l : List Ent} (h : (keys l).Nodup) (k : Int) : (keys (del l k)).Nodup := by
  rw [keys_del]; exact h.erase k

theorem look_del {l : List Ent} (h : (keys l).Nodup) (k k' : Int) : look (del l k) k' = if k = k' then none else look l k' := by
  induction l with
  | nil => simp [del, look]
  | cons e l ih =>
    have hn : (keys l).Nodup := by simp [keys] at h ⊢; exact h.2
    have he : e.k ∉ keys l := by simp [keys] at h ⊢; exact h.1
    unfold del
    by_cases hk : (e.k == k) = true
    · have hk' : e.k = k := by simpa using hk
      rw [if_pos hk]
      by_cases hh : k = k'
      · subst hh
        rw [if_pos rfl]
        exact (look_none l k).2 (hk' ▸ he)
      · simp [look, hh, hk']
    · rw [if_neg hk]
      have ih := ih hn
      simp only [look, List.find?_cons] at ih ⊢
      by_cases h' : (e.k == k') = true
      · have h2 : e.k = k' := by simpa using h'
        have h3 : k ≠ k' := fun x => hk (by simp [h2, x])
        simp [h', h3]
      · have h'' : (e.k == k') = false := by simpa using h'
        rw [h'']
        exact ih
end Go.Sg
namespace Go.Sg
open Go.RowKit
/-- 'make([]T, n)'. -/
theorem run_make_len {P : Program} (t e : TypeId) (i : TypeInfo) (z : Value) (ht : P.underlying t = some (.slice e)) (hi : P.info? e = some i) (hz : i.zero = some z) (n : Nat) (hb : i.bytes * n ≤ 281474976710656) (hn : n ≤ 9223372036854775807) (w : World) :
    (Instr.makeSlice t (.int .i64 (n : Int)) (.int .i64 (n : Int))).run P w = .ok (.slice (some ⟨w.heap.size, 0, none⟩) n n) (w.alloc (.cells (madeCells z.cells (n * i.size)) e)) := by
  have hc : (i.bytes : Int) * (n : Int) ≤ 281474976710656 := by
    have h1 : ((i.bytes * n : Nat) : Int) ≤ 281474976710656 := by omega
    rw [Int.natCast_mul] at h1
    exact h1
  have h := run_make (P := P) w t e i z ht hi hz .i64 .i64 n n (by omega) (by omega) hc (by omega)
  rw [Int.toNat_natCast] at h
  exact h
end Go.Sg

namespace Go.Sg
open Go.RowKit
theorem Fr.setNew {S : Nat → Prop} {w w1 : World} (h : Fr S w w1) {b o : Nat} (hb : w.heap.size ≤ b) (v : Value) : Fr S w (w1.setCell ⟨b, o, none⟩ v) := h.setCell (fun h' => absurd h' (by simp; omega)) v
theorem cells2 {w : World} {b : Nat} {x y : Value} {t : TypeId} (h : w.heap[b]? = some (.cells #[x, y] t)) : w.cell? ⟨b, 0, none⟩ = some x ∧ w.cell? ⟨b, 1, none⟩ = some y ∧ (∀ o, w.frozen? ⟨b, o, none⟩ = false) ∧ b < w.heap.size :=
  ⟨by simpa using cell_of_heap h 0, by simpa using cell_of_heap h 1, fun o => frozen_of_heap h o, lt_of_heap h⟩
theorem cells4 {w : World} {b : Nat} {x y z u : Value} {t : TypeId} (h : w.heap[b]? = some (.cells #[x, y, z, u] t)) :
    w.cell? ⟨b, 0, none⟩ = some x ∧ w.cell? ⟨b, 1, none⟩ = some y ∧ w.cell? ⟨b, 2, none⟩ = some z ∧ w.cell? ⟨b, 3, none⟩ = some u ∧ (∀ o, w.frozen? ⟨b, o, none⟩ = false) ∧ b < w.heap.size :=
  ⟨by simpa using cell_of_heap h 0, by simpa using cell_of_heap h 1, by simpa using cell_of_heap h 2, by simpa using cell_of_heap h 3, fun o => frozen_of_heap h o, lt_of_heap h⟩
theorem heap_two {w w' : World} {A B : Obj} (h : (w.alloc A).alloc B = w') : w'.heap[w.heap.size]? = some A ∧ w'.heap[w.heap.size + 1]? = some B ∧ Fr (fun _ => False) w w' := by
  subst h
  refine ⟨?_, ?_, ((Fr.refl _ _).alloc _).alloc _⟩
  · rw [heap_alloc_lt _ _ _ (by simp)]; exact heap_alloc_new _ _
  · have := heap_alloc_new (w.alloc A) B; simpa using this
theorem heap_three {w w' : World} {A B C : Obj} (h : ((w.alloc A).alloc B).alloc C = w') :
    w'.heap[w.heap.size]? = some A ∧ w'.heap[w.heap.size + 1]? = some B ∧ w'.heap[w.heap.size + 1 + 1]? = some C ∧ Fr (fun _ => False) w w' := by
  obtain ⟨w2, hw⟩ : ∃ w2, (w.alloc A).alloc B = w2 := ⟨_, rfl⟩
  obtain ⟨h1, h2, h3⟩ := heap_two hw
  rw [hw] at h
  have hs : w2.heap.size = w.heap.size + 1 + 1 := by rw [← hw]; simp
  subst h
  refine ⟨?_, ?_, ?_, h3.alloc _⟩
  · rw [heap_alloc_lt _ _ _ (lt_of_heap h1)]; exact h1
  · rw [heap_alloc_lt _ _ _ (lt_of_heap h2)]; exact h2
  · have := heap_alloc_new w2 C; rw [hs] at this; exact this
theorem heap_four {w w' : World} {A B C D : Obj} (h : (((w.alloc A).alloc B).alloc C).alloc D = w') :
    w'.heap[w.heap.size]? = some A ∧ w'.heap[w.heap.size + 1]? = some B ∧ w'.heap[w.heap.size + 1 + 1]? = some C ∧ w'.heap[w.heap.size + 1 + 1 + 1]? = some D ∧ Fr (fun _ => False) w w' := by
  obtain ⟨w2, hw⟩ : ∃ w2, ((w.alloc A).alloc B).alloc C = w2 := ⟨_, rfl⟩
  obtain ⟨h1, h2, h3, hF⟩ := heap_three hw
  rw [hw] at h
  have hs : w2.heap.size = w.heap.size + 1 + 1 + 1 := by rw [← hw]; simp
  subst h
  refine ⟨?_, ?_, ?_, ?_, hF.alloc _⟩
  · rw [heap_alloc_lt _ _ _ (lt_of_heap h1)]; exact h1
  · rw [heap_alloc_lt _ _ _ (lt_of_heap h2)]; exact h2
  · rw [heap_alloc_lt _ _ _ (lt_of_heap h3)]; exact h3
  · have := heap_alloc_new w2 D; rw [hs] at this; exact this
theorem cells3 {w : World} {b : Nat} {x y z : Value} {t : TypeId} (h : w.heap[b]? = some (.cells #[x, y, z] t)) :
    w.cell? ⟨b, 0, none⟩ = some x ∧ w.cell? ⟨b, 1, none⟩ = some y ∧ w.cell? ⟨b, 2, none⟩ = some z ∧ (∀ o, w.frozen? ⟨b, o, none⟩ = false) ∧ b < w.heap.size :=
  ⟨by simpa using cell_of_heap h 0, by simpa using cell_of_heap h 1, by simpa using cell_of_heap h 2, fun o => frozen_of_heap h o, lt_of_heap h⟩
theorem heap_ne {w : World} {a b : Nat} {o o' : Obj} (h : w.heap[a]? = some o) (h' : w.heap[b]? = some o') (hne : o ≠ o') : a ≠ b := by
  rintro rfl
  rw [h] at h'
  exact hne (Option.some.inj h')
theorem fr_grown {S : Nat → Prop} {w wr w' : World} {base e size n : Nat} {v : Value} {xs : List Value} {o : Obj} (F : Fr S w wr) (hb : w.heap.size ≤ base) (hown : wr.ownsRow base e size v n xs) (hg : (wr.alloc o).grownBy w' v.ownBlock) : Fr S w w' := by
  refine F.trans (S' := fun b => base ≤ b) ⟨hg.os, hg.tape, hg.output, Nat.le_trans (by simp) hg.size, fun b hb hn => ?_⟩ (fun b hb' h => by omega)
  rw [hg.block b (Nat.lt_of_lt_of_le hb (by simp)) (fun e => hn (hown.lt b e.symm).1)]
  exact heap_alloc_lt _ _ _ hb
/-- A slice of int that reads as ks. -/
def Ints (w : World) (v : Value) (ks : List Int) : Prop :=
  ∃ a cap, v = .slice a ks.length cap ∧ ∀ (i : Nat) (k : Int), ks[i]? = some k → ∃ g, a = some ⟨g, 0, none⟩ ∧ g < w.heap.size ∧ w.cell? ⟨g, i, none⟩ = some (.int .i64 k)
theorem Ints.fr {S : Nat → Prop} {w w' : World} {v : Value} {ks : List Int} (h : Ints w v ks) (F : Fr S w w') (hS : ∀ b, b < w.heap.size → ¬ S b) : Ints w' v ks := by
  obtain ⟨a, cap, e, h⟩ := h
  refine ⟨a, cap, e, fun i k hk => ?_⟩
  obtain ⟨g, ha, hl, hc⟩ := h i k hk
  exact ⟨g, ha, Nat.lt_of_lt_of_le hl F.size, (F.cell (p := ⟨g, i, none⟩) hl (hS g hl)).trans hc⟩
theorem ints_of_own {w : World} {base e : Nat} {v : Value} {ks : List Int} (h : w.ownsRow base e 1 v ks.length (ks.map (Value.int .i64))) : Ints w v ks := by
  obtain ⟨_, ⟨rfl, h0⟩ | ⟨g, cap, cur, rfl, _, hg, _, _, _, ht⟩⟩ := h
  · refine ⟨none, 0, by rw [h0], fun i k hk => ?_⟩
    have := (List.getElem?_eq_some_iff.1 hk).1
    omega
  · refine ⟨_, cap, rfl, fun i k hk => ⟨g, rfl, lt_of_heap hg, ?_⟩⟩
    have hi := (List.getElem?_eq_some_iff.1 hk).1
    rw [cell_of_heap hg]
    have : (cur.toList.take (ks.length * 1))[i]? = some (.int .i64 k) := by rw [ht, List.getElem?_map, hk]; rfl
    rw [List.getElem?_take, if_pos (by omega)] at this
    simpa using this
end Go.Sg

/- The clock's plain model: a ring of places. -/
namespace Go.Sg.Clk
open Go.RowKit

/-- A page that is in memory. -/
structure Pg where
  stamp : Int
  la : Option Addr
  ll : Nat
  lc : Nat
  dirty : Bool
abbrev Pg.load (p : Pg) : Value := .slice p.la p.ll p.lc
abbrev Pg.val (p : Pg) : Value := .agg #[.int .i64 p.stamp, p.load, .bool p.dirty]
def Pg.zero : Pg := ⟨0, none, 0, 0, false⟩
structure Pl where
  key : Int
  v : Pg
  full : Bool
  marked : Bool

def Pl.cells (p : Pl) : List Value := [.int .i64 p.key, .int .i64 p.v.stamp, p.v.load, .bool p.v.dirty, .bool p.full, .bool p.marked]
def cellsOf (pl : List Pl) : Array Value := (pl.flatMap Pl.cells).toArray
def Pl.none (z : Pg) : Pl := ⟨0, z, false, false⟩

theorem flat_get : ∀ (pl : List Pl) (i j : Nat) (p : Pl), pl[i]? = some p → j < 6 → (pl.flatMap Pl.cells)[i * 6 + j]? = p.cells[j]?
  | [], i, j, p, h, _ => by simp at h
  | q :: pl, 0, j, p, h, hj => by
    simp at h; subst h
    simp only [List.flatMap_cons, Nat.zero_mul, Nat.zero_add]
    rw [List.getElem?_append_left (by simp [Pl.cells]; omega)]
  | q :: pl, i + 1, j, p, h, hj => by
    simp only [List.flatMap_cons]
    rw [List.getElem?_append_right (by simp [Pl.cells]; omega)]
    have := flat_get pl i j p (by simpa using h) hj
    rw [← this]
    congr 1
    simp [Pl.cells]; omega

theorem cells_get {pl : List Pl} {i : Nat} {p : Pl} (h : pl[i]? = some p) (j : Nat) (hj : j < 6) : (cellsOf pl)[i * 6 + j]? = p.cells[j]? := by
  simpa [cellsOf] using flat_get pl i j p h hj

theorem flat_len (pl : List Pl) : (pl.flatMap Pl.cells).length = pl.length * 6 := by
  induction pl with
  | nil => rfl
  | cons p pl ih => simp only [List.flatMap_cons, List.length_append, ih, List.length_cons]; simp [Pl.cells]; omega
theorem size_cells (pl : List Pl) : (cellsOf pl).size = pl.length * 6 := by simp only [cellsOf, List.size_toArray, flat_len]

theorem flat_set : ∀ (pl : List Pl) (i j : Nat) (v : Value) (p q : Pl), pl[i]? = some p → j < 6 → p.cells.set j v = q.cells →
    (pl.flatMap Pl.cells).set (i * 6 + j) v = (pl.set i q).flatMap Pl.cells
  | [], i, j, v, p, q, h, _, _ => by simp at h
  | r :: pl, 0, j, v, p, q, h, hj, hq => by
    simp at h; subst h
    simp only [List.flatMap_cons, Nat.zero_mul, Nat.zero_add, List.set_cons_zero]
    rw [List.set_append_left _ _ (by simp [Pl.cells]; omega), hq]
  | r :: pl, i + 1, j, v, p, q, h, hj, hq => by
    simp only [List.flatMap_cons, List.set_cons_succ]
    rw [List.set_append_right _ _ (by simp [Pl.cells]; omega)]
    have := flat_set pl i j v p q (by simpa using h) hj hq
    rw [← this]
    congr 2
    simp [Pl.cells]; omega

theorem cells_set {pl : List Pl} {i : Nat} {p : Pl} (h : pl[i]? = some p) (j : Nat) (hj : j < 6) (v : Value) (q : Pl) (hq : p.cells.set j v = q.cells) :
    (cellsOf pl).setIfInBounds (i * 6 + j) v = cellsOf (pl.set i q) := by
  simp [cellsOf, flat_set pl i j v p q h hj hq]

/-- The place of a number. -/
def find (pl : List Pl) (key : Int) : Option Nat := pl.findIdx? fun p => p.full && p.key == key

/-- No two things have one number. -/
def Nd (pl : List Pl) : Prop := ∀ (i j : Nat) (p q : Pl), pl[i]? = some p → pl[j]? = some q → p.full = true → q.full = true → p.key = q.key → i = j

structure At (tc tp : TypeId) (ok : Pg → Prop) (w : World) (bc bp bm : Nat) (pl : List Pl) (hand : Nat) : Prop where
  c : w.heap[bc]? = some (.cells #[.slice (some ⟨bp, 0, none⟩) pl.length pl.length, .map (some bm), .int .i64 hand] tc)
  p : w.heap[bp]? = some (.cells (cellsOf pl) tp)
  m : ∃ l ck, w.heap[bm]? = some (.map (ents l) ck) ∧ (keys l).Nodup ∧ (∀ k, look l k = (find pl k).map fun i => .int .i64 i) ∧ l.length = pl.countP (·.full)
  room : 1 ≤ pl.length ∧ pl.length ≤ 4096
  hand : hand < pl.length
  vs : ∀ p ∈ pl, ok p.v
  nd : Nd pl

theorem find_some {pl : List Pl} {key : Int} {i : Nat} (h : find pl key = some i) : ∃ p, pl[i]? = some p ∧ p.full = true ∧ p.key = key := by
  rw [find, List.findIdx?_eq_some_iff_getElem] at h
  obtain ⟨hi, hp, _⟩ := h
  simp at hp
  exact ⟨pl[i], by simp, hp.1, hp.2⟩

end Go.Sg.Clk
namespace Go.Sg.Clk
/-- The places that are, with their numbers. -/
def fullAt (k : Nat) (pl : List Pl) : List (Nat × Pl) := (((List.range k).map fun i => (i, pl[i]?)).filterMap fun x => x.2.bind fun p => if p.full then some (x.1, p) else none)

theorem fullAt_succ (k : Nat) (pl : List Pl) (p : Pl) (h : pl[k]? = some p) : fullAt (k + 1) pl = if p.full then fullAt k pl ++ [(k, p)] else fullAt k pl := by
  simp only [fullAt, List.range_succ, List.map_append, List.map_cons, List.map_nil, List.filterMap_append, List.filterMap_cons, List.filterMap_nil, h, Option.bind_some]
  cases p.full <;> simp

theorem fullAt_len (k : Nat) (pl : List Pl) : (fullAt k pl).length ≤ k := by
  refine Nat.le_trans (List.length_filterMap_le _ _) ?_
  simp

theorem fullAt_prefix (pl : List Pl) : ∀ (k m : Nat), k ≤ m → m ≤ pl.length → fullAt k pl <+: fullAt m pl := by
  intro k m h hm
  induction m with
  | zero => obtain rfl : k = 0 := by omega
            exact List.prefix_rfl
  | succ m ih =>
    by_cases hk : k = m + 1
    · subst hk; exact List.prefix_rfl
    · have := ih (by omega) (by omega)
      have hp : pl[m]? = some pl[m] := List.getElem?_eq_getElem (by omega)
      rw [fullAt_succ m pl _ hp]
      split
      · exact this.trans (List.prefix_append _ _)
      · exact this
end Go.Sg.Clk
namespace Go.Sg.Clk

/-- The first place that is empty. -/
def empty (pl : List Pl) : Option Nat := pl.findIdx? fun p => !p.full
def emptyI (pl : List Pl) : Int := match empty pl with
  | some i => i
  | none => -1
theorem emptyI_some {pl : List Pl} {i : Nat} (h : empty pl = some i) : emptyI pl = i := by rw [emptyI, h]
theorem emptyI_none {pl : List Pl} (h : empty pl = none) : emptyI pl = -1 := by rw [emptyI, h]
def isFull (pl : List Pl) (i : Nat) : Bool := (pl[i]?).any (·.full)
def fulls (k : Nat) (pl : List Pl) : List Nat := (List.range k).filter (isFull pl)

theorem fullAt_fst (k : Nat) (pl : List Pl) (hk : k ≤ pl.length) : (fullAt k pl).map (·.1) = fulls k pl := by
  induction k with
  | zero => rfl
  | succ k ih =>
    have hp : pl[k]? = some pl[k] := List.getElem?_eq_getElem (by omega)
    rw [fullAt_succ k pl _ hp, fulls, List.range_succ, List.filter_append]
    have ih := ih (by omega)
    rw [fulls] at ih
    cases hf : (pl[k]).full with
    | true => simp [ih, isFull, hp, hf]
    | false => simp [ih, isFull, hp, hf]

theorem empty_none {pl : List Pl} (h : ∀ i, i < pl.length → isFull pl i = true) : empty pl = none := by
  rw [empty, List.findIdx?_eq_none_iff]
  intro p hp
  obtain ⟨i, hi, rfl⟩ := List.getElem_of_mem hp
  have := h i hi
  simpa [isFull, hi] using this

theorem empty_some {pl : List Pl} {k : Nat} (hk : k < pl.length) (h : ∀ i, i < k → isFull pl i = true) (hn : isFull pl k = false) : empty pl = some k := by
  rw [empty, List.findIdx?_eq_some_iff_getElem]
  refine ⟨hk, by simpa [isFull, hk] using hn, fun j hj => ?_⟩
  have := h j hj
  simpa [isFull, show j < pl.length by omega] using this

theorem empty_of_done {pl : List Pl} (h : (fullAt pl.length pl).map (·.1) = List.range (fullAt pl.length pl).length) :
    empty pl = if (fullAt pl.length pl).length = pl.length then none else some (fullAt pl.length pl).length := by
  rw [fullAt_fst _ _ (Nat.le_refl _)] at h
  have hle := fullAt_len pl.length pl
  generalize (fullAt pl.length pl).length = m at *
  have mem : ∀ i, i < pl.length → (isFull pl i = true ↔ i < m) := fun i hi => by
    have h1 : i ∈ fulls pl.length pl ↔ i < m := by rw [h]; simp
    rw [← h1, fulls, List.mem_filter]
    simp [hi]
  split
  · subst m; exact empty_none fun i hi => (mem i hi).2 hi
  · exact empty_some (by omega) (fun i hi => (mem i (by omega)).2 hi) (by have := mem m (by omega); simpa using this)

theorem empty_of_stop {pl : List Pl} {pre : List (Nat × Pl)} {x : Nat × Pl} (hp : pre ++ [x] <+: fullAt pl.length pl) (hpre : pre.map (·.1) = List.range pre.length) (hx : x.1 ≠ pre.length) :
    empty pl = some pre.length ∧ pre.length < pl.length := by
  obtain ⟨rest, hrest⟩ := hp
  have h : List.range pre.length ++ (x.1 :: rest.map (·.1)) = fulls pl.length pl := by
    rw [← fullAt_fst _ _ (Nat.le_refl _), ← hrest]; simp [hpre]
  have hs : (fulls pl.length pl).Pairwise (· < ·) := List.Pairwise.filter _ List.pairwise_lt_range
  rw [← h, List.pairwise_append] at hs
  obtain ⟨-, h2, h3⟩ := hs
  rw [List.pairwise_cons] at h2
  have hge : pre.length ≤ x.1 := by
    rcases Nat.lt_or_ge x.1 pre.length with h' | h'
    · have := h3 x.1 (by simpa using h') x.1 (by simp); omega
    · exact h'
  have hmem : ∀ i, i ∈ List.range pre.length ++ (x.1 :: rest.map (·.1)) ↔ i < pl.length ∧ isFull pl i = true := fun i => by rw [h, fulls]; simp
  have hxl : x.1 < pl.length := ((hmem x.1).1 (by simp)).1
  refine ⟨empty_some (by omega) (fun i hi => ((hmem i).1 (by simp; exact .inl hi)).2) ?_, by omega⟩
  cases hf : isFull pl pre.length with
  | false => rfl
  | true =>
    have := (hmem pre.length).2 ⟨by omega, hf⟩
    simp at this
    rcases this with h' | ⟨a, h'⟩
    · omega
    · have := h2.1 pre.length (by simp; exact ⟨a, h'⟩); omega

/-- The clock's hand goes on till a place that is not marked. -/
def spin : Nat → List Pl → Nat → List Pl × Nat
  | 0, pl, h => (pl, h)
  | f + 1, pl, h => match pl[h]? with
    | some p => if p.marked then spin f (pl.set h { p with marked := false }) ((h + 1) % pl.length) else (pl, h)
    | none => (pl, h)

structure Put where
  pl : List Pl
  hand : Nat
  gone : Option Pl

/-- What a put leaves. -/
def putM (pl : List Pl) (hand : Nat) (key : Int) (v : Pg) : Put :=
  match find pl key with
  | some i => ⟨pl.set i ⟨key, v, true, true⟩, hand, none⟩
  | none => match empty pl with
    | some i => ⟨pl.set i ⟨key, v, true, true⟩, hand, none⟩
    | none => let s := spin pl.length pl hand
      ⟨s.1.set s.2 ⟨key, v, true, true⟩, (s.2 + 1) % pl.length, s.1[s.2]?⟩
end Go.Sg.Clk

namespace Go.Sg.Clk
open Go.RowKit
theorem find_iff {pl : List Pl} (hn : Nd pl) (k : Int) (i : Nat) : find pl k = some i ↔ ∃ p, pl[i]? = some p ∧ p.full = true ∧ p.key = k := by
  constructor
  · exact find_some
  · rintro ⟨p, hp, hf, hk⟩
    cases h : find pl k with
    | none =>
      rw [find, List.findIdx?_eq_none_iff] at h
      have := h p (List.mem_of_getElem? hp)
      simp [hf, hk] at this
    | some j =>
      obtain ⟨q, hq, hqf, hqk⟩ := find_some h
      rw [hn i j p q hp hq hf hqf (by rw [hk, hqk])]

theorem find_eq {pl : List Pl} (hn : Nd pl) {k : Int} {x : Option Nat} (h : ∀ i, (∃ p, pl[i]? = some p ∧ p.full = true ∧ p.key = k) ↔ x = some i) : find pl k = x := by
  apply Option.ext
  intro i
  rw [find_iff hn, h]

theorem get_set {pl : List Pl} {i : Nat} {p : Pl} (hp : pl[i]? = some p) (q : Pl) (j : Nat) : (pl.set i q)[j]? = if i = j then some q else pl[j]? := by
  rw [List.getElem?_set]
  split
  · rename_i h; subst h; simp [(List.getElem?_eq_some_iff.1 hp).1]
  · rfl

theorem find_none {pl : List Pl} {k : Int} (h : find pl k = none) {i : Nat} {p : Pl} (hp : pl[i]? = some p) (hf : p.full = true) : p.key ≠ k := by
  rw [find, List.findIdx?_eq_none_iff] at h
  have := h p (List.mem_of_getElem? hp)
  intro e
  simp [hf, e] at this

theorem nd_set {pl : List Pl} (hn : Nd pl) {i : Nat} {p : Pl} (hp : pl[i]? = some p) (q : Pl) (h : q.full = true → (p.full = true ∧ q.key = p.key) ∨ find pl q.key = none) : Nd (pl.set i q) := by
  intro a b x y hx hy hxf hyf hk
  rw [get_set hp] at hx hy
  split at hx <;> split at hy
  · omega
  · rename_i h1 h2
    cases hx
    rcases h hxf with ⟨h3, h4⟩ | h3
    · subst h1; exact hn _ _ p y hp hy h3 hyf (by rw [← hk, h4])
    · exact absurd hk.symm (find_none h3 hy hyf)
  · rename_i h1 h2
    cases hy
    rcases h hyf with ⟨h3, h4⟩ | h3
    · subst h2; exact hn _ _ x p hx hp hxf h3 (by rw [hk, h4])
    · exact absurd hk (find_none h3 hx hxf)
  · exact hn a b x y hx hy hxf hyf hk

theorem find_set {pl : List Pl} (hn : Nd pl) {i : Nat} {p : Pl} (hp : pl[i]? = some p) (q : Pl) (h : q.full = true → (p.full = true ∧ q.key = p.key) ∨ find pl q.key = none) (k : Int) :
    find (pl.set i q) k = if q.full = true ∧ q.key = k then some i else if p.full = true ∧ p.key = k then none else find pl k := by
  refine find_eq (nd_set hn hp q h) fun j => ?_
  constructor
  · rintro ⟨x, hx, hf, hk⟩
    rw [get_set hp] at hx
    split at hx
    · rename_i e; subst e; cases hx; rw [if_pos ⟨hf, hk⟩]
    · rename_i e
      have h1 : ¬ (q.full = true ∧ q.key = k) := by
        rintro ⟨a, b⟩
        rcases h a with ⟨c, d⟩ | c
        · exact e (hn _ _ p x hp hx c hf (by rw [← d, b, hk]))
        · exact find_none c hx hf (by rw [hk, b])
      have h2 : ¬ (p.full = true ∧ p.key = k) := fun ⟨a, b⟩ => e (hn _ _ p x hp hx a hf (by rw [b, hk]))
      rw [if_neg h1, if_neg h2, find_iff hn]
      exact ⟨x, hx, hf, hk⟩
  · intro hj
    split at hj
    · rename_i e; cases hj; exact ⟨q, by rw [get_set hp, if_pos rfl], e.1, e.2⟩
    · rename_i e
      split at hj
      · cases hj
      · rename_i e2
        obtain ⟨x, hx, hf, hk⟩ := find_some hj
        refine ⟨x, ?_, hf, hk⟩
        rw [get_set hp, if_neg]
        · exact hx
        · rintro rfl; rw [hp] at hx; cases hx; exact e2 ⟨hf, hk⟩

theorem count_set {pl : List Pl} {i : Nat} {p : Pl} (hp : pl[i]? = some p) (q : Pl) :
    (pl.set i q).countP (·.full) = pl.countP (·.full) - (if p.full = true then 1 else 0) + if q.full = true then 1 else 0 := by
  obtain ⟨hi, rfl⟩ := List.getElem?_eq_some_iff.1 hp
  rw [List.countP_set hi]

theorem count_pos {pl : List Pl} {i : Nat} {p : Pl} (hp : pl[i]? = some p) (hf : p.full = true) : 0 < pl.countP (·.full) :=
  List.countP_pos_iff.2 ⟨p, List.mem_of_getElem? hp, hf⟩

section
variable {tc tp : TypeId} {ok : Pg → Prop} {w w' : World} {bc bp bm hand : Nat} {pl : List Pl}

theorem At.fr {S : Nat → Prop} (h : At tc tp ok w bc bp bm pl hand) (hf : Fr S w w') (h1 : ¬ S bc) (h2 : ¬ S bp) (h3 : ¬ S bm) : At tc tp ok w' bc bp bm pl hand := by
  obtain ⟨l, ck, hm, r⟩ := h.m
  exact ⟨hf.heap h.c h1, hf.heap h.p h2, ⟨l, ck, hf.heap hm h3, r⟩, h.room, h.hand, h.vs, h.nd⟩

theorem At.ne (h : At tc tp ok w bc bp bm pl hand) : bc ≠ bp ∧ bc ≠ bm ∧ bp ≠ bm := by
  obtain ⟨l, ck, hm, r⟩ := h.m
  have hc := h.c
  have hp := h.p
  have hr := h.room
  refine ⟨?_, ?_, ?_⟩
  · rintro rfl
    rw [hc] at hp
    cases hp' : pl with
    | nil => simp [hp'] at hr
    | cons x r =>
      rw [hp'] at hp
      simp [cellsOf, Pl.cells] at hp
  · rintro rfl; rw [hc] at hm; cases hm
  · rintro rfl; rw [hp] at hm; cases hm

/-- One cell of a place turns; its number and whether it is there do not. -/
theorem At.set (h : At tc tp ok w bc bp bm pl hand) {i : Nat} {p : Pl} (hp : pl[i]? = some p) (j : Nat) (hj : j < 6) (v : Value) (q : Pl) (hq : p.cells.set j v = q.cells)
    (hk : q.key = p.key) (hf : q.full = p.full) (hv : ok q.v) : At tc tp ok (w.setCell ⟨bp, i * 6 + j, none⟩ v) bc bp bm (pl.set i q) hand := by
  obtain ⟨n1, n2, n3⟩ := h.ne
  obtain ⟨l, ck, hm, hnd, hl, hc⟩ := h.m
  have hs : q.full = true → (p.full = true ∧ q.key = p.key) ∨ find pl q.key = none := fun a => .inl ⟨by rw [← hf, a], hk⟩
  refine ⟨?_, ?_, ⟨l, ck, ?_, hnd, fun k => ?_, ?_⟩, by simpa using h.room, by simpa using h.hand, fun x hx => ?_, nd_set h.nd hp q hs⟩
  · rw [heap_setCell_ne _ _ _ _ (by simpa using n1.symm), h.c]; simp
  · rw [heap_setCell_cells _ _ _ _ h.p, cells_set hp j hj v q hq]
  · rw [heap_setCell_ne _ _ _ _ (by simpa using n3), hm]
  · rw [hl, find_set h.nd hp q hs, hk, hf]
    split
    · rename_i e; rw [(find_iff h.nd k i).2 ⟨p, hp, e.1, e.2⟩]
    · rfl
  · rw [hc, count_set hp, hf]
    split
    · rename_i e; have := count_pos hp e; omega
    · omega
  · rcases List.mem_or_eq_of_mem_set hx with h' | rfl
    · exact h.vs x h'
    · exact hv
end
end Go.Sg.Clk
namespace Go.Sg.Clk
open Go.RowKit
/-- How many marks there are. -/
def marks (pl : List Pl) : Nat := pl.countP (·.marked)
theorem marks_le (pl : List Pl) : marks pl ≤ pl.length := List.countP_le_length
theorem marks_pos {pl : List Pl} {i : Nat} {p : Pl} (hp : pl[i]? = some p) (hf : p.marked = true) : 0 < marks pl :=
  List.countP_pos_iff.2 ⟨p, List.mem_of_getElem? hp, hf⟩
theorem marks_set {pl : List Pl} {i : Nat} {p : Pl} (hp : pl[i]? = some p) (hm : p.marked = true) : marks (pl.set i { p with marked := false }) + 1 = marks pl := by
  have := marks_pos hp hm
  obtain ⟨hi, rfl⟩ := List.getElem?_eq_some_iff.1 hp
  rw [marks, List.countP_set hi]
  rw [marks] at this
  simp [marks, hm]
  omega
theorem spin_mark {k : Nat} {pl : List Pl} {h : Nat} {p : Pl} (hp : pl[h]? = some p) (hm : p.marked = true) : spin (k + 1) pl h = spin k (pl.set h { p with marked := false }) ((h + 1) % pl.length) := by
  simp [spin, hp, hm]
theorem spin_stop {k : Nat} {pl : List Pl} {h : Nat} {p : Pl} (hp : pl[h]? = some p) (hm : p.marked = false) : spin k pl h = (pl, h) := by
  cases k <;> simp [spin, hp, hm]
theorem At.turn {tc tp : TypeId} {ok : Pg → Prop} {w : World} {bc bp bm hand : Nat} {pl : List Pl} (h : At tc tp ok w bc bp bm pl hand) {n : Nat} (hn : n < pl.length) :
    At tc tp ok (w.setCell ⟨bc, 2, none⟩ (.int .i64 n)) bc bp bm pl n := by
  obtain ⟨n1, n2, n3⟩ := h.ne
  obtain ⟨l, ck, hm, r⟩ := h.m
  refine ⟨?_, ?_, ⟨l, ck, ?_, r⟩, h.room, hn, h.vs, h.nd⟩
  · rw [heap_setCell_cells _ _ _ _ h.c]; simp
  · rw [heap_setCell_ne _ _ _ _ (by simpa using n1), h.p]
  · rw [heap_setCell_ne _ _ _ _ (by simpa using n2), hm]
theorem At.drewN {tc tp : TypeId} {ok : Pg → Prop} {w : World} {bc bp bm hand : Nat} {pl : List Pl} (h : At tc tp ok w bc bp bm pl hand) (n : Nat) : At tc tp ok (w.drewN n) bc bp bm pl hand := ⟨h.c, h.p, h.m, h.room, h.hand, h.vs, h.nd⟩
theorem At.drew {tc tp : TypeId} {ok : Pg → Prop} {w : World} {bc bp bm hand : Nat} {pl : List Pl} (h : At tc tp ok w bc bp bm pl hand) : At tc tp ok w.drew bc bp bm pl hand := ⟨h.c, h.p, h.m, h.room, h.hand, h.vs, h.nd⟩
end Go.Sg.Clk

namespace Go.Sg.Clk
open Go.RowKit
section
variable {tc tp : TypeId} {ok : Pg → Prop} {w w' : World} {bc bp bm hand : Nat} {pl : List Pl}
theorem heap_place {W : World} (h : W.heap[bp]? = some (.cells (cellsOf pl) tp)) {i : Nat} {p : Pl} (hp : pl[i]? = some p) (q : Pl) :
    ((((((W.setCell ⟨bp, i * 6, none⟩ (.int .i64 q.key)).setCell ⟨bp, i * 6 + 1, none⟩ (.int .i64 q.v.stamp)).setCell ⟨bp, i * 6 + 2, none⟩ q.v.load).setCell ⟨bp, i * 6 + 3, none⟩ (.bool q.v.dirty)).setCell ⟨bp, i * 6 + 4, none⟩ (.bool q.full)).setCell ⟨bp, i * 6 + 5, none⟩ (.bool q.marked)).heap[bp]? =
      some (.cells (cellsOf (pl.set i q)) tp) := by
  rw [heap_setCell_cells _ _ _ _ (heap_setCell_cells _ _ _ _ (heap_setCell_cells _ _ _ _ (heap_setCell_cells _ _ _ _ (heap_setCell_cells _ _ _ _ (heap_setCell_cells _ _ _ _ h)))))]
  have at_ : ∀ r : Pl, (pl.set i r)[i]? = some r := fun r => by rw [get_set hp, if_pos rfl]
  have s0 := cells_set hp 0 (by omega) (.int .i64 q.key) { p with key := q.key } rfl
  have s1 := cells_set (at_ { p with key := q.key }) 1 (by omega) (.int .i64 q.v.stamp) ⟨q.key, { p.v with stamp := q.v.stamp }, p.full, p.marked⟩ rfl
  have s2 := cells_set (at_ ⟨q.key, { p.v with stamp := q.v.stamp }, p.full, p.marked⟩) 2 (by omega) q.v.load ⟨q.key, ⟨q.v.stamp, q.v.la, q.v.ll, q.v.lc, p.v.dirty⟩, p.full, p.marked⟩ rfl
  have s3 := cells_set (at_ ⟨q.key, ⟨q.v.stamp, q.v.la, q.v.ll, q.v.lc, p.v.dirty⟩, p.full, p.marked⟩) 3 (by omega) (.bool q.v.dirty) ⟨q.key, q.v, p.full, p.marked⟩ rfl
  have s4 := cells_set (at_ ⟨q.key, q.v, p.full, p.marked⟩) 4 (by omega) (.bool q.full) ⟨q.key, q.v, q.full, p.marked⟩ rfl
  have s5 := cells_set (at_ ⟨q.key, q.v, q.full, p.marked⟩) 5 (by omega) (.bool q.marked) q rfl
  simp only [List.set_set, Nat.add_zero] at s0 s1 s2 s3 s4 s5
  rw [s0, s1, s2, s3, s4, s5]

/-- A place turns whole, and the map with it. -/
theorem At.place (h : At tc tp ok w bc bp bm pl hand) {i : Nat} {p : Pl} (hp : pl[i]? = some p) (q : Pl) (hq : q.full = true → (p.full = true ∧ q.key = p.key) ∨ find pl q.key = none) (hv : ok q.v) {hand' : Nat} (hh : hand' < pl.length) {W : World}
    (hc : W.heap[bc]? = some (.cells #[.slice (some ⟨bp, 0, none⟩) pl.length pl.length, .map (some bm), .int .i64 hand'] tc)) (hb : W.heap[bp]? = some (.cells (cellsOf (pl.set i q)) tp)) {l' : List Ent} {ck' : Nat} (hm : W.heap[bm]? = some (.map (ents l') ck')) (hnd : (keys l').Nodup)
    (hl : ∀ k, look l' k = if q.full = true ∧ q.key = k then some (.int .i64 i) else if p.full = true ∧ p.key = k then none else (find pl k).map fun i => .int .i64 i)
    (hn : l'.length = pl.countP (·.full) - (if p.full = true then 1 else 0) + if q.full = true then 1 else 0) : At tc tp ok W bc bp bm (pl.set i q) hand' := by
  refine ⟨by simpa using hc, hb, ⟨l', ck', hm, hnd, fun k => ?_, ?_⟩, by simpa using h.room, by simpa using hh, fun x hx => ?_, nd_set h.nd hp q hq⟩
  · rw [hl, find_set h.nd hp q hq]
    split
    · rfl
    · split <;> rfl
  · rw [hn, count_set hp]
  · rcases List.mem_or_eq_of_mem_set hx with h' | rfl
    · exact h.vs x h'
    · exact hv
end
end Go.Sg.Clk

namespace Go.Sg.Clk
section
variable {tc tp : TypeId} {ok : Pg → Prop} {w w' : World} {bc bp bm hand : Nat} {pl : List Pl}
theorem At.c0 (h : At tc tp ok w bc bp bm pl hand) : w.cell? ⟨bc, 0, none⟩ = some (.slice (some ⟨bp, 0, none⟩) pl.length pl.length) := by simpa using cell_of_heap h.c 0
theorem At.c1 (h : At tc tp ok w bc bp bm pl hand) : w.cell? ⟨bc, 1, none⟩ = some (.map (some bm)) := by simpa using cell_of_heap h.c 1
theorem At.c2 (h : At tc tp ok w bc bp bm pl hand) : w.cell? ⟨bc, 2, none⟩ = some (.int .i64 hand) := by simpa using cell_of_heap h.c 2
theorem At.z2 (h : At tc tp ok w bc bp bm pl hand) : w.frozen? ⟨bc, 2, none⟩ = false := frozen_of_heap h.c 2
theorem At.k0 (h : At tc tp ok w bc bp bm pl hand) {i : Nat} {p : Pl} (hp : pl[i]? = some p) : w.cell? ⟨bp, i * 6, none⟩ = some (.int .i64 p.key) := by
  have := cell_of_heap h.p (i * 6 + 0); rw [cells_get hp 0 (by omega)] at this; simpa [Pl.cells] using this
theorem At.k1 (h : At tc tp ok w bc bp bm pl hand) {i : Nat} {p : Pl} (hp : pl[i]? = some p) : w.cell? ⟨bp, i * 6 + 1, none⟩ = some (.int .i64 p.v.stamp) := by
  have := cell_of_heap h.p (i * 6 + 1); rw [cells_get hp 1 (by omega)] at this; simpa [Pl.cells] using this
theorem At.k2 (h : At tc tp ok w bc bp bm pl hand) {i : Nat} {p : Pl} (hp : pl[i]? = some p) : w.cell? ⟨bp, i * 6 + 2, none⟩ = some (.slice p.v.la p.v.ll p.v.lc) := by
  have := cell_of_heap h.p (i * 6 + 2); rw [cells_get hp 2 (by omega)] at this; simpa [Pl.cells] using this
theorem At.k3 (h : At tc tp ok w bc bp bm pl hand) {i : Nat} {p : Pl} (hp : pl[i]? = some p) : w.cell? ⟨bp, i * 6 + 3, none⟩ = some (.bool p.v.dirty) := by
  have := cell_of_heap h.p (i * 6 + 3); rw [cells_get hp 3 (by omega)] at this; simpa [Pl.cells] using this
theorem At.k4 (h : At tc tp ok w bc bp bm pl hand) {i : Nat} {p : Pl} (hp : pl[i]? = some p) : w.cell? ⟨bp, i * 6 + 4, none⟩ = some (.bool p.full) := by
  have := cell_of_heap h.p (i * 6 + 4); rw [cells_get hp 4 (by omega)] at this; simpa [Pl.cells] using this
theorem At.k5 (h : At tc tp ok w bc bp bm pl hand) {i : Nat} {p : Pl} (hp : pl[i]? = some p) : w.cell? ⟨bp, i * 6 + 5, none⟩ = some (.bool p.marked) := by
  have := cell_of_heap h.p (i * 6 + 5); rw [cells_get hp 5 (by omega)] at this; simpa [Pl.cells] using this
theorem At.zp (h : At tc tp ok w bc bp bm pl hand) (o : Nat) : w.frozen? ⟨bp, o, none⟩ = false := frozen_of_heap h.p o
end
end Go.Sg.Clk

namespace Go.Sg.Clk
def Pl.unmark (p : Pl) : Pl := { p with marked := false }
theorem spin_same (f : Nat) : ∀ (pl : List Pl) (h : Nat), (spin f pl h).1.map Pl.unmark = pl.map Pl.unmark := by
  induction f with
  | zero => intro pl h; rfl
  | succ f ih =>
    intro pl h
    unfold spin
    split
    · rename_i p hp
      split
      · rw [ih, List.map_set]
        obtain ⟨hi, rfl⟩ := List.getElem?_eq_some_iff.1 hp
        apply List.ext_getElem?
        intro j
        rw [List.getElem?_set]
        split
        · rename_i e; subst e; simp [hi, Pl.unmark]
        · rfl
      · rfl
    · rfl
theorem spin_len (f : Nat) (pl : List Pl) (h : Nat) : (spin f pl h).1.length = pl.length := by
  have := congrArg List.length (spin_same f pl h); simpa using this
theorem spin_lt (f : Nat) : ∀ (pl : List Pl) (h : Nat), h < pl.length → (spin f pl h).2 < pl.length := by
  induction f with
  | zero => intro pl h hh; exact hh
  | succ f ih =>
    intro pl h hh
    unfold spin
    split
    · rename_i p hp
      split
      · have := ih (pl.set h { p with marked := false }) ((h + 1) % pl.length) (by rw [List.length_set]; exact Nat.mod_lt _ (by omega))
        simpa using this
      · exact hh
    · exact hh
theorem spin_get {f : Nat} {pl : List Pl} {h : Nat} (j : Nat) : ((spin f pl h).1[j]?).map Pl.unmark = (pl[j]?).map Pl.unmark := by
  rw [← List.getElem?_map, ← List.getElem?_map, spin_same]
theorem find_unmark (pl : List Pl) (k : Int) : find pl k = find (pl.map Pl.unmark) k := by
  simp only [find, List.findIdx?_map]; rfl
theorem spin_find (f : Nat) (pl : List Pl) (h : Nat) (k : Int) : find (spin f pl h).1 k = find pl k := by
  rw [find_unmark, spin_same, ← find_unmark]
theorem empty_unmark (pl : List Pl) : empty pl = empty (pl.map Pl.unmark) := by
  simp only [empty, List.findIdx?_map]; rfl
theorem spin_empty (f : Nat) (pl : List Pl) (h : Nat) : empty (spin f pl h).1 = empty pl := by
  rw [empty_unmark, spin_same, ← empty_unmark]
theorem full_of_empty {pl : List Pl} (h : empty pl = none) {i : Nat} {p : Pl} (hp : pl[i]? = some p) : p.full = true := by
  rw [empty, List.findIdx?_eq_none_iff] at h
  have := h p (List.mem_of_getElem? hp)
  simpa using this
theorem putM_full {pl : List Pl} {hand : Nat} {key : Int} {v : Pg} (hf : find pl key = none) (he : empty pl = none) :
    putM pl hand key v = ⟨(spin pl.length pl hand).1.set (spin pl.length pl hand).2 ⟨key, v, true, true⟩, ((spin pl.length pl hand).2 + 1) % pl.length, (spin pl.length pl hand).1[(spin pl.length pl hand).2]?⟩ := by
  simp [putM, hf, he]
end Go.Sg.Clk
namespace Go.Sg.Clk
open Go.RowKit
theorem cells_made (n : Nat) : madeCells #[.int .i64 0, .int .i64 0, .slice none 0 0, .bool false, .bool false, .bool false] (n * 6) = cellsOf (List.replicate n (Pl.none Pg.zero)) := by
  apply Array.ext
  · rw [size_madeCells, size_cells]; simp
  · intro i h1 h2
    have hi : i < n * 6 := by simpa [size_madeCells] using h1
    have e : (cellsOf (List.replicate n (Pl.none Pg.zero)))[i]? = (Pl.none Pg.zero).cells[i % 6]? := by
      have hd : i = i / 6 * 6 + i % 6 := by omega
      have hq : (List.replicate n (Pl.none Pg.zero))[i / 6]? = some (Pl.none Pg.zero) := by rw [List.getElem?_replicate, if_pos (by omega)]
      have := cells_get hq (i % 6) (by omega)
      rw [← hd] at this
      exact this
    rw [Array.getElem?_eq_getElem h2] at e
    have h4 : i % 6 < 6 := by omega
    have e2 : (Pl.none Pg.zero).cells[i % 6]? = some ((Pl.none Pg.zero).cells[i % 6]'(by simp [Pl.cells]; omega)) := List.getElem?_eq_getElem _
    rw [e2] at e
    rw [Option.some.inj e]
    simp [madeCells, Pl.cells, Pl.none, Pg.zero, getElem!_def]
    generalize i % 6 = j at *
    match j, h4 with
    | 0, _ => rfl
    | 1, _ => rfl
    | 2, _ => rfl
    | 3, _ => rfl
    | 4, _ => rfl
    | 5, _ => rfl
theorem At.fresh {tc tp : TypeId} {ok : Pg → Prop} {w : World} {n : Nat} (hz : ok Pg.zero) (h1 : 1 ≤ n) (h2 : n ≤ 4096) :
    At tc tp ok (((w.alloc (.cells (madeCells #[.int .i64 0, .int .i64 0, .slice none 0 0, .bool false, .bool false, .bool false] (n * 6)) tp)).alloc (.map #[] 0)).alloc (.cells #[.slice (some ⟨w.heap.size, 0, none⟩) n n, .map (some (w.heap.size + 1)), .int .i64 0] tc))
      (w.heap.size + 2) w.heap.size (w.heap.size + 1) (List.replicate n (Pl.none Pg.zero)) 0 := by
  refine ⟨?_, ?_, ⟨[], 0, ?_, by simp [keys], fun k => ?_, ?_⟩, by simp; omega, by simp; omega, fun p hp => ?_, ?_⟩
  · have := heap_alloc_new ((w.alloc (.cells (madeCells #[.int .i64 0, .int .i64 0, .slice none 0 0, .bool false, .bool false, .bool false] (n * 6)) tp)).alloc (.map #[] 0)) (.cells #[.slice (some ⟨w.heap.size, 0, none⟩) n n, .map (some (w.heap.size + 1)), .int .i64 0] tc)
    simp only [World.size_alloc] at this
    simpa using this
  · rw [heap_alloc_lt _ _ _ (by simp; omega), heap_alloc_lt _ _ _ (by simp), heap_alloc_new, cells_made]
  · have := heap_alloc_new (w.alloc (.cells (madeCells #[.int .i64 0, .int .i64 0, .slice none 0 0, .bool false, .bool false, .bool false] (n * 6)) tp)) (.map #[] 0)
    simp only [World.size_alloc] at this
    rw [heap_alloc_lt _ _ _ (by simp), this]
    rfl
  · have : find (List.replicate n (Pl.none Pg.zero)) k = none := by
      rw [find, List.findIdx?_eq_none_iff]
      intro p hp
      rw [List.eq_of_mem_replicate hp]; rfl
    rw [this]; rfl
  · simp [List.countP_replicate, Pl.none]
  · rw [List.eq_of_mem_replicate hp]; exact hz
  · intro i j p q hp _ hf
    rw [List.eq_of_mem_replicate (List.mem_of_getElem? hp)] at hf
    cases hf
end Go.Sg.Clk

/- The clock of pages: what find, Look, full, empty, victim compute. Conditions: the clock lies in the world as AtP says. -/
namespace Go.Proofs.YtgdhaaokolfdoaaGreatDoor
theorem Tryz.zero3 (w : World) : (zeroValue 3).run Tryz.prog w = .ok (.int .i64 0) w := by kernel_rfl
namespace CP
open Go.RowKit Go.Sg Go.Sg.Clk Go.Shelf
attribute [local go_sem] Oper.semAt_some
def isP (_ : Pg) : Prop := True
abbrev AtP := At 260 264 isP
theorem find_nil (key : Int) (w : World) : Calls Tryz.prog 154 #[.pointer none, .int .i64 key] w fun e w' => e = .returned (.pointer none) ∧ w = w' := by
  go_enter Tryz.func154, Tryz.ntmps154
  go_wp2
  go_ret
  exact ⟨rfl, rfl⟩

theorem find_at {w : World} {bc bp bm hand : Nat} {pl : List Pl} (h : AtP w bc bp bm pl hand) (key : Int) :
    Calls Tryz.prog 154 #[.pointer (some ⟨bc, 0, none⟩), .int .i64 key] w fun e w' => e = .returned (.pointer ((find pl key).map fun i => ⟨bp, i * 6, none⟩)) ∧ w = w' := by
  obtain ⟨l, ck, hm, -, hlook, -⟩ := h.m
  have h0 := cell_of_heap h.c 0
  have h1 := cell_of_heap h.c 1
  simp at h0 h1
  have hl := run_lookup (P := Tryz.prog) (T := 258) true Tryz.underlying258 Tryz.underlying3 Tryz.zero3 hm key
  rw [hlook] at hl
  have hr := h.room
  cases hf : find pl key with
  | none =>
    rw [hf] at hl
    simp at hl
    clear hf hlook hm h
    go_enter Tryz.func154, Tryz.ntmps154
    go_wp2
    go_ret
    exact ⟨rfl, rfl⟩
  | some i =>
    rw [hf] at hl
    simp at hl
    have hi : i < pl.length := by
      obtain ⟨p, hp, -⟩ := find_some hf
      exact (List.getElem?_eq_some_iff.1 hp).1
    clear hf hlook hm h
    go_enter Tryz.func154, Tryz.ntmps154
    go_wp2
    go_ret
    exact ⟨rfl, rfl⟩


/-- What a look finds. -/
def lookM (pl : List Pl) (key : Int) : Pg := ((find pl key).bind fun i => (pl[i]?).map (·.v)).getD Pg.zero
theorem look_nil (key : Int) (w : World) : Calls Tryz.prog 155 #[.pointer none, .int .i64 key] w fun e w' => e = .returned (.tuple #[Pg.zero.val, .bool false]) ∧ Fr (fun _ => False) w w' := by
  go_enter Tryz.func155, Tryz.ntmps155
  go_wp2_with (go_at_call 154; refine (find_nil _ _).mono ?_; rintro e w' ⟨rfl, rfl⟩)
  try simp only [Exit.inBlock, Exit.then]
  refine bodyPost_ret (v := .tuple #[Pg.zero.val, .bool false]) (by simp [results, go_sem, Pg.zero, *]) rfl ⟨rfl, ((Fr.refl _ _).alloc _).alloc _⟩
theorem look_at {w : World} {bc bp bm hand : Nat} {pl : List Pl} (h : AtP w bc bp bm pl hand) (key : Int) :
    Calls Tryz.prog 155 #[.pointer (some ⟨bc, 0, none⟩), .int .i64 key] w fun e w' => e = .returned (.tuple #[(lookM pl key).val, .bool (find pl key).isSome]) ∧ Fr (fun _ => False) w w' := by
  have F := hid (fun W (FW : Fr (fun _ => False) w W) => find_at (h.fr FW (fun h => h) (fun h => h) (fun h => h)) key)
  cases hf : find pl key with
  | none =>
    rw [hf] at F
    have e2 : lookM pl key = Pg.zero := by simp [lookM, hf]
    have E2 := hid e2
    clear hf h e2
    go_enter Tryz.func155, Tryz.ntmps155
    go_wp2_with (go_at_call 154; refine (F.out _ ((Fr.refl _ _).alloc _)).mono ?_; rintro e w' ⟨rfl, rfl⟩)
    try simp only [Exit.inBlock, Exit.then]
    refine bodyPost_ret (v := .tuple #[Pg.zero.val, .bool false]) (by simp [results, go_sem, Pg.zero, *]) rfl ⟨by rw [E2.out]; rfl, ((Fr.refl _ _).alloc _).alloc _⟩
  | some i =>
    rw [hf] at F
    obtain ⟨p, hp, -⟩ := find_some hf
    have c1 := h.k1 hp
    have c2 := h.k2 hp
    have c3 := h.k3 hp
    have e2 : lookM pl key = p.v := by simp [lookM, hf, hp]
    have E2 := hid e2
    have hbp := lt_of_heap h.p
    clear hf h e2 hp
    go_enter Tryz.func155, Tryz.ntmps155
    go_wp2_with (go_at_call 154; refine (F.out _ ((Fr.refl _ _).alloc _)).mono ?_; rintro e w' ⟨rfl, rfl⟩)
    refine bodyPost_ret (v := .tuple #[p.v.val, .bool true]) (by simp [results, go_sem, *]) rfl ⟨by rw [E2.out]; rfl, ?_⟩
    first | exact (Fr.refl _ _).alloc _ | (refine Fr.setNew (Fr.setNew (Fr.setNew ((Fr.refl _ _).alloc _) ?_ _) ?_ _) ?_ _ <;> omega)

theorem full_any (a : Option Addr) (w : World) :
    Calls Tryz.prog 228 #[.pointer a] w fun e w' => e = .returned (.func (.func 268) #[] #[.pointer (some ⟨w.heap.size, 0, none⟩)]) ∧ w.alloc (.cells #[.pointer a] 154) = w' := by
  go_enter Tryz.func228, Tryz.ntmps228
  go_wp2
  go_ret
  exact ⟨rfl, rfl⟩

abbrev encP (x : Nat × Pl) : Array Value := #[.int .i64 x.1, .agg #[.int .i64 x.2.key, .int .i64 x.2.v.stamp, .slice x.2.v.la x.2.v.ll x.2.v.lc, .bool x.2.v.dirty, .bool x.2.full, .bool x.2.marked]]

set_option maxRecDepth 100000 in
set_option maxHeartbeats 2000000 in
theorem fullf_stops {w : World} {bc bp bm hand bx : Nat} {pl : List Pl} (h : AtP w bc bp bm pl hand) (hx : w.cell? ⟨bx, 0, none⟩ = some (.pointer (some ⟨bc, 0, none⟩))) :
    SeqStopsK Fence.wide 9 Tryz.prog 268 #[.pointer (some ⟨bx, 0, none⟩)] encP (fun W W' => W'.heap[bp]? = W.heap[bp]?) (fun xs => xs = fullAt pl.length pl) (fun pre => pre <+: fullAt pl.length pl) pl.length w := fun l J Jx W hW hJ _ hY h0 => by
  have hr := h.room
  have hbp := lt_of_heap h.p
  have hx' := (hW.cell (p := ⟨bx, 0, none⟩) (World.block_lt_of_cell? _ _ hx)).trans hx
  have hc0 := (hW.cell (p := ⟨bc, 0, none⟩) (lt_of_heap h.c)).trans (cell_of_heap h.c 0)
  simp at hc0
  have hp := (hW.block bp hbp).trans h.p
  clear hx hW
  refine callsIn_of_wp Tryz.func268 rfl trivial ?_ rfl
  simp only [Tryz.ntmps268, List.size_toArray, List.length_cons, List.length_nil, Nat.reduceAdd, Nat.reduceSub, Array.replicate_succ, Array.replicate_zero, List.push_toArray, List.append_toArray, List.nil_append, List.cons_append]
  gi_wp2
  gi_loopw [10] (fun i wr => ∃ k : Nat, k ≤ pl.length ∧ i = .int .i64 k ∧ J (fullAt k pl) wr ∧ wr.heap[bp]? = some (.cells (cellsOf pl) 264)) (fun i _ => pl.length - (intOf i).toNat)
  case atStart => exact ⟨0, Nat.zero_le _, rfl, h0, hp⟩
  case round =>
    obtain ⟨k, hk, rfl, hJs, hps⟩ := hrel
    by_cases hlt : k < pl.length
    · obtain ⟨⟨key, v, ful, mk⟩, hp⟩ : ∃ p, pl[k]? = some p := ⟨_, List.getElem?_eq_getElem hlt⟩
      obtain ⟨sta, la, ll, lc, di⟩ := v
      have c0 := cell_of_heap hps (k * 6 + 0)
      have c1 := cell_of_heap hps (k * 6 + 1)
      have c2 := cell_of_heap hps (k * 6 + 2)
      have c3 := cell_of_heap hps (k * 6 + 3)
      have c4 := cell_of_heap hps (k * 6 + 4)
      have c5 := cell_of_heap hps (k * 6 + 5)
      rw [cells_get hp _ (by omega)] at c0 c1 c2 c3 c4 c5
      simp [Pl.cells] at c0 c1 c2 c3 c4 c5
      have hs := fullAt_succ k pl _ hp
      have HS := hid hs
      have HP := hid hps
      have hbw := lt_of_heap hps
      clear hs hps hp
      cases ful with
      | false =>
        gi_wp2
        go_roundw
        case rel => exact ⟨k + 1, by omega, by simp, by rw [HS.out]; exact hJ _ _ _ none hJs (World.grownBy_alloc _ _ _) (fun r e => by cases e), (heap_alloc_lt _ _ _ hbw).trans HP.out⟩
        case measure => simp [intOf]; omega
      | true =>
        obtain ⟨fn, tmps, assign, body, hy, hR⟩ := hY _ (k, ⟨key, ⟨sta, la, ll, lc, di⟩, true, mk⟩) (wr.alloc (.cells #[.int .i64 key, .int .i64 sta, .slice la ll lc, .bool di, .bool true, .bool mk] 264)) (hJ _ _ _ none hJs (World.grownBy_alloc _ _ _) (fun r e => by cases e)) (Nat.lt_of_le_of_lt (fullAt_len _ _) hlt)
        dsimp only [encP] at hy
        gi_wp2
        refine hR.mono ?_
        rintro e W3 (⟨rfl, hJ3, hk3⟩ | ⟨rfl, hJx3⟩)
        · gi_wp2
          go_roundw
          case rel => exact ⟨k + 1, by omega, by simp, by rw [HS.out]; exact hJ3, (hk3.trans (heap_alloc_lt _ _ _ hbw)).trans HP.out⟩
          case measure => simp [intOf]; omega
        · gi_wp2
          refine bodyPost_ret (results_none rfl _ _ _) rfl ?_
          exact ⟨⟨_, rfl⟩, .inr ⟨_, (by have := fullAt_prefix pl (k + 1) pl.length (by omega) (Nat.le_refl _); rw [HS.out] at this; exact this), hJx3⟩⟩
    · obtain rfl : k = pl.length := by omega
      gi_wp2
      go_end0
      exact ⟨⟨_, rfl⟩, .inl ⟨_, rfl, hJs⟩⟩


set_option maxRecDepth 100000 in
set_option maxHeartbeats 2000000 in
theorem empty_at {w : World} {bc bp bm hand : Nat} {pl : List Pl} (h : AtP w bc bp bm pl hand) :
    Calls Tryz.prog 171 #[.pointer (some ⟨bc, 0, none⟩)] w fun e w' => e = .returned (.int .i64 (emptyI pl)) ∧ Fr (fun _ => False) w w' := by
  refine (callsIn_wide (n := 10)).1 ?_
  have hr := h.room
  have F := hid (full_any (some ⟨bc, 0, none⟩) (w.alloc (.cells #[.int .i64 0] 3)))
  refine callsIn_of_wp_marks Tryz.func171 rfl trivial ?_ rfl
  simp only [Tryz.ntmps171, List.size_toArray, List.length_cons, List.length_nil, Nat.reduceAdd, Nat.reduceSub, Array.replicate_succ, Array.replicate_zero, List.push_toArray, List.append_toArray, List.nil_append, List.cons_append]
  gi_wp2_with (gi_at_call 228; refine (callsIn_wide.2 F.out).mono ?_; rintro e w' ⟨rfl, rfl⟩)
  obtain ⟨W0, hW0⟩ : ∃ W0, (w.alloc (.cells #[.int .i64 0] 3)).alloc (.cells #[.pointer (some ⟨bc, 0, none⟩)] 154) = W0 := ⟨_, rfl⟩
  have hF0 : Fr (fun _ => False) w W0 := by rw [← hW0]; exact ((Fr.refl _ w).alloc _).alloc _
  have hsz : W0.heap.size = w.heap.size + 1 + 1 := by rw [← hW0]; simp
  have hnx : W0.heap[w.heap.size]? = some (.cells #[.int .i64 0] 3) := by rw [← hW0]; exact (heap_alloc_lt _ _ _ (by simp)).trans (heap_alloc_new _ _)
  have hbx : W0.cell? ⟨w.heap.size + 1, 0, none⟩ = some (.pointer (some ⟨bc, 0, none⟩)) := by rw [← hW0]; simp [go_sem]
  have h0 : AtP W0 bc bp bm pl hand := h.fr hF0 (fun h => h) (fun h => h) (fun h => h)
  have hbp := lt_of_heap h0.p
  simp only [hW0]
  refine wpIn_rangeFunc_ownG (F := Fence.wide) rfl (by omega) (gf := 268) (lb := #[.pointer (some ⟨w.heap.size + 1, 0, none⟩)]) rfl trivial (enters_of Tryz.func268 (by kernel_rfl) rfl)
    (fullf_stops h0 hbx) (fun h k => k.trans h) (fun W l o o' hl _ _ _ => heap_putObj_ne _ _ _ _ (by omega)) (Below.refl _ _) (fun _ => rfl)
    (fun pre W => (W.heap[w.heap.size]? = some (.cells #[.int .i64 pre.length] 3) ∧ Fr (fun _ => False) w W) ∧ pre.map (·.1) = List.range pre.length)
    (fun c pre W => (∃ k : Nat, (W.heap[w.heap.size]? = some (.cells #[.int .i64 k] 3) ∧ Fr (fun _ => False) w W) ∧ ∃ pre0 x, pre = pre0 ++ [x] ∧ pre0.length = k ∧ pre0.map (·.1) = List.range k ∧ x.1 ≠ k) ∧ c = .exit 0)
    (own_and (own_and (own_block _ _ _ (fun _ => .inl rfl)) (own_fr (by omega))) (own_pure _ _))
    (fun c => own_and (own_ex fun k => own_and (own_and (own_block _ _ _ (fun _ => .inl rfl)) (own_fr (by omega))) (own_pure _ _)) (own_pure _ _))
    ⟨⟨hnx, hF0⟩, rfl⟩
    (fun x => { tmps := #[.pointer (some ⟨bc, 0, none⟩), undef, .int .i64 0, .pointer (some ⟨w.heap.size, 0, none⟩), .int .i64 x.1, .pointer (some ⟨bc, 0, none⟩), .func (.func 268) #[] #[.pointer (some ⟨w.heap.size + 1, 0, none⟩)], .int .i64 x.1, .agg #[.int .i64 x.2.key, .int .i64 x.2.v.stamp, .slice x.2.v.la x.2.v.ll x.2.v.lc, .bool x.2.v.dirty, .bool x.2.full, .bool x.2.marked], undef, undef, undef, undef, undef, undef, undef, undef, undef, undef, undef, undef, undef], defers := [] }) ?assign ?body ?done ?stop
  case assign =>
    intro l x W K hK
    gi_wp2
    exact hK
  case body =>
    rintro l pre x W ⟨⟨hn, hFr⟩, hpre⟩ hlen
    have c0 := cell_of_heap hn 0
    have z0 := frozen_of_heap hn 0
    simp at c0
    have hw := lt_of_heap hn
    by_cases hx : x.1 = pre.length
    · have hd : ((x.1 : Int) == (pre.length : Int)) = true := by simp [hx]
      have hX := hid hx
      have HP := hid hpre
      have HN := hid hn
      clear hx hpre hn
      gi_wp2
      refine ⟨(KeepsOthers.setCell _ _ _).from _, heap_setCell_ne _ _ _ _ (by have := lt_of_heap h.p; simp; omega), ⟨?_, hFr.setCell (fun hh => absurd hh (Nat.lt_irrefl _)) _⟩, ?_⟩
      · rw [heap_setCell_cells _ _ _ _ HN.out]; simp
      · simp [HP.out, hX.out, List.range_succ]
    · have hd : ((x.1 : Int) == (pre.length : Int)) = false := by simp; omega
      have hX := hid hx
      have HP := hid hpre
      have HN := hid hn
      clear hx hpre hn
      gi_wp2
      exact ⟨(KeepsOthers.refl _).from _, ⟨_, ⟨HN.out, hFr⟩, _, _, rfl, rfl, HP.out, hX.out⟩, rfl⟩
  case done =>
    rintro D ys W hD rfl ⟨⟨hn, hFr⟩, hpre⟩ hK
    have c0 := cell_of_heap hn 0
    have z0 := frozen_of_heap hn 0
    simp at c0
    have e0 := (hFr.cell (p := ⟨bc, 0, none⟩) (lt_of_heap h.c) (fun h => h)).trans (cell_of_heap h.c 0)
    simp at e0
    have hm := fullAt_len pl.length pl
    by_cases hx : (fullAt pl.length pl).length = pl.length
    · have hd : (((fullAt pl.length pl).length : Int) == (pl.length : Int)) = true := by simp [hx]
      have hX := hid hx
      have HP := hid hpre
      have HN := hid hn
      clear hx hpre hn
      gi_wp2
      gi_big_quiet_th (fail)
      gi_wp2
      refine marks_ret1 (t := 2) rfl (show (W.drewN nq).heap[D]? = _ from hK) ⟨by rw [emptyI_none (by rw [empty_of_done HP.out, if_pos hX.out])]; rfl, (hFr.drewN _).putObj (fun hh => by omega) _⟩
    · have hd : (((fullAt pl.length pl).length : Int) == (pl.length : Int)) = false := by simp; omega
      have hX := hid hx
      have HP := hid hpre
      have HN := hid hn
      clear hx hpre hn
      gi_wp2
      gi_big_quiet_th (fail)
      gi_wp2
      refine marks_ret1 (t := 2) rfl (show (W.drewN nq).heap[D]? = _ from hK) ⟨by rw [emptyI_some (by rw [empty_of_done HP.out, if_neg hX.out])]; rfl, (hFr.drewN _).putObj (fun hh => by omega) _⟩
  case stop =>
    rintro D c pre W hD hSp ⟨⟨k, ⟨hn, hFr⟩, pre0, x, rfl, rfl, hpre, hne⟩, rfl⟩ hK
    have c0 := cell_of_heap hn 0
    have z0 := frozen_of_heap hn 0
    simp at c0
    have e0 := (hFr.cell (p := ⟨bc, 0, none⟩) (lt_of_heap h.c) (fun h => h)).trans (cell_of_heap h.c 0)
    simp at e0
    obtain ⟨he, hl⟩ := empty_of_stop hSp hpre hne
    have hd : ((pre0.length : Int) == (pl.length : Int)) = false := by simp; omega
    have HE := hid he
    have HS := hid hSp
    have HP := hid hpre
    have HN := hid hn
    have HX := hid hne
    clear hpre hn he hSp hne
    gi_wp2
    gi_big_quiet_th (fail)
    gi_wp2
    refine marks_ret1 (t := 2) rfl (show (W.drewN nq).heap[D]? = _ from hK) ⟨by rw [emptyI_some HE.out]; rfl, (hFr.drewN _).putObj (fun hh => by omega) _⟩


def VictimPost (pl : List Pl) (hand bc bp bm : Nat) (w : World) (e : Ending) (w' : World) : Prop :=
  e = .returned (.int .i64 (spin pl.length pl hand).2) ∧ AtP w' bc bp bm (spin pl.length pl hand).1 (((spin pl.length pl hand).2 + 1) % pl.length) ∧ Fr (fun b => b = bc ∨ b = bp) w w'

set_option maxHeartbeats 1000000 in
theorem victim_at {w : World} {bc bp bm hand : Nat} {pl : List Pl} (h : AtP w bc bp bm pl hand) :
    Calls Tryz.prog 172 #[.pointer (some ⟨bc, 0, none⟩)] w (VictimPost pl hand bc bp bm w) := by
  go_enter Tryz.func172, Tryz.ntmps172
  go_wp2
  go_step3
  go_wp2
  go_step3
  go_wp2
  go_loopg [3] pl.length (fun k _ wr => ∃ (pl' : List Pl) (hd : Nat), pl'.length = pl.length ∧ AtP wr bc bp bm pl' hd ∧ Fr (fun b => b = bc ∨ b = bp) w wr ∧ spin k pl' hd = spin pl.length pl hand ∧ marks pl' ≤ k)
  case atStart => exact ⟨pl, hand, rfl, h, Fr.refl _ _, rfl, marks_le _⟩
  case round =>
    obtain ⟨pl', hd, hlen, hA, hF, hs, hk⟩ := hrel
    have hr := hA.room
    have hh := hA.hand
    obtain ⟨n1, n2, n3⟩ := hA.ne
    have e0 := cell_of_heap hA.c 0
    have e2 := cell_of_heap hA.c 2
    have z2 := frozen_of_heap hA.c 2
    simp at e0 e2
    obtain ⟨p, hp⟩ : ∃ p, pl'[hd]? = some p := ⟨_, List.getElem?_eq_getElem hh⟩
    have c3 := cell_of_heap hA.p (hd * 6 + 5)
    have z3 := frozen_of_heap hA.p (hd * 6 + 5)
    rw [cells_get hp _ (by omega)] at c3
    simp [Pl.cells] at c3
    have HA := hid hA
    have HS := hid hs
    have HP := hid hp
    have HL := hid hlen
    have hmod := Nat.mod_lt (hd + 1) (show 0 < pl'.length by omega)
    clear hA hs hp hlen
    have hc1 : ((hd : Int) + 1) % (pl'.length : Int) = (((hd + 1) % pl'.length : Nat) : Int) := by simp
    have HC := hid hc1
    clear hc1
    cases hm : p.marked with
    | true =>
      rw [hm] at c3
      have HM := hid hm
      have hpos := marks_pos HP.out hm
      have hset := marks_set HP.out hm
      clear hm
      obtain ⟨g, rfl⟩ : ∃ g, gk = g + 1 := ⟨gk - 1, by omega⟩
      go_wp2
      go_quiet (fail)
      go_wp2
      go_region
      go_wp2
      go_roundg g
      case measure => omega
      case rel =>
        rw [HC.out]
        have hA := ((HA.out.drewN (nq + 1)).turn hmod).set HP.out 5 (by omega) (.bool false) { p with marked := false } rfl rfl rfl (trivial)
        exact ⟨_, _, by simp [HL.out], hA, ((hF.drewN _).setCell (fun _ => .inl rfl) _).setCell (fun _ => .inr rfl) _, by rw [← HS.out, spin_mark HP.out HM.out], by omega⟩
    | false =>
      rw [hm] at c3
      have HM := hid hm
      clear hm
      go_wp2
      go_quiet (fail)
      go_wp2
      go_region
      go_wp2
      rw [Exit.noGoto_ret]
      go_ret
      rw [HC.out]
      have e := spin_stop (k := gk) HP.out HM.out
      rw [HS.out] at e
      refine ⟨by rw [e]; rfl, ?_, (hF.drewN _).setCell (fun _ => .inl rfl) _⟩
      rw [e, ← HL.out]
      exact (HA.out.drewN (nq + 1)).turn hmod


end CP
end Go.Proofs.YtgdhaaokolfdoaaGreatDoor

/- The clock of pages: what Len, New, Get compute. Conditions: the clock lies in the world as AtP says. -/
namespace Go.Proofs.YtgdhaaokolfdoaaGreatDoor
namespace CP
open Go.RowKit Go.Sg Go.Sg.Clk Go.Shelf
theorem len_nil (w : World) : Calls Tryz.prog 84 #[.pointer none] w fun e w' => e = .returned (.int .i64 0) ∧ w = w' := by
  go_enter Tryz.func84, Tryz.ntmps84
  go_wp2
  go_ret
  exact ⟨rfl, rfl⟩
theorem len_at {w : World} {bc bp bm hand : Nat} {pl : List Pl} (h : AtP w bc bp bm pl hand) :
    Calls Tryz.prog 84 #[.pointer (some ⟨bc, 0, none⟩)] w fun e w' => e = .returned (.int .i64 (pl.countP (·.full))) ∧ w = w' := by
  obtain ⟨l, ck, hm, -, -, hn⟩ := h.m
  have c1 := h.c1
  have hl := Sg.run_len_map (P := Tryz.prog) (T := 258) Tryz.underlying258 hm 3 #[258] rfl
  rw [hn] at hl
  clear hn hm h
  go_enter Tryz.func84, Tryz.ntmps84
  go_wp2
  go_ret
  exact ⟨rfl, rfl⟩
theorem info264 : (Tryz.prog.info? 264).map (fun i => (i.zero, i.size, i.bytes)) = some (some (.agg #[.int .i64 0, .int .i64 0, .slice none 0 0, .bool false, .bool false, .bool false]), 6, 56) := by kernel_rfl
set_option maxHeartbeats 1000000 in
theorem new_ok (n : Nat) (h1 : 1 ≤ n) (h2 : n ≤ 4096) (w : World) :
    Calls Tryz.prog 96 #[.int .i64 n] w fun e w' => e = .returned (.pointer (some ⟨w.heap.size + 2, 0, none⟩)) ∧ AtP w' (w.heap.size + 2) w.heap.size (w.heap.size + 1) (List.replicate n (Pl.none Pg.zero)) 0 ∧ Fr (fun _ => False) w w' := by
  obtain ⟨i0, hi, hz0, hz1, hz2⟩ := info_parts info264
  have hmk := fun W => run_make_len (P := Tryz.prog) 257 264 i0 _ Tryz.underlying257 hi hz0 n (by rw [hz2]; omega) (by omega) W
  have hmm := fun (t : TypeId) (W : World) => run_makeMap (P := Tryz.prog) t W
  rw [hz1] at hmk
  clear hi hz0 hz1 hz2
  go_enter Tryz.func96, Tryz.ntmps96
  go_wp2
  go_ret
  exact ⟨rfl, At.fresh trivial h1 h2, (((Fr.refl _ _).alloc _).alloc _).alloc _⟩

theorem AtP_lts {w : World} {bc bp bm hand : Nat} {pl : List Pl} (h : AtP w bc bp bm pl hand) : bc < w.heap.size ∧ bp < w.heap.size ∧ bm < w.heap.size := by
  obtain ⟨l, ck, hm, _⟩ := h.m
  exact ⟨lt_of_heap h.c, lt_of_heap h.p, lt_of_heap hm⟩
def markM (pl : List Pl) (key : Int) : List Pl := match find pl key with
  | some i => pl.modify i fun p => { p with marked := true }
  | none => pl
theorem modify_eq {pl : List Pl} {i : Nat} {p : Pl} (hp : pl[i]? = some p) (f : Pl → Pl) : pl.modify i f = pl.set i (f p) := by
  apply List.ext_getElem?
  intro j
  rw [get_set hp, List.getElem?_modify]
  split
  · rename_i e; subst e; simp [hp]
  · simp
def GetPost (pl : List Pl) (hand bc bp bm : Nat) (key : Int) (w : World) (e : Ending) (w' : World) : Prop :=
  e = .returned (.tuple #[(lookM pl key).val, .bool (find pl key).isSome]) ∧ AtP w' bc bp bm (markM pl key) hand ∧ Fr (fun b => b = bp) w w'
set_option maxHeartbeats 1000000 in
theorem get_at {w : World} {bc bp bm hand : Nat} {pl : List Pl} (h : AtP w bc bp bm pl hand) (key : Int) :
    Calls Tryz.prog 86 #[.pointer (some ⟨bc, 0, none⟩), .int .i64 key] w (GetPost pl hand bc bp bm key w) := by
  have hfr := hid (fun W (FW : Fr (fun _ => False) w W) => (h.fr FW (fun h => h) (fun h => h) (fun h => h) : AtP W bc bp bm pl hand))
  obtain ⟨w1, hw1⟩ : ∃ w1, w.alloc (.cells #[.int .i64 0, .slice none 0 0, .bool false] 162) = w1 := ⟨_, rfl⟩
  have b1 : w1.heap[w.heap.size]? = some (.cells #[.int .i64 0, .slice none 0 0, .bool false] 162) := by rw [← hw1]; exact heap_alloc_new _ _
  have F1 : Fr (fun _ => False) w w1 := by rw [← hw1]; exact (Fr.refl _ _).alloc _
  have B1 := hid b1
  have hA1 := hid (hfr.out w1 F1)
  have hlt := AtP_lts h
  cases hf : find pl key with
  | none =>
    have e1 : markM pl key = pl := by simp [markM, hf]
    have HF := hid hf
    have E := hid e1
    have HW := hid hw1
    have FN := hid (find_at hA1.out key)
    rw [hf] at FN
    clear hf h e1 hw1 b1
    go_enter Tryz.func86, Tryz.ntmps86
    go_wp2_with fail
    rw [HW.out]
    refine FN.out.mono ?_
    rintro e w' ⟨rfl, rfl⟩
    go_wp2_with fail
    refine (look_at hA1.out key).mono ?_
    rintro e w2 ⟨rfl, F2⟩
    obtain ⟨c0, c1, c2, z, l⟩ := cells3 (F2.heap B1.out (fun h => h))
    rw [HF.out]
    generalize hlm : lookM pl key = lm
    have HLM := hid hlm
    clear hlm
    obtain ⟨st, la, ll, lc, di⟩ := lm
    go_wp2
    refine bodyPost_ret (v := .tuple #[.agg #[.int .i64 st, .slice la ll lc, .bool di], .bool false]) (by simp [results, go_sem, *]) rfl ⟨by rw [HLM.out, HF.out]; rfl, ?_, ?_⟩
    · rw [E.out]
      refine (hA1.out.fr F2 (fun h => h) (fun h => h) (fun h => h)).fr (S := fun b => b = w.heap.size) ?_ (by omega) (by omega) (by omega)
      repeat (with_reducible refine Fr.setCell ?_ (fun _ => by simp) _)
      exact Fr.refl _ _
    · repeat (with_reducible refine Fr.setNew ?_ (by omega) _)
      exact (F1.trans F2 (fun _ _ h => h)).mono (fun _ _ h => h.elim)
  | some i =>
    obtain ⟨p, hp, hful, hkey⟩ := find_some hf
    have k5 := hA1.out.k5 hp
    have zp := hA1.out.zp (i * 6 + 5)
    have h2 := hA1.out.set hp 5 (by omega) (.bool true) { p with marked := true } rfl rfl rfl trivial
    have hf2 : find (pl.set i { p with marked := true }) key = some i := by
      rw [find_set h.nd hp { p with marked := true } (fun a => .inl ⟨hful, rfl⟩)]; simp [hful, hkey]
    have e1 : markM pl key = pl.set i { p with marked := true } := by simp only [markM, hf]; exact modify_eq hp _
    have e3 : lookM pl key = p.v := by simp [lookM, hf, hp]
    have e4 : lookM (pl.set i { p with marked := true }) key = p.v := by
      have := get_set hp { p with marked := true } i
      rw [if_pos rfl] at this
      simp [lookM, hf2, this]
    have HF := hid hf
    have HF2 := hid hf2
    have E := hid (And.intro e1 (And.intro e3 e4))
    have HW := hid hw1
    have FN := hid (find_at hA1.out key)
    rw [hf] at FN
    have H2 := hid h2
    obtain ⟨w2, hw2⟩ : ∃ w2, w1.setCell ⟨bp, i * 6 + 5, none⟩ (.bool true) = w2 := ⟨_, rfl⟩
    have F12 : Fr (fun b => b = bp) w1 w2 := by rw [← hw2]; exact (Fr.refl (fun b => b = bp) _).setCell (a := ⟨bp, i * 6 + 5, none⟩) (fun _ => rfl) _
    have HW2 := hid hw2
    have l1 := F1.size
    clear hf h e1 e3 e4 hw1 b1 hf2 h2 hp hful hkey hw2
    go_enter Tryz.func86, Tryz.ntmps86
    go_wp2_with fail
    rw [HW.out]
    refine FN.out.mono ?_
    rintro e w' ⟨rfl, rfl⟩
    go_wp2_with fail
    rw [HW2.out]
    have hA2 := hid H2.out
    rw [HW2.out] at hA2
    refine (look_at hA2.out key).mono ?_
    rintro e w3 ⟨rfl, F3⟩
    have F13 := F12.trans F3 (fun _ _ h => h.elim)
    obtain ⟨c0, c1, c2, z, l⟩ := cells3 (F13.heap B1.out (by omega))
    rw [HF2.out, E.out.2.2]
    obtain ⟨key', ⟨st, la, ll, lc, di⟩, fu, ma⟩ := p
    clear k5 zp
    go_wp2
    refine bodyPost_ret (v := .tuple #[.agg #[.int .i64 st, .slice la ll lc, .bool di], .bool true]) (by simp [results, go_sem, *]) rfl ⟨by rw [E.out.2.1, HF.out]; rfl, ?_, ?_⟩
    · rw [E.out.1]
      refine (hA2.out.fr F3 (fun h => h) (fun h => h) (fun h => h)).fr (S := fun b => b = w.heap.size) ?_ (by omega) (by omega) (by omega)
      repeat (with_reducible refine Fr.setCell ?_ (fun _ => by simp) _)
      exact Fr.refl _ _
    · repeat (with_reducible refine Fr.setNew ?_ (by omega) _)
      exact (F1.mono (S' := fun b => b = bp) (fun _ _ h => h.elim)).trans F13 (fun _ _ h => h)
end CP
end Go.Proofs.YtgdhaaokolfdoaaGreatDoor

/- What a put of the clock's model does: in three cases. -/
namespace Go.Sg.Clk
open Go.RowKit

structure Did (pl : List Pl) (key : Int) (v : Pg) (M : Put) : Prop where
  len : M.pl.length = pl.length
  lt : M.hand < pl.length
  there : ∃ j, find M.pl key = some j ∧ M.pl[j]? = some ⟨key, v, true, true⟩
  nd : Nd M.pl
  cases : (∃ i, find pl key = some i ∧ M.gone = none ∧ M.pl.countP (·.full) = pl.countP (·.full)) ∨
    (find pl key = none ∧ M.gone = none ∧ M.pl.countP (·.full) = pl.countP (·.full) + 1) ∨
    (find pl key = none ∧ ∃ g, M.gone = some g ∧ g.key ≠ key ∧ pl.countP (·.full) = pl.length ∧ M.pl.countP (·.full) = pl.countP (·.full) ∧ find M.pl g.key = none)

theorem count_le (pl : List Pl) : pl.countP (·.full) ≤ pl.length := List.countP_le_length
theorem full_count {pl : List Pl} (h : empty pl = none) : pl.countP (·.full) = pl.length := by
  rw [List.countP_eq_length]
  intro p hp
  rw [empty, List.findIdx?_eq_none_iff] at h
  simpa using h p hp

theorem did {pl : List Pl} {hand : Nat} (hn : Nd pl) (hh : hand < pl.length) (key : Int) (v : Pg) : Did pl key v (putM pl hand key v) := by
  cases hf : find pl key with
  | some i =>
    obtain ⟨p, hp, hfu, hk⟩ := find_some hf
    have e : putM pl hand key v = ⟨pl.set i ⟨key, v, true, true⟩, hand, none⟩ := by simp [putM, hf]
    have hq : (⟨key, v, true, true⟩ : Pl).full = true → (p.full = true ∧ (⟨key, v, true, true⟩ : Pl).key = p.key) ∨ find pl (⟨key, v, true, true⟩ : Pl).key = none := fun _ => .inl ⟨hfu, hk.symm⟩
    refine ⟨by rw [e]; simp, by rw [e]; exact hh, ⟨i, ?_, ?_⟩, by rw [e]; exact nd_set hn hp _ hq, .inl ⟨i, hf, by rw [e], ?_⟩⟩
    · rw [e]; simp only; rw [find_set hn hp ⟨key, v, true, true⟩ hq]; simp
    · rw [e]; simp only; rw [get_set hp, if_pos rfl]
    · rw [e]; simp only; rw [count_set hp, hfu]; have := count_pos hp hfu; simp; omega
  | none =>
    cases he : empty pl with
    | some i =>
      obtain ⟨p, hp, hfu⟩ : ∃ p, pl[i]? = some p ∧ p.full = false := by
        rw [empty, List.findIdx?_eq_some_iff_getElem] at he
        obtain ⟨hi, h1, _⟩ := he
        exact ⟨pl[i], by simp, by simpa using h1⟩
      have e : putM pl hand key v = ⟨pl.set i ⟨key, v, true, true⟩, hand, none⟩ := by simp [putM, hf, he]
      have hq : (⟨key, v, true, true⟩ : Pl).full = true → (p.full = true ∧ (⟨key, v, true, true⟩ : Pl).key = p.key) ∨ find pl (⟨key, v, true, true⟩ : Pl).key = none := fun _ => .inr hf
      refine ⟨by rw [e]; simp, by rw [e]; exact hh, ⟨i, ?_, ?_⟩, by rw [e]; exact nd_set hn hp _ hq, .inr (.inl ⟨hf, by rw [e], ?_⟩)⟩
      · rw [e]; simp only; rw [find_set hn hp ⟨key, v, true, true⟩ hq]; simp
      · rw [e]; simp only; rw [get_set hp, if_pos rfl]
      · rw [e]; simp only; rw [count_set hp, hfu]; simp
    | none =>
      have e := putM_full (hand := hand) (v := v) hf he
      have hl := spin_len pl.length pl hand
      have hi := spin_lt pl.length pl hand hh
      have hf2 := spin_find pl.length pl hand key
      have he2 := spin_empty pl.length pl hand
      rw [hf] at hf2
      rw [he] at he2
      have hn2 : Nd (spin pl.length pl hand).1 := by
        intro a b x y hx hy hxf hyf hk
        have gx := spin_get (f := pl.length) (pl := pl) (h := hand) a
        have gy := spin_get (f := pl.length) (pl := pl) (h := hand) b
        rw [hx] at gx
        rw [hy] at gy
        cases hxa : pl[a]? with
        | none => rw [hxa] at gx; cases gx
        | some x' =>
          cases hyb : pl[b]? with
          | none => rw [hyb] at gy; cases gy
          | some y' =>
            rw [hxa] at gx
            rw [hyb] at gy
            simp only [Option.map_some, Option.some.injEq, Pl.unmark, Pl.mk.injEq] at gx gy
            exact hn a b x' y' hxa hyb (by rw [← gx.2.2.1, hxf]) (by rw [← gy.2.2.1, hyf]) (by rw [← gx.1, ← gy.1, hk])
      generalize spin pl.length pl hand = s at *
      obtain ⟨p, hp⟩ : ∃ p, s.1[s.2]? = some p := ⟨_, List.getElem?_eq_getElem (by omega)⟩
      have hfu := full_of_empty he2 hp
      have hq : (⟨key, v, true, true⟩ : Pl).full = true → (p.full = true ∧ (⟨key, v, true, true⟩ : Pl).key = p.key) ∨ find s.1 (⟨key, v, true, true⟩ : Pl).key = none := fun _ => .inr hf2
      have hne := find_none hf2 hp hfu
      refine ⟨by rw [e]; simpa using hl, by rw [e]; exact Nat.mod_lt _ (by omega), ⟨s.2, ?_, ?_⟩, by rw [e]; exact nd_set hn2 hp _ hq, .inr (.inr ⟨hf, p, by rw [e]; exact hp, hne, full_count he, ?_, ?_⟩)⟩
      · rw [e]; simp only; rw [find_set hn2 hp ⟨key, v, true, true⟩ hq]; simp
      · rw [e]; simp only; rw [get_set hp, if_pos rfl]
      · rw [e]; simp only; rw [count_set hp, hfu, full_count he2, full_count he, hl]; simp; omega
      · rw [e]; simp only; rw [find_set hn2 hp ⟨key, v, true, true⟩ hq]
        rw [if_neg (by rintro ⟨_, h⟩; exact hne h.symm), if_pos ⟨hfu, rfl⟩]
end Go.Sg.Clk

/- The clock of pages: what Put computes. Conditions: the clock lies in the world as AtP says. -/
namespace Go.Sg
theorem Fr.set3 {S : Nat → Prop} {w w1 : World} (h : Fr S w w1) {b : Nat} (hb : S b) (x y z : Value) : Fr S w (((w1.setCell ⟨b, 0, none⟩ x).setCell ⟨b, 1, none⟩ y).setCell ⟨b, 2, none⟩ z) :=
  ((h.setCell (a := ⟨b, 0, none⟩) (fun _ => hb) x).setCell (a := ⟨b, 1, none⟩) (fun _ => hb) y).setCell (a := ⟨b, 2, none⟩) (fun _ => hb) z
theorem Fr.set3n {S : Nat → Prop} {w w1 : World} (h : Fr S w w1) {b : Nat} (hb : w.heap.size ≤ b) (x y z : Value) : Fr S w (((w1.setCell ⟨b, 0, none⟩ x).setCell ⟨b, 1, none⟩ y).setCell ⟨b, 2, none⟩ z) :=
  ((h.setNew hb x).setNew hb y).setNew hb z
end Go.Sg
namespace Go.Proofs.YtgdhaaokolfdoaaGreatDoor
namespace CP
open Go.RowKit Go.Sg Go.Sg.Clk Go.Shelf
def goneK (g : Option Pl) : Int := (g.map (·.key)).getD 0
def goneV (g : Option Pl) : Pg := (g.map (·.v)).getD Pg.zero
def PutPost (pl : List Pl) (hand bc bp bm : Nat) (key : Int) (x : Pg) (w : World) (e : Ending) (w' : World) : Prop :=
  e = .returned (.tuple #[.int .i64 (goneK (putM pl hand key x).gone), (goneV (putM pl hand key x).gone).val, .bool (putM pl hand key x).gone.isSome]) ∧
  AtP w' bc bp bm (putM pl hand key x).pl (putM pl hand key x).hand ∧ Fr (fun b => b = bc ∨ b = bp ∨ b = bm) w w'

set_option maxHeartbeats 2000000 in
theorem put_there {w : World} {bc bp bm hand : Nat} {pl : List Pl} (h : AtP w bc bp bm pl hand) (key : Int) (x : Pg) {i : Nat} (hf : find pl key = some i) :
    Calls Tryz.prog 111 #[.pointer (some ⟨bc, 0, none⟩), .int .i64 key, x.val] w (PutPost pl hand bc bp bm key x w) := by
  obtain ⟨st, la, ll, lc, di⟩ := x
  have hlt := AtP_lts h
  obtain ⟨w2, hw2⟩ : ∃ w2, (w.alloc (.cells #[.int .i64 st, .slice la ll lc, .bool di] 162)).alloc (.cells #[.int .i64 0, .slice none 0 0, .bool false] 162) = w2 := ⟨_, rfl⟩
  obtain ⟨b0, b1, F2⟩ := heap_two hw2
  have hA := h.fr F2 (fun h => h) (fun h => h) (fun h => h)
  obtain ⟨p, hp, hful, hkey⟩ := find_some hf
  have k1 := hA.k1 hp
  have k2 := hA.k2 hp
  have k3 := hA.k3 hp
  have k5 := hA.k5 hp
  have zp := hA.zp
  obtain ⟨d0, d1, d2, dz, dl⟩ := cells3 b0
  obtain ⟨c0, c1, c2, cz, cl⟩ := cells3 b1
  have g1 := hA.set hp 1 (by omega) (.int .i64 st) ⟨p.key, { p.v with stamp := st }, p.full, p.marked⟩ rfl rfl rfl trivial
  have at_ : ∀ r : Pl, (pl.set i r)[i]? = some r := fun r => by rw [get_set hp, if_pos rfl]
  have g2 := g1.set (at_ _) 2 (by omega) (.slice la ll lc) ⟨p.key, ⟨st, la, ll, lc, p.v.dirty⟩, p.full, p.marked⟩ rfl rfl rfl trivial
  rw [List.set_set] at g2
  have g3 := g2.set (at_ _) 3 (by omega) (.bool di) ⟨p.key, ⟨st, la, ll, lc, di⟩, p.full, p.marked⟩ rfl rfl rfl trivial
  rw [List.set_set] at g3
  have g5 := g3.set (at_ _) 5 (by omega) (.bool true) ⟨p.key, ⟨st, la, ll, lc, di⟩, p.full, true⟩ rfl rfl rfl trivial
  rw [List.set_set, hful, hkey] at g5
  have HE : Hid (putM pl hand key ⟨st, la, ll, lc, di⟩ = ⟨pl.set i ⟨key, ⟨st, la, ll, lc, di⟩, true, true⟩, hand, none⟩) := hid (by simp [putM, hf])
  have G5 := hid g5
  have FN := hid (find_at hA key)
  rw [hf] at FN
  have HW := hid hw2
  have n1 : w.heap.size ≠ bp := by omega
  have n2 : w.heap.size + 1 ≠ bp := by omega
  clear hf hp hful hkey at_ g1 g2 g3 g5 hA h hw2 b0 b1
  go_enter Tryz.func111, Tryz.ntmps111
  go_wp2_with fail
  rw [HW.out]
  refine FN.out.mono ?_
  rintro e w' ⟨rfl, rfl⟩
  go_wp2
  go_region
  go_wp2
  refine bodyPost_ret (v := .tuple #[.int .i64 0, Pg.zero.val, .bool false]) (by simp [results, go_sem, Pg.zero, *]) rfl ⟨by rw [HE.out]; rfl, ?_, ?_⟩
  · rw [HE.out]
    refine At.fr (S := fun b => b = w.heap.size + 1) G5.out ?_ (by omega) (by omega) (by omega)
    exact (Fr.set3 (S := fun b => b = w.heap.size + 1) (b := w.heap.size + 1) (Fr.refl _ _) rfl _ _ _).drew
  · refine Fr.drew (Fr.set3n ?_ (by omega) _ _ _)
    exact ((((F2.mono (fun _ _ h => h.elim)).setCell (a := ⟨bp, i * 6 + 1, none⟩) (fun _ => .inr (.inl rfl)) _).setCell (a := ⟨bp, i * 6 + 2, none⟩) (fun _ => .inr (.inl rfl)) _).setCell (a := ⟨bp, i * 6 + 3, none⟩) (fun _ => .inr (.inl rfl)) _).setCell (a := ⟨bp, i * 6 + 5, none⟩) (fun _ => .inr (.inl rfl)) _

set_option maxHeartbeats 4000000 in
theorem put_free {w : World} {bc bp bm hand : Nat} {pl : List Pl} (h : AtP w bc bp bm pl hand) (key : Int) (x : Pg) {i : Nat} (hf : find pl key = none) (he : empty pl = some i) :
    Calls Tryz.prog 111 #[.pointer (some ⟨bc, 0, none⟩), .int .i64 key, x.val] w (PutPost pl hand bc bp bm key x w) := by
  obtain ⟨st, la, ll, lc, di⟩ := x
  have hlt := AtP_lts h
  have n123 := h.ne
  obtain ⟨w2, hw2⟩ : ∃ w2, (w.alloc (.cells #[.int .i64 st, .slice la ll lc, .bool di] 162)).alloc (.cells #[.int .i64 0, .slice none 0 0, .bool false] 162) = w2 := ⟨_, rfl⟩
  obtain ⟨b0, b1, F2⟩ := heap_two hw2
  have hA := h.fr F2 (fun h => h) (fun h => h) (fun h => h)
  have hHE : putM pl hand key ⟨st, la, ll, lc, di⟩ = ⟨pl.set i ⟨key, ⟨st, la, ll, lc, di⟩, true, true⟩, hand, none⟩ := by simp [putM, hf, he]
  have HE := hid hHE
  have FN := hid (find_at hA key)
  rw [hf] at FN
  have EM := hid (empty_at hA)
  rw [emptyI_some he] at EM
  have HA := hid hA
  have HF := hid hf
  have HO := hid he
  have HW := hid hw2
  have B01 := hid (And.intro b0 b1)
  have hi : i < pl.length := by
    rw [empty, List.findIdx?_eq_some_iff_getElem] at he
    exact he.1
  clear hf he h hA hw2 b0 b1 hHE
  go_enter Tryz.func111, Tryz.ntmps111
  go_wp2_with fail
  rw [HW.out]
  refine FN.out.mono ?_
  rintro e w' ⟨rfl, rfl⟩
  go_wp2_with fail
  refine EM.out.mono ?_
  rintro e w3 ⟨rfl, F3⟩
  have hA3 := HA.out.fr F3 (fun h => h) (fun h => h) (fun h => h)
  have l3 := F3.size
  have l2 := lt_of_heap B01.out.2
  obtain ⟨p, hp⟩ : ∃ p, pl[i]? = some p := ⟨_, List.getElem?_eq_getElem hi⟩
  have f0 := hA3.c0
  have f1 := hA3.c1
  have k0 := hA3.k0 hp
  have k1 := hA3.k1 hp
  have k2 := hA3.k2 hp
  have k3 := hA3.k3 hp
  have k4 := hA3.k4 hp
  have k5 := hA3.k5 hp
  have zp := hA3.zp
  have hr := hA3.room
  obtain ⟨d0, d1, d2, dz, dl⟩ := cells3 (F3.heap B01.out.1 (fun h => h))
  obtain ⟨c0, c1, c2, cz, cl⟩ := cells3 (F3.heap B01.out.2 (fun h => h))
  obtain ⟨l, ck, hm, hR⟩ := hA3.m
  have HA3 := hid hA3
  have HP := hid hp
  have HR := hid hR
  clear hA3 hp hR
  go_wp2
  go_region
  obtain ⟨w4, hw4⟩ : ∃ w4, ((((((w3.setCell ⟨bp, i * 6, none⟩ (.int .i64 key)).setCell ⟨bp, i * 6 + 1, none⟩ (.int .i64 st)).setCell ⟨bp, i * 6 + 2, none⟩ (.slice la ll lc)).setCell ⟨bp, i * 6 + 3, none⟩ (.bool di)).setCell ⟨bp, i * 6 + 4, none⟩ (.bool true)).setCell ⟨bp, i * 6 + 5, none⟩ (.bool true)).drew = w4 := ⟨_, rfl⟩
  have F34 : Fr (fun b => b = bp) w3 w4 := by
    rw [← hw4]
    exact (((((((Fr.refl (fun b => b = bp) _).setCell (a := ⟨bp, i * 6, none⟩) (fun _ => rfl) _).setCell (a := ⟨bp, i * 6 + 1, none⟩) (fun _ => rfl) _).setCell (a := ⟨bp, i * 6 + 2, none⟩) (fun _ => rfl) _).setCell (a := ⟨bp, i * 6 + 3, none⟩) (fun _ => rfl) _).setCell (a := ⟨bp, i * 6 + 4, none⟩) (fun _ => rfl) _).setCell (a := ⟨bp, i * 6 + 5, none⟩) (fun _ => rfl) _).drew
  have hp4 : w4.heap[bp]? = some (.cells (cellsOf (pl.set i ⟨key, ⟨st, la, ll, lc, di⟩, true, true⟩)) 264) := by
    have := heap_place HA3.out.p HP.out ⟨key, ⟨st, la, ll, lc, di⟩, true, true⟩
    rw [← hw4, heap_drew]
    exact this
  rw [hw4]
  have hm4 := F34.heap hm (fun e => n123.2.2 e.symm)
  have hc4 := F34.heap HA3.out.c n123.1
  have hb04 := F34.heap (F3.heap B01.out.1 (fun h => h)) (by omega)
  have hb14 := F34.heap (F3.heap B01.out.2 (fun h => h)) (by omega)
  clear f0 f1 k0 k1 k2 k3 k4 k5 zp d0 d1 d2 dz dl c0 c1 c2 cz cl hw4 hm
  obtain ⟨f0, f1, f2, fz, fl⟩ := cells3 hc4
  obtain ⟨c0, c1, c2, cz, cl⟩ := cells3 hb14
  have hup := fun (W : World) (hW : W.heap[bm]? = some (.map (ents l) ck)) => run_mapUpdate (P := Tryz.prog) (T := 258) Tryz.underlying258 Tryz.underlying3 hW key (.int .i64 i)
  have HP4 := hid hp4
  have HC4 := hid hc4
  have n1 : bm ≠ w.heap.size + 1 := by omega
  have n2 : w.heap.size + 1 ≠ bm := by omega
  clear hp4 hc4 hb04 hb14
  go_wp2
  obtain ⟨w5, hw5⟩ : ∃ w5, w4.putObj bm (.map (ents (put l key (.int .i64 i) ck)) (bump l key ck)) = w5 := ⟨_, rfl⟩
  have F45 : Fr (fun b => b = bm) w4 w5 := by rw [← hw5]; exact (Fr.refl (fun b => b = bm) _).putObj (fun _ => rfl) _
  have hm5 : w5.heap[bm]? = some (.map (ents (put l key (.int .i64 i) ck)) (bump l key ck)) := by rw [← hw5]; exact heap_putObj_same _ _ _ (lt_of_heap hm4)
  rw [hw5]
  have e0 := (F45.cell (p := ⟨w.heap.size + 1, 0, none⟩) cl n2).trans c0
  have e1 := (F45.cell (p := ⟨w.heap.size + 1, 1, none⟩) cl n2).trans c1
  have e2 := (F45.cell (p := ⟨w.heap.size + 1, 2, none⟩) cl n2).trans c2
  have ez : ∀ o, w5.frozen? ⟨w.heap.size + 1, o, none⟩ = false := fun o => (World.frozen?_of_block (F45.block _ cl n2)).trans (cz o)
  have HM5 := hid hm5
  have HF45 := hid F45
  clear hw5 c0 c1 c2 cz f0 f1 f2 fz hup hm5 F45 hm4
  go_region
  go_wp2
  obtain ⟨hnd, hl, hn⟩ := HR.out
  have hlk : Sg.look l key = none := by rw [hl, HF.out]; rfl
  have hpf : p.full = false := by
    have := HO.out
    rw [empty, List.findIdx?_eq_some_iff_getElem] at this
    obtain ⟨hi', h1, _⟩ := this
    have e := HP.out
    rw [List.getElem?_eq_getElem hi'] at e
    cases e
    simpa using h1
  have hAp : AtP w5 bc bp bm (pl.set i ⟨key, ⟨st, la, ll, lc, di⟩, true, true⟩) hand := by
    refine HA3.out.place HP.out _ (fun _ => .inr HF.out) trivial HA3.out.hand ?_ ?_ HM5.out (nodup_put hnd _ _ _) (fun k => ?_) ?_
    · exact HF45.out.heap HC4.out n123.2.1
    · exact HF45.out.heap HP4.out n123.2.2
    · rw [look_put, hl]
      simp [hpf]
    · rw [length_put, hlk, hn, hpf]; simp
  refine bodyPost_ret (v := .tuple #[.int .i64 0, Pg.zero.val, .bool false]) (by simp [results, go_sem, Pg.zero, *]) rfl ⟨by rw [HE.out]; rfl, ?_, ?_⟩
  · rw [HE.out]
    refine hAp.fr (S := fun b => b = w.heap.size + 1) ?_ (by omega) (by omega) (by omega)
    exact (Fr.set3 (S := fun b => b = w.heap.size + 1) (b := w.heap.size + 1) (Fr.refl _ _) rfl _ _ _).drew
  · refine Fr.drew (Fr.set3n ?_ (by omega) _ _ _)
    exact (((F2.mono (S' := fun b => b = bc ∨ b = bp ∨ b = bm) (fun _ _ h => h.elim)).trans F3 (fun _ _ h => h.elim)).trans F34 (fun _ _ h => .inr (.inl h))).trans HF45.out (fun _ _ h => .inr (.inr h))
end CP
end Go.Proofs.YtgdhaaokolfdoaaGreatDoor

/- The clock of pages: what Put computes where no place is free. Conditions: the clock lies in the world as AtP says. -/
namespace Go.Proofs.YtgdhaaokolfdoaaGreatDoor
namespace CP
open Go.RowKit Go.Sg Go.Sg.Clk Go.Shelf
set_option maxHeartbeats 4000000 in
set_option maxRecDepth 100000 in
theorem put_full {w : World} {bc bp bm hand : Nat} {pl : List Pl} (h : AtP w bc bp bm pl hand) (key : Int) (x : Pg) (hf : find pl key = none) (he : empty pl = none) :
    Calls Tryz.prog 111 #[.pointer (some ⟨bc, 0, none⟩), .int .i64 key, x.val] w (PutPost pl hand bc bp bm key x w) := by
  obtain ⟨st, la, ll, lc, di⟩ := x
  have hlt := AtP_lts h
  have n123 := h.ne
  obtain ⟨w2, hw2⟩ : ∃ w2, (w.alloc (.cells #[.int .i64 st, .slice la ll lc, .bool di] 162)).alloc (.cells #[.int .i64 0, .slice none 0 0, .bool false] 162) = w2 := ⟨_, rfl⟩
  obtain ⟨b0, b1, F2⟩ := heap_two hw2
  have hA := h.fr F2 (fun h => h) (fun h => h) (fun h => h)
  have FN := hid (find_at hA key)
  rw [hf] at FN
  have EM := hid (empty_at hA)
  rw [emptyI_none he] at EM
  have HA := hid hA
  have HF := hid hf
  have HO := hid he
  have HH := hid h
  have HW := hid hw2
  have B01 := hid (And.intro b0 b1)
  clear hf he h hA hw2 b0 b1
  go_enter Tryz.func111, Tryz.ntmps111
  go_wp2_with fail
  rw [HW.out]
  refine FN.out.mono ?_
  rintro e w' ⟨rfl, rfl⟩
  go_wp2_with fail
  refine EM.out.mono ?_
  rintro e w3 ⟨rfl, F3⟩
  have hA3 := hid (HA.out.fr F3 (fun h => h) (fun h => h) (fun h => h))
  go_wp2_with fail
  refine (victim_at hA3.out).mono ?_
  rintro e w4 ⟨rfl, hA4, F4⟩
  obtain ⟨i, hi⟩ : ∃ i, (spin pl.length pl hand).2 = i := ⟨_, rfl⟩
  obtain ⟨pl2, hpl2⟩ : ∃ pl2, (spin pl.length pl hand).1 = pl2 := ⟨_, rfl⟩
  have hlen2 : pl2.length = pl.length := by rw [← hpl2]; exact spin_len _ _ _
  have hil : i < pl2.length := by rw [hlen2, ← hi]; exact spin_lt _ _ _ HH.out.hand
  have hf2 : find pl2 key = none := by rw [← hpl2, spin_find]; exact HF.out
  have he2 : empty pl2 = none := by rw [← hpl2, spin_empty]; exact HO.out
  obtain ⟨p, hp⟩ : ∃ p, pl2[i]? = some p := ⟨_, List.getElem?_eq_getElem hil⟩
  have hpf := full_of_empty he2 hp
  have hM : putM pl hand key ⟨st, la, ll, lc, di⟩ = ⟨pl2.set i ⟨key, ⟨st, la, ll, lc, di⟩, true, true⟩, (i + 1) % pl.length, some p⟩ := by rw [putM_full HF.out HO.out, hpl2, hi, hp]
  rw [hpl2, hi] at hA4
  rw [hi]
  have f0 := hA4.c0
  have f1 := hA4.c1
  have k0 := hA4.k0 hp
  have k1 := hA4.k1 hp
  have k2 := hA4.k2 hp
  have k3 := hA4.k3 hp
  have l2 := lt_of_heap B01.out.2
  have l3 := F3.size
  have l4 := F4.size
  obtain ⟨d0, d1, d2, dz, dl⟩ := cells3 (F4.heap (F3.heap B01.out.1 (fun h => h)) (by omega))
  have hr1 := F4.heap (F3.heap B01.out.2 (fun h => h)) (by omega)
  obtain ⟨c0, c1, c2, cz, cl⟩ := cells3 hr1
  obtain ⟨l, ck, hm, hR⟩ := hA4.m
  have hr2 := hA4.room
  have HR := hid hR
  have HA4 := hid hA4
  have HM := hid hM
  have HP := hid hp
  have HU := hid hpf
  have HF2 := hid hf2
  have HL := hid hlen2
  have HR1 := hid hr1
  have Hm := hid hm
  clear hR hA4 hM hp hpf hi hpl2 hf2 he2 hlen2 hr1 hm
  go_wp2
  go_region
  obtain ⟨w5, hw5⟩ : ∃ w5, (((w4.setCell ⟨w.heap.size + 1, 0, none⟩ (.int .i64 p.v.stamp)).setCell ⟨w.heap.size + 1, 1, none⟩ (.slice p.v.la p.v.ll p.v.lc)).setCell ⟨w.heap.size + 1, 2, none⟩ (.bool p.v.dirty)).drew = w5 := ⟨_, rfl⟩
  have F45 : Fr (fun b => b = w.heap.size + 1) w4 w5 := by
    rw [← hw5]
    exact (Fr.set3 (S := fun b => b = w.heap.size + 1) (b := w.heap.size + 1) (Fr.refl _ _) rfl _ _ _).drew
  have hr5 : w5.heap[w.heap.size + 1]? = some (.cells #[.int .i64 p.v.stamp, .slice p.v.la p.v.ll p.v.lc, .bool p.v.dirty] 162) := by
    rw [← hw5, heap_drew, heap_setCell_cells _ _ _ _ (heap_setCell_cells _ _ _ _ (heap_setCell_cells _ _ _ _ HR1.out))]
    simp
  rw [hw5]
  have hA5 := HA4.out.fr F45 (by omega) (by omega) (by omega)
  have hm5 := F45.heap Hm.out (by omega)
  have hb05 := F45.heap (F4.heap (F3.heap B01.out.1 (fun h => h)) (by omega)) (by omega)
  clear f0 f1 k0 k1 k2 k3 d0 d1 d2 dz dl c0 c1 c2 cz cl hw5
  have f0 := hA5.c0
  have f1 := hA5.c1
  have hdel := fun (W : World) (hW : W.heap[bm]? = some (.map (ents l) ck)) (t' : TypeId) => run_delete (P := Tryz.prog) (T := 258) Tryz.underlying258 Tryz.underlying3 hW p.key t' #[258, 3] rfl
  have HN := hid hdel
  have HA5 := hid hA5
  have HR5 := hid hr5
  have HB5 := hid hb05
  have Hm5 := hid hm5
  have HF45 := hid F45
  have l5 := F45.size
  clear hdel hA5 hr5 hb05 hm5 F45
  go_wp2
  rw [HN.out w5 Hm5.out 0]
  obtain ⟨w6, hw6⟩ : ∃ w6, w5.putObj bm (.map (ents (del l p.key)) ck) = w6 := ⟨_, rfl⟩
  have F56 : Fr (fun b => b = bm) w5 w6 := by rw [← hw6]; exact (Fr.refl (fun b => b = bm) _).putObj (fun _ => rfl) _
  have hm6 : w6.heap[bm]? = some (.map (ents (del l p.key)) ck) := by rw [← hw6]; exact heap_putObj_same _ _ _ (lt_of_heap Hm5.out)
  have hc6 := F56.heap HA5.out.c n123.2.1
  have hp6 := F56.heap HA5.out.p n123.2.2
  have hr6 := F56.heap HR5.out (by omega)
  have hb6 := F56.heap HB5.out (by omega)
  rw [hw6]
  clear f0 f1 hw6
  obtain ⟨f0, f1, f2, fz, fl⟩ := cells3 hc6
  obtain ⟨d0, d1, d2, dz, dl⟩ := cells3 hb6
  have zp : ∀ o, w6.frozen? ⟨bp, o, none⟩ = false := fun o => frozen_of_heap hp6 o
  have j : ∀ o, o < 6 → w6.cell? ⟨bp, i * 6 + o, none⟩ = p.cells[o]? := fun o ho => by rw [cell_of_heap hp6, cells_get HP.out o ho]
  have k0 : w6.cell? ⟨bp, i * 6, none⟩ = some (.int .i64 p.key) := j 0 (by omega)
  have k1 : w6.cell? ⟨bp, i * 6 + 1, none⟩ = some (.int .i64 p.v.stamp) := j 1 (by omega)
  have k2 : w6.cell? ⟨bp, i * 6 + 2, none⟩ = some (.slice p.v.la p.v.ll p.v.lc) := j 2 (by omega)
  have k3 : w6.cell? ⟨bp, i * 6 + 3, none⟩ = some (.bool p.v.dirty) := j 3 (by omega)
  have k4 : w6.cell? ⟨bp, i * 6 + 4, none⟩ = some (.bool p.full) := j 4 (by omega)
  have k5 : w6.cell? ⟨bp, i * 6 + 5, none⟩ = some (.bool p.marked) := j 5 (by omega)
  have Hm6 := hid hm6
  have HC6 := hid hc6
  have HP6 := hid hp6
  have HR6 := hid hr6
  have HF56 := hid F56
  clear j hm6 hc6 hp6 hr6 hb6 F56
  go_wp2
  go_region
  obtain ⟨w7, hw7⟩ : ∃ w7, ((((((w6.setCell ⟨bp, i * 6, none⟩ (.int .i64 key)).setCell ⟨bp, i * 6 + 1, none⟩ (.int .i64 st)).setCell ⟨bp, i * 6 + 2, none⟩ (.slice la ll lc)).setCell ⟨bp, i * 6 + 3, none⟩ (.bool di)).setCell ⟨bp, i * 6 + 4, none⟩ (.bool true)).setCell ⟨bp, i * 6 + 5, none⟩ (.bool true)).drew = w7 := ⟨_, rfl⟩
  have F67 : Fr (fun b => b = bp) w6 w7 := by
    rw [← hw7]
    exact (((((((Fr.refl (fun b => b = bp) _).setCell (a := ⟨bp, i * 6, none⟩) (fun _ => rfl) _).setCell (a := ⟨bp, i * 6 + 1, none⟩) (fun _ => rfl) _).setCell (a := ⟨bp, i * 6 + 2, none⟩) (fun _ => rfl) _).setCell (a := ⟨bp, i * 6 + 3, none⟩) (fun _ => rfl) _).setCell (a := ⟨bp, i * 6 + 4, none⟩) (fun _ => rfl) _).setCell (a := ⟨bp, i * 6 + 5, none⟩) (fun _ => rfl) _).drew
  have hp7 : w7.heap[bp]? = some (.cells (cellsOf (pl2.set i ⟨key, ⟨st, la, ll, lc, di⟩, true, true⟩)) 264) := by
    have := heap_place HP6.out HP.out ⟨key, ⟨st, la, ll, lc, di⟩, true, true⟩
    rw [← hw7, heap_drew]
    exact this
  rw [hw7]
  have hm7 := F67.heap Hm6.out (fun e => n123.2.2 e.symm)
  have hc7 := F67.heap HC6.out n123.1
  have hr7 := F67.heap HR6.out (by omega)
  clear f0 f1 f2 fz fl k0 k1 k2 k3 k4 k5 zp d0 d1 d2 dz dl hw7
  obtain ⟨f0, f1, f2, fz, fl⟩ := cells3 hc7
  obtain ⟨c0, c1, c2, cz, cl⟩ := cells3 hr7
  have hup := fun (W : World) (hW : W.heap[bm]? = some (.map (ents (del l p.key)) ck)) => run_mapUpdate (P := Tryz.prog) (T := 258) Tryz.underlying258 Tryz.underlying3 hW key (.int .i64 i)
  have HP7 := hid hp7
  have HC7 := hid hc7
  have n2 : w.heap.size + 1 ≠ bm := by omega
  have HF67 := hid F67
  clear hp7 hc7 hr7 F67
  go_wp2
  obtain ⟨w8, hw8⟩ : ∃ w8, w7.putObj bm (.map (ents (put (del l p.key) key (.int .i64 i) ck)) (bump (del l p.key) key ck)) = w8 := ⟨_, rfl⟩
  have F78 : Fr (fun b => b = bm) w7 w8 := by rw [← hw8]; exact (Fr.refl (fun b => b = bm) _).putObj (fun _ => rfl) _
  have hm8 : w8.heap[bm]? = some (.map (ents (put (del l p.key) key (.int .i64 i) ck)) (bump (del l p.key) key ck)) := by rw [← hw8]; exact heap_putObj_same _ _ _ (lt_of_heap hm7)
  rw [hw8]
  have e0 := (F78.cell (p := ⟨w.heap.size + 1, 0, none⟩) cl n2).trans c0
  have e1 := (F78.cell (p := ⟨w.heap.size + 1, 1, none⟩) cl n2).trans c1
  have e2 := (F78.cell (p := ⟨w.heap.size + 1, 2, none⟩) cl n2).trans c2
  have ez : ∀ o, w8.frozen? ⟨w.heap.size + 1, o, none⟩ = false := fun o => (World.frozen?_of_block (F78.block _ cl n2)).trans (cz o)
  have HM8 := hid hm8
  have HF78 := hid F78
  clear hw8 c0 c1 c2 cz f0 f1 f2 fz hup hm8 F78 hm7
  go_region
  go_wp2
  obtain ⟨hnd, hl, hn⟩ := HR.out
  have hfp : find pl2 p.key = some i := (find_iff HA4.out.nd _ _).2 ⟨p, HP.out, HU.out, rfl⟩
  have hlk : Sg.look (del l p.key) key = none := by
    rw [look_del hnd, hl, HF2.out]; split <;> rfl
  have hlp : (Sg.look l p.key).isSome = true := by rw [hl, hfp]; rfl
  have hmod := Nat.mod_lt (i + 1) (show 0 < pl.length by have := HL.out; omega)
  have hAp : AtP w8 bc bp bm (pl2.set i ⟨key, ⟨st, la, ll, lc, di⟩, true, true⟩) ((i + 1) % pl.length) := by
    refine HA4.out.place HP.out _ (fun _ => .inr HF2.out) trivial (by rw [HL.out]; exact hmod) ?_ ?_ HM8.out (nodup_put (nodup_del hnd _) _ _ _) (fun k => ?_) ?_
    · exact HF78.out.heap HC7.out n123.2.1
    · exact HF78.out.heap HP7.out n123.2.2
    · rw [look_put, look_del hnd, hl]
      simp [HU.out]
    · rw [length_put, hlk, length_del, hlp, hn, HU.out]; simp
  have Fa : Fr (fun b => b = bc ∨ b = bp ∨ b = bm) w w8 :=
    ((((((F2.mono (S' := fun b => b = bc ∨ b = bp ∨ b = bm) (fun _ _ h => h.elim)).trans F3 (fun _ _ h => h.elim)).trans F4 (fun _ _ h => h.elim .inl (fun h => .inr (.inl h)))).trans HF45.out (fun b hb h => by omega)).trans HF56.out (fun _ _ h => .inr (.inr h))).trans HF67.out (fun _ _ h => .inr (.inl h))).trans HF78.out (fun _ _ h => .inr (.inr h))
  refine bodyPost_ret (v := .tuple #[.int .i64 p.key, p.v.val, .bool true]) (by simp [results, go_sem, *]) rfl ⟨by rw [HM.out]; rfl, ?_, ?_⟩
  · rw [HM.out]
    refine hAp.fr (S := fun b => b = w.heap.size + 1) ?_ (by omega) (by omega) (by omega)
    exact (Fr.set3 (S := fun b => b = w.heap.size + 1) (b := w.heap.size + 1) (Fr.refl _ _) rfl _ _ _).drew
  · exact Fr.drew (Fr.set3n Fa (by omega) _ _ _)
theorem put_at {w : World} {bc bp bm hand : Nat} {pl : List Pl} (h : AtP w bc bp bm pl hand) (key : Int) (x : Pg) :
    Calls Tryz.prog 111 #[.pointer (some ⟨bc, 0, none⟩), .int .i64 key, x.val] w (PutPost pl hand bc bp bm key x w) := by
  cases hf : find pl key with
  | some i => exact put_there h key x hf
  | none =>
    cases he : empty pl with
    | some i => exact put_free h key x hf he
    | none => exact put_full h key x hf he
end CP
end Go.Proofs.YtgdhaaokolfdoaaGreatDoor

/- The clock of pages: what Drop computes. Conditions: the clock lies in the world as AtP says. -/
namespace Go.Proofs.YtgdhaaokolfdoaaGreatDoor
namespace CP
open Go.RowKit Go.Sg Go.Sg.Clk Go.Shelf
def dropM (pl : List Pl) (key : Int) : List Pl := match find pl key with
  | some i => pl.set i (Pl.none Pg.zero)
  | none => pl
def DropPost (pl : List Pl) (hand bc bp bm : Nat) (key : Int) (w : World) (e : Ending) (w' : World) : Prop :=
  e = .returned (.tuple #[(lookM pl key).val, .bool (find pl key).isSome]) ∧ AtP w' bc bp bm (dropM pl key) hand ∧ Fr (fun b => b = bp ∨ b = bm) w w'
set_option maxHeartbeats 2000000 in
set_option maxRecDepth 100000 in
theorem drop_none {w : World} {bc bp bm hand : Nat} {pl : List Pl} (h : AtP w bc bp bm pl hand) (key : Int) (hf : find pl key = none) :
    Calls Tryz.prog 108 #[.pointer (some ⟨bc, 0, none⟩), .int .i64 key] w (DropPost pl hand bc bp bm key w) := by
  have hlt := AtP_lts h
  obtain ⟨w1, hw1⟩ : ∃ w1, w.alloc (.cells #[.int .i64 0, .slice none 0 0, .bool false] 162) = w1 := ⟨_, rfl⟩
  have b1 : w1.heap[w.heap.size]? = some (.cells #[.int .i64 0, .slice none 0 0, .bool false] 162) := by rw [← hw1]; exact heap_alloc_new _ _
  have F1 : Fr (fun _ => False) w w1 := by rw [← hw1]; exact (Fr.refl _ _).alloc _
  have hA1 := hid (h.fr F1 (fun h => h) (fun h => h) (fun h => h))
  have e1 : dropM pl key = pl := by simp [dropM, hf]
  have e2 : lookM pl key = Pg.zero := by simp [lookM, hf]
  have HF := hid hf
  have E := hid (And.intro e1 e2)
  have HW := hid hw1
  have B1 := hid b1
  clear h hf e1 e2 hw1 b1
  go_enter Tryz.func108, Tryz.ntmps108
  go_wp2_with fail
  rw [HW.out]
  refine (look_at hA1.out key).mono ?_
  rintro e w2 ⟨rfl, F2⟩
  rw [HF.out, E.out.2]
  obtain ⟨c0, c1, c2, z, l⟩ := cells3 (F2.heap B1.out (fun h => h))
  simp only [Pg.val, Pg.zero]
  go_wp2
  refine bodyPost_ret (v := .tuple #[Pg.zero.val, .bool false]) (by simp [results, go_sem, Pg.zero, *]) rfl ⟨by rw [HF.out, E.out.2]; rfl, ?_, ?_⟩
  · rw [E.out.1]
    refine (hA1.out.fr F2 (fun h => h) (fun h => h) (fun h => h)).fr (S := fun b => b = w.heap.size) ?_ (by omega) (by omega) (by omega)
    exact (Fr.set3 (S := fun b => b = w.heap.size) (b := w.heap.size) (Fr.refl _ _) rfl _ _ _).alloc _
  · exact (Fr.set3n ((F1.trans F2 (fun _ _ h => h)).mono (fun _ _ h => h.elim)) (Nat.le_refl _) _ _ _).alloc _

set_option maxHeartbeats 4000000 in
set_option maxRecDepth 100000 in
theorem drop_some {w : World} {bc bp bm hand : Nat} {pl : List Pl} (h : AtP w bc bp bm pl hand) (key : Int) {i : Nat} (hf : find pl key = some i) :
    Calls Tryz.prog 108 #[.pointer (some ⟨bc, 0, none⟩), .int .i64 key] w (DropPost pl hand bc bp bm key w) := by
  have hlt := AtP_lts h
  have n123 := h.ne
  obtain ⟨w1, hw1⟩ : ∃ w1, w.alloc (.cells #[.int .i64 0, .slice none 0 0, .bool false] 162) = w1 := ⟨_, rfl⟩
  have b1 : w1.heap[w.heap.size]? = some (.cells #[.int .i64 0, .slice none 0 0, .bool false] 162) := by rw [← hw1]; exact heap_alloc_new _ _
  have F1 : Fr (fun _ => False) w w1 := by rw [← hw1]; exact (Fr.refl _ _).alloc _
  have hA1 := hid (h.fr F1 (fun h => h) (fun h => h) (fun h => h))
  obtain ⟨p, hp, hful, hkey⟩ := find_some hf
  have hi : i < pl.length := (List.getElem?_eq_some_iff.1 hp).1
  have e1 : dropM pl key = pl.set i (Pl.none Pg.zero) := by simp [dropM, hf]
  have e2 : lookM pl key = p.v := by simp [lookM, hf, hp]
  have HF := hid hf
  have E := hid (And.intro e1 e2)
  have HW := hid hw1
  have B1 := hid b1
  have HP := hid hp
  have HU := hid (And.intro hful hkey)
  have l1 := lt_of_heap b1
  clear h hf e1 e2 hw1 b1 hp hful hkey
  go_enter Tryz.func108, Tryz.ntmps108
  go_wp2_with fail
  rw [HW.out]
  refine (look_at hA1.out key).mono ?_
  rintro e w2 ⟨rfl, F2⟩
  rw [HF.out, E.out.2]
  have hA2 := hA1.out.fr F2 (fun h => h) (fun h => h) (fun h => h)
  have hb2 := F2.heap B1.out (fun h => h)
  obtain ⟨w3, hw3⟩ : ∃ w3, w2.alloc (.cells #[.int .i64 p.v.stamp, .slice p.v.la p.v.ll p.v.lc, .bool p.v.dirty] 162) = w3 := ⟨_, rfl⟩
  have F3 : Fr (fun _ => False) w2 w3 := by rw [← hw3]; exact (Fr.refl _ _).alloc _
  have hv3 : w3.heap[w2.heap.size]? = some (.cells #[.int .i64 p.v.stamp, .slice p.v.la p.v.ll p.v.lc, .bool p.v.dirty] 162) := by rw [← hw3]; exact heap_alloc_new _ _
  have hA3 := hA2.fr F3 (fun h => h) (fun h => h) (fun h => h)
  have hb3 := F3.heap hb2 (fun h => h)
  have f0 := hA3.c0
  have f1 := hA3.c1
  have k0 := hA3.k0 HP.out
  have k1 := hA3.k1 HP.out
  have k2 := hA3.k2 HP.out
  have k3 := hA3.k3 HP.out
  have k4 := hA3.k4 HP.out
  have k5 := hA3.k5 HP.out
  have zp := hA3.zp
  have hr := hA3.room
  have l2 := F2.size
  obtain ⟨l, ck, hm, hR⟩ := hA3.m
  have hlk : Sg.look l key = some (.int .i64 i) := by rw [hR.2.1, HF.out]; rfl
  have hl2 := fun (W : World) (hW : W.heap[bm]? = some (.map (ents l) ck)) => run_lookup (P := Tryz.prog) (T := 258) false Tryz.underlying258 Tryz.underlying3 Tryz.zero3 hW key
  have hdel := fun (W : World) (hW : W.heap[bm]? = some (.map (ents l) ck)) => run_delete (P := Tryz.prog) (T := 258) Tryz.underlying258 Tryz.underlying3 hW key 0 #[258, 3] rfl
  rw [hlk] at hl2
  simp only [Option.getD_some, Bool.false_eq_true, if_false] at hl2
  have HW3 := hid hw3
  have HA3 := hid hA3
  have HR := hid hR
  have HK := hid hlk
  have HV3 := hid hv3
  have HB3 := hid hb3
  have Hm := hid hm
  have F13 := hid (F2.trans F3 (fun _ _ h => h))
  clear hw3 hA3 hR hlk hv3 hb3 hA2 hb2 F3
  simp only [Pg.val]
  go_wp2
  rw [HW3.out]
  go_region
  obtain ⟨w4, hw4⟩ : ∃ w4, ((((((w3.setCell ⟨bp, i * 6, none⟩ (.int .i64 0)).setCell ⟨bp, i * 6 + 1, none⟩ (.int .i64 0)).setCell ⟨bp, i * 6 + 2, none⟩ (.slice none 0 0)).setCell ⟨bp, i * 6 + 3, none⟩ (.bool false)).setCell ⟨bp, i * 6 + 4, none⟩ (.bool false)).setCell ⟨bp, i * 6 + 5, none⟩ (.bool false)).drew = w4 := ⟨_, rfl⟩
  have F34 : Fr (fun b => b = bp) w3 w4 := by
    rw [← hw4]
    exact (((((((Fr.refl (fun b => b = bp) _).setCell (a := ⟨bp, i * 6, none⟩) (fun _ => rfl) _).setCell (a := ⟨bp, i * 6 + 1, none⟩) (fun _ => rfl) _).setCell (a := ⟨bp, i * 6 + 2, none⟩) (fun _ => rfl) _).setCell (a := ⟨bp, i * 6 + 3, none⟩) (fun _ => rfl) _).setCell (a := ⟨bp, i * 6 + 4, none⟩) (fun _ => rfl) _).setCell (a := ⟨bp, i * 6 + 5, none⟩) (fun _ => rfl) _).drew
  have hp4 : w4.heap[bp]? = some (.cells (cellsOf (pl.set i (Pl.none Pg.zero))) 264) := by
    have := heap_place HA3.out.p HP.out (Pl.none Pg.zero)
    rw [← hw4, heap_drew]
    exact this
  rw [hw4]
  have hm4 := F34.heap Hm.out (fun e => n123.2.2 e.symm)
  have hc4 := F34.heap HA3.out.c n123.1
  have hb4 := F34.heap HB3.out (by omega)
  have hv4 := F34.heap HV3.out (by omega)
  clear f0 f1 k0 k1 k2 k3 k4 k5 zp hl2 hw4 hm
  obtain ⟨f0, f1, f2, fz, fl⟩ := cells3 hc4
  obtain ⟨c0, c1, c2, cz, cl⟩ := cells3 hb4
  obtain ⟨v0, v1, v2, vz, vl⟩ := cells3 hv4
  have m1 : bm ≠ w.heap.size := by omega
  have m2 : bm ≠ w2.heap.size := by omega
  have m3 : w.heap.size ≠ bm := by omega
  have m4 : w2.heap.size ≠ bm := by omega
  have HP4 := hid hp4
  have HC4 := hid hc4
  have HF34 := hid F34
  clear hp4 hc4 hb4 hv4 F34
  go_wp2
  obtain ⟨w5, hw5⟩ : ∃ w5, w4.putObj bm (.map (ents (del l key)) ck) = w5 := ⟨_, rfl⟩
  have F45 : Fr (fun b => b = bm) w4 w5 := by rw [← hw5]; exact (Fr.refl (fun b => b = bm) _).putObj (fun _ => rfl) _
  have hm5 : w5.heap[bm]? = some (.map (ents (del l key)) ck) := by rw [← hw5]; exact heap_putObj_same _ _ _ (lt_of_heap hm4)
  have g0 := (F45.cell (p := ⟨w.heap.size, 0, none⟩) cl m3).trans c0
  have g1 := (F45.cell (p := ⟨w.heap.size, 1, none⟩) cl m3).trans c1
  have g2 := (F45.cell (p := ⟨w.heap.size, 2, none⟩) cl m3).trans c2
  rw [hw5]
  obtain ⟨hnd, hl, hn⟩ := HR.out
  obtain ⟨hu, hk⟩ := HU.out
  have hAp : AtP w5 bc bp bm (pl.set i (Pl.none Pg.zero)) hand := by
    refine HA3.out.place HP.out _ (fun h => by cases h) trivial HA3.out.hand ?_ ?_ hm5 (nodup_del hnd _) (fun k => ?_) ?_
    · exact F45.heap HC4.out n123.2.1
    · exact F45.heap HP4.out n123.2.2
    · rw [look_del hnd, hl, hu, hk]
      simp [Pl.none]
    · rw [length_del, HK.out, hn, hu]; simp [Pl.none]
  refine bodyPost_ret (v := .tuple #[p.v.val, .bool true]) (by simp [results, go_sem, *]) rfl ⟨by rw [HF.out, E.out.2]; rfl, ?_, ?_⟩
  · rw [E.out.1]
    refine hAp.fr (S := fun b => b = w.heap.size) ?_ (by omega) (by omega) (by omega)
    exact Fr.set3 (S := fun b => b = w.heap.size) (b := w.heap.size) (Fr.refl _ _) rfl _ _ _
  · exact Fr.set3n ((((F1.mono (S' := fun b => b = bp ∨ b = bm) (fun _ _ h => h.elim)).trans F13.out (fun _ _ h => h.elim)).trans HF34.out (fun _ _ h => .inl h)).trans F45 (fun _ _ h => .inr h)) (Nat.le_refl _) _ _ _
theorem drop_at {w : World} {bc bp bm hand : Nat} {pl : List Pl} (h : AtP w bc bp bm pl hand) (key : Int) :
    Calls Tryz.prog 108 #[.pointer (some ⟨bc, 0, none⟩), .int .i64 key] w (DropPost pl hand bc bp bm key w) := by
  cases hf : find pl key with
  | some i => exact drop_some h key hf
  | none => exact drop_none h key hf
end CP
end Go.Proofs.YtgdhaaokolfdoaaGreatDoor

/- The clock of pages as what is in memory by its number. Conditions: none. -/
namespace Go.Sg.Clk
open Go.RowKit
/-- What is in memory at a number. -/
def memOf (pl : List Pl) (k : Int) : Option Pg := (find pl k).bind fun i => (pl[i]?).map (·.v)
theorem memOf_iff {pl : List Pl} (hn : Nd pl) (k : Int) (v : Pg) : memOf pl k = some v ↔ ∃ (i : Nat) (p : Pl), pl[i]? = some p ∧ p.full = true ∧ p.key = k ∧ p.v = v := by
  constructor
  · intro h
    rw [memOf, Option.bind_eq_some_iff] at h
    obtain ⟨i, hi, hv⟩ := h
    obtain ⟨p, hp, hf, hk⟩ := find_some hi
    rw [hp] at hv
    exact ⟨i, p, hp, hf, hk, by simpa using hv⟩
  · rintro ⟨i, p, hp, hf, hk, rfl⟩
    rw [memOf, (find_iff hn k i).2 ⟨p, hp, hf, hk⟩]
    simp [hp]
theorem memOf_isSome {pl : List Pl} (k : Int) : (memOf pl k).isSome = (find pl k).isSome := by
  rw [memOf]
  cases h : find pl k with
  | none => rfl
  | some i =>
    obtain ⟨p, hp, _⟩ := find_some h
    simp [hp]
theorem memOf_set {pl : List Pl} (hn : Nd pl) {i : Nat} {p : Pl} (hp : pl[i]? = some p) (q : Pl) (h : q.full = true → (p.full = true ∧ q.key = p.key) ∨ find pl q.key = none) (k : Int) :
    memOf (pl.set i q) k = if q.full = true ∧ q.key = k then some q.v else if p.full = true ∧ p.key = k then none else memOf pl k := by
  rw [memOf, find_set hn hp q h]
  split
  · simp [get_set hp]
  · split
    · rfl
    · rename_i h1 h2
      rw [memOf]
      cases hf : find pl k with
      | none => rfl
      | some j =>
        obtain ⟨x, hx, hxf, hxk⟩ := find_some hf
        have : ¬ i = j := by
          rintro rfl
          rw [hp] at hx; cases hx
          exact h2 ⟨hxf, hxk⟩
        simp only [Option.bind_some]
        rw [get_set hp, if_neg this]
theorem memOf_unmark (pl : List Pl) (k : Int) : memOf pl k = memOf (pl.map Pl.unmark) k := by
  rw [memOf, memOf, ← find_unmark]
  congr 1
  funext i
  rw [List.getElem?_map]
  cases pl[i]? <;> rfl
theorem memOf_spin (f : Nat) (pl : List Pl) (h : Nat) (k : Int) : memOf (spin f pl h).1 k = memOf pl k := by
  rw [memOf_unmark, spin_same, ← memOf_unmark]
theorem nd_unmark {a b : List Pl} (h : a.map Pl.unmark = b.map Pl.unmark) (hn : Nd b) : Nd a := by
  intro i j x y hx hy hxf hyf hk
  have ga : ∀ n : Nat, (a[n]?).map Pl.unmark = (b[n]?).map Pl.unmark := fun n => by rw [← List.getElem?_map, ← List.getElem?_map, h]
  have gx := ga i
  have gy := ga j
  rw [hx] at gx
  rw [hy] at gy
  cases hxa : b[i]? with
  | none => rw [hxa] at gx; cases gx
  | some x' =>
    cases hyb : b[j]? with
    | none => rw [hyb] at gy; cases gy
    | some y' =>
      rw [hxa] at gx
      rw [hyb] at gy
      simp only [Option.map_some, Option.some.injEq, Pl.unmark, Pl.mk.injEq] at gx gy
      exact hn i j x' y' hxa hyb (by rw [← gx.2.2.1, hxf]) (by rw [← gy.2.2.1, hyf]) (by rw [← gx.1, ← gy.1, hk])
/-- What a put does to what is in memory. -/
structure MPut (pl : List Pl) (key : Int) (v : Pg) (M : Put) : Prop where
  at_ : (M.gone = none ∧ ∀ k, memOf M.pl k = if k = key then some v else memOf pl k) ∨
    (∃ g, M.gone = some g ∧ g.key ≠ key ∧ memOf pl g.key = some g.v ∧ memOf pl key = none ∧ pl.countP (·.full) = pl.length ∧ ∀ k, memOf M.pl k = if k = key then some v else if k = g.key then none else memOf pl k)
theorem mem_put {pl : List Pl} {hand : Nat} (hn : Nd pl) (hh : hand < pl.length) (key : Int) (v : Pg) : MPut pl key v (putM pl hand key v) := by
  constructor
  cases hf : find pl key with
  | some i =>
    obtain ⟨p, hp, hfu, hk⟩ := find_some hf
    have e : putM pl hand key v = ⟨pl.set i ⟨key, v, true, true⟩, hand, none⟩ := by simp [putM, hf]
    have hq : (⟨key, v, true, true⟩ : Pl).full = true → (p.full = true ∧ (⟨key, v, true, true⟩ : Pl).key = p.key) ∨ find pl (⟨key, v, true, true⟩ : Pl).key = none := fun _ => .inl ⟨hfu, hk.symm⟩
    refine .inl ⟨by rw [e], fun k => ?_⟩
    rw [e]
    simp only
    rw [memOf_set hn hp _ hq]
    by_cases hkk : k = key
    · subst hkk; simp
    · have h1 : ¬ key = k := fun x => hkk x.symm
      have h2 : ¬ p.key = k := by rw [hk]; exact h1
      simp [h1, h2, hkk]
  | none =>
    cases he : empty pl with
    | some i =>
      obtain ⟨p, hp, hfu⟩ : ∃ p, pl[i]? = some p ∧ p.full = false := by
        rw [empty, List.findIdx?_eq_some_iff_getElem] at he
        obtain ⟨hi, h1, _⟩ := he
        exact ⟨pl[i], by simp, by simpa using h1⟩
      have e : putM pl hand key v = ⟨pl.set i ⟨key, v, true, true⟩, hand, none⟩ := by simp [putM, hf, he]
      have hq : (⟨key, v, true, true⟩ : Pl).full = true → (p.full = true ∧ (⟨key, v, true, true⟩ : Pl).key = p.key) ∨ find pl (⟨key, v, true, true⟩ : Pl).key = none := fun _ => .inr hf
      refine .inl ⟨by rw [e], fun k => ?_⟩
      rw [e]
      simp only
      rw [memOf_set hn hp _ hq]
      by_cases hkk : k = key
      · subst hkk; simp
      · have h1 : ¬ key = k := fun x => hkk x.symm
        simp [h1, hfu, hkk]
    | none =>
      have e := putM_full (hand := hand) (v := v) hf he
      have hl := spin_len pl.length pl hand
      have hi := spin_lt pl.length pl hand hh
      have hf2 := spin_find pl.length pl hand key
      have he2 := spin_empty pl.length pl hand
      rw [hf] at hf2
      rw [he] at he2
      have hn2 : Nd (spin pl.length pl hand).1 := nd_unmark (spin_same _ _ _) hn
      have hm2 := memOf_spin pl.length pl hand
      generalize spin pl.length pl hand = s at *
      obtain ⟨p, hp⟩ : ∃ p, s.1[s.2]? = some p := ⟨_, List.getElem?_eq_getElem (by omega)⟩
      have hfu := full_of_empty he2 hp
      have hq : (⟨key, v, true, true⟩ : Pl).full = true → (p.full = true ∧ (⟨key, v, true, true⟩ : Pl).key = p.key) ∨ find s.1 (⟨key, v, true, true⟩ : Pl).key = none := fun _ => .inr hf2
      have hne := find_none hf2 hp hfu
      refine .inr ⟨p, by rw [e]; exact hp, hne, ?_, ?_, full_count he, fun k => ?_⟩
      · rw [← hm2, memOf_iff hn2]
        exact ⟨s.2, p, hp, hfu, rfl, rfl⟩
      · rw [memOf, hf]; rfl
      · rw [e]
        simp only
        rw [memOf_set hn2 hp _ hq, hm2]
        by_cases hkk : k = key
        · subst hkk; simp
        · have h1 : ¬ key = k := fun x => hkk x.symm
          by_cases hg : k = p.key
          · subst hg; simp [h1, hfu, hkk]
          · have h2 : ¬ p.key = k := fun x => hg x.symm
            simp [h1, h2, hkk, hg]
theorem count_cover {pl : List Pl} (hn : Nd pl) (L : List Int) (h : ∀ k, (memOf pl k).isSome = true → k ∈ L) : pl.countP (·.full) ≤ L.length := by
  rw [List.countP_eq_length_filter]
  have h1 : ((pl.filter (·.full)).map (·.key)).Nodup := by
    rw [List.Nodup, List.pairwise_map]
    have : (pl.filter (·.full)).Pairwise (fun a b => a.key ≠ b.key) := by
      rw [List.pairwise_filter]
      rw [List.pairwise_iff_getElem]
      intro i j hi hj hij hfi hfj hk
      have := hn i j pl[i] pl[j] (List.getElem?_eq_getElem hi) (List.getElem?_eq_getElem hj) hfi hfj hk
      omega
    exact this
  have h2 := List.Nodup.length_le_of_subset h1 (l₂ := L) (by
    intro k hk
    obtain ⟨p, hp, rfl⟩ := List.mem_map.1 hk
    rw [List.mem_filter] at hp
    obtain ⟨hp, hf⟩ := hp
    obtain ⟨i, hi, rfl⟩ := List.getElem_of_mem hp
    refine h _ ?_
    rw [(memOf_iff hn _ _).2 ⟨i, pl[i], List.getElem?_eq_getElem hi, hf, rfl, rfl⟩]
    rfl)
  simpa using h2
def updM (m : Int → Option Pg) (k : Int) (v : Option Pg) : Int → Option Pg := fun j => if j = k then v else m j
theorem memOf_drop {pl : List Pl} (hn : Nd pl) {i : Nat} {key : Int} (hf : find pl key = some i) (z : Pg) (k : Int) : memOf (pl.set i (Pl.none z)) k = updM (memOf pl) key none k := by
  obtain ⟨p, hp, hfu, hk⟩ := find_some hf
  rw [memOf_set hn hp _ (fun a => by cases a), updM]
  by_cases hkk : k = key
  · subst hkk; simp [Pl.none, hfu, hk]
  · have h1 : ¬ p.key = k := by rw [hk]; exact fun x => hkk x.symm
    simp [Pl.none, h1, hkk]
theorem memOf_mark {pl : List Pl} (hn : Nd pl) {i : Nat} {p : Pl} (hp : pl[i]? = some p) (b : Bool) (k : Int) : memOf (pl.set i { p with marked := b }) k = memOf pl k := by
  rw [memOf_set hn hp { p with marked := b } (fun a => .inl ⟨a, rfl⟩)]
  by_cases h : p.full = true ∧ p.key = k
  · rw [if_pos h, (memOf_iff hn _ _).2 ⟨i, p, hp, h.1, h.2, rfl⟩]
  · rw [if_neg h, if_neg h]
theorem empty_of_cover {pl : List Pl} (hn : Nd pl) {L : List Int} (h : ∀ k, (memOf pl k).isSome = true → k ∈ L) (hl : L.length < pl.length) : pl.countP (·.full) < pl.length := Nat.lt_of_le_of_lt (count_cover hn L h) hl
theorem memOf_replicate (n : Nat) (z : Pg) (k : Int) : memOf (List.replicate n (Pl.none z)) k = none := by
  have : find (List.replicate n (Pl.none z)) k = none := by
    rw [find, List.findIdx?_eq_none_iff]
    intro p hp
    rw [List.eq_of_mem_replicate hp]; rfl
  rw [memOf, this]; rfl
end Go.Sg.Clk

/- The clock of pages by what is in memory: New, Get, Look, Put, Drop, Len. Conditions: the clock lies in the world as MemAt says. -/
namespace Go.Proofs.YtgdhaaokolfdoaaGreatDoor
namespace CP
open Go.RowKit Go.Sg Go.Sg.Clk
/-- A clock of n places lies in the world; m is what is in memory. -/
structure MemAt (w : World) (bc bp bm n : Nat) (m : Int → Option Pg) : Prop where
  ex : ∃ pl hand, AtP w bc bp bm pl hand ∧ pl.length = n ∧ ∀ k, memOf pl k = m k
theorem MemAt.fr {S : Nat → Prop} {w w' : World} {bc bp bm n : Nat} {m : Int → Option Pg} (h : MemAt w bc bp bm n m) (F : Fr S w w') (h1 : ¬ S bc) (h2 : ¬ S bp) (h3 : ¬ S bm) : MemAt w' bc bp bm n m := by
  obtain ⟨pl, hand, hA, hl, hm⟩ := h.ex
  exact ⟨pl, hand, hA.fr F h1 h2 h3, hl, hm⟩
theorem MemAt.lts {w : World} {bc bp bm n : Nat} {m : Int → Option Pg} (h : MemAt w bc bp bm n m) : bc < w.heap.size ∧ bp < w.heap.size ∧ bm < w.heap.size := by
  obtain ⟨pl, hand, hA, hl, hm⟩ := h.ex
  exact AtP_lts hA
theorem MemAt.heaps {w : World} {bc bp bm n : Nat} {m : Int → Option Pg} (h : MemAt w bc bp bm n m) : (∃ c, w.heap[bc]? = some (.cells c 260)) ∧ (∃ c, w.heap[bp]? = some (.cells c 264)) ∧ ∃ l ck, w.heap[bm]? = some (.map (ents l) ck) := by
  obtain ⟨pl, hand, hA, hl, hm⟩ := h.ex
  obtain ⟨l, ck, hm, _⟩ := hA.m
  exact ⟨⟨_, hA.c⟩, ⟨_, hA.p⟩, l, ck, hm⟩
theorem MemAt.congr {w : World} {bc bp bm n : Nat} {m m' : Int → Option Pg} (h : MemAt w bc bp bm n m) (hm : ∀ k, m k = m' k) : MemAt w bc bp bm n m' := by
  obtain ⟨pl, hand, hA, hl, hm'⟩ := h.ex
  exact ⟨pl, hand, hA, hl, fun k => (hm' k).trans (hm k)⟩
def Cover (m : Int → Option Pg) (L : List Int) : Prop := ∀ k, (m k).isSome = true → k ∈ L

theorem memOf_markM {pl : List Pl} (hn : Nd pl) (key k : Int) : memOf (markM pl key) k = memOf pl k := by
  cases hf : find pl key with
  | none => simp [markM, hf]
  | some i =>
    obtain ⟨p, hp, _⟩ := find_some hf
    have e1 : markM pl key = pl.set i { p with marked := true } := by simp only [markM, hf]; exact modify_eq hp _
    rw [e1]; exact memOf_mark hn hp true k
theorem lookM_eq (pl : List Pl) (key : Int) : lookM pl key = (memOf pl key).getD Pg.zero := rfl
theorem newmem_ok (n : Nat) (h1 : 1 ≤ n) (h2 : n ≤ 4096) (w : World) :
    Calls Tryz.prog 96 #[.int .i64 n] w fun e w' => e = .returned (.pointer (some ⟨w.heap.size + 2, 0, none⟩)) ∧ MemAt w' (w.heap.size + 2) w.heap.size (w.heap.size + 1) n (fun _ => none) ∧ Fr (fun _ => False) w w' :=
  (new_ok n h1 h2 w).mono fun e w' ⟨he, hA, hF⟩ => ⟨he, ⟨⟨_, _, hA, by simp, fun k => memOf_replicate _ _ _⟩⟩, hF⟩
theorem getmem_at {w : World} {bc bp bm n : Nat} {m : Int → Option Pg} (h : MemAt w bc bp bm n m) (key : Int) :
    Calls Tryz.prog 86 #[.pointer (some ⟨bc, 0, none⟩), .int .i64 key] w fun e w' => e = .returned (.tuple #[((m key).getD Pg.zero).val, .bool (m key).isSome]) ∧ MemAt w' bc bp bm n m ∧ Fr (fun b => b = bp) w w' := by
  obtain ⟨pl, hand, hA, hl, hm⟩ := h.ex
  refine (get_at hA key).mono fun e w' ⟨he, hA', hF⟩ => ⟨?_, ⟨⟨_, _, hA', ?_, fun k => ?_⟩⟩, hF⟩
  · rw [he, lookM_eq, ← memOf_isSome, hm]
  · rw [← hl]
    cases hf : find pl key with
    | none => simp [markM, hf]
    | some i => simp [markM, hf]
  · rw [memOf_markM hA.nd, hm]
theorem lookmem_at {w : World} {bc bp bm n : Nat} {m : Int → Option Pg} (h : MemAt w bc bp bm n m) (key : Int) :
    Calls Tryz.prog 155 #[.pointer (some ⟨bc, 0, none⟩), .int .i64 key] w fun e w' => e = .returned (.tuple #[((m key).getD Pg.zero).val, .bool (m key).isSome]) ∧ Fr (fun _ => False) w w' := by
  obtain ⟨pl, hand, hA, hl, hm⟩ := h.ex
  refine (look_at hA key).mono fun e w' ⟨he, hF⟩ => ⟨?_, hF⟩
  rw [he, lookM_eq, ← memOf_isSome, hm]
/-- Which page goes for another one. -/
def GoneOk (m : Int → Option Pg) (n : Nat) (key : Int) : Option (Int × Pg) → Prop
  | none => True
  | some g => g.1 ≠ key ∧ m g.1 = some g.2 ∧ m key = none ∧ ∀ L, Cover m L → n ≤ L.length
def putF (m : Int → Option Pg) (key : Int) (x : Pg) (g : Option (Int × Pg)) : Int → Option Pg := fun k => if k = key then some x else if g.map (·.1) = some k then none else m k
def gK (g : Option (Int × Pg)) : Int := (g.map (·.1)).getD 0
def gV (g : Option (Int × Pg)) : Pg := (g.map (·.2)).getD Pg.zero
def PutMem (m : Int → Option Pg) (bc bp bm n : Nat) (key : Int) (x : Pg) (w : World) (e : Ending) (w' : World) : Prop :=
  ∃ g, GoneOk m n key g ∧ e = .returned (.tuple #[.int .i64 (gK g), (gV g).val, .bool g.isSome]) ∧ MemAt w' bc bp bm n (putF m key x g) ∧ Fr (fun b => b = bc ∨ b = bp ∨ b = bm) w w'
theorem putmem_at {w : World} {bc bp bm n : Nat} {m : Int → Option Pg} (h : MemAt w bc bp bm n m) (key : Int) (x : Pg) :
    Calls Tryz.prog 111 #[.pointer (some ⟨bc, 0, none⟩), .int .i64 key, x.val] w (PutMem m bc bp bm n key x w) := by
  obtain ⟨pl, hand, hA, hl, hm⟩ := h.ex
  have hc : ∀ L, Cover m L → pl.countP (·.full) ≤ L.length := fun L hL => count_cover hA.nd L fun k hk => hL k (by rw [← hm]; exact hk)
  have hlen := (did hA.nd hA.hand key x).len
  refine (put_at hA key x).mono fun e w' ⟨he, hA', hF⟩ => ?_
  rcases (mem_put hA.nd hA.hand key x).at_ with ⟨hg, hmm⟩ | ⟨g, hg, hne, hgm, hkm, hcnt, hmm⟩
  · refine ⟨none, trivial, ?_, ⟨⟨_, _, hA', by rw [hlen, hl], fun k => ?_⟩⟩, hF⟩
    · rw [he, hg]; rfl
    · rw [hmm, putF, hm]; simp
  · refine ⟨some (g.key, g.v), ⟨hne, by rw [← hm]; exact hgm, by rw [← hm]; exact hkm, fun L hL => ?_⟩, ?_, ⟨⟨_, _, hA', by rw [hlen, hl], fun k => ?_⟩⟩, hF⟩
    · rw [← hl, ← hcnt]; exact hc L hL
    · rw [he, hg]; rfl
    · rw [hmm, putF, hm]
      by_cases h1 : k = key
      · simp [h1]
      · by_cases h2 : k = g.key
        · simp [h1, h2]
        · have h3 : ¬ g.key = k := fun x => h2 x.symm
          simp [h1, h2, h3]
theorem dropmem_at {w : World} {bc bp bm n : Nat} {m : Int → Option Pg} (h : MemAt w bc bp bm n m) (key : Int) :
    Calls Tryz.prog 108 #[.pointer (some ⟨bc, 0, none⟩), .int .i64 key] w fun e w' => e = .returned (.tuple #[((m key).getD Pg.zero).val, .bool (m key).isSome]) ∧ MemAt w' bc bp bm n (updM m key none) ∧ Fr (fun b => b = bp ∨ b = bm) w w' := by
  obtain ⟨pl, hand, hA, hl, hm⟩ := h.ex
  refine (drop_at hA key).mono fun e w' ⟨he, hA', hF⟩ => ⟨?_, ⟨⟨_, _, hA', ?_, fun k => ?_⟩⟩, hF⟩
  · rw [he, lookM_eq, ← memOf_isSome, hm]
  · rw [← hl]
    cases hf : find pl key with
    | none => simp [dropM, hf]
    | some i => simp [dropM, hf]
  · cases hf : find pl key with
    | none =>
      have e : dropM pl key = pl := by simp [dropM, hf]
      have e2 : m key = none := by rw [← hm, memOf, hf]; rfl
      rw [e, hm, updM]
      split
      · rename_i h; rw [h, e2]
      · rfl
    | some i =>
      have e : dropM pl key = pl.set i (Pl.none Pg.zero) := by simp [dropM, hf]
      rw [e, memOf_drop hA.nd hf, updM, updM, hm]
theorem lenmem_at {w : World} {bc bp bm n : Nat} {m : Int → Option Pg} (h : MemAt w bc bp bm n m) :
    Calls Tryz.prog 84 #[.pointer (some ⟨bc, 0, none⟩)] w fun e w' => ∃ c : Nat, e = .returned (.int .i64 c) ∧ (c ≤ n ∧ ∀ L, Cover m L → c ≤ L.length) ∧ w = w' := by
  obtain ⟨pl, hand, hA, hl, hm⟩ := h.ex
  exact (len_at hA).mono fun e w' ⟨he, hw⟩ => ⟨_, he, ⟨by rw [← hl]; exact count_le pl, fun L hL => count_cover hA.nd L fun k hk => hL k (by rw [← hm]; exact hk)⟩, hw⟩
end CP
end Go.Proofs.YtgdhaaokolfdoaaGreatDoor

/- bytes.Clone. Conditions: the slice reads as Byts says, of at most 65536 bytes. -/
namespace Go.Sg
open Go.RowKit
/-- A slice of bytes reads as bs. -/
structure Byts (w : World) (a : Option Addr) (n : Nat) (bs : List Int) : Prop where
  len : bs.length = n
  at_ : ∀ (i : Nat) (x : Int), bs[i]? = some x → ∃ b off, a = some ⟨b, off, none⟩ ∧ b < w.heap.size ∧ w.cell? ⟨b, off + i, none⟩ = some (.int .u8 x)
theorem Byts.fr {S : Nat → Prop} {w w' : World} {a : Option Addr} {n : Nat} {bs : List Int} (h : Byts w a n bs) (F : Fr S w w') (hS : ∀ b off, a = some ⟨b, off, none⟩ → b < w.heap.size → ¬ S b) : Byts w' a n bs :=
  ⟨h.len, fun i x hx => by
    obtain ⟨b, off, e, hb, hc⟩ := h.at_ i x hx
    exact ⟨b, off, e, Nat.lt_of_lt_of_le hb F.size, (F.cell (p := ⟨b, off + i, none⟩) hb (hS b off e hb)).trans hc⟩⟩
theorem Byts.frn {S : Nat → Prop} {w w' : World} {a : Option Addr} {n : Nat} {bs : List Int} (h : Byts w a n bs) (F : Fr S w w') (hS : ∀ b off, a = some ⟨b, off, none⟩ → b < w.heap.size → 0 < n → ¬ S b) : Byts w' a n bs :=
  ⟨h.len, fun i x hx => by
    obtain ⟨b, off, e, hb, hc⟩ := h.at_ i x hx
    have hn : 0 < n := by have := (List.getElem?_eq_some_iff.1 hx).1; have := h.len; omega
    exact ⟨b, off, e, Nat.lt_of_lt_of_le hb F.size, (F.cell (p := ⟨b, off + i, none⟩) hb (hS b off e hb hn)).trans hc⟩⟩
theorem own_lit0 (W : World) (e : TypeId) (size : Nat) (v : Value) (h : v = .slice (some ⟨W.heap.size, 0, none⟩) 0 0) : (W.alloc (.cells #[] e)).ownsRow 0 e size v 0 [] := by
  subst h
  exact World.ownsRow_lit W #[] 0 (Nat.zero_le _) (Nat.zero_le _) (by simp)
theorem byts_of_own {w : World} {base e n : Nat} {v : Value} {bs : List Int} (h : w.ownsRow base e 1 v n (bs.map (Value.int .u8))) (hne : v ≠ .slice none 0 0) :
    ∃ g cap c, v = .slice (some ⟨g, 0, none⟩) n cap ∧ w.heap[g]? = some (.cells c e) ∧ Byts w (some ⟨g, 0, none⟩) n bs := by
  obtain ⟨hl, ⟨rfl, _⟩ | ⟨g, cap, cur, rfl, _, hg, _, _, _, ht⟩⟩ := h
  · exact absurd rfl hne
  · refine ⟨g, cap, cur, rfl, hg, by simpa using hl, fun i x hx => ⟨g, 0, rfl, lt_of_heap hg, ?_⟩⟩
    rw [Nat.zero_add, cell_of_heap hg]
    have hi := (List.getElem?_eq_some_iff.1 hx).1
    have hl' : bs.length = n * 1 := by simpa using hl
    have : (cur.toList.take (n * 1))[i]? = some (.int .u8 x) := by rw [ht, List.getElem?_map, hx]; rfl
    rw [List.getElem?_take, if_pos (by omega)] at this
    simpa using this
end Go.Sg
namespace Go.Proofs.YtgdhaaokolfdoaaGreatDoor
open Go.RowKit Go.Sg
theorem Tryz.info5 : (Tryz.prog.info? 5).map (fun i => (i.zero, i.size, i.bytes)) = some (some (.int .u8 0), 1, 1) := by kernel_rfl
set_option maxRecDepth 100000 in
theorem clone_nil (w : World) : Calls Tryz.prog 83 #[.slice none 0 0] w fun e w' => e = .returned (.slice none 0 0) ∧ w = w' := by
  have q22 : ∀ (w : World) (a : Option Addr) (n c n' c' : Nat), (binOp .eql 22 (.slice a n c) (.slice none n' c')).run Tryz.prog w = .ok (.bool a.isNone) w := fun w a n c n' c' => Lib.run_eql_slice_nil w _ _ a n c n' c' Tryz.underlying22
  go_enter Tryz.func83, Tryz.ntmps83
  go_wp2
  go_ret
  exact ⟨rfl, rfl⟩
set_option maxHeartbeats 1000000 in
set_option maxRecDepth 100000 in
theorem clone_at {w : World} {ad : Addr} {n cap : Nat} {bs : List Int} (h : Byts w (some ad) n bs) (hn : n ≤ 65536) :
    Calls Tryz.prog 83 #[.slice (some ad) n cap] w fun e w' => ∃ g cap' c, e = .returned (.slice (some ⟨g, 0, none⟩) n cap') ∧ w'.heap[g]? = some (.cells c 5) ∧ Byts w' (some ⟨g, 0, none⟩) n bs ∧ w.heap.size ≤ g ∧ Fr (fun _ => False) w w' := by
  obtain ⟨i0, hi0, hz0, hz1, hz2⟩ := info_parts Tryz.info5
  have H := hid h
  have hlen := h.len
  have hcell : ∀ (o : Obj) (j : Nat) (u : Value), (bs.map (Value.int .u8))[j]? = some u → (w.alloc o).cell? (ad.add j) = some u := fun o j u hu => by
    rw [List.getElem?_map] at hu
    cases hx : bs[j]? with
    | none => rw [hx] at hu; cases hu
    | some x =>
      rw [hx] at hu
      cases hu
      obtain ⟨b', off', e, hb, hc⟩ := h.at_ j x hx
      cases e
      rw [show (⟨b', off', none⟩ : Addr).add j = ⟨b', off' + j, none⟩ by unfold Addr.add; split <;> simp_all]
      exact (((Fr.refl (fun _ => False) w).alloc o).cell (p := ⟨b', off' + j, none⟩) hb (fun h => h)).trans hc
  have HC := hid hcell
  clear h hcell
  have q22 : ∀ (w : World) (a : Option Addr) (n c n' c' : Nat), (binOp .eql 22 (.slice a n c) (.slice none n' c')).run Tryz.prog w = .ok (.bool a.isNone) w := fun w a n c n' c' => Lib.run_eql_slice_nil w _ _ a n c n' c' Tryz.underlying22
  go_enter Tryz.func83, Tryz.ntmps83
  go_wp2_with (at_builtin; refine wpList_append_own_at _ rfl (.tmp 5) (.tmp 6) 22 rfl 0 5 i0 _ 1 1 Tryz.underlying22 hi0 hz0 hz1 hz2 rfl (by decide) _ _ _ rfl (own_lit0 _ _ _ _ (by simp [go_sem])) ad n cap (bs.map (Value.int .u8)) rfl (by simpa using hlen) ?c1 ?c2 ?c3 ?c4 (Nat.zero_le _) ?_)
  case c1 => exact HC.out _
  case c2 => intro u hu; obtain ⟨x, _, rfl⟩ := List.mem_map.1 hu; rfl
  case c3 => simp [maxLen]; omega
  case c4 => omega
  intro v1 w1 hown hgrow hnil hat
  try simp only [List.nil_append, Nat.zero_add] at hown
  have F1 : Fr (fun _ => False) w w1 := ((Fr.refl (fun _ => False) w).alloc _).trans (S' := fun b => b = w.heap.size) (Fr.of_grownBy hgrow) (fun b hb h => by omega)
  obtain ⟨g, cap', c, rfl, hg, hB⟩ := byts_of_own hown hnil
  have hgl : w.heap.size ≤ g := by
    rcases hat with h | h <;> simp [Value.ownBlock] at h <;> omega
  have HG := hid (And.intro hg (And.intro hB (And.intro hgl F1)))
  clear hown hgrow hat hg hB F1 hgl
  go_wp2
  go_ret
  exact ⟨g, cap', c, rfl, HG.out.1, HG.out.2.1, HG.out.2.2.1, HG.out.2.2.2⟩
end Go.Proofs.YtgdhaaokolfdoaaGreatDoor

/- Sets of numbers as maps from int to bool; slices of bytes that are kept. Conditions: none. -/
namespace Go.Sg
open Go.RowKit
theorem borns_put (l : List Ent) (k : Int) (v : Value) (c : Nat) : (put l k v c).map (·.born) = if (look l k).isSome then l.map (·.born) else l.map (·.born) ++ [c] := by
  induction l with
  | nil => rfl
  | cons e l ih =>
    unfold put
    by_cases hk : (e.k == k) = true
    · have hk' : e.k = k := by simpa using hk
      simp [look, hk, hk']
    · have hk' : (e.k == k) = false := by simpa using hk
      have e1 : look (e :: l) k = look l k := by simp [look, List.find?_cons, hk']
      rw [hk', e1]
      simp only [Bool.false_eq_true, if_false, List.map_cons]
      rw [ih]
      split <;> rfl
theorem del_sub (l : List Ent) (k : Int) : (del l k).Sublist l := by
  induction l with
  | nil => exact List.Sublist.refl _
  | cons e l ih =>
    unfold del
    split
    · exact List.sublist_cons_self _ _
    · exact ih.cons_cons _
theorem look_mem {l : List Ent} (h : (keys l).Nodup) {e : Ent} (he : e ∈ l) : look l e.k = some e.v := by
  induction l with
  | nil => cases he
  | cons a l ih =>
    have hn : (keys l).Nodup := by simp [keys] at h ⊢; exact h.2
    have ha : a.k ∉ keys l := by simp [keys] at h ⊢; exact h.1
    rcases List.mem_cons.1 he with rfl | he'
    · simp [look]
    · have : a.k ≠ e.k := by
        intro x
        exact ha (by rw [x]; exact List.mem_map.2 ⟨e, he', rfl⟩)
      have := ih hn he'
      simp [look] at this ⊢
      simp [List.find?_cons, *]
/-- A row of entries is the set f. -/
structure SetIs (l : List Ent) (ck : Nat) (f : Int → Bool) : Prop where
  nd : (keys l).Nodup
  born : ∀ x ∈ l.map (·.born), x < ck
  bnd : (l.map (·.born)).Nodup
  at_ : ∀ k, look l k = if f k then some (.bool true) else none
def updI (f : Int → Bool) (k : Int) (b : Bool) : Int → Bool := fun j => if j = k then b else f j
theorem SetIs.made : SetIs [] 0 (fun _ => false) := ⟨by simp [keys], by simp, by simp, fun k => rfl⟩
theorem SetIs.isSome {l : List Ent} {ck : Nat} {f : Int → Bool} (h : SetIs l ck f) (k : Int) : (look l k).isSome = f k := by
  rw [h.at_]; cases f k <;> rfl
theorem SetIs.put {l : List Ent} {ck : Nat} {f : Int → Bool} (h : SetIs l ck f) (k : Int) : SetIs (put l k (.bool true) ck) (bump l k ck) (updI f k true) := by
  refine ⟨nodup_put h.nd _ _ _, ?_, ?_, fun j => ?_⟩
  · rw [borns_put]
    unfold bump
    split
    · exact h.born
    · intro x hx
      rcases List.mem_append.1 hx with hx | hx
      · have := h.born x hx; omega
      · simp at hx; omega
  · rw [borns_put]
    split
    · exact h.bnd
    · rw [List.nodup_append]
      refine ⟨h.bnd, by simp, ?_⟩
      rintro a ha b hb rfl
      simp at hb
      subst hb
      exact absurd (h.born _ ha) (Nat.lt_irrefl _)
  · rw [look_put, h.at_, updI]
    by_cases e : k = j
    · subst e; simp
    · have e' : ¬ j = k := fun x => e x.symm
      simp [e, e']
theorem SetIs.del {l : List Ent} {ck : Nat} {f : Int → Bool} (h : SetIs l ck f) (k : Int) : SetIs (del l k) ck (updI f k false) := by
  have hs := (del_sub l k).map (·.born)
  refine ⟨nodup_del h.nd _, fun x hx => h.born x (hs.subset hx), h.bnd.sublist hs, fun j => ?_⟩
  rw [look_del h.nd, h.at_, updI]
  by_cases e : k = j
  · subst e; simp
  · have e' : ¬ j = k := fun x => e x.symm
    simp [e, e']
theorem SetIs.len {l : List Ent} {ck : Nat} {f : Int → Bool} (h : SetIs l ck f) {n : Nat} (hn : ∀ k, f k = true → 0 ≤ k ∧ k < n) : l.length ≤ n := by
  rw [← length_keys]
  have hsub : ∀ k ∈ keys l, k.toNat ∈ List.range n ∧ 0 ≤ k := fun k hk => by
    have h1 : look l k ≠ none := fun e => (look_none l k).1 e hk
    rw [h.at_] at h1
    have h2 : f k = true := by
      cases hf : f k with
      | true => rfl
      | false => rw [hf] at h1; simp at h1
    have := hn k h2
    simp; omega
  have h1 : ((keys l).map Int.toNat).Nodup := by
    rw [List.Nodup, List.pairwise_map]
    refine List.Pairwise.imp_of_mem ?_ h.nd
    intro a b ha hb hab
    have := (hsub a ha).2
    have := (hsub b hb).2
    omega
  have h2 : ((keys l).map Int.toNat).length ≤ (List.range n).length := by
    refine List.Nodup.length_le_of_subset h1 ?_
    intro x hx
    obtain ⟨k, hk, rfl⟩ := List.mem_map.1 hx
    exact (hsub k hk).1
  simpa using h2
/-- A map lies in the world that is the set f. -/
structure SetAt (w : World) (b : Nat) (f : Int → Bool) : Prop where
  ex : ∃ l ck, w.heap[b]? = some (.map (ents l) ck) ∧ SetIs l ck f
theorem SetAt.fr {S : Nat → Prop} {w w' : World} {b : Nat} {f : Int → Bool} (h : SetAt w b f) (F : Fr S w w') (hn : ¬ S b) : SetAt w' b f := by
  obtain ⟨l, ck, hm, hs⟩ := h.ex
  exact ⟨l, ck, F.heap hm hn, hs⟩
theorem SetAt.lt {w : World} {b : Nat} {f : Int → Bool} (h : SetAt w b f) : b < w.heap.size := by
  obtain ⟨l, ck, hm, _⟩ := h.ex
  exact lt_of_heap hm
theorem SetAt.ne {w : World} {b b' : Nat} {f : Int → Bool} (h : SetAt w b f) {c : Array Value} {t : TypeId} {fz : Nat × Nat} (h' : w.heap[b']? = some (.cells c t fz)) : b ≠ b' := by
  obtain ⟨l, ck, hm, _⟩ := h.ex
  exact heap_ne hm h' (by simp)
theorem SetAt.made {w : World} {b : Nat} (h : w.heap[b]? = some (.map #[] 0)) : SetAt w b (fun _ => false) := ⟨[], 0, h, SetIs.made⟩

/-! ### A set as the kit reads it -/
theorem insert_perm {H : Type} (x : Lit × DataW H) (l : List (Lit × DataW H)) : (DataW.insert x l).Perm (x :: l) := by
  induction l with
  | nil => exact List.Perm.refl _
  | cons y r ih =>
    unfold DataW.insert
    split
    · exact List.Perm.refl _
    · exact (ih.cons y).trans (List.Perm.swap _ _ _)
theorem foldr_perm {H : Type} (l : List (Lit × DataW H)) : (l.foldr DataW.insert []).Perm l := by
  induction l with
  | nil => exact List.Perm.refl _
  | cons x l ih => exact (insert_perm _ _).trans (ih.cons x)
def boolD {H : Type} : DataW H := .lit (.bool true)
def setD {H : Type} (l : List Ent) : DataW H := .map ((l.map fun e => (Lit.int .i64 e.k, boolD)).foldr DataW.insert [])
theorem setD_keys {H : Type} (l : List Ent) : (intKeys (setD (H := H) l)).Perm (keys l) := by
  unfold setD intKeys
  refine ((foldr_perm _).map _).trans ?_
  rw [List.map_map]
  exact List.Perm.of_eq rfl
theorem setD_size {H : Type} (l : List Ent) : Maps.size (setD (H := H) l) = l.length := by
  rw [setD, Maps.size_eq, (foldr_perm _).length_eq, List.length_map]
theorem setD_has {H : Type} (l : List Ent) (k : Int) : Maps.has (setD (H := H) l) (.int .i64 k) = decide (k ∈ keys l) := by
  rw [setD, Maps.has_eq, Bool.eq_iff_iff]
  rw [List.any_eq_true]
  constructor
  · rintro ⟨p, hp, hs⟩
    have hp' := (foldr_perm _).mem_iff.1 hp
    obtain ⟨e, he, rfl⟩ := List.mem_map.1 hp'
    have : e.k = k := by simpa [Lit.sameKey] using hs
    simp
    rw [← this]
    exact List.mem_map.2 ⟨e, he, rfl⟩
  · intro h
    have h' : k ∈ keys l := by simpa using h
    obtain ⟨e, he, rfl⟩ := List.mem_map.1 h'
    exact ⟨_, (foldr_perm _).mem_iff.2 (List.mem_map.2 ⟨e, he, rfl⟩), by simp [Lit.sameKey]⟩
open Go.WideElems in
theorem set_owns {H : Type} {P : Program} {w : World} {b K E : Nat} {l : List Ent} {ck : Nat} {f : Int → Bool} (hK : P.underlying K = some (.int .i64)) (hE : P.underlying E = some .bool)
    (hb : w.heap[b]? = some (.map (ents l) ck)) (hs : SetIs l ck f) (hw : ∀ k, f k = true → (Lit.int .i64 k).wf = true) (hl : l.length ≤ maxLen) :
    w.ownsMap P K (plainElem (H := H) P E) b l.length (setD l) := by
  have hrd : ∀ e ∈ l, rd P K (plainElem (H := H) P E) e.entry = some (.int .i64 e.k, boolD) := fun e he => by
    have h1 := look_mem hs.nd he
    rw [hs.at_] at h1
    have hf : f e.k = true := by
      cases hf : f e.k with
      | true => rfl
      | false => rw [hf] at h1; simp at h1
    rw [hf] at h1
    simp at h1
    have : e.entry = ⟨.int .i64 e.k, .bool true, e.born⟩ := by rw [Ent.entry, ← h1]
    rw [this]
    exact rd_mk (Maps.keyOf_int_mk hK (hw _ hf)) (plainElem_bool hE true)
  refine ⟨ents l, ck, hb, ⟨by simp [ents]; exact hl, (MapKept.stamped_iff _ _).2 ⟨?_, ?_, ?_⟩, ?_⟩, by simp [ents], ?_⟩
  · intro x hx
    simp [ents] at hx
    obtain ⟨e, he, rfl⟩ := hx
    exact hs.born _ (List.mem_map.2 ⟨e, he, rfl⟩)
  · have := hs.bnd
    simpa [ents, Ent.entry, List.map_map, Function.comp_def] using this
  · have := hs.nd
    rw [keys, List.Nodup, List.pairwise_map] at this
    simp only [ents, List.toList_toArray, List.pairwise_map, Ent.entry]
    refine this.imp ?_
    intro a c h h'
    exact h (by simpa using h')
  · intro x hx
    simp [ents] at hx
    obtain ⟨e, he, rfl⟩ := hx
    exact ⟨_, hrd e he⟩
  · rw [setD]
    congr 2
    simp only [ents, List.toList_toArray, List.map_map]
    refine List.map_congr_left fun e he => ?_
    simp only [Function.comp]
    rw [rg_of (hrd e he)]

/-! ### Slices of bytes as values -/
/-- A slice's value reads as bs. -/
structure SlB (w : World) (a : Option Addr) (n c : Nat) (bs : List Int) : Prop where
  by_ : Byts w a n bs
  at_ : (a = none ∧ n = 0 ∧ c = 0) ∨ ∃ ad, a = some ad
/-- .. and lies in a block of bytes alone. -/
structure ByV (w : World) (a : Option Addr) (n c : Nat) (bs : List Int) : Prop where
  by_ : Byts w a n bs
  at_ : (a = none ∧ n = 0 ∧ c = 0) ∨ ∃ b off cs, a = some ⟨b, off, none⟩ ∧ w.heap[b]? = some (.cells cs 5)
theorem ByV.slb {w : World} {a : Option Addr} {n c : Nat} {bs : List Int} (h : ByV w a n c bs) : SlB w a n c bs := by
  refine ⟨h.by_, ?_⟩
  rcases h.at_ with h0 | ⟨b, off, cs, h1, _⟩
  · exact .inl h0
  · exact .inr ⟨_, h1⟩
theorem ByV.fr {S : Nat → Prop} {w w' : World} {a : Option Addr} {n c : Nat} {bs : List Int} (h : ByV w a n c bs) (F : Fr S w w') (hS : ∀ b c, w.heap[b]? = some (.cells c 5) → ¬ S b) : ByV w' a n c bs := by
  refine ⟨h.by_.fr F (fun b off e hb => ?_), ?_⟩
  · rcases h.at_ with ⟨h0, _⟩ | ⟨b', off', cs, h1, h2⟩
    · rw [h0] at e; cases e
    · rw [h1] at e; cases e; exact hS _ _ h2
  · rcases h.at_ with h0 | ⟨b', off', cs, h1, h2⟩
    · exact .inl h0
    · exact .inr ⟨b', off', cs, h1, F.heap h2 (hS _ _ h2)⟩
theorem ByV.nil (w : World) : ByV w none 0 0 [] := ⟨⟨rfl, fun i x h => by simp at h⟩, .inl ⟨rfl, rfl, rfl⟩⟩
theorem ByV.len {w : World} {a : Option Addr} {n c : Nat} {bs : List Int} (h : ByV w a n c bs) : bs.length = n := h.by_.len
end Go.Sg
namespace Go.Proofs.YtgdhaaokolfdoaaGreatDoor
open Go.RowKit Go.Sg
theorem clone_v {w : World} {a : Option Addr} {n c : Nat} {bs : List Int} (h : SlB w a n c bs) (hn : n ≤ 65536) :
    Calls Tryz.prog 83 #[.slice a n c] w fun e w' => ∃ a' c', e = .returned (.slice a' n c') ∧ ByV w' a' n c' bs ∧ Fr (fun _ => False) w w' := by
  rcases h.at_ with ⟨rfl, rfl, rfl⟩ | ⟨ad, rfl⟩
  · refine (clone_nil w).mono fun e w' ⟨he, hw⟩ => ⟨none, 0, he, ?_, by rw [hw]; exact Fr.refl _ _⟩
    have : bs = [] := List.eq_nil_of_length_eq_zero h.by_.len
    rw [this]; exact ByV.nil w'
  · exact (clone_at h.by_ hn).mono fun e w' ⟨g, c', cs, he, hg, hB, _, hF⟩ => ⟨_, _, he, ⟨hB, .inr ⟨g, 0, cs, rfl, hg⟩⟩, hF⟩
end Go.Proofs.YtgdhaaokolfdoaaGreatDoor

/- The set of bits: what in and Has compute. Conditions: the set lies in the world as BRaw says. -/
namespace Go.Sg.Bits
open Go.RowKit
def bit (ws : List Nat) (i : Nat) : Bool := (ws.getD (i / 64) 0).testBit (i % 64)
def wcells (ws : List Nat) : Array Value := (ws.map (fun (x : Nat) => Value.int .u64 (x : Int))).toArray
/-- A set of bits lies in the world: n numbers, the words ws. -/
structure BRaw (w : World) (bs bw n hand : Nat) (ws : List Nat) : Prop where
  s : w.heap[bs]? = some (.cells #[.int .i64 n, .int .i64 hand, .slice (some ⟨bw, 0, none⟩) ws.length ws.length] 256)
  w_ : w.heap[bw]? = some (.cells (wcells ws) 29)
  len : ws.length = (n + 63) / 64
  room : 1 ≤ n ∧ n ≤ 65536
  hand : hand < n
  wf : ∀ x ∈ ws, x < 18446744073709551616
  pad : ∀ i, n ≤ i → bit ws i = false
theorem BRaw.fr {S : Nat → Prop} {w w' : World} {bs bw n hand : Nat} {ws : List Nat} (h : BRaw w bs bw n hand ws) (F : Fr S w w') (h1 : ¬ S bs) (h2 : ¬ S bw) : BRaw w' bs bw n hand ws :=
  ⟨F.heap h.s h1, F.heap h.w_ h2, h.len, h.room, h.hand, h.wf, h.pad⟩
theorem BRaw.word {w : World} {bs bw n hand : Nat} {ws : List Nat} (h : BRaw w bs bw n hand ws) {j x : Nat} (hj : ws[j]? = some x) : w.cell? ⟨bw, j, none⟩ = some (.int .u64 x) := by
  rw [cell_of_heap h.w_]
  simp [wcells, hj]
theorem BRaw.get {w : World} {bs bw n hand : Nat} {ws : List Nat} (h : BRaw w bs bw n hand ws) {i : Nat} (hi : i < n) : ∃ x, ws[i / 64]? = some x ∧ x < 18446744073709551616 ∧ bit ws i = x.testBit (i % 64) := by
  have hl := h.len
  have hlt : i / 64 < ws.length := by omega
  refine ⟨ws[i / 64], List.getElem?_eq_getElem hlt, h.wf _ (List.getElem_mem hlt), ?_⟩
  simp [bit, List.getD, List.getElem?_eq_getElem hlt]
theorem shr_nat (x k : Nat) : (x : Int) / 2 ^ k = ((x / 2 ^ k : Nat) : Int) := by simp
theorem and_one (x k : Nat) (hx : x < 18446744073709551616) : (bits BinOp.and IntKind.u64 ((x : Int) / 2 ^ k) 1 == 1) = x.testBit k := by
  have h1 : x / 2 ^ k < 18446744073709551616 := Nat.lt_of_le_of_lt (Nat.div_le_self _ _) hx
  rw [shr_nat, show (1 : Int) = ((1 : Nat) : Int) from rfl, u64_and_nat _ _ h1 (by decide), nat_mask1, Nat.testBit_eq_decide_div_mod_eq]
  have h2 : x / 2 ^ k % 2 = 0 ∨ x / 2 ^ k % 2 = 1 := by omega
  rcases h2 with h2 | h2 <;> rw [h2] <;> rfl
theorem bit_set {ws : List Nat} {k x : Nat} (hk : ws[k]? = some x) (y j : Nat) : bit (ws.set k y) j = if j / 64 = k then y.testBit (j % 64) else bit ws j := by
  have hl := (List.getElem?_eq_some_iff.1 hk).1
  by_cases h : j / 64 = k
  · subst h
    simp [bit, List.getD, hl]
  · rw [if_neg h]
    have h' : ¬ k = j / 64 := fun e => h e.symm
    simp [bit, List.getD, List.getElem?_set, h']
theorem bit_or {ws : List Nat} {i x : Nat} (hx : ws[i / 64]? = some x) (j : Nat) : bit (ws.set (i / 64) (x ||| 2 ^ (i % 64))) j = if j = i then true else bit ws j := by
  rw [bit_set hx]
  split
  · rename_i h
    have hb : bit ws j = x.testBit (j % 64) := by simp [bit, List.getD, h, hx]
    rw [Nat.testBit_or, Nat.testBit_two_pow, hb]
    by_cases he : j = i
    · subst he; simp
    · rw [if_neg he]
      have : ¬ i % 64 = j % 64 := by omega
      simp [this]
  · rename_i h
    rw [if_neg (by rintro rfl; exact h rfl)]
theorem bit_andNot {ws : List Nat} {i x : Nat} (hx : ws[i / 64]? = some x) (j : Nat) : bit (ws.set (i / 64) (x &&& (18446744073709551615 - 2 ^ (i % 64)))) j = if j = i then false else bit ws j := by
  rw [bit_set hx]
  have hm : j % 64 < 64 := by omega
  split
  · rename_i h
    have hb : bit ws j = x.testBit (j % 64) := by simp [bit, List.getD, h, hx]
    rw [Nat.testBit_and, show 18446744073709551615 - 2 ^ (i % 64) = 2 ^ 64 - (2 ^ (i % 64) + 1) by omega, Nat.testBit_two_pow_sub_succ (Nat.pow_lt_pow_right (by decide) (by omega)), Nat.testBit_two_pow, hb]
    by_cases he : j = i
    · subst he; simp
    · rw [if_neg he]
      have : ¬ i % 64 = j % 64 := by omega
      simp [this, hm]
  · rename_i h
    rw [if_neg (by rintro rfl; exact h rfl)]
theorem wcells_set (ws : List Nat) (k y : Nat) : (wcells ws).setIfInBounds k (.int .u64 y) = wcells (ws.set k y) := by simp [wcells]
theorem pow_lt (i : Nat) : 2 ^ (i % 64) < 18446744073709551616 := Nat.lt_of_lt_of_le (Nat.pow_lt_pow_right (a := 2) (m := i % 64) (n := 64) (by decide) (by omega)) (by decide)
theorem wrap_pow (i : Nat) : IntKind.u64.wrap (2 ^ (i % 64)) = ((2 ^ (i % 64) : Nat) : Int) := by
  have h := pow_lt i
  have e : (2 : Int) ^ (i % 64) = ((2 ^ (i % 64) : Nat) : Int) := (Int.natCast_pow 2 (i % 64)).symm
  rw [IntKind.wrap_u64, e]
  generalize 2 ^ (i % 64) = p at *
  omega
theorem BRaw.store {w : World} {bs bw n hand : Nat} {ws : List Nat} (h : BRaw w bs bw n hand ws) {k x y : Nat} (hk : ws[k]? = some x) (hy : y < 18446744073709551616) (hp : ∀ i, n ≤ i → bit (ws.set k y) i = false) :
    BRaw (w.setCell ⟨bw, k, none⟩ (.int .u64 y)) bs bw n hand (ws.set k y) := by
  have hne : bw ≠ bs := heap_ne h.w_ h.s (by simp)
  refine ⟨?_, ?_, by simpa using h.len, h.room, h.hand, ?_, hp⟩
  · rw [heap_setCell_ne _ _ _ _ hne, h.s]; simp
  · rw [heap_setCell_cells _ _ _ _ h.w_, wcells_set]
  · intro z hz
    rcases List.mem_or_eq_of_mem_set hz with hz | rfl
    · exact h.wf z hz
    · exact hy
/-- A set of bits, by its members. -/
structure BitsAt (w : World) (bs bw n hand : Nat) (t : Nat → Bool) : Prop where
  ex : ∃ ws, BRaw w bs bw n hand ws ∧ ∀ i, bit ws i = t i
theorem BitsAt.fr {S : Nat → Prop} {w w' : World} {bs bw n hand : Nat} {t : Nat → Bool} (h : BitsAt w bs bw n hand t) (F : Fr S w w') (h1 : ¬ S bs) (h2 : ¬ S bw) : BitsAt w' bs bw n hand t := by
  obtain ⟨ws, h, ht⟩ := h
  exact ⟨ws, h.fr F h1 h2, ht⟩
def upd (t : Nat → Bool) (i : Nat) (b : Bool) : Nat → Bool := fun j => if j = i then b else t j
end Go.Sg.Bits
namespace Go.Proofs.YtgdhaaokolfdoaaGreatDoor
open Go.RowKit Go.Sg Go.Sg.Bits

theorem in_yes {w : World} {bs bw n hand : Nat} {ws : List Nat} (h : BRaw w bs bw n hand ws) (i : Nat) (hi : i < n) :
    Calls Tryz.prog 157 #[.pointer (some ⟨bs, 0, none⟩), .int .i64 i] w fun e w' => e = .returned (.bool true) ∧ w = w' := by
  have c0 := cell_of_heap h.s 0
  simp at c0
  clear h
  go_enter Tryz.func157, Tryz.ntmps157
  go_wp2
  go_ret
  exact ⟨rfl, rfl⟩
theorem in_no {w : World} {bs bw n hand : Nat} {ws : List Nat} (h : BRaw w bs bw n hand ws) (i : Int) (hi : i < 0 ∨ (n : Int) ≤ i) :
    Calls Tryz.prog 157 #[.pointer (some ⟨bs, 0, none⟩), .int .i64 i] w fun e w' => e = .returned (.bool false) ∧ w = w' := by
  have c0 := cell_of_heap h.s 0
  simp at c0
  clear h
  rcases hi with hi | hi
  · go_enter Tryz.func157, Tryz.ntmps157
    go_wp2
    go_ret
    exact ⟨rfl, rfl⟩
  · have h0 : 0 ≤ i := by omega
    have h1 : decide (i < (n : Int)) = false := by simp; omega
    go_enter Tryz.func157, Tryz.ntmps157
    go_wp2
    go_ret
    exact ⟨by simp [h1], rfl⟩
theorem in_nil (i : Int) (w : World) : Calls Tryz.prog 157 #[.pointer none, .int .i64 i] w fun e w' => e = .returned (.bool false) ∧ w = w' := by
  go_enter Tryz.func157, Tryz.ntmps157
  go_wp2
  go_ret
  exact ⟨rfl, rfl⟩
theorem has_yes {w : World} {bs bw n hand : Nat} {ws : List Nat} (h : BRaw w bs bw n hand ws) (i : Nat) (hi : i < n) :
    Calls Tryz.prog 88 #[.pointer (some ⟨bs, 0, none⟩), .int .i64 i] w fun e w' => e = .returned (.bool (bit ws i)) ∧ w = w' := by
  have c2 := cell_of_heap h.s 2
  simp at c2
  obtain ⟨x, hx, hlt, hb⟩ := h.get hi
  have cw := h.word hx
  have hl := h.len
  have hr := h.room
  have H := hid h
  have HB := hid hb
  clear hx hb h
  go_enter Tryz.func88, Tryz.ntmps88
  go_wp2_with (go_at_call 157; refine (in_yes H.out i hi).mono ?_; rintro e w' ⟨rfl, rfl⟩)
  go_ret
  exact ⟨by rw [HB.out, ← and_one x _ hlt]; rfl, rfl⟩
theorem has_no {w : World} {bs bw n hand : Nat} {ws : List Nat} (h : BRaw w bs bw n hand ws) (i : Int) (hi : i < 0 ∨ (n : Int) ≤ i) :
    Calls Tryz.prog 88 #[.pointer (some ⟨bs, 0, none⟩), .int .i64 i] w fun e w' => e = .returned (.bool false) ∧ w = w' := by
  have H := hid (in_no h i hi)
  clear h hi
  go_enter Tryz.func88, Tryz.ntmps88
  go_wp2_with (go_at_call 157; refine H.out.mono ?_; rintro e w' ⟨rfl, rfl⟩)
  go_ret
  exact ⟨rfl, rfl⟩
theorem has_nil (i : Int) (w : World) : Calls Tryz.prog 88 #[.pointer none, .int .i64 i] w fun e w' => e = .returned (.bool false) ∧ w = w' := by
  go_enter Tryz.func88, Tryz.ntmps88
  go_wp2_with (go_at_call 157; refine (in_nil i w).mono ?_; rintro e w' ⟨rfl, rfl⟩)
  go_ret
  exact ⟨rfl, rfl⟩

theorem has_at {w : World} {bs bw n hand : Nat} {t : Nat → Bool} (h : BitsAt w bs bw n hand t) (i : Nat) (hi : i < n) :
    Calls Tryz.prog 88 #[.pointer (some ⟨bs, 0, none⟩), .int .i64 i] w fun e w' => e = .returned (.bool (t i)) ∧ w = w' := by
  obtain ⟨ws, h, ht⟩ := h
  rw [← ht]
  exact has_yes h i hi

set_option maxHeartbeats 1000000 in
theorem mark_new {w : World} {bs bw n hand : Nat} {t : Nat → Bool} (h : BitsAt w bs bw n hand t) (i : Nat) (hi : i < n) (hb : t i = false) :
    Calls Tryz.prog 90 #[.pointer (some ⟨bs, 0, none⟩), .int .i64 i] w fun e w' => e = .returned (.bool true) ∧ BitsAt w' bs bw n hand (upd t i true) ∧ Fr (fun b => b = bw) w w' := by
  obtain ⟨ws, h, ht⟩ := h
  rw [← ht] at hb
  have c2 := cell_of_heap h.s 2
  simp at c2
  obtain ⟨x, hx, hlt, hb2⟩ := h.get hi
  have cw := h.word hx
  have zw : ∀ o, w.frozen? ⟨bw, o, none⟩ = false := fun o => frozen_of_heap h.w_ o
  have hl := h.len
  have hr := h.room
  have H := hid h
  have HB := hid hb
  have HX := hid hx
  have HT := hid ht
  clear hx hb h hb2 ht
  go_enter Tryz.func90, Tryz.ntmps90
  go_wp2_with (first | (go_at_call 157; refine (in_yes H.out i hi).mono ?_; rintro e w' ⟨rfl, rfl⟩) | (go_at_call 88; refine (has_yes H.out i hi).mono ?_; rintro e w' ⟨rfl, rfl⟩; rw [HB.out]))
  go_region
  go_wp2
  go_ret
  have hy : x ||| 2 ^ (i % 64) < 18446744073709551616 := Nat.or_lt_two_pow (n := 64) hlt (pow_lt i)
  refine ⟨rfl, ⟨ws.set (i / 64) (x ||| 2 ^ (i % 64)), ?_, fun j => ?_⟩, ((Fr.refl (fun b => b = bw) _).setCell (a := ⟨bw, i / 64, none⟩) (fun _ => rfl) _).drew⟩
  · rw [wrap_pow, u64_or_nat _ _ hlt (pow_lt i)]
    exact (H.out.store HX.out hy fun j hj => by rw [bit_or HX.out, if_neg (by omega)]; exact H.out.pad j hj).fr ((Fr.refl (fun _ => False) _).drew) (fun h => h) (fun h => h)
  · rw [bit_or HX.out, upd, HT.out]

theorem mark_there {w : World} {bs bw n hand : Nat} {t : Nat → Bool} (h : BitsAt w bs bw n hand t) (i : Nat) (hi : i < n) (hb : t i = true) :
    Calls Tryz.prog 90 #[.pointer (some ⟨bs, 0, none⟩), .int .i64 i] w fun e w' => e = .returned (.bool false) ∧ w = w' := by
  have H := hid h
  have HB := hid hb
  obtain ⟨ws, h', ht⟩ := h
  have H' := hid h'
  clear hb h' ht
  go_enter Tryz.func90, Tryz.ntmps90
  go_wp2_with (first | (go_at_call 157; refine (in_yes H'.out i hi).mono ?_; rintro e w' ⟨rfl, rfl⟩) | (go_at_call 88; refine (has_at H.out i hi).mono ?_; rintro e w' ⟨rfl, rfl⟩; rw [HB.out]))
  go_ret
  exact ⟨rfl, rfl⟩
theorem mark_no {w : World} {bs bw n hand : Nat} {t : Nat → Bool} (h : BitsAt w bs bw n hand t) (i : Int) (hi : i < 0 ∨ (n : Int) ≤ i) :
    Calls Tryz.prog 90 #[.pointer (some ⟨bs, 0, none⟩), .int .i64 i] w fun e w' => e = .returned (.bool false) ∧ w = w' := by
  obtain ⟨ws, h', ht⟩ := h
  have H := hid (in_no h' i hi)
  clear hi h' ht
  go_enter Tryz.func90, Tryz.ntmps90
  go_wp2_with (first | (go_at_call 157; refine H.out.mono ?_; rintro e w' ⟨rfl, rfl⟩))
  go_ret
  exact ⟨rfl, rfl⟩

set_option maxHeartbeats 1000000 in
theorem clear_there {w : World} {bs bw n hand : Nat} {t : Nat → Bool} (h : BitsAt w bs bw n hand t) (i : Nat) (hi : i < n) (hb : t i = true) :
    Calls Tryz.prog 107 #[.pointer (some ⟨bs, 0, none⟩), .int .i64 i] w fun e w' => e = .returned (.bool true) ∧ BitsAt w' bs bw n hand (upd t i false) ∧ Fr (fun b => b = bw) w w' := by
  have H0 := hid h
  obtain ⟨ws, h, ht⟩ := h
  have c2 := cell_of_heap h.s 2
  simp at c2
  obtain ⟨x, hx, hlt, hb2⟩ := h.get hi
  have cw := h.word hx
  have zw : ∀ o, w.frozen? ⟨bw, o, none⟩ = false := fun o => frozen_of_heap h.w_ o
  have hl := h.len
  have hr := h.room
  have H := hid h
  have HB := hid hb
  have HX := hid hx
  have HT := hid ht
  clear hx hb h hb2 ht
  go_enter Tryz.func107, Tryz.ntmps107
  go_wp2_with (go_at_call 88; refine (has_at H0.out i hi).mono ?_; rintro e w' ⟨rfl, rfl⟩; rw [HB.out])
  go_region
  go_wp2
  go_ret
  have hy : x &&& (18446744073709551615 - 2 ^ (i % 64)) < 18446744073709551616 := Nat.lt_of_le_of_lt Nat.and_le_left hlt
  refine ⟨rfl, ⟨ws.set (i / 64) (x &&& (18446744073709551615 - 2 ^ (i % 64))), ?_, fun j => ?_⟩, ((Fr.refl (fun b => b = bw) _).setCell (a := ⟨bw, i / 64, none⟩) (fun _ => rfl) _).drew⟩
  · rw [wrap_pow, u64_andNot_nat _ _ hlt (pow_lt i)]
    exact (H.out.store HX.out hy fun j hj => by rw [bit_andNot HX.out, if_neg (by omega)]; exact H.out.pad j hj).fr ((Fr.refl (fun _ => False) _).drew) (fun h => h) (fun h => h)
  · rw [bit_andNot HX.out, upd, HT.out]
theorem clear_no {w : World} {bs bw n hand : Nat} {t : Nat → Bool} (h : BitsAt w bs bw n hand t) (i : Nat) (hi : i < n) (hb : t i = false) :
    Calls Tryz.prog 107 #[.pointer (some ⟨bs, 0, none⟩), .int .i64 i] w fun e w' => e = .returned (.bool false) ∧ w = w' := by
  have H := hid h
  have HB := hid hb
  clear hb h
  go_enter Tryz.func107, Tryz.ntmps107
  go_wp2_with (go_at_call 88; refine (has_at H.out i hi).mono ?_; rintro e w' ⟨rfl, rfl⟩; rw [HB.out])
  go_ret
  exact ⟨rfl, rfl⟩
end Go.Proofs.YtgdhaaokolfdoaaGreatDoor

/- The shelf's contracts at this program, laid by the kit's own plain mode: TrailingZeros64, maps.Keys, slices.Sorted, slices.Sort. Conditions: none. -/
namespace Go.Proofs.YtgdhaaokolfdoaaGreatDoor
open Go.Proofs Go.Shelf
def Tryz.tz_ren : Go.Shelf.Ren := ⟨fun | 29 => 214 | n => n, fun | 22 => 29 | 3 => 3 | 4 => 4 | 25 => 234 | 54 => 375 | 0 => 0 | 5 => 5 | n => n, fun | 1 => 0 | n => n⟩
theorem Tryz.tz : Go.Proofs.Lays7.n29 Tryz.prog Tryz.tz_ren := {
  mixed := by kernel_rfl
  f29 := Tryz.func214.trans (congrArg some (by kernel_rfl))
  t0 := Tryz.underlying0
  a0 := Tryz.isAgg0
  z0 := Tryz.sizeOf0
  v0 := Tryz.zeroValue0
  i0 := by kernel_rfl
  t3 := Tryz.underlying3
  a3 := Tryz.isAgg3
  z3 := Tryz.sizeOf3
  v3 := Tryz.zeroValue3
  i3 := by kernel_rfl
  t4 := Tryz.underlying4
  a4 := Tryz.isAgg4
  z4 := Tryz.sizeOf4
  v4 := Tryz.zeroValue4
  i4 := by kernel_rfl
  t5 := Tryz.underlying5
  a5 := Tryz.isAgg5
  z5 := Tryz.sizeOf5
  v5 := Tryz.zeroValue5
  i5 := by kernel_rfl
  t22 := Tryz.underlying29
  a22 := Tryz.isAgg29
  z22 := Tryz.sizeOf29
  v22 := Tryz.zeroValue29
  i22 := by kernel_rfl
  t25 := Tryz.underlying234
  a25 := Tryz.isAgg234
  z25 := Tryz.sizeOf234
  v25 := Tryz.zeroValue234
  i25 := by kernel_rfl
  t54 := Tryz.underlying375
  a54 := Tryz.isAgg375
  z54 := Tryz.sizeOf375
  g1 := by kernel_rfl }
def Tryz.keysA_ren : Go.Shelf.Ren := ⟨fun | 7 => 99 | 10 => 161 | n => n, fun | 23 => 153 | 26 => 3 | 3 => 4 | 28 => 177 | 0 => 0 | 27 => 176 | 33 => 74 | 4 => 4 | n => n, fun | n => n⟩
theorem Tryz.keysA : Go.Proofs.SlLaysZI.n7 Tryz.prog Tryz.keysA_ren := {
  mixed := by kernel_rfl
  f7 := ⟨Tryz.f99.name, by decide, Tryz.func99.trans (congrArg some (by kernel_rfl))⟩
  f10 := ⟨Tryz.f161.name, by decide, Tryz.func161.trans (congrArg some (by kernel_rfl))⟩
  t0 := Tryz.underlying0
  a0 := Tryz.isAgg0
  z0 := Tryz.sizeOf0
  v0 := Tryz.zeroValue0
  t4 := Tryz.underlying4
  a4 := Tryz.isAgg4
  z4 := Tryz.sizeOf4
  v4 := Tryz.zeroValue4
  t23 := Tryz.underlying153
  a23 := Tryz.isAgg153
  z23 := Tryz.sizeOf153
  v23 := Tryz.zeroValue153
  t26 := Tryz.underlying3
  a26 := Tryz.isAgg3
  z26 := Tryz.sizeOf3
  v26 := Tryz.zeroValue3
  t27 := Tryz.underlying176
  a27 := Tryz.isAgg176
  z27 := Tryz.sizeOf176
  v27 := Tryz.zeroValue176
  t28 := Tryz.underlying177
  a28 := Tryz.isAgg177
  z28 := Tryz.sizeOf177
  v28 := Tryz.zeroValue177
  t33 := Tryz.underlying74
  a33 := Tryz.isAgg74
  z33 := Tryz.sizeOf74
  v33 := Tryz.zeroValue74 }
def Tryz.sortedA_ren : Go.Shelf.Ren := ⟨fun | 6 => 98 | 8 => 160 | 9 => 141 | 11 => 223 | 13 => 204 | 12 => 203 | 23 => 264 | 24 => 265 | 14 => 255 | 15 => 256 | 16 => 257 | 17 => 258 | 18 => 259 | 19 => 260 | 20 => 261 | 21 => 262 | 22 => 263 | 25 => 279 | 26 => 280 | 27 => 281 | 28 => 282 | 29 => 283 | 30 => 276 | 31 => 287 | n => n, fun | 26 => 3 | 28 => 177 | 24 => 52 | 0 => 0 | 3 => 3 | 37 => 234 | 48 => 373 | 50 => 29 | 4 => 4 | 40 => 367 | 39 => 366 | 45 => 157 | 5 => 5 | 9 => 9 | 51 => 384 | 55 => 388 | 57 => 392 | 58 => 393 | 33 => 74 | n => n, fun | n => n⟩
theorem Tryz.sortedA : Go.Proofs.SlLaysZI.n6 Tryz.prog Tryz.sortedA_ren := {
  mixed := by kernel_rfl
  f6 := ⟨Tryz.f98.name, by decide, Tryz.func98.trans (congrArg some (by kernel_rfl))⟩
  f8 := ⟨Tryz.f160.name, by decide, Tryz.func160.trans (congrArg some (by kernel_rfl))⟩
  f11 := ⟨Tryz.f223.name, by decide, Tryz.func223.trans (congrArg some (by kernel_rfl))⟩
  t0 := Tryz.underlying0
  a0 := Tryz.isAgg0
  z0 := Tryz.sizeOf0
  v0 := Tryz.zeroValue0
  t24 := Tryz.underlying52
  a24 := Tryz.isAgg52
  z24 := Tryz.sizeOf52
  v24 := Tryz.zeroValue52
  t26 := Tryz.underlying3
  a26 := Tryz.isAgg3
  z26 := Tryz.sizeOf3
  v26 := Tryz.zeroValue3
  t28 := Tryz.underlying177
  a28 := Tryz.isAgg177
  z28 := Tryz.sizeOf177
  v28 := Tryz.zeroValue177
  i26 := by kernel_rfl }
def Tryz.sortA_ren : Go.Shelf.Ren := ⟨fun | 5 => 141 | 8 => 204 | 7 => 203 | 19 => 264 | 20 => 265 | 10 => 255 | 11 => 256 | 12 => 257 | 13 => 258 | 14 => 259 | 15 => 260 | 16 => 261 | 17 => 262 | 18 => 263 | 30 => 279 | 31 => 280 | 32 => 281 | 33 => 282 | 34 => 283 | 35 => 276 | 40 => 287 | n => n, fun | 23 => 52 | 25 => 3 | 3 => 3 | 32 => 234 | 22 => 52 | 0 => 0 | 44 => 373 | 46 => 29 | 4 => 4 | 36 => 367 | 35 => 366 | 41 => 157 | 5 => 5 | 9 => 9 | 53 => 384 | 57 => 388 | 63 => 392 | 64 => 393 | n => n, fun | n => n⟩
theorem Tryz.sortA : Go.Proofs.SlLaysM.n5 Tryz.prog Tryz.sortA_ren := {
  mixed := by kernel_rfl
  f5 := ⟨Tryz.f141.name, by decide, Tryz.func141.trans (congrArg some (by kernel_rfl))⟩
  f7 := ⟨Tryz.f203.name, by decide, Tryz.func203.trans (congrArg some (by kernel_rfl))⟩
  f8 := Tryz.func204.trans (congrArg some (by kernel_rfl))
  f10 := ⟨Tryz.f255.name, by decide, Tryz.func255.trans (congrArg some (by kernel_rfl))⟩
  f11 := ⟨Tryz.f256.name, by decide, Tryz.func256.trans (congrArg some (by kernel_rfl))⟩
  f12 := ⟨Tryz.f257.name, by decide, Tryz.func257.trans (congrArg some (by kernel_rfl))⟩
  f13 := ⟨Tryz.f258.name, by decide, Tryz.func258.trans (congrArg some (by kernel_rfl))⟩
  f14 := ⟨Tryz.f259.name, by decide, Tryz.func259.trans (congrArg some (by kernel_rfl))⟩
  f15 := ⟨Tryz.f260.name, by decide, Tryz.func260.trans (congrArg some (by kernel_rfl))⟩
  f16 := ⟨Tryz.f261.name, by decide, Tryz.func261.trans (congrArg some (by kernel_rfl))⟩
  f17 := ⟨Tryz.f262.name, by decide, Tryz.func262.trans (congrArg some (by kernel_rfl))⟩
  f18 := ⟨Tryz.f263.name, by decide, Tryz.func263.trans (congrArg some (by kernel_rfl))⟩
  f19 := Tryz.func264.trans (congrArg some (by kernel_rfl))
  f20 := Tryz.func265.trans (congrArg some (by kernel_rfl))
  f30 := ⟨Tryz.f279.name, by decide, Tryz.func279.trans (congrArg some (by kernel_rfl))⟩
  f31 := Tryz.func280.trans (congrArg some (by kernel_rfl))
  f32 := Tryz.func281.trans (congrArg some (by kernel_rfl))
  f33 := ⟨Tryz.f282.name, by decide, Tryz.func282.trans (congrArg some (by kernel_rfl))⟩
  f34 := ⟨Tryz.f283.name, by decide, Tryz.func283.trans (congrArg some (by kernel_rfl))⟩
  f35 := ⟨Tryz.f276.name, by decide, Tryz.func276.trans (congrArg some (by kernel_rfl))⟩
  f40 := ⟨Tryz.f287.name, by decide, Tryz.func287.trans (congrArg some (by kernel_rfl))⟩
  t0 := Tryz.underlying0
  a0 := Tryz.isAgg0
  z0 := Tryz.sizeOf0
  v0 := Tryz.zeroValue0
  t3 := Tryz.underlying3
  a3 := Tryz.isAgg3
  z3 := Tryz.sizeOf3
  v3 := Tryz.zeroValue3
  t4 := Tryz.underlying4
  a4 := Tryz.isAgg4
  z4 := Tryz.sizeOf4
  v4 := Tryz.zeroValue4
  t5 := Tryz.underlying5
  a5 := Tryz.isAgg5
  z5 := Tryz.sizeOf5
  v5 := Tryz.zeroValue5
  t9 := Tryz.underlying9
  a9 := Tryz.isAgg9
  z9 := Tryz.sizeOf9
  v9 := Tryz.zeroValue9
  t22 := Tryz.underlying52
  a22 := Tryz.isAgg52
  z22 := Tryz.sizeOf52
  v22 := Tryz.zeroValue52
  t23 := Tryz.underlying52
  a23 := Tryz.isAgg52
  z23 := Tryz.sizeOf52
  v23 := Tryz.zeroValue52
  t25 := Tryz.underlying3
  a25 := Tryz.isAgg3
  z25 := Tryz.sizeOf3
  v25 := Tryz.zeroValue3
  t32 := Tryz.underlying234
  a32 := Tryz.isAgg234
  z32 := Tryz.sizeOf234
  v32 := Tryz.zeroValue234
  t35 := Tryz.underlying366
  a35 := Tryz.isAgg366
  z35 := Tryz.sizeOf366
  v35 := Tryz.zeroValue366
  t36 := Tryz.underlying367
  a36 := Tryz.isAgg367
  z36 := Tryz.sizeOf367
  v36 := Tryz.zeroValue367
  t41 := Tryz.underlying157
  a41 := Tryz.isAgg157
  z41 := Tryz.sizeOf157
  v41 := Tryz.zeroValue157
  t44 := Tryz.underlying373
  a44 := Tryz.isAgg373
  z44 := Tryz.sizeOf373
  v44 := Tryz.zeroValue373
  t46 := Tryz.underlying29
  a46 := Tryz.isAgg29
  z46 := Tryz.sizeOf29
  v46 := Tryz.zeroValue29
  t53 := Tryz.underlying384
  a53 := Tryz.isAgg384
  z53 := Tryz.sizeOf384
  v53 := Tryz.zeroValue384
  t57 := Tryz.underlying388
  a57 := Tryz.isAgg388
  z57 := Tryz.sizeOf388
  v57 := Tryz.zeroValue388
  t63 := Tryz.underlying392
  a63 := Tryz.isAgg392
  z63 := Tryz.sizeOf392
  v63 := Tryz.zeroValue392
  t64 := Tryz.underlying393
  a64 := Tryz.isAgg393
  z64 := Tryz.sizeOf393
  v64 := Tryz.zeroValue393 }
end Go.Proofs.YtgdhaaokolfdoaaGreatDoor

/- math/bits.TrailingZeros64 at this program, by the shelf's contract; facts on the lowest bit. Conditions: the library's table lies as its text lays it. -/
namespace Go.Sg.Bits
open Go
theorem ctz_spec {x : Nat} (h0 : x ≠ 0) (hx : x < 18446744073709551616) : ∃ m, x = 2 ^ Lib.ctz 64 x * (2 * m + 1) ∧ Lib.ctz 64 x < 64 := by
  have := Lib.ctzFrom_spec 64 x (by omega) hx
  simpa [Lib.ctz, h0] using this
theorem odd_bit (k m i : Nat) : (2 ^ k * (2 * m + 1)).testBit i = if i < k then false else if i = k then true else m.testBit (i - k - 1) := by
  have e : 2 ^ k * (2 * m + 1) = 2 ^ k * (2 * m + 1) + 0 := rfl
  rw [Nat.mul_comm, Nat.testBit_mul_two_pow]
  by_cases h : i < k
  · rw [if_pos h]; simp; omega
  · rw [if_neg h]
    by_cases h2 : i = k
    · subst h2; simp [Nat.testBit_zero]
    · rw [if_neg h2]
      obtain ⟨d, rfl⟩ : ∃ d, i = k + (d + 1) := ⟨i - k - 1, by omega⟩
      have e1 : k + (d + 1) - k = d + 1 := by omega
      have e2 : k + (d + 1) - k - 1 = d := by omega
      rw [e1, show d + 1 - 1 = d by omega, Nat.testBit_succ, show (2 * m + 1) / 2 = m by omega]
      simp
theorem ctz_bit {x : Nat} (h0 : x ≠ 0) (hx : x < 18446744073709551616) : Lib.ctz 64 x < 64 ∧ x.testBit (Lib.ctz 64 x) = true ∧ ∀ i, i < Lib.ctz 64 x → x.testBit i = false := by
  obtain ⟨m, hm, hl⟩ := ctz_spec h0 hx
  refine ⟨hl, ?_, fun i hi => ?_⟩
  · generalize Lib.ctz 64 x = k at *
    rw [hm, odd_bit]; simp
  · generalize Lib.ctz 64 x = k at *
    rw [hm, odd_bit, if_pos hi]
theorem drop_low {x : Nat} (h0 : x ≠ 0) (hx : x < 18446744073709551616) (i : Nat) : (x &&& (x - 1)).testBit i = if i = Lib.ctz 64 x then false else x.testBit i := by
  obtain ⟨m, hm, hl⟩ := ctz_spec h0 hx
  generalize Lib.ctz 64 x = k at *
  have e1 : x - 1 = 2 ^ k * (2 * m) + (2 ^ k - 1) := by
    have : 0 < 2 ^ k := Nat.two_pow_pos k
    rw [hm, Nat.mul_add]; omega
  have hlt : 2 ^ k - 1 < 2 ^ k := by have : 0 < 2 ^ k := Nat.two_pow_pos k; omega
  rw [Nat.testBit_and, e1, Nat.testBit_two_pow_mul_add _ hlt, hm, odd_bit]
  by_cases h : i < k
  · simp [h]
  · rw [if_neg h, if_neg h]
    by_cases h2 : i = k
    · subst h2; simp [Nat.testBit_zero]
    · rw [if_neg h2, if_neg h2]
      obtain ⟨d, rfl⟩ : ∃ d, i = k + (d + 1) := ⟨i - k - 1, by omega⟩
      rw [show k + (d + 1) - k = d + 1 by omega, show d + 1 - 1 = d by omega, Nat.testBit_succ, show 2 * m / 2 = m by omega]
      simp
theorem not_bit {x : Nat} (hx : x < 18446744073709551616) (i : Nat) : (18446744073709551615 - x).testBit i = (decide (i < 64) && !x.testBit i) := by
  rw [show 18446744073709551615 - x = 2 ^ 64 - (x + 1) by omega, Nat.testBit_two_pow_sub_succ hx]
theorem xor_max (x : Nat) (hx : x < 18446744073709551616) : bits BinOp.xor IntKind.u64 IntKind.u64.max (x : Int) = ((18446744073709551615 ^^^ x : Nat) : Int) := by
  rw [show IntKind.u64.max = ((18446744073709551615 : Nat) : Int) from rfl]
  exact u64_xor_nat _ _ (by decide) hx
theorem xor_max_lt (x : Nat) (hx : x < 18446744073709551616) : 18446744073709551615 ^^^ x < 18446744073709551616 := Nat.xor_lt_two_pow (n := 64) (by decide) hx
theorem xor_max_bit (x i : Nat) : (18446744073709551615 ^^^ x).testBit i = (decide (i < 64) ^^ x.testBit i) := by
  rw [Nat.testBit_xor, show 18446744073709551615 = 2 ^ 64 - 1 from rfl, Nat.testBit_two_pow_sub_one]
theorem and_pred {x : Nat} (h0 : x ≠ 0) (hx : x < 18446744073709551616) : bits BinOp.and IntKind.u64 (x : Int) ((x : Int) - 1) = ((x &&& (x - 1) : Nat) : Int) := by
  rw [show (x : Int) - 1 = ((x - 1 : Nat) : Int) by omega, u64_and_nat _ _ hx (by omega)]
end Go.Sg.Bits
namespace Go.Proofs.YtgdhaaokolfdoaaGreatDoor
open Go.Proofs Go.Shelf Go.Sg
/-- The library's table lies as its text lays it. -/
def Tab (w : World) : Prop := TabAt 0 Lib.deBruijn64tab w
theorem Tab.lt {w : World} (h : Tab w) : 0 < w.heap.size := World.block_lt_of_cell? _ _ (h 0 (by decide))
theorem Tab.fr {S : Nat → Prop} {w w' : World} (h : Tab w) (F : Fr S w w') (hS : ¬ S 0) : Tab w' := fun j hj => (F.cell (p := ⟨0, j, none⟩) h.lt hS).trans (h j hj)
theorem tz_at (x : Nat) (hx : x < 18446744073709551616) (w : World) (hT : Tab w) :
    Calls Tryz.prog 214 #[.int .u64 x] w fun e w' => e = .returned (.int .i64 (Lib.ctz 64 x)) ∧ w = w' := by
  have h := Any7.bits_TrailingZeros64 Tryz.tz x hx w (fun _ => hT)
  change Calls Tryz.prog 214 _ _ _ at h
  exact h.mono fun _ _ ⟨h1, h2⟩ => ⟨h1, h2.symm⟩
end Go.Proofs.YtgdhaaokolfdoaaGreatDoor

/- The set of bits: what free computes. Conditions: the set lies in the world as BitsAt says, the library's table as its text lays it. -/
namespace Go.Proofs.YtgdhaaokolfdoaaGreatDoor
open Go.RowKit Go.Sg Go.Sg.Bits

/-- All numbers from a on, up to b, are taken. -/
def allTaken (t : Nat → Bool) (n a b : Nat) : Prop := ∀ i, a ≤ i → i < b → i < n → t i = true
/-- The first free number from a on, or none. -/
def FreeIs (t : Nat → Bool) (n a : Nat) (r : Int) : Prop := (r = -1 ∧ allTaken t n a n) ∨ ∃ i : Nat, r = i ∧ a ≤ i ∧ i < n ∧ t i = false ∧ allTaken t n a i

set_option maxHeartbeats 2000000 in
theorem free_at {w : World} {bs bw n hand : Nat} {t : Nat → Bool} (h : BitsAt w bs bw n hand t) (hT : Tab w) (a : Nat) (ha : a ≤ n) :
    Calls Tryz.prog 153 #[.pointer (some ⟨bs, 0, none⟩), .int .i64 a] w fun e w' => ∃ r, FreeIs t n a r ∧ e = .returned (.int .i64 r) ∧ w = w' := by
  obtain ⟨ws, h, ht⟩ := h
  have c0 := cell_of_heap h.s 0
  have c2 := cell_of_heap h.s 2
  simp at c0 c2
  have hl := h.len
  have hr := h.room
  have H := hid h
  have HT := hid ht
  have HTab := hid hT
  clear h ht hT
  go_enter Tryz.func153, Tryz.ntmps153
  go_wp2
  go_step3
  go_wp2
  go_step3
  go_wp2
  go_loop [5] (fun v => ∃ k : Nat, a / 64 ≤ k ∧ k ≤ ws.length ∧ v = .int .i64 k ∧ allTaken t n a (64 * k)) (fun v => ws.length - (intOf v).toNat)
  case atStart => exact ⟨a / 64, Nat.le_refl _, by omega, by simp, fun i h1 h2 h3 => by omega⟩
  case round =>
    obtain ⟨k, hk1, hk2, rfl, hall⟩ := hrel
    by_cases hlt : k < ws.length
    · obtain ⟨x, hx⟩ : ∃ x, ws[k]? = some x := ⟨_, List.getElem?_eq_getElem hlt⟩
      have cw := H.out.word hx
      have hxl := H.out.wf x (List.mem_of_getElem? hx)
      have HX := hid hx
      clear hx
      have hbk : ∀ m, m < 64 → t (64 * k + m) = x.testBit m := fun m hm => by
        rw [← HT.out, bit, show (64 * k + m) / 64 = k by omega, show (64 * k + m) % 64 = m by omega]
        simp [List.getD, HX.out]
      have HBK := hid hbk
      have HALL := hid hall
      clear hbk hall
      go_wp2
      rw [xor_max x hxl]
      go_loopg [6] 64 (fun g v wr => ∃ (lft low : Nat), v = .int .u64 lft ∧ lft < 18446744073709551616 ∧ low ≤ 64 ∧ g = 64 - low ∧ (∀ m, m < 64 → lft.testBit m = (decide (low ≤ m) && !x.testBit m)) ∧ (∀ m, m < low → x.testBit m = true ∨ 64 * k + m < a) ∧ wr = w)
      case atStart => exact ⟨_, 0, rfl, xor_max_lt x hxl, by omega, rfl, fun m hm => by rw [xor_max_bit]; simp [hm], fun m hm => by omega, rfl⟩
      case round =>
        obtain ⟨lft, low, rfl, hll, hlow, hg, hb, hpre, rfl⟩ := hrel
        have HBb := hid hb
        have HPre := hid hpre
        clear hb hpre
        by_cases hz : lft = 0
        · subst hz
          go_wp2
          go_round
          case rel =>
            refine ⟨k + 1, by omega, by omega, by simp, fun i h1 h2 h3 => ?_⟩
            by_cases hik : i < 64 * k
            · exact HALL.out i h1 hik h3
            · have hm : i = 64 * k + (i - 64 * k) := by omega
              have hm2 : i - 64 * k < 64 := by omega
              rw [hm, HBK.out _ hm2]
              generalize i - 64 * k = m at *
              by_cases hlm : low ≤ m
              · have := HBb.out m hm2
                simp [hlm] at this
                exact this
              · rcases HPre.out m (by omega) with h | h
                · exact h
                · omega
          case measure => simp [intOf]; omega
        · obtain ⟨hc1, hc2, hc3⟩ := ctz_bit hz hll
          have hd := and_pred hz hll
          have hdl := drop_low hz hll
          have htz := hid (tz_at lft hll wr HTab.out)
          have hne : ((lft : Int) != 0) = true := by simp; omega
          generalize Lib.ctz 64 lft = m0 at *
          have hx0 : low ≤ m0 ∧ x.testBit m0 = false := by
            have := HBb.out m0 hc1
            rw [hc2] at this
            simpa using this.symm
          have hbelow : ∀ m, m < m0 → x.testBit m = true ∨ 64 * k + m < a := fun m hm => by
            by_cases hlm : low ≤ m
            · have := HBb.out m (by omega)
              rw [hc3 m hm] at this
              simp [hlm] at this
              exact .inl this
            · exact HPre.out m (by omega)
          have hall2 : allTaken t n a (64 * k + m0) := fun i h1 h2 h3 => by
            by_cases hik : i < 64 * k
            · exact HALL.out i h1 hik h3
            · have hm : i = 64 * k + (i - 64 * k) := by omega
              have hm2 : i - 64 * k < 64 := by omega
              rw [hm, HBK.out _ hm2]
              rcases hbelow (i - 64 * k) (by omega) with h | h
              · exact h
              · omega
          have HB2 := hid (And.intro hc2 (And.intro hc3 (And.intro hdl (And.intro hx0.2 (And.intro hbelow hall2)))))
          have hx1 := hx0.1
          have HD := hid hd
          clear hc2 hc3 hdl hx0 hbelow hall2 hd
          rcases (show n ≤ 64 * k + m0 ∨ (64 * k + m0 < n ∧ a ≤ 64 * k + m0) ∨ (64 * k + m0 < n ∧ 64 * k + m0 < a) by omega) with hc | ⟨hc, hc'⟩ | ⟨hc, hc'⟩
          · go_wp2_with (go_at_call 214; refine htz.out.mono ?_; rintro e w' ⟨rfl, rfl⟩)
            rw [Exit.noGoto_ret]
            go_ret
            obtain ⟨hc2, hc3, hdl, hx0, hbelow, hall2⟩ := HB2.out
            exact ⟨-1, .inl ⟨rfl, fun i h1 h2 h3 => hall2 i h1 (by omega) h3⟩, rfl, rfl⟩
          · go_wp2_with (go_at_call 214; refine htz.out.mono ?_; rintro e w' ⟨rfl, rfl⟩)
            rw [Exit.noGoto_ret]
            go_ret
            obtain ⟨hc2, hc3, hdl, hx0, hbelow, hall2⟩ := HB2.out
            exact ⟨(64 * k + m0 : Nat), .inr ⟨64 * k + m0, rfl, hc', hc, by rw [HBK.out m0 hc1]; exact hx0, hall2⟩, by simp [Int.mul_comm], rfl⟩
          · go_wp2_with (go_at_call 214; refine htz.out.mono ?_; rintro e w' ⟨rfl, rfl⟩)
            rw [HD.out]
            obtain ⟨hc2, hc3, hdl, hx0, hbelow, hall2⟩ := HB2.out
            go_roundg (64 - (m0 + 1))
            case measure => omega
            case rel =>
              refine ⟨lft &&& (lft - 1), m0 + 1, rfl, Nat.lt_of_le_of_lt Nat.and_le_left hll, by omega, rfl, fun m hm => ?_, fun m hm => ?_, rfl⟩
              · rw [hdl]
                by_cases he : m = m0
                · rw [if_pos he]; simp; omega
                · rw [if_neg he, HBb.out m hm]
                  by_cases hlm : m0 + 1 ≤ m
                  · have : low ≤ m := by omega
                    simp [hlm, this]
                  · have h3 := hc3 m (by omega)
                    rw [HBb.out m hm] at h3
                    simp [hlm]
                    simpa using h3
              · rcases Nat.lt_or_ge m m0 with h | h
                · exact hbelow m h
                · obtain rfl : m = m0 := by omega
                  exact .inr hc'
    · obtain rfl : k = ws.length := by omega
      go_wp2
      go_ret
      exact ⟨-1, .inl ⟨rfl, fun i h1 h2 h3 => hall i h1 (by omega) h3⟩, rfl, rfl⟩
end Go.Proofs.YtgdhaaokolfdoaaGreatDoor

/- The set of bits: what Take and New compute. Conditions: the set lies in the world as BitsAt says, the library's table as its text lays it. -/
namespace Go.Sg.Bits
open Go.RowKit
theorem BitsAt.room {w : World} {bs bw n hand : Nat} {t : Nat → Bool} (h : BitsAt w bs bw n hand t) : (1 ≤ n ∧ n ≤ 65536) ∧ hand < n := by
  obtain ⟨ws, h, _⟩ := h; exact ⟨h.room, h.hand⟩
theorem BitsAt.cells {w : World} {bs bw n hand : Nat} {t : Nat → Bool} (h : BitsAt w bs bw n hand t) : ∃ m, w.cell? ⟨bs, 0, none⟩ = some (.int .i64 n) ∧ w.cell? ⟨bs, 1, none⟩ = some (.int .i64 hand) ∧ w.cell? ⟨bs, 2, none⟩ = some (.slice (some ⟨bw, 0, none⟩) m m) ∧ ∀ o, w.frozen? ⟨bs, o, none⟩ = false := by
  obtain ⟨ws, h, _⟩ := h
  obtain ⟨c0, c1, c2, z, _⟩ := cells3 h.s
  exact ⟨_, c0, c1, c2, z⟩
theorem BitsAt.turn {w : World} {bs bw n hand : Nat} {t : Nat → Bool} (h : BitsAt w bs bw n hand t) {k : Nat} (hk : k < n) : BitsAt (w.setCell ⟨bs, 1, none⟩ (.int .i64 k)) bs bw n k t := by
  obtain ⟨ws, h, ht⟩ := h
  have hne : bs ≠ bw := heap_ne h.s h.w_ (by simp)
  refine ⟨ws, ⟨?_, ?_, h.len, h.room, hk, h.wf, h.pad⟩, ht⟩
  · rw [heap_setCell_cells _ _ _ _ h.s]; simp
  · rw [heap_setCell_ne _ _ _ _ hne, h.w_]
theorem BitsAt.lts {w : World} {bs bw n hand : Nat} {t : Nat → Bool} (h : BitsAt w bs bw n hand t) : bs < w.heap.size ∧ bw < w.heap.size ∧ bs ≠ bw := by
  obtain ⟨ws, h, ht⟩ := h
  exact ⟨lt_of_heap h.s, lt_of_heap h.w_, heap_ne h.s h.w_ (by simp)⟩

end Go.Sg.Bits
namespace Go.Proofs.YtgdhaaokolfdoaaGreatDoor
open Go.RowKit Go.Sg Go.Sg.Bits

/-- Which number is taken next. -/
def TakeIs (t : Nat → Bool) (n hand : Nat) (i : Nat) : Prop :=
  i < n ∧ t i = false ∧ ((hand ≤ i ∧ allTaken t n hand i) ∨ (allTaken t n hand n ∧ allTaken t n 0 i))

set_option maxHeartbeats 2000000 in
theorem take_none {w : World} {bs bw n hand : Nat} {t : Nat → Bool} (h : BitsAt w bs bw n hand t) (hT : Tab w) (hall : allTaken t n 0 n) :
    Calls Tryz.prog 81 #[.pointer (some ⟨bs, 0, none⟩)] w fun e w' => e = .returned (.tuple #[.int .i64 0, .bool false]) ∧ w = w' := by
  obtain ⟨m, c0, c1, c2, z⟩ := h.cells
  obtain ⟨hr, hh⟩ := h.room
  have nofree : ∀ a r, FreeIs t n a r → r = -1 := fun a r hf => by
    rcases hf with ⟨h, _⟩ | ⟨i, _, _, hi, hti, _⟩
    · exact h
    · rw [hall i (Nat.zero_le _) hi hi] at hti; cases hti
  have H := hid h
  have HT := hid hT
  have HN := hid nofree
  clear h hT hall nofree
  go_enter Tryz.func81, Tryz.ntmps81
  go_wp2_with fail
  refine (free_at H.out HT.out hand (by omega)).mono ?_
  rintro e w' ⟨r, hf, rfl, rfl⟩
  obtain rfl := HN.out _ _ hf
  clear hf
  go_wp2_with fail
  refine (free_at H.out HT.out 0 (by omega)).mono ?_
  rintro e w' ⟨r, hf, rfl, rfl⟩
  obtain rfl := HN.out _ _ hf
  clear hf
  go_wp2
  try simp only [Exit.inBlock, Exit.then]
  go_ret2
  exact ⟨rfl, rfl⟩

def TakePost (t : Nat → Bool) (bs bw n hand : Nat) (w : World) (e : Ending) (w' : World) : Prop :=
  ∃ i, TakeIs t n hand i ∧ e = .returned (.tuple #[.int .i64 i, .bool true]) ∧ BitsAt w' bs bw n ((i + 1) % n) (upd t i true) ∧ Fr (fun b => b = bs ∨ b = bw) w w'

set_option maxHeartbeats 2000000 in
theorem take_some {w : World} {bs bw n hand : Nat} {t : Nat → Bool} (h : BitsAt w bs bw n hand t) (hT : Tab w) {j : Nat} (hj : j < n) (hfree : t j = false) :
    Calls Tryz.prog 81 #[.pointer (some ⟨bs, 0, none⟩)] w (TakePost t bs bw n hand w) := by
  obtain ⟨m, c0, c1, c2, z⟩ := h.cells
  obtain ⟨hr, hh⟩ := h.room
  obtain ⟨l1, l2, l3⟩ := h.lts
  have H := hid h
  have HT := hid hT
  have HJ := hid hfree
  clear h hT hfree
  go_enter Tryz.func81, Tryz.ntmps81
  go_wp2_with fail
  refine (free_at H.out HT.out hand (by omega)).mono ?_
  rintro e w' ⟨r, hf, rfl, rfl⟩
  rcases hf with ⟨rfl, hall⟩ | ⟨i, rfl, hhi, hi, hti, hall⟩
  · have HALL := hid hall
    clear hall
    go_wp2_with fail
    refine (free_at H.out HT.out 0 (by omega)).mono ?_
    rintro e w' ⟨r, hf, rfl, rfl⟩
    rcases hf with ⟨rfl, hall⟩ | ⟨i, rfl, hhi, hi, hti, hall⟩
    · have := hall j (Nat.zero_le _) hj hj
      rw [HJ.out] at this; cases this
    · have HI := hid (show TakeIs t n hand i from ⟨hi, hti, .inr ⟨HALL.out, hall⟩⟩)
      have HTI := hid hti
      clear hall hti
      go_wp2_with fail
      refine (mark_new H.out i hi HTI.out).mono ?_
      rintro e w1 ⟨rfl, hB, F1⟩
      obtain ⟨m', d0, d1, d2, dz⟩ := hB.cells
      have HB := hid hB
      have hmod := Nat.mod_lt (i + 1) (show 0 < n by omega)
      have hc1 : ((i : Int) + 1) % (n : Int) = (((i + 1) % n : Nat) : Int) := by simp
      have HC := hid hc1
      clear hB hc1
      go_wp2
      go_ret2
      exact ⟨i, HI.out, rfl, by rw [HC.out]; exact HB.out.turn hmod, (F1.mono (fun b _ h => .inr h)).setCell (fun _ => .inl rfl) _⟩
  · have HI := hid (show TakeIs t n hand i from ⟨hi, hti, .inl ⟨hhi, hall⟩⟩)
    have HTI := hid hti
    clear hall hti
    go_wp2_with fail
    refine (mark_new H.out i hi HTI.out).mono ?_
    rintro e w1 ⟨rfl, hB, F1⟩
    obtain ⟨m', d0, d1, d2, dz⟩ := hB.cells
    have HB := hid hB
    have hmod := Nat.mod_lt (i + 1) (show 0 < n by omega)
    have hc1 : ((i : Int) + 1) % (n : Int) = (((i + 1) % n : Nat) : Int) := by simp
    have HC := hid hc1
    clear hB hc1
    go_wp2
    go_ret2
    exact ⟨i, HI.out, rfl, by rw [HC.out]; exact HB.out.turn hmod, (F1.mono (fun b _ h => .inr h)).setCell (fun _ => .inl rfl) _⟩

theorem info29 : (Tryz.prog.info? 29).map (fun i => (i.zero, i.size, i.bytes)) = some (some (.int .u64 0), 1, 8) := by kernel_rfl
set_option maxHeartbeats 1000000 in
set_option maxRecDepth 100000 in
theorem newbits_ok (n : Nat) (h1 : 1 ≤ n) (h2 : n ≤ 65536) (w : World) :
    Calls Tryz.prog 95 #[.int .i64 n] w fun e w' => ∃ bs bw, e = .returned (.pointer (some ⟨bs, 0, none⟩)) ∧ BitsAt w' bs bw n 0 (fun _ => false) ∧ w.heap.size ≤ bs ∧ w.heap.size ≤ bw ∧ Fr (fun _ => False) w w' := by
  obtain ⟨i0, hi, hz0, hz1, hz2⟩ := info_parts info29
  have hmk := fun W => run_make_len (P := Tryz.prog) 254 29 i0 _ Tryz.underlying254 hi hz0 ((n + 63) / 64) (by rw [hz2]; omega) (by omega) W
  rw [hz1] at hmk
  have e : (((n + 63) / 64 : Nat) : Int) = ((n : Int) + 64 - 1) / 64 := by omega
  simp only [e] at hmk
  clear hi hz0 hz1 hz2 e
  go_enter Tryz.func95, Tryz.ntmps95
  go_wp2
  go_ret
  have hz : madeCells #[Value.int IntKind.u64 0] ((n + 63) / 64) = wcells (List.replicate ((n + 63) / 64) 0) := by
    apply Array.ext
    · rw [size_madeCells]; simp [wcells]
    · intro i h1 h2
      simp [madeCells, wcells, Nat.mod_one]
  refine ⟨w.heap.size + 1, w.heap.size, by simp, ⟨List.replicate ((n + 63) / 64) 0, ?_, fun i => ?_⟩, by omega, Nat.le_refl _, ((Fr.refl _ _).alloc _).alloc _⟩
  · obtain ⟨g1, g2, _⟩ := heap_two (w := w) (A := .cells (madeCells #[.int .u64 0] ((n + 63) / 64)) 29) (B := .cells #[.int .i64 n, .int .i64 0, .slice (some ⟨w.heap.size, 0, none⟩) ((n + 63) / 64) ((n + 63) / 64)] 256) rfl
    refine ⟨?_, ?_, by simp, ⟨h1, h2⟩, by omega, fun x hx => ?_, fun i _ => ?_⟩
    · rw [List.length_replicate]; exact g2
    · rw [← hz]; exact g1
    · rw [List.eq_of_mem_replicate hx]; decide
    · simp [bit, List.getD, List.getElem?_replicate]; split <;> simp
  · simp [bit, List.getD, List.getElem?_replicate]; split <;> simp
set_option maxRecDepth 100000 in
theorem newbits_nil (x : Int) (h : x < 1 ∨ 65536 < x) (w : World) : Calls Tryz.prog 95 #[.int .i64 x] w fun e w' => e = .returned (.pointer none) ∧ w = w' := by
  rcases h with h | h
  all_goals
    go_enter Tryz.func95, Tryz.ntmps95
    go_wp2
    go_ret
    exact ⟨rfl, rfl⟩
end Go.Proofs.YtgdhaaokolfdoaaGreatDoor

/- leaf.may and leaf.Room. Conditions: none. -/
namespace Go.Proofs.YtgdhaaokolfdoaaGreatDoor
open Go.RowKit Go.Sg
set_option maxRecDepth 100000 in
theorem may_yes (s : Int) (h1 : 96 ≤ s) (h2 : s ≤ 512) (w : World) : Calls Tryz.prog 159 #[.int .i64 s] w fun e w' => e = .returned (.bool true) ∧ w = w' := by
  go_enter Tryz.func159, Tryz.ntmps159
  go_wp2
  go_ret
  exact ⟨rfl, rfl⟩
set_option maxRecDepth 100000 in
theorem may_no (s : Int) (h : s < 96 ∨ 512 < s) (w : World) : Calls Tryz.prog 159 #[.int .i64 s] w fun e w' => e = .returned (.bool false) ∧ w = w' := by
  rcases h with h | h
  · go_enter Tryz.func159, Tryz.ntmps159
    go_wp2
    go_ret
    exact ⟨rfl, rfl⟩
  · have h1 : 96 ≤ s := by omega
    have h2 : decide (s ≤ 512) = false := by simp; omega
    go_enter Tryz.func159, Tryz.ntmps159
    go_wp2
    go_ret
    exact ⟨by simp [h2], rfl⟩
set_option maxRecDepth 100000 in
theorem room_ok (s : Int) (h1 : 96 ≤ s) (h2 : s ≤ 512) (w : World) : Calls Tryz.prog 94 #[.int .i64 s] w fun e w' => e = .returned (.int .i64 (s - 19)) ∧ w = w' := by
  go_enter Tryz.func94, Tryz.ntmps94
  go_wp2_with (go_at_call 159; refine (may_yes s h1 h2 _).mono ?_; rintro e w' ⟨rfl, rfl⟩)
  go_ret
  exact ⟨rfl, rfl⟩
set_option maxRecDepth 100000 in
theorem room_no (s : Int) (h : s < 96 ∨ 512 < s) (w : World) : Calls Tryz.prog 94 #[.int .i64 s] w fun e w' => e = .returned (.int .i64 0) ∧ w = w' := by
  have H := hid (may_no s h w)
  clear h
  go_enter Tryz.func94, Tryz.ntmps94
  go_wp2_with (go_at_call 159; refine H.out.mono ?_; rintro e w' ⟨rfl, rfl⟩)
  go_ret
  exact ⟨rfl, rfl⟩
end Go.Proofs.YtgdhaaokolfdoaaGreatDoor

/- flash: Sectors, Size, there, New. Conditions: the device's cells lie as DevAt says. -/
namespace Go.Proofs.YtgdhaaokolfdoaaGreatDoor
open Go.RowKit Go.Sg
theorem sectors_at {w : World} {d : Nat} {n : Int} (h : w.cell? ⟨d, 0, none⟩ = some (.int .i64 n)) :
    Calls Tryz.prog 92 #[.pointer (some ⟨d, 0, none⟩)] w fun e w' => e = .returned (.int .i64 n) ∧ w = w' := by
  go_enter Tryz.func92, Tryz.ntmps92
  go_wp2
  go_ret
  exact ⟨rfl, rfl⟩
theorem size_at {w : World} {d : Nat} {n : Int} (h : w.cell? ⟨d, 1, none⟩ = some (.int .i64 n)) :
    Calls Tryz.prog 93 #[.pointer (some ⟨d, 0, none⟩)] w fun e w' => e = .returned (.int .i64 n) ∧ w = w' := by
  go_enter Tryz.func93, Tryz.ntmps93
  go_wp2
  go_ret
  exact ⟨rfl, rfl⟩
set_option maxRecDepth 100000 in
theorem newdev_ok (s z : Int) (h1 : 1 ≤ s) (h2 : s ≤ 16384) (h3 : 96 ≤ z) (h4 : z ≤ 512) (w : World) :
    Calls Tryz.prog 20 #[.int .i64 s, .int .i64 z] w fun e w' => e = .returned (.pointer (some ⟨w.heap.size + 2, 0, none⟩)) ∧
      w'.heap[w.heap.size]? = some (.map #[] 0) ∧ w'.heap[w.heap.size + 1]? = some (.map #[] 0) ∧
      w'.heap[w.heap.size + 1 + 1]? = some (.cells #[.int .i64 s, .int .i64 z, .map (some w.heap.size), .slice none 0 0, .map (some (w.heap.size + 1)), .int .i64 0, .int .i64 0, .bool false] 151) ∧ Fr (fun _ => False) w w' := by
  have hmm := fun (t : TypeId) (W : World) => run_makeMap (P := Tryz.prog) t W
  go_enter Tryz.func20, Tryz.ntmps20
  go_wp2
  go_ret
  exact ⟨rfl, heap_three rfl⟩
end Go.Proofs.YtgdhaaokolfdoaaGreatDoor

/- flash: there, ready. Conditions: the cells of the device that are read. -/
namespace Go.Proofs.YtgdhaaokolfdoaaGreatDoor
open Go.RowKit Go.Sg
theorem there_yes {w : World} {d : Nat} {n at_ : Int} (h : w.cell? ⟨d, 0, none⟩ = some (.int .i64 n)) (h1 : 0 ≤ at_) (h2 : at_ < n) :
    Calls Tryz.prog 230 #[.pointer (some ⟨d, 0, none⟩), .int .i64 at_] w fun e w' => e = .returned (.bool true) ∧ w = w' := by
  go_enter Tryz.func230, Tryz.ntmps230
  go_wp2
  go_ret
  exact ⟨rfl, rfl⟩
theorem ready_ok {w : World} {d : Nat} {n at_ : Int} (h : w.cell? ⟨d, 0, none⟩ = some (.int .i64 n)) (hd : w.cell? ⟨d, 7, none⟩ = some (.bool false)) (h1 : 0 ≤ at_) (h2 : at_ < n) :
    Calls Tryz.prog 173 #[.pointer (some ⟨d, 0, none⟩), .int .i64 at_] w fun e w' => e = .returned (.int .i64 0) ∧ w = w' := by
  have H := hid (there_yes h h1 h2)
  go_enter Tryz.func173, Tryz.ntmps173
  go_wp2_with (go_at_call 230; refine H.out.mono ?_; rintro e w' ⟨rfl, rfl⟩)
  go_ret
  exact ⟨rfl, rfl⟩
end Go.Proofs.YtgdhaaokolfdoaaGreatDoor

/- How a device and a store lie in a world; which blocks their functions may turn. Conditions: none. -/
namespace Go.Sg
open Go.RowKit
/-- The types of the cells that a store's functions may turn. -/
def mutT : List Nat := [156, 151, 256, 29, 260, 264, 196, 22]
/-- Such a block: a map, or cells of these types. -/
def Mut (w : World) (b : Nat) : Prop := ∀ c t f, w.heap[b]? = some (.cells c t f) → t ∈ mutT
theorem Mut.cells {w : World} {b : Nat} {c : Array Value} {t : TypeId} {f : Nat × Nat} (h : w.heap[b]? = some (.cells c t f)) (ht : t ∈ mutT) : Mut w b := by
  intro c' t' f' h'
  rw [h] at h'; cases h'; exact ht
theorem Mut.map {w : World} {b : Nat} {l : Array MapEntry} {ck : Nat} (h : w.heap[b]? = some (.map l ck)) : Mut w b := by
  intro c' t' f' h'
  rw [h] at h'; cases h'

/-! ### A device -/
structure Dev where
  sectors : Nat
  size : Nat
  fast : Int → Option (List Int)
  loose : List (Int × List Int)
  armed : Nat
  acts : Nat
  down : Bool
/-- What a fast sector's value reads as. -/
def FastIs (w : World) (size : Nat) : Option Value → Option (List Int) → Prop
  | none, none => True
  | some v, some bs => ∃ b off cap, v = .slice (some ⟨b, off, none⟩) size cap ∧ ByV w (some ⟨b, off, none⟩) size cap bs ∧ size ≤ cap
  | _, _ => False
/-- A write that was made: its sector, its bytes. -/
structure Wr where
  at_ : Int
  la : Option Addr
  ll : Nat
  lc : Nat
def Wr.cells (x : Wr) : List Value := [.int .i64 x.at_, .slice x.la x.ll x.lc]
def LooseAt (w : World) (base : Nat) (v : Value) (l : List (Int × List Int)) : Prop :=
  ∃ ws : List Wr, w.ownsRow base 196 2 v ws.length (ws.flatMap Wr.cells) ∧ ws.length = l.length ∧ ∀ (i : Nat) (x : Wr) (y : Int × List Int), ws[i]? = some x → l[i]? = some y → x.at_ = y.1 ∧ (ByV w x.la x.ll x.lc y.2 ∧ x.ll ≤ x.lc)
/-- A row of slices of bytes. -/
def PastV (w : World) (base N : Nat) (v : Value) : Prop :=
  ∃ n xs, n ≤ N ∧ w.ownsRow base 22 1 v n xs ∧ ∀ x ∈ xs, ∃ a k cap bs, x = .slice a k cap ∧ ByV w a k cap bs ∧ k ≤ 512
structure DevAt (w : World) (base d bf bq : Nat) (x : Dev) : Prop where
  dc : ∃ lv, w.heap[d]? = some (.cells #[.int .i64 x.sectors, .int .i64 x.size, .map (some bf), lv, .map (some bq), .int .i64 x.armed, .int .i64 x.acts, .bool x.down] 151) ∧ LooseAt w base lv x.loose
  fast : ∃ l ck, w.heap[bf]? = some (.map (ents l) ck) ∧ (keys l).Nodup ∧ ∀ k, FastIs w x.size (look l k) (x.fast k)
  past : ∃ l ck, w.heap[bq]? = some (.map (ents l) ck) ∧ (keys l).Nodup ∧ (∀ e ∈ l, PastV w base x.acts e.v) ∧ ∀ e ∈ l, ∀ e' ∈ l, ∀ g, e.v.ownBlock = some g → e'.v.ownBlock = some g → e.k = e'.k
  ge : base ≤ d ∧ base ≤ bf ∧ base ≤ bq
  ne : bf ≠ bq
  rg : (1 ≤ x.sectors ∧ x.sectors ≤ 16384) ∧ 96 ≤ x.size ∧ x.size ≤ 512
theorem DevAt.lts {w : World} {base d bf bq : Nat} {x : Dev} (h : DevAt w base d bf bq x) : d < w.heap.size ∧ bf < w.heap.size ∧ bq < w.heap.size := by
  obtain ⟨lv, hd, _⟩ := h.dc
  obtain ⟨l, ck, hf, _⟩ := h.fast
  obtain ⟨l', ck', hq, _⟩ := h.past
  exact ⟨lt_of_heap hd, lt_of_heap hf, lt_of_heap hq⟩
theorem ownsRow_fr {S : Nat → Prop} {w w' : World} {base e size n : Nat} {v : Value} {xs : List Value} (h : w.ownsRow base e size v n xs) (F : Fr S w w') (hS : ∀ g c, w.heap[g]? = some (.cells c e) → ¬ S g) : w'.ownsRow base e size v n xs := by
  obtain ⟨hl, h0 | ⟨g, cap, cur, hv, hb, hg, r⟩⟩ := h
  · exact ⟨hl, .inl h0⟩
  · exact ⟨hl, .inr ⟨g, cap, cur, hv, hb, F.heap hg (hS g cur hg), r⟩⟩
/-- A device lies on while other blocks turn. -/
theorem DevAt.fr {S : Nat → Prop} {w w' : World} {base d bf bq : Nat} {x : Dev} (h : DevAt w base d bf bq x) (F : Fr S w w') (h1 : ¬ S d) (h2 : ¬ S bf) (h3 : ¬ S bq)
    (h4 : ∀ g c t, (t = 5 ∨ t = 196 ∨ t = 22) → w.heap[g]? = some (.cells c t) → ¬ S g) : DevAt w' base d bf bq x := by
  obtain ⟨lv, hd, ws, hown, hlen, hws⟩ := h.dc
  obtain ⟨l, ck, hf, hfn, hfs⟩ := h.fast
  obtain ⟨l', ck', hq, hqn, hqs, hqd⟩ := h.past
  have hB : ∀ a n c bs, ByV w a n c bs → ByV w' a n c bs := fun a n c bs hb => hb.fr F fun b c hc => h4 b c 5 (.inl rfl) hc
  refine ⟨⟨lv, F.heap hd h1, ws, ownsRow_fr hown F fun g c hg => h4 g c _ (.inr (.inl rfl)) hg, hlen, fun i y z hy hz => ⟨(hws i y z hy hz).1, hB _ _ _ _ (hws i y z hy hz).2.1, (hws i y z hy hz).2.2⟩⟩,
    ⟨l, ck, F.heap hf h2, hfn, fun k => ?_⟩, ⟨l', ck', F.heap hq h3, hqn, fun e he => ?_, hqd⟩, h.ge, h.ne, h.rg⟩
  · have := hfs k
    cases hlk : look l k with
    | none => rw [hlk] at this; cases hx : x.fast k with
      | none => trivial
      | some bs => rw [hx] at this; exact this.elim
    | some v => rw [hlk] at this; cases hx : x.fast k with
      | none => rw [hx] at this; exact this.elim
      | some bs =>
        rw [hx] at this
        obtain ⟨b, off, cap, e, hb, hcp⟩ := this
        exact ⟨b, off, cap, e, hB _ _ _ _ hb, hcp⟩
  · obtain ⟨n, xs, hnN, hx, hxs⟩ := hqs e he
    refine ⟨n, xs, hnN, ownsRow_fr hx F fun g c hg => h4 g c _ (.inr (.inr rfl)) hg, fun y hy => ?_⟩
    obtain ⟨a, k, cap, bs, e, hb, hk⟩ := hxs y hy
    exact ⟨a, k, cap, bs, e, hB _ _ _ _ hb, hk⟩
def Dev.fresh (s z : Nat) : Dev := ⟨s, z, fun _ => none, [], 0, 0, false⟩

/-! ### A store -/
structure Plan8 where
  sectors : Int
  size : Int
  regions : Int
  rsectors : Int
  log : Int
  depth : Int
  memory : Int
  seed : Int
abbrev Plan8.val (p : Plan8) : Value := .agg #[.int .i64 p.sectors, .int .i64 p.size, .int .i64 p.regions, .int .i64 p.rsectors, .int .i64 p.log, .int .i64 p.depth, .int .i64 p.memory, .int .u64 p.seed]
/-- Where a store's blocks lie. -/
structure Blk where
  base : Nat
  s : Nat
  d : Nat
  bf : Nat
  bq : Nat
  bs : Nat
  bw : Nat
  fr : Nat
  dy : Nat
  de : Nat
  bc : Nat
  bp : Nat
  bm : Nat
structure Sto where
  plan : Plan8
  first : Int
  pages : Nat
  room : Nat
  gen : Nat
  hand : Nat
  taken : Nat → Bool
  fresh : Int → Bool
  dying : Int → Bool
  dead : Int → Bool
  mem : Int → Option Clk.Pg
  places : Nat
  dev : Dev
def Blk.maps (B : Blk) : List Nat := [B.bf, B.bq, B.fr, B.dy, B.de, B.bm]
abbrev Blk.ptr (B : Blk) : Value := .pointer (some ⟨B.s, 0, none⟩)
/-- What a block of a store is for. -/
inductive Role
  | s | d | bf | bq | bs | bw | fr | dy | de | bc | bp | bm
  deriving DecidableEq
def Role.kind : Role → Nat
  | .s => 156 + 1
  | .d => 152
  | .bs => 257
  | .bw => 30
  | .bc => 261
  | .bp => 265
  | _ => 0
def Blk.at_ (B : Blk) : Role → Nat
  | .s => B.s
  | .d => B.d
  | .bf => B.bf
  | .bq => B.bq
  | .bs => B.bs
  | .bw => B.bw
  | .fr => B.fr
  | .dy => B.dy
  | .de => B.de
  | .bc => B.bc
  | .bp => B.bp
  | .bm => B.bm
/-- Only a store's maps, and such cells from its base on, and new blocks, have turned. -/
def MutB (B : Blk) (w : World) (b : Nat) : Prop := Mut w b ∧ ((∃ c t f, w.heap[b]? = some (.cells c t f)) ∨ ∃ r, b = B.at_ r)
abbrev FrB (B : Blk) (w w' : World) : Prop := Fr (fun b => B.base ≤ b ∧ MutB B w b) w w'
theorem FrB.refl (B : Blk) (w : World) : FrB B w w := Fr.refl _ _
theorem FrB.trans {B : Blk} {w w1 w2 : World} (h : FrB B w w1) (k : FrB B w1 w2) : FrB B w w2 := by
  refine Fr.trans h k fun b hb hs => ?_
  rcases Classical.em (B.base ≤ b ∧ MutB B w b) with hm | hm
  · exact hm
  · have e := h.block b hb hm
    refine ⟨hs.1, fun c t f hc => hs.2.1 c t f (e.trans hc), ?_⟩
    rw [← e]; exact hs.2.2
theorem FrB.of {S : Nat → Prop} {B : Blk} {w w' : World} (h : Fr S w w') (hS : ∀ b, b < w.heap.size → S b → B.base ≤ b ∧ MutB B w b) : FrB B w w' := h.mono hS
theorem FrB.none {B : Blk} {w w' : World} (h : Fr (fun _ => False) w w') : FrB B w w' := h.mono fun _ _ h => h.elim
theorem FrB.heap {B : Blk} {w w' : World} (h : FrB B w w') {b : Nat} {c : Array Value} {t : TypeId} {f : Nat × Nat} (hb : w.heap[b]? = some (.cells c t f)) (ht : t ∉ mutT) : w'.heap[b]? = some (.cells c t f) :=
  Fr.heap h hb fun hs => ht (hs.2.1 c t f hb)
theorem FrB.old {B : Blk} {w w' : World} (h : FrB B w w') {b : Nat} {o : Obj} (hb : w.heap[b]? = some o) (hlt : b < B.base) : w'.heap[b]? = some o := Fr.heap h hb fun hs => by omega
theorem FrB.all {B : Blk} {w0 w w' : World} (h : FrB B w w') (hb : w0.heap.size ≤ B.base) (F : Fr (fun _ => False) w0 w) : Fr (fun _ => False) w0 w' :=
  F.trans h fun b hb' hs => by omega
theorem FrB.alloc {B : Blk} {w w1 : World} (h : FrB B w w1) (o : Obj) : FrB B w (w1.alloc o) := Fr.alloc h o
theorem FrB.drew {B : Blk} {w w1 : World} (h : FrB B w w1) : FrB B w w1.drew := Fr.drew h
theorem FrB.drewN {B : Blk} {w w1 : World} (h : FrB B w w1) (n : Nat) : FrB B w (w1.drewN n) := Fr.drewN h n
theorem ByV.frB {B : Blk} {w w' : World} {a : Option Addr} {n c : Nat} {bs : List Int} (h : ByV w a n c bs) (F : FrB B w w') : ByV w' a n c bs :=
  h.fr F fun b c hb hs => absurd (hs.2.1 c 5 _ hb) (by decide)
theorem FrB.ge {B : Blk} {w w' : World} (h : FrB B w w') : Fr (fun b => B.base ≤ b) w w' := h.mono fun _ _ h => h.1
/-- What is no cells stays but for the store's own maps. -/
theorem FrB.keeps {B : Blk} {w w' : World} (h : FrB B w w') {B0 : Nat} (hB : ∀ r, B.at_ r < B0) : KeepsFrom B0 w w' := by
  refine ⟨h.size, fun k o hk ho hc => Fr.heap h ho fun hs => ?_⟩
  rcases hs.2.2 with ⟨c, t, f, e⟩ | ⟨r, e⟩
  · rw [ho] at e; cases e; cases hc
  · have := hB r; omega
end Go.Sg
namespace Go.Proofs.YtgdhaaokolfdoaaGreatDoor
open Go.RowKit Go.Sg Go.Sg.Bits CP
structure StoreAt (w : World) (B : Blk) (x : Sto) : Prop where
  s : w.heap[B.s]? = some (.cells #[.pointer (some ⟨B.d, 0, none⟩), .int .i64 x.plan.sectors, .int .i64 x.plan.size, .int .i64 x.plan.regions, .int .i64 x.plan.rsectors, .int .i64 x.plan.log, .int .i64 x.plan.depth, .int .i64 x.plan.memory, .int .u64 x.plan.seed,
    .int .i64 x.first, .int .i64 x.pages, .int .i64 x.room, .int .i64 x.gen, .pointer (some ⟨B.bs, 0, none⟩), .map (some B.fr), .map (some B.dy), .map (some B.de), .pointer (some ⟨B.bc, 0, none⟩)] 156)
  dev : DevAt w B.base B.d B.bf B.bq x.dev
  bits : BitsAt w B.bs B.bw x.pages x.hand x.taken
  fr : SetAt w B.fr x.fresh
  dy : SetAt w B.dy x.dying
  de : SetAt w B.de x.dead
  mem : MemAt w B.bc B.bp B.bm x.places x.mem
  load : ∀ k p, x.mem k = some p → ∃ bs, ByV w p.la p.ll p.lc bs ∧ bs.length ≤ x.room
  ne : B.maps.Nodup
  ge : B.base ≤ B.s ∧ B.base ≤ B.bs ∧ B.base ≤ B.bw ∧ B.base ≤ B.fr ∧ B.base ≤ B.dy ∧ B.base ≤ B.de ∧ B.base ≤ B.bc ∧ B.base ≤ B.bp ∧ B.base ≤ B.bm
  rg : x.room ≤ 493 ∧ (1 ≤ x.gen ∧ x.gen ≤ 2199023255552) ∧ 0 ≤ x.first ∧ x.first + x.pages = x.dev.sectors ∧ x.room + 19 = x.dev.size
  inr : (∀ k, x.fresh k = true → 0 ≤ k ∧ k < x.pages) ∧ (∀ k, x.dying k = true → 0 ≤ k ∧ k < x.pages) ∧ (∀ k, x.dead k = true → 0 ≤ k ∧ k < x.pages)
theorem BitsAt_heaps {w : World} {bs bw n hand : Nat} {t : Nat → Bool} (h : BitsAt w bs bw n hand t) : (∃ c, w.heap[bs]? = some (.cells c 256)) ∧ ∃ c, w.heap[bw]? = some (.cells c 29) := by
  obtain ⟨ws, h, _⟩ := h
  exact ⟨⟨_, h.s⟩, ⟨_, h.w_⟩⟩
/-- What kind of block lies at b. -/
def kd (w : World) (b : Nat) : Nat := match w.heap[b]? with
  | some (.cells _ t _) => t + 1
  | _ => 0
theorem kd_cells {w : World} {b : Nat} {c : Array Value} {t : TypeId} {f : Nat × Nat} (h : w.heap[b]? = some (.cells c t f)) : kd w b = t + 1 := by rw [kd, h]
theorem kd_map {w : World} {b : Nat} {l : Array MapEntry} {ck : Nat} (h : w.heap[b]? = some (.map l ck)) : kd w b = 0 := by rw [kd, h]
theorem StoreAt.heaps {w : World} {B : Blk} {x : Sto} (h : StoreAt w B x) (r : Role) : B.base ≤ B.at_ r ∧ Mut w (B.at_ r) ∧ B.at_ r < w.heap.size ∧ kd w (B.at_ r) = r.kind := by
  obtain ⟨g1, g2, g3, g4, g5, g6, g7, g8, g9⟩ := h.ge
  obtain ⟨k1, k2, k3⟩ := h.dev.ge
  obtain ⟨lv, hd, _⟩ := h.dev.dc
  obtain ⟨l, ck, hf, _⟩ := h.dev.fast
  obtain ⟨l', ck', hq, _⟩ := h.dev.past
  obtain ⟨⟨_, hbs⟩, ⟨_, hbw⟩⟩ := BitsAt_heaps h.bits
  obtain ⟨l1, c1, hfr, _⟩ := h.fr.ex
  obtain ⟨l2, c2, hdy, _⟩ := h.dy.ex
  obtain ⟨l3, c3, hde, _⟩ := h.de.ex
  obtain ⟨⟨_, hbc⟩, ⟨_, hbp⟩, _, _, hbm⟩ := h.mem.heaps
  cases r
  · exact ⟨g1, Mut.cells h.s (by decide), lt_of_heap h.s, kd_cells h.s⟩
  · exact ⟨k1, Mut.cells hd (by decide), lt_of_heap hd, kd_cells hd⟩
  · exact ⟨k2, Mut.map hf, lt_of_heap hf, kd_map hf⟩
  · exact ⟨k3, Mut.map hq, lt_of_heap hq, kd_map hq⟩
  · exact ⟨g2, Mut.cells hbs (by decide), lt_of_heap hbs, kd_cells hbs⟩
  · exact ⟨g3, Mut.cells hbw (by decide), lt_of_heap hbw, kd_cells hbw⟩
  · exact ⟨g4, Mut.map hfr, lt_of_heap hfr, kd_map hfr⟩
  · exact ⟨g5, Mut.map hdy, lt_of_heap hdy, kd_map hdy⟩
  · exact ⟨g6, Mut.map hde, lt_of_heap hde, kd_map hde⟩
  · exact ⟨g7, Mut.cells hbc (by decide), lt_of_heap hbc, kd_cells hbc⟩
  · exact ⟨g8, Mut.cells hbp (by decide), lt_of_heap hbp, kd_cells hbp⟩
  · exact ⟨g9, Mut.map hbm, lt_of_heap hbm, kd_map hbm⟩
theorem StoreAt.inj {w : World} {B : Blk} {x : Sto} (h : StoreAt w B x) {r r' : Role} (e : B.at_ r = B.at_ r') : r = r' := by
  have hk : r.kind = r'.kind := by rw [← (h.heaps r).2.2.2, ← (h.heaps r').2.2.2, e]
  have hn := h.ne
  simp only [Blk.maps, List.nodup_cons, List.mem_cons, not_or, List.not_mem_nil, not_false_eq_true, List.nodup_nil, and_true] at hn
  obtain ⟨⟨a1, a2, a3, a4, a5⟩, ⟨b1, b2, b3, b4⟩, ⟨c1, c2, c3⟩, ⟨d1, d2⟩, e1⟩ := hn
  cases r <;> cases r' <;> first | rfl | (exact absurd hk (by decide)) | (exact absurd e (by assumption)) | (exact absurd e.symm (by assumption))
/-- Only the blocks of these roles, and new ones, have turned. -/
abbrev FrR (B : Blk) (L : List Role) (w w' : World) : Prop := Fr (fun b => ∃ r ∈ L, b = B.at_ r) w w'
theorem StoreAt.out {w : World} {B : Blk} {x : Sto} (h : StoreAt w B x) {L : List Role} {r : Role} (hr : r ∉ L) : ¬ ∃ r' ∈ L, B.at_ r = B.at_ r' := by
  rintro ⟨r', hL, e⟩
  exact hr (by rw [h.inj e]; exact hL)
theorem StoreAt.outB {w : World} {B : Blk} {x : Sto} (h : StoreAt w B x) (L : List Role) {b : Nat} {c : Array Value} {t : TypeId} {f : Nat × Nat} (hb : w.heap[b]? = some (.cells c t f)) (ht : t ∉ [156, 151, 256, 29, 260, 264]) : ¬ ∃ r ∈ L, b = B.at_ r := by
  rintro ⟨r, _, rfl⟩
  have h1 := kd_cells hb
  rw [(h.heaps r).2.2.2] at h1
  cases r <;> simp [Role.kind] at h1 <;> (subst h1; simp at ht)
theorem StoreAt.frB {w w' : World} {B : Blk} {x : Sto} (h : StoreAt w B x) {L : List Role} (F : FrR B L w w') : FrB B w w' :=
  Fr.mono F fun b _ hs => by obtain ⟨r, _, rfl⟩ := hs; exact ⟨(h.heaps r).1, (h.heaps r).2.1, .inr ⟨r, rfl⟩⟩
/-- What stays of a store while blocks of these roles turn. -/
structure Stays (w' : World) (B : Blk) (x : Sto) (L : List Role) : Prop where
  s : Role.s ∉ L → w'.heap[B.s]? = some (.cells #[.pointer (some ⟨B.d, 0, none⟩), .int .i64 x.plan.sectors, .int .i64 x.plan.size, .int .i64 x.plan.regions, .int .i64 x.plan.rsectors, .int .i64 x.plan.log, .int .i64 x.plan.depth, .int .i64 x.plan.memory, .int .u64 x.plan.seed,
    .int .i64 x.first, .int .i64 x.pages, .int .i64 x.room, .int .i64 x.gen, .pointer (some ⟨B.bs, 0, none⟩), .map (some B.fr), .map (some B.dy), .map (some B.de), .pointer (some ⟨B.bc, 0, none⟩)] 156)
  dev : Role.d ∉ L → Role.bf ∉ L → Role.bq ∉ L → DevAt w' B.base B.d B.bf B.bq x.dev
  bits : Role.bs ∉ L → Role.bw ∉ L → BitsAt w' B.bs B.bw x.pages x.hand x.taken
  fr : Role.fr ∉ L → SetAt w' B.fr x.fresh
  dy : Role.dy ∉ L → SetAt w' B.dy x.dying
  de : Role.de ∉ L → SetAt w' B.de x.dead
  mem : Role.bc ∉ L → Role.bp ∉ L → Role.bm ∉ L → MemAt w' B.bc B.bp B.bm x.places x.mem
  load : ∀ k p, x.mem k = some p → ∃ bs, ByV w' p.la p.ll p.lc bs ∧ bs.length ≤ x.room
theorem StoreAt.stays {w w' : World} {B : Blk} {x : Sto} (h : StoreAt w B x) {L : List Role} (F : FrR B L w w') : Stays w' B x L := by
  refine ⟨fun a => Fr.heap F h.s (h.out a), fun a b c => h.dev.fr F (h.out a) (h.out b) (h.out c) fun g c t ht hg => h.outB L hg ?_, fun a b => h.bits.fr F (h.out a) (h.out b), fun a => h.fr.fr F (h.out a), fun a => h.dy.fr F (h.out a), fun a => h.de.fr F (h.out a),
    fun a b c => h.mem.fr F (h.out a) (h.out b) (h.out c), fun k p hp => ?_⟩
  · rcases ht with rfl | rfl | rfl <;> decide
  · obtain ⟨bs, hb, hl⟩ := h.load k p hp
    exact ⟨bs, hb.fr F fun b c hc => h.outB L hc (by decide), hl⟩
theorem StoreAt.byv {w w' : World} {B : Blk} {x : Sto} (h : StoreAt w B x) {L : List Role} (F : FrR B L w w') {a : Option Addr} {n c : Nat} {bs : List Int} (hb : ByV w a n c bs) : ByV w' a n c bs :=
  hb.fr F fun b c hc => h.outB L hc (by decide)
/-- A store lies on while a block of the caller's own turns. -/
theorem StoreAt.frL {w w' : World} {B : Blk} {x : Sto} (h : StoreAt w B x) {k : Nat} (F : Fr (fun b => b = k) w w') {c : Array Value} {t : TypeId} (hk : w.heap[k]? = some (.cells c t)) (ht : t ∉ 5 :: mutT) : StoreAt w' B x := by
  have h1 : ∀ r, ¬ B.at_ r = k := fun r e => by
    have h2 := (h.heaps r).2.1 c t
    rw [e] at h2
    exact ht (List.mem_cons_of_mem _ (h2 _ hk))
  have h4 : ∀ g c' t', t' ∈ 5 :: mutT → w.heap[g]? = some (.cells c' t') → ¬ g = k := fun g c' t' h5 hg e => by
    rw [e, hk] at hg; cases hg; exact ht h5
  refine ⟨F.heap h.s (h1 .s), h.dev.fr F (h1 .d) (h1 .bf) (h1 .bq) fun g c' t' h5 hg => h4 g c' t' (by rcases h5 with rfl | rfl | rfl <;> decide) hg, h.bits.fr F (h1 .bs) (h1 .bw), h.fr.fr F (h1 .fr), h.dy.fr F (h1 .dy), h.de.fr F (h1 .de), h.mem.fr F (h1 .bc) (h1 .bp) (h1 .bm), fun k p hp => ?_, h.ne, h.ge, h.rg, h.inr⟩
  obtain ⟨bs, hb, hl⟩ := h.load k p hp
  exact ⟨bs, hb.fr F fun b c hc => h4 b c 5 (by decide) hc, hl⟩
theorem _root_.Go.Sg.ByV.frL {w w' : World} {a : Option Addr} {n c : Nat} {bs : List Int} (h : ByV w a n c bs) {k : Nat} (F : Fr (fun b => b = k) w w') {cs : Array Value} {t : TypeId} (hk : w.heap[k]? = some (.cells cs t)) (ht : t ≠ 5) : ByV w' a n c bs :=
  h.fr F fun b c hc e => by rw [e, hk] at hc; cases hc; exact ht rfl
/-- A store lies on while only new blocks are laid. -/
theorem StoreAt.fr0 {w w' : World} {B : Blk} {x : Sto} (h : StoreAt w B x) (F : Fr (fun _ => False) w w') : StoreAt w' B x := by
  have S := h.stays (L := []) (F.mono fun _ _ h => h.elim)
  exact ⟨S.s (by decide), S.dev (by decide) (by decide) (by decide), S.bits (by decide) (by decide), S.fr (by decide), S.dy (by decide), S.de (by decide), S.mem (by decide) (by decide) (by decide), S.load, h.ne, h.ge, h.rg, h.inr⟩
end Go.Proofs.YtgdhaaokolfdoaaGreatDoor

/- The plain model of a sector's bytes and of a device's write. Conditions: none. -/
namespace Go.Sg
open Go.RowKit
/-- A number's bytes, the lowest first. -/
def leB (n : Nat) : Nat → List Int
  | 0 => []
  | k + 1 => ((n % 256 : Nat) : Int) :: leB (n / 256) k
theorem leB_length (k : Nat) : ∀ n, (leB n k).length = k := by
  induction k with
  | zero => intro n; rfl
  | succ k ih => intro n; simp [leB, ih]
/-- The number of bytes. -/
def leV : List Int → Nat
  | [] => 0
  | x :: l => x.toNat + 256 * leV l
theorem leV_leB (k : Nat) : ∀ n, n < 256 ^ k → leV (leB n k) = n := by
  induction k with
  | zero => intro n h; simp at h; subst h; rfl
  | succ k ih =>
    intro n h
    have h2 : n / 256 < 256 ^ k := by rw [Nat.pow_succ] at h; omega
    simp only [leB, leV, ih _ h2, Int.toNat_natCast]
    omega
def crcStep (n : Nat) : Nat := (n / 2) ^^^ (if n % 2 = 1 then 2197175160 else 0)
def crcTab (i : Nat) : Nat := crcStep (crcStep (crcStep (crcStep (crcStep (crcStep (crcStep (crcStep i)))))))
def crcNext (n : Nat) (x : Int) : Nat := (n / 256) ^^^ crcTab ((n % 256) ^^^ x.toNat)
def crcM (bs : List Int) : Nat := bs.foldl crcNext 4294967295 ^^^ 4294967295
/-- A leaf's sector but for its check. -/
def bodyM (size kind place stamp : Nat) (load : List Int) : List Int :=
  leB kind 1 ++ leB load.length 2 ++ leB place 4 ++ leB stamp 8 ++ load ++ List.replicate (size - 19 - load.length) 0
/-- A leaf's sector. -/
def buildM (size kind place stamp : Nat) (load : List Int) : List Int := bodyM size kind place stamp load ++ leB (crcM (bodyM size kind place stamp load)) 4
theorem bodyM_length {size kind place stamp : Nat} {load : List Int} (h : load.length + 19 ≤ size) : (bodyM size kind place stamp load).length = size - 4 := by
  simp [bodyM, leB_length]; omega
theorem buildM_length {size kind place stamp : Nat} {load : List Int} (h : load.length + 19 ≤ size) : (buildM size kind place stamp load).length = size := by
  rw [buildM, List.length_append, bodyM_length h, leB_length]; omega
/-- A write or a sync is counted. -/
def Dev.act (D : Dev) : Dev := { D with acts := D.acts + 1, armed := D.armed - 1, down := if D.armed = 0 then D.down else decide (D.armed = 1) }
/-- A write. -/
def Dev.write (D : Dev) (at_ : Int) (bs : List Int) : Dev × Int :=
  if D.down then (D, 4) else if at_ < 0 ∨ (D.sectors : Int) ≤ at_ then (D, 2) else if bs.length ≠ D.size then (D, 3)
  else ({ D.act with loose := D.loose ++ [(at_, bs)] }, if D.act.down then 4 else 0)
end Go.Sg
namespace Go.Proofs.YtgdhaaokolfdoaaGreatDoor
open Go.RowKit Go.Sg Go.Sg.Bits Go.Sg.Clk CP
/-- What a page that goes does to the device. -/
def OutR (w : World) (x : Sto) (g : Option (Int × Pg)) (D : Dev) (err : Int) : Prop :=
  match g with
  | none => D = x.dev ∧ err = 0
  | some (k, q) => if q.dirty = true then ∃ bs, ByV w q.la q.ll q.lc bs ∧ (D, err) = x.dev.write (x.first + k) (buildM x.dev.size 2 k.toNat q.stamp.toNat bs) else D = x.dev ∧ err = 0
/-- What keep does. -/
def KeepOut (B : Blk) (x : Sto) (n : Int) (p : Pg) (w : World) (e : Ending) (w' : World) : Prop :=
  ∃ err g D, e = .returned (.int .i64 err) ∧ GoneOk x.mem x.places n g ∧ OutR w' x g D err ∧ StoreAt w' B { x with mem := putF x.mem n p g, dev := D } ∧ FrB B w w'
end Go.Proofs.YtgdhaaokolfdoaaGreatDoor
