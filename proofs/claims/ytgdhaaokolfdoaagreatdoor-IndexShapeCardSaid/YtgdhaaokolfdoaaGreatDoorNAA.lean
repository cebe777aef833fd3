/- A pack of texts: Lib, Clk, CP, CQ, Put. Conditions: those that each text names. -/
import Derived.WalkKit
import Derived.WalkLawsBesides
import Derived.RangeFuncWrites
import Derived.RangeFuncLeaves
import Derived.Below
import Derived.Laws.OwnMore
import Derived.OwnWalk
import Derived.Maps.AppendAt
import Derived.Test.YtgdhaaokolfdoaaGreatDoorProg
import Derived.Deep.QuietTactic
import Derived.BigQuiet
import Derived.RegionTactic
import Derived.BigRegion
import Derived.Deep.LoopGhost
import Derived.Shelf.Abstract
import Derived.OwnWalkIn
import Derived.TacticsInMore
import Derived.LoopNIn
import Derived.LoopIn
import Derived.RangeFuncCalls
import Derived.Sort.BigQuietIn
import Derived.RangeFuncNested
set_option maxHeartbeats 16000000
set_option maxRecDepth 100000
set_option linter.all false
namespace Go.Sg
open Go.RowKit
@[go_sem] theorem wide_fn (f : FuncId) : Fence.wide.fn f = True := rfl
@[go_sem] theorem wide_round_fn (l : Nat) (f : FuncId) : (Fence.wide.inRound l).fn f = True := rfl
@[go_sem] theorem wide_depth : Fence.wide.depth = none := rfl
variable {p q : Prop} {B a b base e i n r : Nat} {c : Array Value} {S S' : Nat -> Prop} {w w' w1 : World} {t : TypeId} {f : Nat × Nat} {A o : Obj} {P : Program} {v x y z : Value} {ks : List Int}
theorem hid (h : p) : Hid p := h
structure Fr (S : Nat -> Prop) (w w' : World) : Prop where
 os : w'.os = w.os
 tape : w'.tape = w.tape
 output : w'.output = w.output
 size : w.heap.size <= w'.heap.size
 block : ∀ b, b < w.heap.size -> ¬ S b -> w'.heap[b]? = w.heap[b]?
theorem gA {α : Type} {l : List α} : l.toArray[i]? = l[i]? := List.getElem?_toArray ..
theorem gZ {α : Type} {a : α} {l : List α} : (a :: l)[0]? = some a := rfl
theorem gS {α : Type} {a : α} {l : List α} : (a :: l)[i+1]? = l[i]? := rfl
theorem sI {α : Type} {l : List α} {a : α} : l.toArray.setIfInBounds i a = (l.set i a).toArray := List.setIfInBounds_toArray ..
theorem sZ {α : Type} {x a : α} {l : List α} : (x :: l).set 0 a = a :: l := rfl
theorem sS {α : Type} {x a : α} {l : List α} : (x :: l).set (i+1) a = x :: l.set i a := rfl
abbrev Fq := Fr (fun _ => False)
theorem gE {α : Type} {l : List α} (h : i < l.length) : l[i]? = some l[i] := List.getElem?_eq_getElem h
theorem gI {α : Type} {a : α} {l : List α} : l[i]? = some a <-> ∃ h : i < l.length, l[i] = a := List.getElem?_eq_some_iff
theorem gM {α : Type} {a : α} {l : List α} (h : l[i]? = some a) : a ∈ l := List.mem_of_getElem? h
theorem lA {α : Type} {l m : List α} : (l ++ m).length = l.length + m.length := List.length_append
theorem gT {α : Type} {l : List α} {j : Nat} : (l.take i)[j]? = if j < i then l[j]? else none := List.getElem?_take
theorem gP {α β : Type} {f : α -> β} {l : List α} : (l.map f)[i]? = (l[i]?).map f := List.getElem?_map
theorem zA {α : Type} (l : List α) : l.toArray.size = l.length := rfl
theorem lC {α : Type} {a : α} {l : List α} : (a :: l).length = l.length + 1 := rfl
theorem lT {α : Type} {l : List α} : (l.take i).length = min i l.length := List.length_take
theorem tL {α : Type} {l : List α} (h : l.length <= i) : l.take i = l := List.take_of_length_le h
theorem nLL {c : Nat} (h : a < b) (k : b <= c) : a < c := Nat.lt_of_lt_of_le h k
theorem nT {c : Nat} (h : a <= b) (k : b <= c) : a <= c := Nat.le_trans h k
theorem nR (a : Nat) : a <= a := Nat.le_refl a
theorem iZ {a : Int} (h : 0 <= a) : ∃ n : Nat, a = n := Int.eq_ofNat_of_zero_le h
theorem aI (h : p) (k : q) : p /\ q := ⟨h, k⟩
theorem hi2 (h : p) (k : q) : Hid (p /\ q) := ⟨h, k⟩
theorem Fr.refl (S : Nat -> Prop) (w : World) : Fr S w w := ⟨rfl, rfl, rfl, nR _, fun _ _ _ => rfl⟩
theorem Fr.trans {w2 : World} (h : Fr S w w1) (k : Fr S' w1 w2) (hs : ∀ b, b < w.heap.size -> S' b -> S b) : Fr S w w2 :=
 ⟨k.os.trans h.os, k.tape.trans h.tape, k.output.trans h.output, nT h.size k.size,
  fun b hb hn => (k.block b (nLL hb h.size) (fun hs' => hn (hs b hb hs'))).trans (h.block b hb hn)⟩
theorem Fr.mono (h : Fr S w w1) (hs : ∀ b, b < w.heap.size -> S b -> S' b) : Fr S' w w1 :=
 ⟨h.os, h.tape, h.output, h.size, fun b hb hn => h.block b hb (fun hs' => hn (hs b hb hs'))⟩
theorem heap_alloc_lt (w : World) (o : Obj) (b : Nat) (h : b < w.heap.size) : (w.alloc o).heap[b]? = w.heap[b]? := by
 show (w.heap.push o)[b]? = _;rw [Array.getElem?_push, if_neg (Nat.ne_of_lt h)]
theorem han (w : World) (o : Obj) : (w.alloc o).heap[w.heap.size]? = some o := by
 show (w.heap.push o)[w.heap.size]? = _;rw [Array.getElem?_push, if_pos rfl]
theorem heap_setCell_ne (w : World) (a : Addr) (v : Value) (b : Nat) (h : a.block ≠ b) : (w.setCell a v).heap[b]? = w.heap[b]? := by
 simp [World.setCell, Array.getElem?_modify, h]
theorem hsc (w : World) (b o : Nat) (v : Value) (h : w.heap[b]? = some (.cells c t f)) :
  (w.setCell ⟨b, o, none⟩ v).heap[b]? = some (.cells (c.setIfInBounds o v) t f) := by
 simp [World.setCell, Array.getElem?_modify, h]
theorem hpj (w : World) (r : Nat) (o : Obj) (b : Nat) (h : r ≠ b) : (w.putObj r o).heap[b]? = w.heap[b]? := by
 simp [World.putObj, h]
theorem heap_putObj_same (w : World) (r : Nat) (o : Obj) (h : r < w.heap.size) : (w.putObj r o).heap[r]? = some o := by
 simp [World.putObj, h]
theorem loh (h : w.heap[b]? = some o) : b < w.heap.size := (Array.getElem?_eq_some_iff.1 h).1
theorem Fr.alloc (h : Fr S w w1) (o : Obj) : Fr S w (w1.alloc o) :=
 ⟨h.os, h.tape, h.output, nT h.size (by simp), fun b hb hn => (heap_alloc_lt w1 o b (nLL hb h.size)).trans (h.block b hb hn)⟩
theorem Fr.setCell (h : Fr S w w1) {a : Addr} (ha : a.block < w.heap.size -> S a.block) (v : Value) : Fr S w (w1.setCell a v) :=
 ⟨h.os, h.tape, h.output, by simpa using h.size, fun b hb hn => (heap_setCell_ne w1 a v b (by rintro rfl; exact hn (ha hb))).trans (h.block b hb hn)⟩
theorem Fr.putObj (h : Fr S w w1) (ha : r < w.heap.size -> S r) (o : Obj) : Fr S w (w1.putObj r o) :=
 ⟨h.os, h.tape, h.output, by simpa [World.putObj] using h.size, fun b hb hn => (hpj w1 r o b (by rintro rfl; exact hn (ha hb))).trans (h.block b hb hn)⟩
theorem Fr.drew (h : Fr S w w1) : Fr S w w1.drew := ⟨h.os, h.tape, h.output, h.size, h.block⟩
theorem Fr.drewN (h : Fr S w w1) (n : Nat) : Fr S w (w1.drewN n) := ⟨h.os, h.tape, h.output, h.size, h.block⟩
theorem Fr.heap (h : Fr S w w1) (hb : w.heap[b]? = some o) (hn : ¬ S b) : w1.heap[b]? = some o := (h.block b (loh hb) hn).trans hb
theorem Fr.cell (h : Fr S w w1) {p : Addr} (hb : p.block < w.heap.size) (hn : ¬ S p.block) : w1.cell? p = w.cell? p := World.cell?_of_block (h.block _ hb hn)
theorem Fr.of_below (h : Below w.heap.size w w1) : Fr S w w1 := ⟨h.os, h.tape, h.output, h.size, fun b hb _ => h.block b hb⟩
theorem Fr.of_grownBy (h : w.grownBy w1 (some r)) : Fr (· = r) w w1 := ⟨h.os, h.tape, h.output, h.size, fun b hb hn => h.block b hb (fun e => hn (by cases e; rfl))⟩
theorem Fr.below (h : Fr S w w1) (hs : ∀ b, b < w.heap.size -> ¬ S b) : Below w.heap.size w w1 :=
 ⟨h.os, h.tape, h.output, h.size, fun b hb => h.block b hb (hs b hb)⟩
theorem coh (h : w.heap[b]? = some (.cells c t f)) (o : Nat) : w.cell? ⟨b, o, none⟩ = c[o]? := by
 simp [World.cell?, h]
theorem foh (h : w.heap[b]? = some (.cells c t (0, 0))) (o : Nat) : w.frozen? ⟨b, o, none⟩ = false := by
 simp [World.frozen?, h]
@[go_sem] theorem heap_drewN (w : World) (n : Nat) : (w.drewN n).heap = w.heap := rfl
@[go_sem] theorem heap_drew (w : World) : w.drew.heap = w.heap := rfl
@[go_sem] theorem heap_setCell_ne' (w : World) (a o : Nat) (v : Value) (b : Nat) (h : a ≠ b) : (w.setCell ⟨a, o, none⟩ v).heap[b]? = w.heap[b]? := heap_setCell_ne w _ v b h
@[go_sem] theorem heap_putObj_ne' (w : World) (r : Nat) (o : Obj) (b : Nat) (h : r ≠ b) : (w.putObj r o).heap[b]? = w.heap[b]? := hpj w r o b h
@[go_sem] theorem cell_putObj (w : World) (r : Nat) (o : Obj) (b i : Nat) (h : r ≠ b) : (w.putObj r o).cell? ⟨b, i, none⟩ = w.cell? ⟨b, i, none⟩ := by
 simp [World.cell?, hpj w r o b h]
@[go_sem] theorem frozen_putObj (w : World) (r : Nat) (o : Obj) (b i : Nat) (h : r ≠ b) : (w.putObj r o).frozen? ⟨b, i, none⟩ = w.frozen? ⟨b, i, none⟩ := by
 simp [World.frozen?, hpj w r o b h]
@[go_sem] theorem size_putObj (w : World) (r : Nat) (o : Obj) : (w.putObj r o).heap.size = w.heap.size := by simp [World.putObj]
@[go_sem] theorem heap_alloc_lt' (w : World) (o : Obj) (b : Nat) (h : b < w.heap.size) : (w.alloc o).heap[b]? = w.heap[b]? := heap_alloc_lt w o b h
theorem own_block {β : Type} (B : Nat) (b : β -> Nat) (o : β -> Obj) (h : ∀ s, (o s).isCells = true \/ b s < B) : OwnFrom B (fun s W => W.heap[b s]? = some (o s)) := by
 intro s W W' row hs hg hr;refine (hg.block (b s) (loh hs) ?_).trans hs;intro e;obtain ⟨hB, o', ho', hc⟩ := hr (b s) e.symm;rcases h s with h | h
 ·rw [hs] at ho'; cases ho'; rw [h] at hc; cases hc
 ·omega
theorem own_fr {β : Type} (hB : w.heap.size <= B) : OwnFrom B (fun (_ : β) W => Fr S w W) := by
 intro s W W' row hs hg hr;exact hs.trans (S' := fun b => W.heap.size <= b \/ B <= b) ⟨hg.os, hg.tape, hg.output, hg.size, fun b hb hn => hg.block b hb (fun e => hn (.inr (hr b e.symm).1))⟩
  (fun b hb h => by have := hs.size; omega)
theorem own_pure {β : Type} (B : Nat) (p : β -> Prop) : OwnFrom B (fun s (_ : World) => p s) := fun _ _ _ _ hs _ _ => hs
theorem own_and {β : Type} {I I' : β -> World -> Prop} (h : OwnFrom B I) (h' : OwnFrom B I') : OwnFrom B (fun s W => I s W /\ I' s W) := h.and h'
theorem own_ex {β γ : Type} {I : γ -> β -> World -> Prop} (h : ∀ c, OwnFrom B (I c)) : OwnFrom B (fun s W => ∃ c, I c s W) := by
 rintro s W W' row ⟨c, hc⟩ hg hr;exact ⟨c, h c s W W' row hc hg hr⟩
theorem marks_ret1 {fn : Func} {R : Ending -> World -> Prop} {tmps : Array Value} {D t : Nat} {W : World} (h : fn.results = #[.tmp t]) (hK : W.heap[D]? = some (.deferred (some [])))
  (hR : R (.returned (tmps.getD t undef)) (W.putObj D (.deferred none))) : bodyPostM Fence.wide n P fn R .ret { tmps := tmps, defers := [{ target := .collected D, args := #[] }] } W :=
 ⟨by simp, .inl ⟨_, _, rfl, run_takeDeferred hK, _, results_tmp h _ _ _, hR⟩⟩
structure Ent where
 k : Int
 v : Value
 born : Nat
def Ent.entry (e : Ent) : MapEntry := ⟨.int .i64 e.k, e.v, e.born⟩
def ents (l : List Ent) : Array MapEntry := (l.map Ent.entry).toArray
def look (l : List Ent) (k : Int) : Option Value := (l.find? (·.k == k)).map (·.v)
def put : List Ent -> Int -> Value -> Nat -> List Ent
 | [], k, v, c => [⟨k, v, c⟩]
 | e :: l, k, v, c => if e.k == k then ⟨k, v, e.born⟩ :: l else e :: put l k v c
def del : List Ent -> Int -> List Ent
 | [], _ => []
 | e :: l, k => if e.k == k then l else e :: del l k
theorem findNow_ents (k : Int) (l : List Ent) : ∀ i, Instr.findNow (.int .i64) (.int .i64 k) (l.map Ent.entry) i =
  some ((l.findIdx? (·.k == k)).bind fun j => (l[j]?).map fun e => (i + j, e.v)) := by
 induction l with
 | nil => intro i; rfl
 | cons e l ih =>
  intro i;simp only [List.map_cons, Instr.findNow, Ent.entry, Instr.sameNow, if_true, List.findIdx?_cons];by_cases h : k = e.k
  ·subst h; simp
  ·have h1 : (k == e.k) = false := by simpa using h
   have h2 : (e.k == k) = false := by simpa using fun x => h x.symm
   rw [h1, h2];simp only [Bool.false_eq_true, if_false];rw [ih (i + 1)];cases l.findIdx? (·.k == k) with
   | none => rfl
   | some j => simp only [Option.map_some, Option.bind_some, gS]; congr 2; funext e; congr 1; omega
section
variable {P : Program} {T K E : TypeId} {w : World} {bm : Nat} {l : List Ent} {ck : Nat}
theorem run_getObj_map (h : w.heap[bm]? = some (.map (ents l) ck)) : (getObj bm).run P w = .ok (.map (ents l) ck) w := by
 simp [getObj, Sem.run, h]
theorem run_findKey (hk : P.underlying K = some (.int .i64)) (k : Int) : (Instr.findKey K (.int .i64 k) (ents l).toList).run P w =
  .ok ((l.findIdx? (·.k == k)).bind fun j => (l[j]?).map fun e => (j, e.v)) w := by
 simp only [Instr.findKey, Sem.run_bind, run_underlying hk, Result.andThen, ents, findNow_ents, Nat.zero_add];rfl
theorem run_checkKey (hk : P.underlying K = some (.int .i64)) (k : Int) (b : Bool) : (Instr.checkKey b 10000 K (.int .i64 k)).run P w = .ok () w := by
 exact MapKept.run_checkKey (n := 9999) hk (by trivial) b
theorem look_eq (l : List Ent) (k : Int) : ((l.findIdx? (·.k == k)).bind fun j => (l[j]?).map fun e => (j, e.v)).map (·.2) = look l k := by
 induction l with
 | nil => rfl
 | cons e l ih =>
  simp only [List.findIdx?_cons, look, List.find?_cons];by_cases h : e.k = k
  ·subst h; simp
  ·have h2 : (e.k == k) = false := by simpa using h
   rw [h2];simp only [Bool.false_eq_true, if_false];rw [look] at ih;rw [<- ih];cases l.findIdx? (·.k == k) with
   | none => rfl
   | some j => simp [Option.map_map]; cases l[j]? <;> rfl
theorem run_lookup {z : Value} (ok : Bool) (ht : P.underlying T = some (.map K E)) (hk : P.underlying K = some (.int .i64)) (hz : ∀ w, (zeroValue E).run P w = .ok z w)
  (h : w.heap[bm]? = some (.map (ents l) ck)) (k : Int) :
  (Instr.lookup T (.map (some bm)) (.int .i64 k) ok).run P w =
   .ok (if ok then .tuple #[(look l k).getD z, .bool (look l k).isSome] else (look l k).getD z) w := by
 simp only [Instr.lookup, Sem.run_bind, run_underlying ht, Result.andThen, run_getObj_map h, run_checkKey hk, run_findKey hk, Sem.run_pure];have e := look_eq l k;cases hf : ((l.findIdx? (·.k == k)).bind fun j => (l[j]?).map fun e => (j, e.v)) with
 | none => rw [hf] at e; rw [<- e]; simp [hz]
 | some x => rw [hf] at e; rw [<- e]; cases ok <;> rfl
theorem put_some (k : Int) (v : Value) (c : Nat) : ∀ (l : List Ent) (j : Nat), l.findIdx? (·.k == k) = some j ->
  (l.map Ent.entry).modify j (fun e => { e with key := .int .i64 k, val := v }) = (put l k v c).map Ent.entry /\ ∃ e, l[j]? = some e /\ e.k = k
 | [], j, h => by simp at h
 | e :: l, j, h => by
  rw [List.findIdx?_cons] at h;by_cases hk : (e.k == k) = true
  ·rw [hk] at h;simp only [if_true, Option.some.injEq] at h;subst h;have hk' : e.k = k := by simpa using hk
   exact ⟨by simp [put, hk, Ent.entry], e, rfl, hk'⟩
  ·have hk' : (e.k == k) = false := by simpa using hk
   rw [hk'] at h;simp only [Bool.false_eq_true, if_false, Option.map_eq_some_iff] at h;obtain ⟨i, hi, rfl⟩ := h;obtain ⟨h1, h2⟩ := put_some k v c l i hi;exact ⟨by simp [put, hk', h1], by simpa using h2⟩
theorem put_none (k : Int) (v : Value) (c : Nat) : ∀ (l : List Ent), l.findIdx? (·.k == k) = none -> put l k v c = l ++ [⟨k, v, c⟩]
 | [], _ => rfl
 | e :: l, h => by
  rw [List.findIdx?_cons] at h;by_cases hk : (e.k == k) = true
  ·rw [hk] at h; simp at h
  ·have hk' : (e.k == k) = false := by simpa using hk
   rw [hk'] at h;simp only [Bool.false_eq_true, if_false, Option.map_eq_none_iff] at h;simp [put, hk', put_none k v c l h]
theorem look_isSome (l : List Ent) (k : Int) : (look l k).isSome = (l.findIdx? (·.k == k)).isSome := by
 induction l with
 | nil => rfl
 | cons e l ih =>
  simp only [look, List.find?_cons, List.findIdx?_cons];by_cases hk : (e.k == k) = true
  ·simp [hk]
  ·have hk' : (e.k == k) = false := by simpa using hk
   rw [hk'];simp only [look] at ih;simp [ih]
theorem run_keyThatStays (k : Int) : (Instr.keyThatStays (.int .i64 k) (.int .i64 k)).run P w = .ok (.int .i64 k) w := by
 simp [Instr.keyThatStays, Instr.sameBits]
theorem run_setObj_map' {o o' : Obj} (h : w.heap[bm]? = some o) (ho : o.isCells = false) : (setObj bm o').run P w = .ok () (w.putObj bm o') := by
 cases o <;> first | (simp [Obj.isCells] at ho; done) | simp [setObj, Sem.run, h, World.putObj]
def bump (l : List Ent) (k : Int) (ck : Nat) : Nat := if (look l k).isSome then ck else ck + 1
theorem run_mapUpdate (ht : P.underlying T = some (.map K E)) (hk : P.underlying K = some (.int .i64))
  (h : w.heap[bm]? = some (.map (ents l) ck)) (k : Int) (v : Value) :
  (Instr.mapUpdate T (.map (some bm)) (.int .i64 k) v).run P w =
   .ok () (w.putObj bm (.map (ents (put l k v ck)) (bump l k ck))) := by
 unfold bump;simp only [Instr.mapUpdate, Sem.run_bind, run_underlying ht, Result.andThen, run_getObj_map h, run_checkKey hk, run_findKey hk];rw [look_isSome];cases hf : l.findIdx? (·.k == k) with
 | none =>
  simp only [Option.bind_none];rw [run_setObj_map' h rfl, put_none k v ck l hf];simp [ents, Ent.entry]
 | some j =>
  obtain ⟨h1, e, h2, h3⟩ := put_some k v ck l j hf;have h4 : (((ents l)[j]?).map (·.key)).getD (.int .i64 k) = .int .i64 k := by simp [ents, h2, Ent.entry, h3]
  simp only [Option.bind_some, h2, Option.map_some];rw [h4];simp only [Sem.run_bind, run_keyThatStays, Result.andThen];rw [run_setObj_map' h rfl];simp only [Option.isSome_some, if_true];congr 3
  rw [ents, ents, <- h1];simp
theorem del_some (k : Int) : ∀ (l : List Ent) (j : Nat), l.findIdx? (·.k == k) = some j -> (l.map Ent.entry).eraseIdx j = (del l k).map Ent.entry
 | [], j, h => by simp at h
 | e :: l, j, h => by
  rw [List.findIdx?_cons] at h;by_cases hk : (e.k == k) = true
  ·rw [hk] at h;simp only [if_true, Option.some.injEq] at h;subst h;simp [del, hk]
  ·have hk' : (e.k == k) = false := by simpa using hk
   rw [hk'] at h;simp only [Bool.false_eq_true, if_false, Option.map_eq_some_iff] at h;obtain ⟨i, hi, rfl⟩ := h;simp [del, hk', del_some k l i hi]
theorem del_none (k : Int) : ∀ (l : List Ent), l.findIdx? (·.k == k) = none -> del l k = l
 | [], _ => rfl
 | e :: l, h => by
  rw [List.findIdx?_cons] at h;by_cases hk : (e.k == k) = true
  ·rw [hk] at h; simp at h
  ·have hk' : (e.k == k) = false := by simpa using hk
   rw [hk'] at h;simp only [Bool.false_eq_true, if_false, Option.map_eq_none_iff] at h;simp [del, hk', del_none k l h]
theorem run_delete (ht : P.underlying T = some (.map K E)) (hk : P.underlying K = some (.int .i64))
  (h : w.heap[bm]? = some (.map (ents l) ck)) (k : Int) (t' : TypeId) (ts : Array TypeId) (hts : ts[0]? = some T) :
  (Builtin.delete_ ts t' #[.map (some bm), .int .i64 k]).run P w = .ok (.tuple #[]) (w.putObj bm (.map (ents (del l k)) ck)) := by
 simp only [Builtin.delete_, hts];simp only [gA, gZ, gS, Sem.run_bind, run_underlying ht, Result.andThen, run_getObj_map h, run_checkKey hk, run_findKey hk];cases hf : l.findIdx? (·.k == k) with
 | none =>
  simp only [Option.bind_none, Sem.run_bind];rw [run_setObj_map' h rfl, del_none k l hf];rfl
 | some j =>
  obtain ⟨h1, e, h2, h3⟩ := put_some k (.bool true) ck l j hf;simp only [Option.bind_some, h2, Option.map_some, Sem.run_bind];rw [run_setObj_map' h rfl];have := del_some k l j hf;simp only [Result.andThen];congr 3
  rw [ents, ents, <- this];have hj : j < (l.map Ent.entry).toArray.size := by
   have := (gI.1 h2).1;simpa using this
  simp [Array.eraseIdxIfInBounds, hj];have := (gI.1 h2).1;simp [this]
end
theorem look_put (l : List Ent) (k : Int) (v : Value) (c : Nat) (k' : Int) : look (put l k v c) k' = if k = k' then some v else look l k' := by
 induction l with
 | nil =>
  by_cases h : k = k'
  ·simp [put, look, h]
  ·have : (k == k') = false := by simpa using h
   simp [put, look, h]
 | cons e l ih =>
  unfold put;by_cases hk : (e.k == k) = true
  ·have hk' : e.k = k := by simpa using hk
   rw [if_pos hk];by_cases h : k = k'
   ·simp [look, h]
   ·simp [look, h, hk']
  ·rw [if_neg hk];simp only [look, List.find?_cons] at ih ⊢;by_cases h' : (e.k == k') = true
   ·have h2 : e.k = k' := (by simpa using h');have h3 : k ≠ k' := fun x => hk (by simp [h2, x])
    simp [h', h3]
   ·have h'' : (e.k == k') = false := (by simpa using h');rw [h''];exact ih
def keys (l : List Ent) : List Int := l.map (·.k)
theorem keys_put (l : List Ent) (k : Int) (v : Value) (c : Nat) : keys (put l k v c) = if (look l k).isSome then keys l else keys l ++ [k] := by
 induction l with
 | nil => rfl
 | cons e l ih =>
  unfold put;by_cases hk : (e.k == k) = true
  ·have hk' : e.k = k := by simpa using hk
   simp [keys, look, hk, hk']
  ·have hk' : (e.k == k) = false := by simpa using hk
   have e1 : look (e :: l) k = look l k := by simp [look, List.find?_cons, hk']
   rw [hk', e1];simp only [Bool.false_eq_true, if_false];show e.k :: keys (put l k v c) = _;rw [ih];split <;> rfl
theorem look_none (l : List Ent) (k : Int) : look l k = none ↔ k ∉ keys l := by
 simp [look, keys]
theorem length_keys (l : List Ent) : (keys l).length = l.length := by simp [keys]
theorem length_put (l : List Ent) (k : Int) (v : Value) (c : Nat) : (put l k v c).length = if (look l k).isSome then l.length else l.length + 1 := by
 rw [<- length_keys, keys_put];split <;> simp [length_keys]
variable {l : List Ent}
theorem nodup_put (h : (keys l).Nodup) (k : Int) (v : Value) (c : Nat) : (keys (put l k v c)).Nodup := by
 rw [keys_put];split
 ·exact h
 ·rename_i hn;have : k ∉ keys l := (look_none l k).1 (by simpa using hn);rw [List.nodup_append];refine ⟨h, by simp, ?_⟩;rintro a ha b hb rfl;simp at hb;subst hb;exact this ha
theorem keys_del (l : List Ent) (k : Int) : keys (del l k) = (keys l).erase k := by
 induction l with
 | nil => rfl
 | cons e l ih =>
  unfold del;by_cases hk : (e.k == k) = true
  ·simp [keys, hk, List.erase_cons]
  ·have hk' : (e.k == k) = false := by simpa using hk
   simp only [keys] at ih;simp [keys, List.erase_cons, hk', ih]
theorem length_del (l : List Ent) (k : Int) : (del l k).length = if (look l k).isSome then l.length - 1 else l.length := by
 rw [<- length_keys, keys_del];cases h : look l k with
 | none => rw [List.erase_of_not_mem ((look_none l k).1 h)]; simp [length_keys]
 | some x =>
  have hk : k ∈ keys l := by
   rcases Decidable.em (k ∈ keys l) with h' | h'
   ·exact h'
   ·rw [(look_none l k).2 h'] at h; cases h
  rw [List.length_erase_of_mem hk]; simp [length_keys]
theorem nodup_del (h : (keys l).Nodup) (k : Int) : (keys (del l k)).Nodup := by
 rw [keys_del]; exact h.erase k
theorem look_del (h : (keys l).Nodup) (k k' : Int) : look (del l k) k' = if k = k' then none else look l k' := by
 induction l with
 | nil => simp [del, look]
 | cons e l ih =>
  have hn : (keys l).Nodup := by simp [keys] at h ⊢; exact h.2
  have he : e.k ∉ keys l := by simp [keys] at h ⊢; exact h.1
  unfold del;by_cases hk : (e.k == k) = true
  ·have hk' : e.k = k := by simpa using hk
   rw [if_pos hk];by_cases hh : k = k'
   ·subst hh;rw [if_pos rfl];exact (look_none l k).2 (hk' ▸ he)
   ·simp [look, hh, hk']
  ·rw [if_neg hk];have ih := ih hn;simp only [look, List.find?_cons] at ih ⊢;by_cases h' : (e.k == k') = true
   ·have h2 : e.k = k' := (by simpa using h');have h3 : k ≠ k' := fun x => hk (by simp [h2, x])
    simp [h', h3]
   ·have h'' : (e.k == k') = false := (by simpa using h');rw [h''];exact ih
theorem run_make_len (t e : TypeId) (i : TypeInfo) (z : Value) (ht : P.underlying t = some (.slice e)) (hi : P.info? e = some i) (hz : i.zero = some z) (n : Nat) (hb : i.bytes * n <= 281474976710656) (hn : n <= 9223372036854775807) (w : World) :
  (Instr.makeSlice t (.int .i64 (n : Int)) (.int .i64 (n : Int))).run P w = .ok (.slice (some ⟨w.heap.size, 0, none⟩) n n) (w.alloc (.cells (madeCells z.cells (n * i.size)) e)) := by
 have hc : (i.bytes : Int) * (n : Int) <= 281474976710656 := by
  have h1 : ((i.bytes * n : Nat) : Int) <= 281474976710656 := by omega
  rw [Int.natCast_mul] at h1;exact h1
 have h := run_make (P := P) w t e i z ht hi hz .i64 .i64 n n (by omega) (by omega) hc (by omega);rw [Int.toNat_natCast] at h;exact h
theorem Fr.setNew (h : Fr S w w1) {o : Nat} (hb : w.heap.size <= b) (v : Value) : Fr S w (w1.setCell ⟨b, o, none⟩ v) := h.setCell (fun h' => absurd h' (by simp; omega)) v
theorem cells2 (h : w.heap[b]? = some (.cells #[x, y] t)) : w.cell? ⟨b, 0, none⟩ = some x /\ w.cell? ⟨b, 1, none⟩ = some y /\ (∀ o, w.frozen? ⟨b, o, none⟩ = false) /\ b < w.heap.size :=
 ⟨by simpa using coh h 0, by simpa using coh h 1, fun o => foh h o, loh h⟩
theorem cells4 {u : Value} (h : w.heap[b]? = some (.cells #[x, y, z, u] t)) :
  w.cell? ⟨b, 0, none⟩ = some x /\ w.cell? ⟨b, 1, none⟩ = some y /\ w.cell? ⟨b, 2, none⟩ = some z /\ w.cell? ⟨b, 3, none⟩ = some u /\ (∀ o, w.frozen? ⟨b, o, none⟩ = false) /\ b < w.heap.size :=
 ⟨by simpa using coh h 0, by simpa using coh h 1, by simpa using coh h 2, by simpa using coh h 3, fun o => foh h o, loh h⟩
theorem heap_two {B : Obj} (h : (w.alloc A).alloc B = w') : w'.heap[w.heap.size]? = some A /\ w'.heap[w.heap.size + 1]? = some B /\ Fq w w' := by
 subst h;refine ⟨?_, ?_, ((Fr.refl _ _).alloc _).alloc _⟩
 ·rw [heap_alloc_lt _ _ _ (by simp)]; exact han _ _
 ·have := han (w.alloc A) B; simpa using this
theorem heap_three {B C : Obj} (h : ((w.alloc A).alloc B).alloc C = w') :
  w'.heap[w.heap.size]? = some A /\ w'.heap[w.heap.size + 1]? = some B /\ w'.heap[w.heap.size + 1 + 1]? = some C /\ Fq w w' := by
 obtain ⟨w2, hw⟩ : ∃ w2, (w.alloc A).alloc B = w2 := ⟨_, rfl⟩
 obtain ⟨h1, h2, h3⟩ := heap_two hw;rw [hw] at h;have hs : w2.heap.size = w.heap.size + 1 + 1 := by rw [<- hw]; simp
 subst h;refine ⟨?_, ?_, ?_, h3.alloc _⟩
 ·rw [heap_alloc_lt _ _ _ (loh h1)]; exact h1
 ·rw [heap_alloc_lt _ _ _ (loh h2)]; exact h2
 ·have := han w2 C; rw [hs] at this; exact this
theorem cells3 (h : w.heap[b]? = some (.cells #[x, y, z] t)) :
  w.cell? ⟨b, 0, none⟩ = some x /\ w.cell? ⟨b, 1, none⟩ = some y /\ w.cell? ⟨b, 2, none⟩ = some z /\ (∀ o, w.frozen? ⟨b, o, none⟩ = false) /\ b < w.heap.size :=
 ⟨by simpa using coh h 0, by simpa using coh h 1, by simpa using coh h 2, fun o => foh h o, loh h⟩
theorem heap_ne {o' : Obj} (h : w.heap[a]? = some o) (h' : w.heap[b]? = some o') (hne : o ≠ o') : a ≠ b := by
 rintro rfl;rw [h] at h';exact hne (Option.some.inj h')
theorem fr_grown {wr : World} {size : Nat} {xs : List Value} (F : Fr S w wr) (hb : w.heap.size <= base) (hown : wr.ownsRow base e size v n xs) (hg : (wr.alloc o).grownBy w' v.ownBlock) : Fr S w w' := by
 refine F.trans (S' := fun b => base <= b) ⟨hg.os, hg.tape, hg.output, nT (by simp) hg.size, fun b hb hn => ?_⟩ (fun b hb' h => by omega);rw [hg.block b (nLL hb (by simp)) (fun e => hn (hown.lt b e.symm).1)];exact heap_alloc_lt _ _ _ hb
def Ints (w : World) (v : Value) (ks : List Int) : Prop :=
 ∃ a cap, v = .slice a ks.length cap /\ ∀ (i : Nat) (k : Int), ks[i]? = some k -> ∃ g, a = some ⟨g, 0, none⟩ /\ g < w.heap.size /\ w.cell? ⟨g, i, none⟩ = some (.int .i64 k)
theorem Ints.fr (h : Ints w v ks) (F : Fr S w w') (hS : ∀ b, b < w.heap.size -> ¬ S b) : Ints w' v ks := by
 obtain ⟨a, cap, e, h⟩ := h;refine ⟨a, cap, e, fun i k hk => ?_⟩;obtain ⟨g, ha, hl, hc⟩ := h i k hk;exact ⟨g, ha, nLL hl F.size, (F.cell (p := ⟨g, i, none⟩) hl (hS g hl)).trans hc⟩
theorem ints_of_own (h : w.ownsRow base e 1 v ks.length (ks.map (Value.int .i64))) : Ints w v ks := by
 obtain ⟨_, ⟨rfl, h0⟩ | ⟨g, cap, cur, rfl, _, hg, _, _, _, ht⟩⟩ := h
 ·refine ⟨none, 0, by rw [h0], fun i k hk => ?_⟩;have := (gI.1 hk).1;omega
 ·refine ⟨_, cap, rfl, fun i k hk => ⟨g, rfl, loh hg, ?_⟩⟩;have hi := (gI.1 hk).1;rw [coh hg];have : (cur.toList.take (ks.length * 1))[i]? = some (.int .i64 k) := by rw [ht, gP, hk]; rfl
  rw [gT, if_pos (by omega)] at this;simpa using this
end Go.Sg
namespace Go.Sg.Clk
section
open Go.RowKit
structure Pg where
 stamp : Int
 la : Option Addr
 ll : Nat
 lc : Nat
 dirty : Bool
abbrev Pg.load (p : Pg) : Value := .slice p.la p.ll p.lc
abbrev Pg.val (p : Pg) : Value := .agg #[.int .i64 p.stamp, p.load, .bool p.dirty]
def Pg.zero : Pg := ⟨0, none, 0, 0, false⟩
structure Pl where
 key : Int
 v : Pg
 full : Bool
 marked : Bool
def Pl.cells (p : Pl) : List Value := [.int .i64 p.key, .int .i64 p.v.stamp, p.v.load, .bool p.v.dirty, .bool p.full, .bool p.marked]
def cellsOf (pl : List Pl) : Array Value := (pl.flatMap Pl.cells).toArray
def Pl.none (z : Pg) : Pl := ⟨0, z, false, false⟩
theorem flat_get : ∀ (pl : List Pl) (i j : Nat) (p : Pl), pl[i]? = some p -> j < 6 -> (pl.flatMap Pl.cells)[i * 6 + j]? = p.cells[j]?
 | [], i, j, p, h, _ => by simp at h
 | q :: pl, 0, j, p, h, hj => by
  simp at h; subst h;simp only [List.flatMap_cons, Nat.zero_mul, Nat.zero_add];rw [List.getElem?_append_left (by simp [Pl.cells]; omega)]
 | q :: pl, i + 1, j, p, h, hj => by
  simp only [List.flatMap_cons];rw [List.getElem?_append_right (by simp [Pl.cells]; omega)];have := flat_get pl i j p (by simpa using h) hj;rw [<- this];congr 1
  simp [Pl.cells]; omega
variable {pl : List Pl} {i : Nat} {p : Pl}
theorem cells_get (h : pl[i]? = some p) (j : Nat) (hj : j < 6) : (cellsOf pl)[i * 6 + j]? = p.cells[j]? := by
 simpa [cellsOf] using flat_get pl i j p h hj
theorem flat_len (pl : List Pl) : (pl.flatMap Pl.cells).length = pl.length * 6 := by
 induction pl with
 | nil => rfl
 | cons p pl ih => simp only [List.flatMap_cons, lA, ih, lC]; simp [Pl.cells]; omega
theorem size_cells (pl : List Pl) : (cellsOf pl).size = pl.length * 6 := by simp only [cellsOf, zA, flat_len]
theorem flat_set : ∀ (pl : List Pl) (i j : Nat) (v : Value) (p q : Pl), pl[i]? = some p -> j < 6 -> p.cells.set j v = q.cells ->
  (pl.flatMap Pl.cells).set (i * 6 + j) v = (pl.set i q).flatMap Pl.cells
 | [], i, j, v, p, q, h, _, _ => by simp at h
 | r :: pl, 0, j, v, p, q, h, hj, hq => by
  simp at h; subst h;simp only [List.flatMap_cons, Nat.zero_mul, Nat.zero_add, sZ];rw [List.set_append_left _ _ (by simp [Pl.cells]; omega), hq]
 | r :: pl, i + 1, j, v, p, q, h, hj, hq => by
  simp only [List.flatMap_cons, sS];rw [List.set_append_right _ _ (by simp [Pl.cells]; omega)];have := flat_set pl i j v p q (by simpa using h) hj hq;rw [<- this];congr 2
  simp [Pl.cells]; omega
theorem cells_set (h : pl[i]? = some p) (j : Nat) (hj : j < 6) (v : Value) (q : Pl) (hq : p.cells.set j v = q.cells) :
  (cellsOf pl).setIfInBounds (i * 6 + j) v = cellsOf (pl.set i q) := by
 simp [cellsOf, flat_set pl i j v p q h hj hq]
def find (pl : List Pl) (key : Int) : Option Nat := pl.findIdx? fun p => p.full && p.key == key
def Nd (pl : List Pl) : Prop := ∀ (i j : Nat) (p q : Pl), pl[i]? = some p -> pl[j]? = some q -> p.full = true -> q.full = true -> p.key = q.key -> i = j
structure At (tc tp : TypeId) (ok : Pg -> Prop) (w : World) (bc bp bm : Nat) (pl : List Pl) (hand : Nat) : Prop where
 c : w.heap[bc]? = some (.cells #[.slice (some ⟨bp, 0, none⟩) pl.length pl.length, .map (some bm), .int .i64 hand] tc)
 p : w.heap[bp]? = some (.cells (cellsOf pl) tp)
 m : ∃ l ck, w.heap[bm]? = some (.map (ents l) ck) /\ (keys l).Nodup /\ (∀ k, look l k = (find pl k).map fun i => .int .i64 i) /\ l.length = pl.countP (·.full)
 room : 1 <= pl.length /\ pl.length <= 4096
 hand : hand < pl.length
 vs : ∀ p ∈ pl, ok p.v
 nd : Nd pl
theorem find_some {key : Int} (h : find pl key = some i) : ∃ p, pl[i]? = some p /\ p.full = true /\ p.key = key := by
 rw [find, List.findIdx?_eq_some_iff_getElem] at h;obtain ⟨hi, hp, _⟩ := h;simp at hp;exact ⟨pl[i], by simp, hp.1, hp.2⟩
end
section
def fullAt (k : Nat) (pl : List Pl) : List (Nat × Pl) := (((List.range k).map fun i => (i, pl[i]?)).filterMap fun x => x.2.bind fun p => if p.full then some (x.1, p) else none)
theorem fullAt_succ (k : Nat) (pl : List Pl) (p : Pl) (h : pl[k]? = some p) : fullAt (k + 1) pl = if p.full then fullAt k pl ++ [(k, p)] else fullAt k pl := by
 simp only [fullAt, List.range_succ, List.map_append, List.map_cons, List.map_nil, List.filterMap_append, List.filterMap_cons, List.filterMap_nil, h, Option.bind_some];cases p.full <;> simp
theorem fullAt_len (k : Nat) (pl : List Pl) : (fullAt k pl).length <= k := by
 refine nT (List.length_filterMap_le _ _) ?_;simp
theorem fullAt_prefix (pl : List Pl) : ∀ (k m : Nat), k <= m -> m <= pl.length -> fullAt k pl <+: fullAt m pl := by
  intro k m h hm;induction m with
  | zero => obtain rfl : k = 0 := by omega
            exact List.prefix_rfl
  | succ m ih =>
    by_cases hk : k = m + 1
    · subst hk; exact List.prefix_rfl
    · have := ih (by omega) (by omega);have hp : pl[m]? = some pl[m] := gE (by omega);rw [fullAt_succ m pl _ hp];split
      · exact this.trans (List.prefix_append _ _)
      · exact this
def empty (pl : List Pl) : Option Nat := pl.findIdx? fun p => !p.full
def emptyI (pl : List Pl) : Int := match empty pl with
 | some i => i
 | none => -1
variable {pl : List Pl}
theorem emptyI_some {i : Nat} (h : empty pl = some i) : emptyI pl = i := by rw [emptyI, h]
theorem emptyI_none (h : empty pl = none) : emptyI pl = -1 := by rw [emptyI, h]
def isFull (pl : List Pl) (i : Nat) : Bool := (pl[i]?).any (·.full)
def fulls (k : Nat) (pl : List Pl) : List Nat := (List.range k).filter (isFull pl)
theorem fullAt_fst (k : Nat) (pl : List Pl) (hk : k <= pl.length) : (fullAt k pl).map (·.1) = fulls k pl := by
 induction k with
 | zero => rfl
 | succ k ih =>
  have hp : pl[k]? = some pl[k] := gE (by omega);rw [fullAt_succ k pl _ hp, fulls, List.range_succ, List.filter_append];have ih := ih (by omega);rw [fulls] at ih;cases hf : (pl[k]).full with
  | true => simp [ih, isFull, hp, hf]
  | false => simp [ih, isFull, hp, hf]
theorem empty_none (h : ∀ i, i < pl.length -> isFull pl i = true) : empty pl = none := by
 rw [empty, List.findIdx?_eq_none_iff];intro p hp;obtain ⟨i, hi, rfl⟩ := List.getElem_of_mem hp;have := h i hi;simpa [isFull, hi] using this
theorem empty_some {k : Nat} (hk : k < pl.length) (h : ∀ i, i < k -> isFull pl i = true) (hn : isFull pl k = false) : empty pl = some k := by
 rw [empty, List.findIdx?_eq_some_iff_getElem];refine ⟨hk, by simpa [isFull, hk] using hn, fun j hj => ?_⟩;have := h j hj;simpa [isFull, show j < pl.length by omega] using this
theorem empty_of_done (h : (fullAt pl.length pl).map (·.1) = List.range (fullAt pl.length pl).length) :
  empty pl = if (fullAt pl.length pl).length = pl.length then none else some (fullAt pl.length pl).length := by
 rw [fullAt_fst _ _ (nR _)] at h;have hle := fullAt_len pl.length pl;generalize (fullAt pl.length pl).length = m at *
 have mem : ∀ i, i < pl.length -> (isFull pl i = true ↔ i < m) := fun i hi => by
  have h1 : i ∈ fulls pl.length pl ↔ i < m := by rw [h]; simp
  rw [<- h1, fulls, List.mem_filter];simp [hi]
 split
 ·subst m; exact empty_none fun i hi => (mem i hi).2 hi
 ·exact empty_some (by omega) (fun i hi => (mem i (by omega)).2 hi) (by have := mem m (by omega); simpa using this)
theorem empty_of_stop {pre : List (Nat × Pl)} {x : Nat × Pl} (hp : pre ++ [x] <+: fullAt pl.length pl) (hpre : pre.map (·.1) = List.range pre.length) (hx : x.1 ≠ pre.length) :
  empty pl = some pre.length /\ pre.length < pl.length := by
 obtain ⟨rest, hrest⟩ := hp;have h : List.range pre.length ++ (x.1 :: rest.map (·.1)) = fulls pl.length pl := by
  rw [<- fullAt_fst _ _ (nR _), <- hrest]; simp [hpre]
 have hs : (fulls pl.length pl).Pairwise (· < ·) := List.Pairwise.filter _ List.pairwise_lt_range;rw [<- h, List.pairwise_append] at hs;obtain ⟨-, h2, h3⟩ := hs;rw [List.pairwise_cons] at h2;have hge : pre.length <= x.1 := by
  rcases Nat.lt_or_ge x.1 pre.length with h' | h'
  ·have := h3 x.1 (by simpa using h') x.1 (by simp); omega
  ·exact h'
 have hmem : ∀ i, i ∈ List.range pre.length ++ (x.1 :: rest.map (·.1)) ↔ i < pl.length /\ isFull pl i = true := fun i => by rw [h, fulls]; simp
 have hxl : x.1 < pl.length := ((hmem x.1).1 (by simp)).1;refine ⟨empty_some (by omega) (fun i hi => ((hmem i).1 (by simp; exact .inl hi)).2) ?_, by omega⟩;cases hf : isFull pl pre.length with
 | false => rfl
 | true =>
  have := (hmem pre.length).2 ⟨by omega, hf⟩;simp at this;rcases this with h' | ⟨a, h'⟩
  ·omega
  ·have := h2.1 pre.length (by simp; exact ⟨a, h'⟩); omega
def spin : Nat -> List Pl -> Nat -> List Pl × Nat
 | 0, pl, h => (pl, h)
 | f + 1, pl, h => match pl[h]? with
  | some p => if p.marked then spin f (pl.set h { p with marked := false }) ((h + 1) % pl.length) else (pl, h)
  | none => (pl, h)
structure Put where
 pl : List Pl
 hand : Nat
 gone : Option Pl
def putM (pl : List Pl) (hand : Nat) (key : Int) (v : Pg) : Put :=
 match find pl key with
 | some i => ⟨pl.set i ⟨key, v, true, true⟩, hand, none⟩
 | none => match empty pl with
  | some i => ⟨pl.set i ⟨key, v, true, true⟩, hand, none⟩
  | none => let s := spin pl.length pl hand
   ⟨s.1.set s.2 ⟨key, v, true, true⟩, (s.2 + 1) % pl.length, s.1[s.2]?⟩
end
section
open Go.RowKit
variable {pl : List Pl} {k : Int} {bc bm bp h hand i : Nat} {tc tp : TypeId} {w : World}
theorem find_iff (hn : Nd pl) (k : Int) (i : Nat) : find pl k = some i ↔ ∃ p, pl[i]? = some p /\ p.full = true /\ p.key = k := by
 constructor
 ·exact find_some
 ·rintro ⟨p, hp, hf, hk⟩;cases h : find pl k with
  | none =>
   rw [find, List.findIdx?_eq_none_iff] at h;have := h p (gM hp);simp [hf, hk] at this
  | some j =>
   obtain ⟨q, hq, hqf, hqk⟩ := find_some h;rw [hn i j p q hp hq hf hqf (by rw [hk, hqk])]
theorem find_eq (hn : Nd pl) {x : Option Nat} (h : ∀ i, (∃ p, pl[i]? = some p /\ p.full = true /\ p.key = k) ↔ x = some i) : find pl k = x := by
 apply Option.ext;intro i;rw [find_iff hn, h]
variable {p : Pl}
theorem get_set (hp : pl[i]? = some p) (q : Pl) (j : Nat) : (pl.set i q)[j]? = if i = j then some q else pl[j]? := by
 rw [List.getElem?_set];split
 ·rename_i h; subst h; simp [(gI.1 hp).1]
 ·rfl
theorem find_none (h : find pl k = none) (hp : pl[i]? = some p) (hf : p.full = true) : p.key ≠ k := by
 rw [find, List.findIdx?_eq_none_iff] at h;have := h p (gM hp);intro e;simp [hf, e] at this
theorem nd_set (hn : Nd pl) (hp : pl[i]? = some p) (q : Pl) (h : q.full = true -> (p.full = true /\ q.key = p.key) \/ find pl q.key = none) : Nd (pl.set i q) := by
 intro a b x y hx hy hxf hyf hk;rw [get_set hp] at hx hy;split at hx <;> split at hy
 ·omega
 ·rename_i h1 h2;cases hx;rcases h hxf with ⟨h3, h4⟩ | h3
  ·subst h1; exact hn _ _ p y hp hy h3 hyf (by rw [<- hk, h4])
  ·exact absurd hk.symm (find_none h3 hy hyf)
 ·rename_i h1 h2;cases hy;rcases h hyf with ⟨h3, h4⟩ | h3
  ·subst h2; exact hn _ _ x p hx hp hxf h3 (by rw [hk, h4])
  ·exact absurd hk (find_none h3 hx hxf)
 ·exact hn a b x y hx hy hxf hyf hk
theorem find_set (hn : Nd pl) (hp : pl[i]? = some p) (q : Pl) (h : q.full = true -> (p.full = true /\ q.key = p.key) \/ find pl q.key = none) (k : Int) :
  find (pl.set i q) k = if q.full = true /\ q.key = k then some i else if p.full = true /\ p.key = k then none else find pl k := by
 refine find_eq (nd_set hn hp q h) fun j => ?_
 constructor
 ·rintro ⟨x, hx, hf, hk⟩;rw [get_set hp] at hx;split at hx
  ·rename_i e; subst e; cases hx; rw [if_pos ⟨hf, hk⟩]
  ·rename_i e;have h1 : ¬ (q.full = true /\ q.key = k) := by
    rintro ⟨a, b⟩;rcases h a with ⟨c, d⟩ | c
    ·exact e (hn _ _ p x hp hx c hf (by rw [<- d, b, hk]))
    ·exact find_none c hx hf (by rw [hk, b])
   have h2 : ¬ (p.full = true /\ p.key = k) := fun ⟨a, b⟩ => e (hn _ _ p x hp hx a hf (by rw [b, hk]))
   rw [if_neg h1, if_neg h2, find_iff hn];exact ⟨x, hx, hf, hk⟩
 ·intro hj;split at hj
  ·rename_i e; cases hj; exact ⟨q, by rw [get_set hp, if_pos rfl], e.1, e.2⟩
  ·rename_i e;split at hj
   ·cases hj
   ·rename_i e2;obtain ⟨x, hx, hf, hk⟩ := find_some hj;refine ⟨x, ?_, hf, hk⟩;rw [get_set hp, if_neg]
    ·exact hx
    ·rintro rfl; rw [hp] at hx; cases hx; exact e2 ⟨hf, hk⟩
theorem count_set (hp : pl[i]? = some p) (q : Pl) :
  (pl.set i q).countP (·.full) = pl.countP (·.full) - (if p.full = true then 1 else 0) + if q.full = true then 1 else 0 := by
 obtain ⟨hi, rfl⟩ := gI.1 hp;rw [List.countP_set hi]
theorem count_pos (hp : pl[i]? = some p) (hf : p.full = true) : 0 < pl.countP (·.full) :=
 List.countP_pos_iff.2 ⟨p, gM hp, hf⟩
section
variable {tc tp : TypeId} {ok : Pg -> Prop} {w w' : World} {bc bp bm hand : Nat} {pl : List Pl}
theorem At.fr {S : Nat -> Prop} (h : At tc tp ok w bc bp bm pl hand) (hf : Fr S w w') (h1 : ¬ S bc) (h2 : ¬ S bp) (h3 : ¬ S bm) : At tc tp ok w' bc bp bm pl hand := by
 obtain ⟨l, ck, hm, r⟩ := h.m;exact ⟨hf.heap h.c h1, hf.heap h.p h2, ⟨l, ck, hf.heap hm h3, r⟩, h.room, h.hand, h.vs, h.nd⟩
theorem At.ne (h : At tc tp ok w bc bp bm pl hand) : bc ≠ bp /\ bc ≠ bm /\ bp ≠ bm := by
 obtain ⟨l, ck, hm, r⟩ := h.m;have hc := h.c;have hp := h.p;have hr := h.room;refine ⟨?_, ?_, ?_⟩
 ·rintro rfl;rw [hc] at hp;cases hp' : pl with
  | nil => simp [hp'] at hr
  | cons x r =>
   rw [hp'] at hp;simp [cellsOf, Pl.cells] at hp
 ·rintro rfl; rw [hc] at hm; cases hm
 ·rintro rfl; rw [hp] at hm; cases hm
theorem At.set (h : At tc tp ok w bc bp bm pl hand) {i : Nat} {p : Pl} (hp : pl[i]? = some p) (j : Nat) (hj : j < 6) (v : Value) (q : Pl) (hq : p.cells.set j v = q.cells)
  (hk : q.key = p.key) (hf : q.full = p.full) (hv : ok q.v) : At tc tp ok (w.setCell ⟨bp, i * 6 + j, none⟩ v) bc bp bm (pl.set i q) hand := by
 obtain ⟨n1, n2, n3⟩ := h.ne;obtain ⟨l, ck, hm, hnd, hl, hc⟩ := h.m;have hs : q.full = true -> (p.full = true /\ q.key = p.key) \/ find pl q.key = none := fun a => .inl ⟨by rw [<- hf, a], hk⟩
 refine ⟨?_, ?_, ⟨l, ck, ?_, hnd, fun k => ?_, ?_⟩, by simpa using h.room, by simpa using h.hand, fun x hx => ?_, nd_set h.nd hp q hs⟩
 ·rw [heap_setCell_ne _ _ _ _ (by simpa using n1.symm), h.c]; simp
 ·rw [hsc _ _ _ _ h.p, cells_set hp j hj v q hq]
 ·rw [heap_setCell_ne _ _ _ _ (by simpa using n3), hm]
 ·rw [hl, find_set h.nd hp q hs, hk, hf];split
  ·rename_i e; rw [(find_iff h.nd k i).2 ⟨p, hp, e.1, e.2⟩]
  ·rfl
 ·rw [hc, count_set hp, hf];split
  ·rename_i e; have := count_pos hp e; omega
  ·omega
 ·rcases List.mem_or_eq_of_mem_set hx with h' | rfl
  ·exact h.vs x h'
  ·exact hv
end
def marks (pl : List Pl) : Nat := pl.countP (·.marked)
theorem marks_le (pl : List Pl) : marks pl <= pl.length := List.countP_le_length
theorem marks_pos (hp : pl[i]? = some p) (hf : p.marked = true) : 0 < marks pl :=
 List.countP_pos_iff.2 ⟨p, gM hp, hf⟩
theorem marks_set (hp : pl[i]? = some p) (hm : p.marked = true) : marks (pl.set i { p with marked := false }) + 1 = marks pl := by
 have := marks_pos hp hm;obtain ⟨hi, rfl⟩ := gI.1 hp;rw [marks, List.countP_set hi];rw [marks] at this;simp [marks, hm];omega
theorem spin_mark {k : Nat} (hp : pl[h]? = some p) (hm : p.marked = true) : spin (k + 1) pl h = spin k (pl.set h { p with marked := false }) ((h + 1) % pl.length) := by
 simp [spin, hp, hm]
theorem spin_stop {k : Nat} (hp : pl[h]? = some p) (hm : p.marked = false) : spin k pl h = (pl, h) := by
 cases k <;> simp [spin, hp, hm]
variable {ok : Pg -> Prop}
theorem At.turn (h : At tc tp ok w bc bp bm pl hand) {n : Nat} (hn : n < pl.length) :
  At tc tp ok (w.setCell ⟨bc, 2, none⟩ (.int .i64 n)) bc bp bm pl n := by
 obtain ⟨n1, n2, n3⟩ := h.ne;obtain ⟨l, ck, hm, r⟩ := h.m;refine ⟨?_, ?_, ⟨l, ck, ?_, r⟩, h.room, hn, h.vs, h.nd⟩
 ·rw [hsc _ _ _ _ h.c]; simp
 ·rw [heap_setCell_ne _ _ _ _ (by simpa using n1), h.p]
 ·rw [heap_setCell_ne _ _ _ _ (by simpa using n2), hm]
theorem At.drewN (h : At tc tp ok w bc bp bm pl hand) (n : Nat) : At tc tp ok (w.drewN n) bc bp bm pl hand := ⟨h.c, h.p, h.m, h.room, h.hand, h.vs, h.nd⟩
section
variable {tc tp : TypeId} {ok : Pg -> Prop} {w w' : World} {bc bp bm hand : Nat} {pl : List Pl}
variable {W : World} {i : Nat} {p : Pl}
theorem heap_place (h : W.heap[bp]? = some (.cells (cellsOf pl) tp)) (hp : pl[i]? = some p) (q : Pl) :
  ((((((W.setCell ⟨bp, i * 6, none⟩ (.int .i64 q.key)).setCell ⟨bp, i * 6 + 1, none⟩ (.int .i64 q.v.stamp)).setCell ⟨bp, i * 6 + 2, none⟩ q.v.load).setCell ⟨bp, i * 6 + 3, none⟩ (.bool q.v.dirty)).setCell ⟨bp, i * 6 + 4, none⟩ (.bool q.full)).setCell ⟨bp, i * 6 + 5, none⟩ (.bool q.marked)).heap[bp]? =
   some (.cells (cellsOf (pl.set i q)) tp) := by
 rw [hsc _ _ _ _ (hsc _ _ _ _ (hsc _ _ _ _ (hsc _ _ _ _ (hsc _ _ _ _ (hsc _ _ _ _ h)))))];have at_ : ∀ r : Pl, (pl.set i r)[i]? = some r := fun r => by rw [get_set hp, if_pos rfl]
 have s0 := cells_set hp 0 (by omega) (.int .i64 q.key) { p with key := q.key } rfl;have s1 := cells_set (at_ { p with key := q.key }) 1 (by omega) (.int .i64 q.v.stamp) ⟨q.key, { p.v with stamp := q.v.stamp }, p.full, p.marked⟩ rfl;have s2 := cells_set (at_ ⟨q.key, { p.v with stamp := q.v.stamp }, p.full, p.marked⟩) 2 (by omega) q.v.load ⟨q.key, ⟨q.v.stamp, q.v.la, q.v.ll, q.v.lc, p.v.dirty⟩, p.full, p.marked⟩ rfl;have s3 := cells_set (at_ ⟨q.key, ⟨q.v.stamp, q.v.la, q.v.ll, q.v.lc, p.v.dirty⟩, p.full, p.marked⟩) 3 (by omega) (.bool q.v.dirty) ⟨q.key, q.v, p.full, p.marked⟩ rfl;have s4 := cells_set (at_ ⟨q.key, q.v, p.full, p.marked⟩) 4 (by omega) (.bool q.full) ⟨q.key, q.v, q.full, p.marked⟩ rfl;have s5 := cells_set (at_ ⟨q.key, q.v, q.full, p.marked⟩) 5 (by omega) (.bool q.marked) q rfl;simp only [List.set_set, Nat.add_zero] at s0 s1 s2 s3 s4 s5;rw [s0, s1, s2, s3, s4, s5]
theorem At.place (h : At tc tp ok w bc bp bm pl hand) (hp : pl[i]? = some p) (q : Pl) (hq : q.full = true -> (p.full = true /\ q.key = p.key) \/ find pl q.key = none) (hv : ok q.v) {hand' : Nat} (hh : hand' < pl.length)
  (hc : W.heap[bc]? = some (.cells #[.slice (some ⟨bp, 0, none⟩) pl.length pl.length, .map (some bm), .int .i64 hand'] tc)) (hb : W.heap[bp]? = some (.cells (cellsOf (pl.set i q)) tp)) {l' : List Ent} {ck' : Nat} (hm : W.heap[bm]? = some (.map (ents l') ck')) (hnd : (keys l').Nodup)
  (hl : ∀ k, look l' k = if q.full = true /\ q.key = k then some (.int .i64 i) else if p.full = true /\ p.key = k then none else (find pl k).map fun i => .int .i64 i)
  (hn : l'.length = pl.countP (·.full) - (if p.full = true then 1 else 0) + if q.full = true then 1 else 0) : At tc tp ok W bc bp bm (pl.set i q) hand' := by
 refine ⟨by simpa using hc, hb, ⟨l', ck', hm, hnd, fun k => ?_, ?_⟩, by simpa using h.room, by simpa using hh, fun x hx => ?_, nd_set h.nd hp q hq⟩
 ·rw [hl, find_set h.nd hp q hq];split
  ·rfl
  ·split <;> rfl
 ·rw [hn, count_set hp]
 ·rcases List.mem_or_eq_of_mem_set hx with h' | rfl
  ·exact h.vs x h'
  ·exact hv
end
end
section
section
variable {tc tp : TypeId} {ok : Pg -> Prop} {w w' : World} {bc bp bm hand : Nat} {pl : List Pl}
theorem At.c0 (h : At tc tp ok w bc bp bm pl hand) : w.cell? ⟨bc, 0, none⟩ = some (.slice (some ⟨bp, 0, none⟩) pl.length pl.length) := by simpa using coh h.c 0
theorem At.c1 (h : At tc tp ok w bc bp bm pl hand) : w.cell? ⟨bc, 1, none⟩ = some (.map (some bm)) := by simpa using coh h.c 1
variable {i : Nat} {p : Pl}
theorem At.k0 (h : At tc tp ok w bc bp bm pl hand) (hp : pl[i]? = some p) : w.cell? ⟨bp, i * 6, none⟩ = some (.int .i64 p.key) := by
 have := coh h.p (i * 6 + 0); rw [cells_get hp 0 (by omega)] at this; simpa [Pl.cells] using this
theorem At.k1 (h : At tc tp ok w bc bp bm pl hand) (hp : pl[i]? = some p) : w.cell? ⟨bp, i * 6 + 1, none⟩ = some (.int .i64 p.v.stamp) := by
 have := coh h.p (i * 6 + 1); rw [cells_get hp 1 (by omega)] at this; simpa [Pl.cells] using this
theorem At.k2 (h : At tc tp ok w bc bp bm pl hand) (hp : pl[i]? = some p) : w.cell? ⟨bp, i * 6 + 2, none⟩ = some (.slice p.v.la p.v.ll p.v.lc) := by
 have := coh h.p (i * 6 + 2); rw [cells_get hp 2 (by omega)] at this; simpa [Pl.cells] using this
theorem At.k3 (h : At tc tp ok w bc bp bm pl hand) (hp : pl[i]? = some p) : w.cell? ⟨bp, i * 6 + 3, none⟩ = some (.bool p.v.dirty) := by
 have := coh h.p (i * 6 + 3); rw [cells_get hp 3 (by omega)] at this; simpa [Pl.cells] using this
theorem At.k4 (h : At tc tp ok w bc bp bm pl hand) (hp : pl[i]? = some p) : w.cell? ⟨bp, i * 6 + 4, none⟩ = some (.bool p.full) := by
 have := coh h.p (i * 6 + 4); rw [cells_get hp 4 (by omega)] at this; simpa [Pl.cells] using this
theorem At.k5 (h : At tc tp ok w bc bp bm pl hand) (hp : pl[i]? = some p) : w.cell? ⟨bp, i * 6 + 5, none⟩ = some (.bool p.marked) := by
 have := coh h.p (i * 6 + 5); rw [cells_get hp 5 (by omega)] at this; simpa [Pl.cells] using this
theorem At.zp (h : At tc tp ok w bc bp bm pl hand) (o : Nat) : w.frozen? ⟨bp, o, none⟩ = false := foh h.p o
end
def Pl.unmark (p : Pl) : Pl := { p with marked := false }
theorem spin_same (f : Nat) : ∀ (pl : List Pl) (h : Nat), (spin f pl h).1.map Pl.unmark = pl.map Pl.unmark := by
 induction f with
 | zero => intro pl h; rfl
 | succ f ih =>
  intro pl h;unfold spin;split
  ·rename_i p hp;split
   ·rw [ih, List.map_set];obtain ⟨hi, rfl⟩ := gI.1 hp;apply List.ext_getElem?;intro j;rw [List.getElem?_set];split
    ·rename_i e; subst e; simp [hi, Pl.unmark]
    ·rfl
   ·rfl
  ·rfl
theorem spin_len (f : Nat) (pl : List Pl) (h : Nat) : (spin f pl h).1.length = pl.length := by
 have := congrArg List.length (spin_same f pl h); simpa using this
theorem spin_lt (f : Nat) : ∀ (pl : List Pl) (h : Nat), h < pl.length -> (spin f pl h).2 < pl.length := by
 induction f with
 | zero => intro pl h hh; exact hh
 | succ f ih =>
  intro pl h hh;unfold spin;split
  ·rename_i p hp;split
   ·have := ih (pl.set h { p with marked := false }) ((h + 1) % pl.length) (by rw [List.length_set]; exact Nat.mod_lt _ (by omega));simpa using this
   ·exact hh
  ·exact hh
variable {pl : List Pl}
theorem spin_get {f : Nat} {h : Nat} (j : Nat) : ((spin f pl h).1[j]?).map Pl.unmark = (pl[j]?).map Pl.unmark := by
 rw [<- gP, <- gP, spin_same]
theorem find_unmark (pl : List Pl) (k : Int) : find pl k = find (pl.map Pl.unmark) k := by
 simp only [find, List.findIdx?_map]; rfl
theorem spin_find (f : Nat) (pl : List Pl) (h : Nat) (k : Int) : find (spin f pl h).1 k = find pl k := by
 rw [find_unmark, spin_same, <- find_unmark]
theorem empty_unmark (pl : List Pl) : empty pl = empty (pl.map Pl.unmark) := by
 simp only [empty, List.findIdx?_map]; rfl
theorem spin_empty (f : Nat) (pl : List Pl) (h : Nat) : empty (spin f pl h).1 = empty pl := by
 rw [empty_unmark, spin_same, <- empty_unmark]
theorem full_of_empty (h : empty pl = none) {i : Nat} {p : Pl} (hp : pl[i]? = some p) : p.full = true := by
 rw [empty, List.findIdx?_eq_none_iff] at h;have := h p (gM hp);simpa using this
theorem putM_full {hand : Nat} {key : Int} {v : Pg} (hf : find pl key = none) (he : empty pl = none) :
  putM pl hand key v = ⟨(spin pl.length pl hand).1.set (spin pl.length pl hand).2 ⟨key, v, true, true⟩, ((spin pl.length pl hand).2 + 1) % pl.length, (spin pl.length pl hand).1[(spin pl.length pl hand).2]?⟩ := by
 simp [putM, hf, he]
end
section
open Go.RowKit
theorem cells_made (n : Nat) : madeCells #[.int .i64 0, .int .i64 0, .slice none 0 0, .bool false, .bool false, .bool false] (n * 6) = cellsOf (List.replicate n (Pl.none Pg.zero)) := by
 apply Array.ext
 ·rw [size_madeCells, size_cells]; simp
 ·intro i h1 h2;have hi : i < n * 6 := by simpa [size_madeCells] using h1
  have e : (cellsOf (List.replicate n (Pl.none Pg.zero)))[i]? = (Pl.none Pg.zero).cells[i % 6]? := by
   have hd : i = i / 6 * 6 + i % 6 := by omega
   have hq : (List.replicate n (Pl.none Pg.zero))[i / 6]? = some (Pl.none Pg.zero) := by rw [List.getElem?_replicate, if_pos (by omega)]
   have := cells_get hq (i % 6) (by omega);rw [<- hd] at this;exact this
  rw [Array.getElem?_eq_getElem h2] at e;have h4 : i % 6 < 6 := by omega
  have e2 : (Pl.none Pg.zero).cells[i % 6]? = some ((Pl.none Pg.zero).cells[i % 6]'(by simp [Pl.cells]; omega)) := gE _;rw [e2] at e;rw [Option.some.inj e];simp [madeCells, Pl.cells, Pl.none, Pg.zero, getElem!_def];generalize i % 6 = j at *
  match j, h4 with
  | 0, _ => rfl
  | 1, _ => rfl
  | 2, _ => rfl
  | 3, _ => rfl
  | 4, _ => rfl
  | 5, _ => rfl
theorem At.fresh {tc tp : TypeId} {ok : Pg -> Prop} {w : World} {n : Nat} (hz : ok Pg.zero) (h1 : 1 <= n) (h2 : n <= 4096) :
  At tc tp ok (((w.alloc (.cells (madeCells #[.int .i64 0, .int .i64 0, .slice none 0 0, .bool false, .bool false, .bool false] (n * 6)) tp)).alloc (.map #[] 0)).alloc (.cells #[.slice (some ⟨w.heap.size, 0, none⟩) n n, .map (some (w.heap.size + 1)), .int .i64 0] tc))
   (w.heap.size + 2) w.heap.size (w.heap.size + 1) (List.replicate n (Pl.none Pg.zero)) 0 := by
 refine ⟨?_, ?_, ⟨[], 0, ?_, by simp [keys], fun k => ?_, ?_⟩, by simp; omega, by simp; omega, fun p hp => ?_, ?_⟩
 ·have := han ((w.alloc (.cells (madeCells #[.int .i64 0, .int .i64 0, .slice none 0 0, .bool false, .bool false, .bool false] (n * 6)) tp)).alloc (.map #[] 0)) (.cells #[.slice (some ⟨w.heap.size, 0, none⟩) n n, .map (some (w.heap.size + 1)), .int .i64 0] tc);simp only [World.size_alloc] at this;simpa using this
 ·rw [heap_alloc_lt _ _ _ (by simp; omega), heap_alloc_lt _ _ _ (by simp), han, cells_made]
 ·have := han (w.alloc (.cells (madeCells #[.int .i64 0, .int .i64 0, .slice none 0 0, .bool false, .bool false, .bool false] (n * 6)) tp)) (.map #[] 0);simp only [World.size_alloc] at this;rw [heap_alloc_lt _ _ _ (by simp), this];rfl
 ·have : find (List.replicate n (Pl.none Pg.zero)) k = none := by
   rw [find, List.findIdx?_eq_none_iff];intro p hp;rw [List.eq_of_mem_replicate hp]; rfl
  rw [this]; rfl
 ·simp [List.countP_replicate, Pl.none]
 ·rw [List.eq_of_mem_replicate hp]; exact hz
 ·intro i j p q hp _ hf;rw [List.eq_of_mem_replicate (gM hp)] at hf;cases hf
end
end Go.Sg.Clk
namespace Go.Proofs.YtgdhaaokolfdoaaGreatDoor
section
theorem Tryz.zero3 (w : World) : (zeroValue 3).run Tryz.prog w = .ok (.int .i64 0) w := by kernel_rfl
namespace CP
open Go.RowKit Go.Sg Go.Sg.Clk Go.Shelf
attribute [local go_sem] Oper.semAt_some
def isP (_ : Pg) : Prop := True
abbrev AtP := At 260 264 isP
variable {w : World} {bc bm bp hand : Nat} {pl : List Pl}
theorem find_at (h : AtP w bc bp bm pl hand) (key : Int) :
  Calls Tryz.prog 154 #[.pointer (some ⟨bc, 0, none⟩), .int .i64 key] w fun e w' => e = .returned (.pointer ((find pl key).map fun i => ⟨bp, i * 6, none⟩)) /\ w = w' := by
 obtain ⟨l, ck, hm, -, hlook, -⟩ := h.m;have h0 := coh h.c 0;have h1 := coh h.c 1;simp at h0 h1;have hl := run_lookup (P := Tryz.prog) (T := 258) true Tryz.underlying258 Tryz.underlying3 Tryz.zero3 hm key;rw [hlook] at hl;have hr := h.room;cases hf : find pl key with
 | none =>
  rw [hf] at hl;simp at hl;clear hf hlook hm h;go_enter Tryz.func154, Tryz.ntmps154;go_wp2
  go_ret;exact ⟨rfl, rfl⟩
 | some i =>
  rw [hf] at hl;simp at hl;have hi : i < pl.length := by
   obtain ⟨p, hp, -⟩ := find_some hf;exact (gI.1 hp).1
  clear hf hlook hm h;go_enter Tryz.func154, Tryz.ntmps154;go_wp2
  go_ret;exact ⟨rfl, rfl⟩
def lookM (pl : List Pl) (key : Int) : Pg := ((find pl key).bind fun i => (pl[i]?).map (·.v)).getD Pg.zero
theorem look_at (h : AtP w bc bp bm pl hand) (key : Int) :
  Calls Tryz.prog 155 #[.pointer (some ⟨bc, 0, none⟩), .int .i64 key] w fun e w' => e = .returned (.tuple #[(lookM pl key).val, .bool (find pl key).isSome]) /\ Fq w w' := by
 have F := hid (fun W (FW : Fq w W) => find_at (h.fr FW (fun h => h) (fun h => h) (fun h => h)) key);cases hf : find pl key with
 | none =>
  rw [hf] at F;have e2 : lookM pl key = Pg.zero := by simp [lookM, hf]
  have E2 := hid e2;clear hf h e2;go_enter Tryz.func155, Tryz.ntmps155;go_wp2_with (go_at_call 154; refine (F.out _ ((Fr.refl _ _).alloc _)).mono ?_; rintro e w' ⟨rfl, rfl⟩)
  try simp only [Exit.inBlock, Exit.then]
  refine bodyPost_ret (v := .tuple #[Pg.zero.val, .bool false]) (by simp [results, go_sem, Pg.zero, *]) rfl ⟨by rw [E2.out]; rfl, ((Fr.refl _ _).alloc _).alloc _⟩
 | some i =>
  rw [hf] at F;obtain ⟨p, hp, -⟩ := find_some hf;have c1 := h.k1 hp;have c2 := h.k2 hp;have c3 := h.k3 hp;have e2 : lookM pl key = p.v := by simp [lookM, hf, hp]
  have E2 := hid e2;have hbp := loh h.p;clear hf h e2 hp;go_enter Tryz.func155, Tryz.ntmps155;go_wp2_with (go_at_call 154; refine (F.out _ ((Fr.refl _ _).alloc _)).mono ?_; rintro e w' ⟨rfl, rfl⟩)
  refine bodyPost_ret (v := .tuple #[p.v.val, .bool true]) (by simp [results, go_sem, *]) rfl ⟨by rw [E2.out]; rfl, ?_⟩;first | exact (Fr.refl _ _).alloc _ | (refine Fr.setNew (Fr.setNew (Fr.setNew ((Fr.refl _ _).alloc _) ?_ _) ?_ _) ?_ _ <;> omega)
theorem full_any (a : Option Addr) (w : World) :
  Calls Tryz.prog 228 #[.pointer a] w fun e w' => e = .returned (.func (.func 268) #[] #[.pointer (some ⟨w.heap.size, 0, none⟩)]) /\ w.alloc (.cells #[.pointer a] 154) = w' := by
 go_enter Tryz.func228, Tryz.ntmps228;go_wp2
 go_ret;exact ⟨rfl, rfl⟩
abbrev encP (x : Nat × Pl) : Array Value := #[.int .i64 x.1, .agg #[.int .i64 x.2.key, .int .i64 x.2.v.stamp, .slice x.2.v.la x.2.v.ll x.2.v.lc, .bool x.2.v.dirty, .bool x.2.full, .bool x.2.marked]]
theorem fullf_stops {bx : Nat} (h : AtP w bc bp bm pl hand) (hx : w.cell? ⟨bx, 0, none⟩ = some (.pointer (some ⟨bc, 0, none⟩))) :
  SeqStopsK Fence.wide 9 Tryz.prog 268 #[.pointer (some ⟨bx, 0, none⟩)] encP (fun W W' => W'.heap[bp]? = W.heap[bp]?) (fun xs => xs = fullAt pl.length pl) (fun pre => pre <+: fullAt pl.length pl) pl.length w := fun l J Jx W hW hJ _ hY h0 => by
 have hr := h.room;have hbp := loh h.p;have hx' := (hW.cell (p := ⟨bx, 0, none⟩) (World.block_lt_of_cell? _ _ hx)).trans hx;have hc0 := (hW.cell (p := ⟨bc, 0, none⟩) (loh h.c)).trans (coh h.c 0);simp at hc0;have hp := (hW.block bp hbp).trans h.p;clear hx hW;refine callsIn_of_wp Tryz.func268 rfl trivial ?_ rfl;simp only [Tryz.ntmps268, zA, lC, List.length_nil, Nat.reduceAdd, Nat.reduceSub, Array.replicate_succ, Array.replicate_zero, List.push_toArray, List.append_toArray, List.nil_append, List.cons_append];gi_wp2
 gi_loopw [10] (fun i wr => ∃ k : Nat, k <= pl.length /\ i = .int .i64 k /\ J (fullAt k pl) wr /\ wr.heap[bp]? = some (.cells (cellsOf pl) 264)) (fun i _ => pl.length - (intOf i).toNat)
 case atStart => exact ⟨0, Nat.zero_le _, rfl, h0, hp⟩
 case round =>
  obtain ⟨k, hk, rfl, hJs, hps⟩ := hrel;by_cases hlt : k < pl.length
  ·obtain ⟨⟨key, v, ful, mk⟩, hp⟩ : ∃ p, pl[k]? = some p := ⟨_, gE hlt⟩
   obtain ⟨sta, la, ll, lc, di⟩ := v;have c0 := coh hps (k * 6 + 0);have c1 := coh hps (k * 6 + 1);have c2 := coh hps (k * 6 + 2);have c3 := coh hps (k * 6 + 3);have c4 := coh hps (k * 6 + 4);have c5 := coh hps (k * 6 + 5);rw [cells_get hp _ (by omega)] at c0 c1 c2 c3 c4 c5;simp [Pl.cells] at c0 c1 c2 c3 c4 c5;have hs := fullAt_succ k pl _ hp;have HS := hid hs;have HP := hid hps;have hbw := loh hps;clear hs hps hp;cases ful with
   | false =>
    gi_wp2
    go_roundw;case rel => exact ⟨k + 1, by omega, by simp, by rw [HS.out]; exact hJ _ _ _ none hJs (World.grownBy_alloc _ _ _) (fun r e => by cases e), (heap_alloc_lt _ _ _ hbw).trans HP.out⟩
    case measure => simp [intOf]; omega
   | true =>
    obtain ⟨fn, tmps, assign, body, hy, hR⟩ := hY _ (k, ⟨key, ⟨sta, la, ll, lc, di⟩, true, mk⟩) (wr.alloc (.cells #[.int .i64 key, .int .i64 sta, .slice la ll lc, .bool di, .bool true, .bool mk] 264)) (hJ _ _ _ none hJs (World.grownBy_alloc _ _ _) (fun r e => by cases e)) (Nat.lt_of_le_of_lt (fullAt_len _ _) hlt);dsimp only [encP] at hy;gi_wp2
    refine hR.mono ?_;rintro e W3 (⟨rfl, hJ3, hk3⟩ | ⟨rfl, hJx3⟩)
    ·gi_wp2
     go_roundw;case rel => exact ⟨k + 1, by omega, by simp, by rw [HS.out]; exact hJ3, (hk3.trans (heap_alloc_lt _ _ _ hbw)).trans HP.out⟩
     case measure => simp [intOf]; omega
    ·gi_wp2
     refine bodyPost_ret (results_none rfl _ _ _) rfl ?_;exact ⟨⟨_, rfl⟩, .inr ⟨_, (by have := fullAt_prefix pl (k + 1) pl.length (by omega) (nR _); rw [HS.out] at this; exact this), hJx3⟩⟩
  ·obtain rfl : k = pl.length := by omega
   gi_wp2
   go_end0
   exact ⟨⟨_, rfl⟩, .inl ⟨_, rfl, hJs⟩⟩
theorem empty_at (h : AtP w bc bp bm pl hand) :
  Calls Tryz.prog 171 #[.pointer (some ⟨bc, 0, none⟩)] w fun e w' => e = .returned (.int .i64 (emptyI pl)) /\ Fq w w' := by
 refine (callsIn_wide (n := 10)).1 ?_;have hr := h.room;have F := hid (full_any (some ⟨bc, 0, none⟩) (w.alloc (.cells #[.int .i64 0] 3)));refine callsIn_of_wp_marks Tryz.func171 rfl trivial ?_ rfl;simp only [Tryz.ntmps171, zA, lC, List.length_nil, Nat.reduceAdd, Nat.reduceSub, Array.replicate_succ, Array.replicate_zero, List.push_toArray, List.append_toArray, List.nil_append, List.cons_append];gi_wp2_with (gi_at_call 228; refine (callsIn_wide.2 F.out).mono ?_; rintro e w' ⟨rfl, rfl⟩)
 obtain ⟨W0, hW0⟩ : ∃ W0, (w.alloc (.cells #[.int .i64 0] 3)).alloc (.cells #[.pointer (some ⟨bc, 0, none⟩)] 154) = W0 := ⟨_, rfl⟩
 have hF0 : Fq w W0 := by rw [<- hW0]; exact ((Fr.refl _ w).alloc _).alloc _
 have hsz : W0.heap.size = w.heap.size + 1 + 1 := by rw [<- hW0]; simp
 have hnx : W0.heap[w.heap.size]? = some (.cells #[.int .i64 0] 3) := by rw [<- hW0]; exact (heap_alloc_lt _ _ _ (by simp)).trans (han _ _)
 have hbx : W0.cell? ⟨w.heap.size + 1, 0, none⟩ = some (.pointer (some ⟨bc, 0, none⟩)) := by rw [<- hW0]; simp [go_sem]
 have h0 : AtP W0 bc bp bm pl hand := h.fr hF0 (fun h => h) (fun h => h) (fun h => h);have hbp := loh h0.p;simp only [hW0];refine wpIn_rangeFunc_ownG (F := Fence.wide) rfl (by omega) (gf := 268) (lb := #[.pointer (some ⟨w.heap.size + 1, 0, none⟩)]) rfl trivial (enters_of Tryz.func268 (by kernel_rfl) rfl)
  (fullf_stops h0 hbx) (fun h k => k.trans h) (fun W l o o' hl _ _ _ => hpj _ _ _ _ (by omega)) (Below.refl _ _) (fun _ => rfl)
  (fun pre W => (W.heap[w.heap.size]? = some (.cells #[.int .i64 pre.length] 3) /\ Fq w W) /\ pre.map (·.1) = List.range pre.length)
  (fun c pre W => (∃ k : Nat, (W.heap[w.heap.size]? = some (.cells #[.int .i64 k] 3) /\ Fq w W) /\ ∃ pre0 x, pre = pre0 ++ [x] /\ pre0.length = k /\ pre0.map (·.1) = List.range k /\ x.1 ≠ k) /\ c = .exit 0)
  (own_and (own_and (own_block _ _ _ (fun _ => .inl rfl)) (own_fr (by omega))) (own_pure _ _))
  (fun c => own_and (own_ex fun k => own_and (own_and (own_block _ _ _ (fun _ => .inl rfl)) (own_fr (by omega))) (own_pure _ _)) (own_pure _ _))
  ⟨⟨hnx, hF0⟩, rfl⟩
  (fun x => { tmps := #[.pointer (some ⟨bc, 0, none⟩), undef, .int .i64 0, .pointer (some ⟨w.heap.size, 0, none⟩), .int .i64 x.1, .pointer (some ⟨bc, 0, none⟩), .func (.func 268) #[] #[.pointer (some ⟨w.heap.size + 1, 0, none⟩)], .int .i64 x.1, .agg #[.int .i64 x.2.key, .int .i64 x.2.v.stamp, .slice x.2.v.la x.2.v.ll x.2.v.lc, .bool x.2.v.dirty, .bool x.2.full, .bool x.2.marked], undef, undef, undef, undef, undef, undef, undef, undef, undef, undef, undef, undef, undef], defers := [] }) ?assign ?body ?done ?stop
 case assign =>
  intro l x W K hK;gi_wp2
  exact hK
 case body =>
  rintro l pre x W ⟨⟨hn, hFr⟩, hpre⟩ hlen;have c0 := coh hn 0;have z0 := foh hn 0;simp at c0;have hw := loh hn;by_cases hx : x.1 = pre.length
  ·have hd : ((x.1 : Int) == (pre.length : Int)) = true := by simp [hx]
   have hX := hid hx;have HP := hid hpre;have HN := hid hn;clear hx hpre hn;gi_wp2
   refine ⟨(KeepsOthers.setCell _ _ _).from _, heap_setCell_ne _ _ _ _ (by have := loh h.p; simp; omega), ⟨?_, hFr.setCell (fun hh => absurd hh (Nat.lt_irrefl _)) _⟩, ?_⟩
   ·rw [hsc _ _ _ _ HN.out]; simp
   ·simp [HP.out, hX.out, List.range_succ]
  ·have hd : ((x.1 : Int) == (pre.length : Int)) = false := by simp; omega
   have hX := hid hx;have HP := hid hpre;have HN := hid hn;clear hx hpre hn;gi_wp2
   exact ⟨(KeepsOthers.refl _).from _, ⟨_, ⟨HN.out, hFr⟩, _, _, rfl, rfl, HP.out, hX.out⟩, rfl⟩
 case done =>
  rintro D ys W hD rfl ⟨⟨hn, hFr⟩, hpre⟩ hK;have c0 := coh hn 0;have z0 := foh hn 0;simp at c0;have e0 := (hFr.cell (p := ⟨bc, 0, none⟩) (loh h.c) (fun h => h)).trans (coh h.c 0);simp at e0;have hm := fullAt_len pl.length pl;by_cases hx : (fullAt pl.length pl).length = pl.length
  ·have hd : (((fullAt pl.length pl).length : Int) == (pl.length : Int)) = true := by simp [hx]
   have hX := hid hx;have HP := hid hpre;have HN := hid hn;clear hx hpre hn;gi_wp2
   gi_big_quiet_th (fail)
   gi_wp2
   refine marks_ret1 (t := 2) rfl (show (W.drewN nq).heap[D]? = _ from hK) ⟨by rw [emptyI_none (by rw [empty_of_done HP.out, if_pos hX.out])]; rfl, (hFr.drewN _).putObj (fun hh => by omega) _⟩
  ·have hd : (((fullAt pl.length pl).length : Int) == (pl.length : Int)) = false := by simp; omega
   have hX := hid hx;have HP := hid hpre;have HN := hid hn;clear hx hpre hn;gi_wp2
   gi_big_quiet_th (fail)
   gi_wp2
   refine marks_ret1 (t := 2) rfl (show (W.drewN nq).heap[D]? = _ from hK) ⟨by rw [emptyI_some (by rw [empty_of_done HP.out, if_neg hX.out])]; rfl, (hFr.drewN _).putObj (fun hh => by omega) _⟩
 case stop =>
  rintro D c pre W hD hSp ⟨⟨k, ⟨hn, hFr⟩, pre0, x, rfl, rfl, hpre, hne⟩, rfl⟩ hK;have c0 := coh hn 0;have z0 := foh hn 0;simp at c0;have e0 := (hFr.cell (p := ⟨bc, 0, none⟩) (loh h.c) (fun h => h)).trans (coh h.c 0);simp at e0;obtain ⟨he, hl⟩ := empty_of_stop hSp hpre hne;have hd : ((pre0.length : Int) == (pl.length : Int)) = false := by simp; omega
  have HE := hid he;have HS := hid hSp;have HP := hid hpre;have HN := hid hn;have HX := hid hne;clear hpre hn he hSp hne;gi_wp2
  gi_big_quiet_th (fail)
  gi_wp2
  refine marks_ret1 (t := 2) rfl (show (W.drewN nq).heap[D]? = _ from hK) ⟨by rw [emptyI_some HE.out]; rfl, (hFr.drewN _).putObj (fun hh => by omega) _⟩
def VictimPost (pl : List Pl) (hand bc bp bm : Nat) (w : World) (e : Ending) (w' : World) : Prop :=
 e = .returned (.int .i64 (spin pl.length pl hand).2) /\ AtP w' bc bp bm (spin pl.length pl hand).1 (((spin pl.length pl hand).2 + 1) % pl.length) /\ Fr (fun b => b = bc \/ b = bp) w w'
theorem victim_at (h : AtP w bc bp bm pl hand) :
  Calls Tryz.prog 172 #[.pointer (some ⟨bc, 0, none⟩)] w (VictimPost pl hand bc bp bm w) := by
 go_enter Tryz.func172, Tryz.ntmps172;go_wp2
 go_step3
 go_wp2
 go_step3
 go_wp2
 go_loopg [3] pl.length (fun k _ wr => ∃ (pl' : List Pl) (hd : Nat), pl'.length = pl.length /\ AtP wr bc bp bm pl' hd /\ Fr (fun b => b = bc \/ b = bp) w wr /\ spin k pl' hd = spin pl.length pl hand /\ marks pl' <= k)
 case atStart => exact ⟨pl, hand, rfl, h, Fr.refl _ _, rfl, marks_le _⟩
 case round =>
  obtain ⟨pl', hd, hlen, hA, hF, hs, hk⟩ := hrel;have hr := hA.room;have hh := hA.hand;obtain ⟨n1, n2, n3⟩ := hA.ne;have e0 := coh hA.c 0;have e2 := coh hA.c 2;have z2 := foh hA.c 2;simp at e0 e2;obtain ⟨p, hp⟩ : ∃ p, pl'[hd]? = some p := ⟨_, gE hh⟩
  have c3 := coh hA.p (hd * 6 + 5);have z3 := foh hA.p (hd * 6 + 5);rw [cells_get hp _ (by omega)] at c3;simp [Pl.cells] at c3;have HA := hid hA;have HS := hid hs;have HP := hid hp;have HL := hid hlen;have hmod := Nat.mod_lt (hd + 1) (show 0 < pl'.length by omega);clear hA hs hp hlen;have hc1 : ((hd : Int) + 1) % (pl'.length : Int) = (((hd + 1) % pl'.length : Nat) : Int) := by simp
  have HC := hid hc1;clear hc1;cases hm : p.marked with
  | true =>
   rw [hm] at c3;have HM := hid hm;have hpos := marks_pos HP.out hm;have hset := marks_set HP.out hm;clear hm;obtain ⟨g, rfl⟩ : ∃ g, gk = g + 1 := ⟨gk - 1, by omega⟩
   go_wp2
   go_quiet (fail)
   go_wp2
   go_region
   go_wp2
   go_roundg g
   case measure => omega
   case rel =>
    rw [HC.out];have hA := ((HA.out.drewN (nq + 1)).turn hmod).set HP.out 5 (by omega) (.bool false) { p with marked := false } rfl rfl rfl (trivial);exact ⟨_, _, by simp [HL.out], hA, ((hF.drewN _).setCell (fun _ => .inl rfl) _).setCell (fun _ => .inr rfl) _, by rw [<- HS.out, spin_mark HP.out HM.out], by omega⟩
  | false =>
   rw [hm] at c3;have HM := hid hm;clear hm;go_wp2
   go_quiet (fail)
   go_wp2
   go_region
   go_wp2
   rw [Exit.noGoto_ret];go_ret;rw [HC.out];have e := spin_stop (k := gk) HP.out HM.out;rw [HS.out] at e;refine ⟨by rw [e]; rfl, ?_, (hF.drewN _).setCell (fun _ => .inl rfl) _⟩;rw [e, <- HL.out];exact (HA.out.drewN (nq + 1)).turn hmod
end CP
end
section
namespace CP
open Go.RowKit Go.Sg Go.Sg.Clk Go.Shelf
theorem info264 : (Tryz.prog.info? 264).map (fun i => (i.zero, i.size, i.bytes)) = some (some (.agg #[.int .i64 0, .int .i64 0, .slice none 0 0, .bool false, .bool false, .bool false]), 6, 56) := by kernel_rfl
theorem new_ok (n : Nat) (h1 : 1 <= n) (h2 : n <= 4096) (w : World) :
  Calls Tryz.prog 96 #[.int .i64 n] w fun e w' => e = .returned (.pointer (some ⟨w.heap.size + 2, 0, none⟩)) /\ AtP w' (w.heap.size + 2) w.heap.size (w.heap.size + 1) (List.replicate n (Pl.none Pg.zero)) 0 /\ Fq w w' := by
 obtain ⟨i0, hi, hz0, hz1, hz2⟩ := info_parts info264;have hmk := fun W => run_make_len (P := Tryz.prog) 257 264 i0 _ Tryz.underlying257 hi hz0 n (by rw [hz2]; omega) (by omega) W
 have hmm := fun (t : TypeId) (W : World) => run_makeMap (P := Tryz.prog) t W
 rw [hz1] at hmk;clear hi hz0 hz1 hz2;go_enter Tryz.func96, Tryz.ntmps96;go_wp2
 go_ret;exact ⟨rfl, At.fresh trivial h1 h2, (((Fr.refl _ _).alloc _).alloc _).alloc _⟩
variable {w : World} {bc bm bp hand : Nat} {pl : List Pl}
theorem AtP_lts (h : AtP w bc bp bm pl hand) : bc < w.heap.size /\ bp < w.heap.size /\ bm < w.heap.size := by
 obtain ⟨l, ck, hm, _⟩ := h.m;exact ⟨loh h.c, loh h.p, loh hm⟩
def markM (pl : List Pl) (key : Int) : List Pl := match find pl key with
 | some i => pl.modify i fun p => { p with marked := true }
 | none => pl
theorem modify_eq {i : Nat} {p : Pl} (hp : pl[i]? = some p) (f : Pl -> Pl) : pl.modify i f = pl.set i (f p) := by
 apply List.ext_getElem?;intro j;rw [get_set hp, List.getElem?_modify];split
 ·rename_i e; subst e; simp [hp]
 ·simp
def GetPost (pl : List Pl) (hand bc bp bm : Nat) (key : Int) (w : World) (e : Ending) (w' : World) : Prop :=
 e = .returned (.tuple #[(lookM pl key).val, .bool (find pl key).isSome]) /\ AtP w' bc bp bm (markM pl key) hand /\ Fr (fun b => b = bp) w w'
theorem get_at (h : AtP w bc bp bm pl hand) (key : Int) :
  Calls Tryz.prog 86 #[.pointer (some ⟨bc, 0, none⟩), .int .i64 key] w (GetPost pl hand bc bp bm key w) := by
 have hfr := hid (fun W (FW : Fq w W) => (h.fr FW (fun h => h) (fun h => h) (fun h => h) : AtP W bc bp bm pl hand));obtain ⟨w1, hw1⟩ : ∃ w1, w.alloc (.cells #[.int .i64 0, .slice none 0 0, .bool false] 162) = w1 := ⟨_, rfl⟩
 have b1 : w1.heap[w.heap.size]? = some (.cells #[.int .i64 0, .slice none 0 0, .bool false] 162) := by rw [<- hw1]; exact han _ _
 have F1 : Fq w w1 := by rw [<- hw1]; exact (Fr.refl _ _).alloc _
 have B1 := hid b1;have hA1 := hid (hfr.out w1 F1);have hlt := AtP_lts h;cases hf : find pl key with
 | none =>
  have e1 : markM pl key = pl := by simp [markM, hf]
  have HF := hid hf;have E := hid e1;have HW := hid hw1;have FN := hid (find_at hA1.out key);rw [hf] at FN;clear hf h e1 hw1 b1;go_enter Tryz.func86, Tryz.ntmps86;go_wp2_with fail
  rw [HW.out];refine FN.out.mono ?_;rintro e w' ⟨rfl, rfl⟩;go_wp2_with fail
  refine (look_at hA1.out key).mono ?_;rintro e w2 ⟨rfl, F2⟩;obtain ⟨c0, c1, c2, z, l⟩ := cells3 (F2.heap B1.out (fun h => h));rw [HF.out];generalize hlm : lookM pl key = lm;have HLM := hid hlm;clear hlm;obtain ⟨st, la, ll, lc, di⟩ := lm;go_wp2
  refine bodyPost_ret (v := .tuple #[.agg #[.int .i64 st, .slice la ll lc, .bool di], .bool false]) (by simp [results, go_sem, *]) rfl ⟨by rw [HLM.out, HF.out]; rfl, ?_, ?_⟩
  ·rw [E.out];refine (hA1.out.fr F2 (fun h => h) (fun h => h) (fun h => h)).fr (S := fun b => b = w.heap.size) ?_ (by omega) (by omega) (by omega);repeat (with_reducible refine Fr.setCell ?_ (fun _ => by simp) _)
   exact Fr.refl _ _
  ·repeat (with_reducible refine Fr.setNew ?_ (by omega) _)
   exact (F1.trans F2 (fun _ _ h => h)).mono (fun _ _ h => h.elim)
 | some i =>
  obtain ⟨p, hp, hful, hkey⟩ := find_some hf;have k5 := hA1.out.k5 hp;have zp := hA1.out.zp (i * 6 + 5);have h2 := hA1.out.set hp 5 (by omega) (.bool true) { p with marked := true } rfl rfl rfl trivial;have hf2 : find (pl.set i { p with marked := true }) key = some i := by
   rw [find_set h.nd hp { p with marked := true } (fun a => .inl ⟨hful, rfl⟩)]; simp [hful, hkey]
  have e1 : markM pl key = pl.set i { p with marked := true } := by simp only [markM, hf]; exact modify_eq hp _
  have e3 : lookM pl key = p.v := by simp [lookM, hf, hp]
  have e4 : lookM (pl.set i { p with marked := true }) key = p.v := by
   have := get_set hp { p with marked := true } i;rw [if_pos rfl] at this;simp [lookM, hf2, this]
  have HF := hid hf;have HF2 := hid hf2;have E := hi2 e1 (aI e3 e4);have HW := hid hw1;have FN := hid (find_at hA1.out key);rw [hf] at FN;have H2 := hid h2;obtain ⟨w2, hw2⟩ : ∃ w2, w1.setCell ⟨bp, i * 6 + 5, none⟩ (.bool true) = w2 := ⟨_, rfl⟩
  have F12 : Fr (fun b => b = bp) w1 w2 := by rw [<- hw2]; exact (Fr.refl (fun b => b = bp) _).setCell (a := ⟨bp, i * 6 + 5, none⟩) (fun _ => rfl) _
  have HW2 := hid hw2;have l1 := F1.size;clear hf h e1 e3 e4 hw1 b1 hf2 h2 hp hful hkey hw2;go_enter Tryz.func86, Tryz.ntmps86;go_wp2_with fail
  rw [HW.out];refine FN.out.mono ?_;rintro e w' ⟨rfl, rfl⟩;go_wp2_with fail
  rw [HW2.out];have hA2 := hid H2.out;rw [HW2.out] at hA2;refine (look_at hA2.out key).mono ?_;rintro e w3 ⟨rfl, F3⟩;have F13 := F12.trans F3 (fun _ _ h => h.elim);obtain ⟨c0, c1, c2, z, l⟩ := cells3 (F13.heap B1.out (by omega));rw [HF2.out, E.out.2.2];obtain ⟨key', ⟨st, la, ll, lc, di⟩, fu, ma⟩ := p;clear k5 zp;go_wp2
  refine bodyPost_ret (v := .tuple #[.agg #[.int .i64 st, .slice la ll lc, .bool di], .bool true]) (by simp [results, go_sem, *]) rfl ⟨by rw [E.out.2.1, HF.out]; rfl, ?_, ?_⟩
  ·rw [E.out.1];refine (hA2.out.fr F3 (fun h => h) (fun h => h) (fun h => h)).fr (S := fun b => b = w.heap.size) ?_ (by omega) (by omega) (by omega);repeat (with_reducible refine Fr.setCell ?_ (fun _ => by simp) _)
   exact Fr.refl _ _
  ·repeat (with_reducible refine Fr.setNew ?_ (by omega) _)
   exact (F1.mono (S' := fun b => b = bp) (fun _ _ h => h.elim)).trans F13 (fun _ _ h => h)
end CP
end
end Go.Proofs.YtgdhaaokolfdoaaGreatDoor
namespace Go.Sg.Clk
open Go.RowKit
structure Did (pl : List Pl) (key : Int) (v : Pg) (M : Put) : Prop where
 len : M.pl.length = pl.length
 lt : M.hand < pl.length
 there : ∃ j, find M.pl key = some j /\ M.pl[j]? = some ⟨key, v, true, true⟩
 nd : Nd M.pl
 cases : (∃ i, find pl key = some i /\ M.gone = none /\ M.pl.countP (·.full) = pl.countP (·.full)) \/
  (find pl key = none /\ M.gone = none /\ M.pl.countP (·.full) = pl.countP (·.full) + 1) \/
  (find pl key = none /\ ∃ g, M.gone = some g /\ g.key ≠ key /\ pl.countP (·.full) = pl.length /\ M.pl.countP (·.full) = pl.countP (·.full) /\ find M.pl g.key = none)
variable {pl : List Pl}
theorem full_count (h : empty pl = none) : pl.countP (·.full) = pl.length := by
 rw [List.countP_eq_length];intro p hp;rw [empty, List.findIdx?_eq_none_iff] at h;simpa using h p hp
theorem did {hand : Nat} (hn : Nd pl) (hh : hand < pl.length) (key : Int) (v : Pg) : Did pl key v (putM pl hand key v) := by
 cases hf : find pl key with
 | some i =>
  obtain ⟨p, hp, hfu, hk⟩ := find_some hf;have e : putM pl hand key v = ⟨pl.set i ⟨key, v, true, true⟩, hand, none⟩ := by simp [putM, hf]
  have hq : (⟨key, v, true, true⟩ : Pl).full = true -> (p.full = true /\ (⟨key, v, true, true⟩ : Pl).key = p.key) \/ find pl (⟨key, v, true, true⟩ : Pl).key = none := fun _ => .inl ⟨hfu, hk.symm⟩
  refine ⟨by rw [e]; simp, by rw [e]; exact hh, ⟨i, ?_, ?_⟩, by rw [e]; exact nd_set hn hp _ hq, .inl ⟨i, hf, by rw [e], ?_⟩⟩
  ·rw [e]; simp only; rw [find_set hn hp ⟨key, v, true, true⟩ hq]; simp
  ·rw [e]; simp only; rw [get_set hp, if_pos rfl]
  ·rw [e]; simp only; rw [count_set hp, hfu]; have := count_pos hp hfu; simp; omega
 | none =>
  cases he : empty pl with
  | some i =>
   obtain ⟨p, hp, hfu⟩ : ∃ p, pl[i]? = some p /\ p.full = false := by
    rw [empty, List.findIdx?_eq_some_iff_getElem] at he;obtain ⟨hi, h1, _⟩ := he;exact ⟨pl[i], by simp, by simpa using h1⟩
   have e : putM pl hand key v = ⟨pl.set i ⟨key, v, true, true⟩, hand, none⟩ := by simp [putM, hf, he]
   have hq : (⟨key, v, true, true⟩ : Pl).full = true -> (p.full = true /\ (⟨key, v, true, true⟩ : Pl).key = p.key) \/ find pl (⟨key, v, true, true⟩ : Pl).key = none := fun _ => .inr hf
   refine ⟨by rw [e]; simp, by rw [e]; exact hh, ⟨i, ?_, ?_⟩, by rw [e]; exact nd_set hn hp _ hq, .inr (.inl ⟨hf, by rw [e], ?_⟩)⟩
   ·rw [e]; simp only; rw [find_set hn hp ⟨key, v, true, true⟩ hq]; simp
   ·rw [e]; simp only; rw [get_set hp, if_pos rfl]
   ·rw [e]; simp only; rw [count_set hp, hfu]; simp
  | none =>
   have e := putM_full (hand := hand) (v := v) hf he;have hl := spin_len pl.length pl hand;have hi := spin_lt pl.length pl hand hh;have hf2 := spin_find pl.length pl hand key;have he2 := spin_empty pl.length pl hand;rw [hf] at hf2;rw [he] at he2;have hn2 : Nd (spin pl.length pl hand).1 := by
    intro a b x y hx hy hxf hyf hk;have gx := spin_get (f := pl.length) (pl := pl) (h := hand) a;have gy := spin_get (f := pl.length) (pl := pl) (h := hand) b;rw [hx] at gx;rw [hy] at gy;cases hxa : pl[a]? with
    | none => rw [hxa] at gx; cases gx
    | some x' =>
     cases hyb : pl[b]? with
     | none => rw [hyb] at gy; cases gy
     | some y' =>
      rw [hxa] at gx;rw [hyb] at gy;simp only [Option.map_some, Option.some.injEq, Pl.unmark, Pl.mk.injEq] at gx gy;exact hn a b x' y' hxa hyb (by rw [<- gx.2.2.1, hxf]) (by rw [<- gy.2.2.1, hyf]) (by rw [<- gx.1, <- gy.1, hk])
   generalize spin pl.length pl hand = s at *
   obtain ⟨p, hp⟩ : ∃ p, s.1[s.2]? = some p := ⟨_, gE (by omega)⟩
   have hfu := full_of_empty he2 hp;have hq : (⟨key, v, true, true⟩ : Pl).full = true -> (p.full = true /\ (⟨key, v, true, true⟩ : Pl).key = p.key) \/ find s.1 (⟨key, v, true, true⟩ : Pl).key = none := fun _ => .inr hf2
   have hne := find_none hf2 hp hfu;refine ⟨by rw [e]; simpa using hl, by rw [e]; exact Nat.mod_lt _ (by omega), ⟨s.2, ?_, ?_⟩, by rw [e]; exact nd_set hn2 hp _ hq, .inr (.inr ⟨hf, p, by rw [e]; exact hp, hne, full_count he, ?_, ?_⟩)⟩
   ·rw [e]; simp only; rw [find_set hn2 hp ⟨key, v, true, true⟩ hq]; simp
   ·rw [e]; simp only; rw [get_set hp, if_pos rfl]
   ·rw [e]; simp only; rw [count_set hp, hfu, full_count he2, full_count he, hl]; simp; omega
   ·rw [e]; simp only; rw [find_set hn2 hp ⟨key, v, true, true⟩ hq];rw [if_neg (by rintro ⟨_, h⟩; exact hne h.symm), if_pos ⟨hfu, rfl⟩]
end Go.Sg.Clk
namespace Go.Sg
variable {S : Nat -> Prop} {w w1 : World} {b : Nat}
theorem Fr.set3 (h : Fr S w w1) (hb : S b) (x y z : Value) : Fr S w (((w1.setCell ⟨b, 0, none⟩ x).setCell ⟨b, 1, none⟩ y).setCell ⟨b, 2, none⟩ z) :=
 ((h.setCell (a := ⟨b, 0, none⟩) (fun _ => hb) x).setCell (a := ⟨b, 1, none⟩) (fun _ => hb) y).setCell (a := ⟨b, 2, none⟩) (fun _ => hb) z
theorem Fr.set3n (h : Fr S w w1) (hb : w.heap.size <= b) (x y z : Value) : Fr S w (((w1.setCell ⟨b, 0, none⟩ x).setCell ⟨b, 1, none⟩ y).setCell ⟨b, 2, none⟩ z) :=
 ((h.setNew hb x).setNew hb y).setNew hb z
end Go.Sg
namespace Go.Proofs.YtgdhaaokolfdoaaGreatDoor
namespace CP
open Go.RowKit Go.Sg Go.Sg.Clk Go.Shelf
def goneK (g : Option Pl) : Int := (g.map (·.key)).getD 0
def goneV (g : Option Pl) : Pg := (g.map (·.v)).getD Pg.zero
def PutPost (pl : List Pl) (hand bc bp bm : Nat) (key : Int) (x : Pg) (w : World) (e : Ending) (w' : World) : Prop :=
 e = .returned (.tuple #[.int .i64 (goneK (putM pl hand key x).gone), (goneV (putM pl hand key x).gone).val, .bool (putM pl hand key x).gone.isSome]) /\
 AtP w' bc bp bm (putM pl hand key x).pl (putM pl hand key x).hand /\ Fr (fun b => b = bc \/ b = bp \/ b = bm) w w'
variable {w : World} {bc bm bp hand i : Nat} {pl : List Pl}
theorem put_there (h : AtP w bc bp bm pl hand) (key : Int) (x : Pg) (hf : find pl key = some i) :
  Calls Tryz.prog 111 #[.pointer (some ⟨bc, 0, none⟩), .int .i64 key, x.val] w (PutPost pl hand bc bp bm key x w) := by
 obtain ⟨st, la, ll, lc, di⟩ := x;have hlt := AtP_lts h;obtain ⟨w2, hw2⟩ : ∃ w2, (w.alloc (.cells #[.int .i64 st, .slice la ll lc, .bool di] 162)).alloc (.cells #[.int .i64 0, .slice none 0 0, .bool false] 162) = w2 := ⟨_, rfl⟩
 obtain ⟨b0, b1, F2⟩ := heap_two hw2;have hA := h.fr F2 (fun h => h) (fun h => h) (fun h => h);obtain ⟨p, hp, hful, hkey⟩ := find_some hf;have k1 := hA.k1 hp;have k2 := hA.k2 hp;have k3 := hA.k3 hp;have k5 := hA.k5 hp;have zp := hA.zp;obtain ⟨d0, d1, d2, dz, dl⟩ := cells3 b0;obtain ⟨c0, c1, c2, cz, cl⟩ := cells3 b1;have g1 := hA.set hp 1 (by omega) (.int .i64 st) ⟨p.key, { p.v with stamp := st }, p.full, p.marked⟩ rfl rfl rfl trivial;have at_ : ∀ r : Pl, (pl.set i r)[i]? = some r := fun r => by rw [get_set hp, if_pos rfl]
 have g2 := g1.set (at_ _) 2 (by omega) (.slice la ll lc) ⟨p.key, ⟨st, la, ll, lc, p.v.dirty⟩, p.full, p.marked⟩ rfl rfl rfl trivial;rw [List.set_set] at g2;have g3 := g2.set (at_ _) 3 (by omega) (.bool di) ⟨p.key, ⟨st, la, ll, lc, di⟩, p.full, p.marked⟩ rfl rfl rfl trivial;rw [List.set_set] at g3;have g5 := g3.set (at_ _) 5 (by omega) (.bool true) ⟨p.key, ⟨st, la, ll, lc, di⟩, p.full, true⟩ rfl rfl rfl trivial;rw [List.set_set, hful, hkey] at g5;have HE : Hid (putM pl hand key ⟨st, la, ll, lc, di⟩ = ⟨pl.set i ⟨key, ⟨st, la, ll, lc, di⟩, true, true⟩, hand, none⟩) := hid (by simp [putM, hf]);have G5 := hid g5;have FN := hid (find_at hA key);rw [hf] at FN;have HW := hid hw2;have n1 : w.heap.size ≠ bp := by omega
 have n2 : w.heap.size + 1 ≠ bp := by omega
 clear hf hp hful hkey at_ g1 g2 g3 g5 hA h hw2 b0 b1;go_enter Tryz.func111, Tryz.ntmps111;go_wp2_with fail
 rw [HW.out];refine FN.out.mono ?_;rintro e w' ⟨rfl, rfl⟩;go_wp2
 go_region
 go_wp2
 refine bodyPost_ret (v := .tuple #[.int .i64 0, Pg.zero.val, .bool false]) (by simp [results, go_sem, Pg.zero, *]) rfl ⟨by rw [HE.out]; rfl, ?_, ?_⟩
 ·rw [HE.out];refine At.fr (S := fun b => b = w.heap.size + 1) G5.out ?_ (by omega) (by omega) (by omega);exact (Fr.set3 (S := fun b => b = w.heap.size + 1) (b := w.heap.size + 1) (Fr.refl _ _) rfl _ _ _).drew
 ·refine Fr.drew (Fr.set3n ?_ (by omega) _ _ _);exact ((((F2.mono (fun _ _ h => h.elim)).setCell (a := ⟨bp, i * 6 + 1, none⟩) (fun _ => .inr (.inl rfl)) _).setCell (a := ⟨bp, i * 6 + 2, none⟩) (fun _ => .inr (.inl rfl)) _).setCell (a := ⟨bp, i * 6 + 3, none⟩) (fun _ => .inr (.inl rfl)) _).setCell (a := ⟨bp, i * 6 + 5, none⟩) (fun _ => .inr (.inl rfl)) _
theorem put_free (h : AtP w bc bp bm pl hand) (key : Int) (x : Pg) (hf : find pl key = none) (he : empty pl = some i) :
  Calls Tryz.prog 111 #[.pointer (some ⟨bc, 0, none⟩), .int .i64 key, x.val] w (PutPost pl hand bc bp bm key x w) := by
 obtain ⟨st, la, ll, lc, di⟩ := x;have hlt := AtP_lts h;have n123 := h.ne;obtain ⟨w2, hw2⟩ : ∃ w2, (w.alloc (.cells #[.int .i64 st, .slice la ll lc, .bool di] 162)).alloc (.cells #[.int .i64 0, .slice none 0 0, .bool false] 162) = w2 := ⟨_, rfl⟩
 obtain ⟨b0, b1, F2⟩ := heap_two hw2;have hA := h.fr F2 (fun h => h) (fun h => h) (fun h => h);have hHE : putM pl hand key ⟨st, la, ll, lc, di⟩ = ⟨pl.set i ⟨key, ⟨st, la, ll, lc, di⟩, true, true⟩, hand, none⟩ := by simp [putM, hf, he]
 have HE := hid hHE;have FN := hid (find_at hA key);rw [hf] at FN;have EM := hid (empty_at hA);rw [emptyI_some he] at EM;have HA := hid hA;have HF := hid hf;have HO := hid he;have HW := hid hw2;have B01 := hi2 b0 b1;have hi : i < pl.length := by
  rw [empty, List.findIdx?_eq_some_iff_getElem] at he;exact he.1
 clear hf he h hA hw2 b0 b1 hHE;go_enter Tryz.func111, Tryz.ntmps111;go_wp2_with fail
 rw [HW.out];refine FN.out.mono ?_;rintro e w' ⟨rfl, rfl⟩;go_wp2_with fail
 refine EM.out.mono ?_;rintro e w3 ⟨rfl, F3⟩;have hA3 := HA.out.fr F3 (fun h => h) (fun h => h) (fun h => h);have l3 := F3.size;have l2 := loh B01.out.2;obtain ⟨p, hp⟩ : ∃ p, pl[i]? = some p := ⟨_, gE hi⟩
 have f0 := hA3.c0;have f1 := hA3.c1;have k0 := hA3.k0 hp;have k1 := hA3.k1 hp;have k2 := hA3.k2 hp;have k3 := hA3.k3 hp;have k4 := hA3.k4 hp;have k5 := hA3.k5 hp;have zp := hA3.zp;have hr := hA3.room;obtain ⟨d0, d1, d2, dz, dl⟩ := cells3 (F3.heap B01.out.1 (fun h => h));obtain ⟨c0, c1, c2, cz, cl⟩ := cells3 (F3.heap B01.out.2 (fun h => h));obtain ⟨l, ck, hm, hR⟩ := hA3.m;have HA3 := hid hA3;have HP := hid hp;have HR := hid hR;clear hA3 hp hR;go_wp2
 go_region
 obtain ⟨w4, hw4⟩ : ∃ w4, ((((((w3.setCell ⟨bp, i * 6, none⟩ (.int .i64 key)).setCell ⟨bp, i * 6 + 1, none⟩ (.int .i64 st)).setCell ⟨bp, i * 6 + 2, none⟩ (.slice la ll lc)).setCell ⟨bp, i * 6 + 3, none⟩ (.bool di)).setCell ⟨bp, i * 6 + 4, none⟩ (.bool true)).setCell ⟨bp, i * 6 + 5, none⟩ (.bool true)).drew = w4 := ⟨_, rfl⟩
 have F34 : Fr (fun b => b = bp) w3 w4 := by
  rw [<- hw4];exact (((((((Fr.refl (fun b => b = bp) _).setCell (a := ⟨bp, i * 6, none⟩) (fun _ => rfl) _).setCell (a := ⟨bp, i * 6 + 1, none⟩) (fun _ => rfl) _).setCell (a := ⟨bp, i * 6 + 2, none⟩) (fun _ => rfl) _).setCell (a := ⟨bp, i * 6 + 3, none⟩) (fun _ => rfl) _).setCell (a := ⟨bp, i * 6 + 4, none⟩) (fun _ => rfl) _).setCell (a := ⟨bp, i * 6 + 5, none⟩) (fun _ => rfl) _).drew
 have hp4 : w4.heap[bp]? = some (.cells (cellsOf (pl.set i ⟨key, ⟨st, la, ll, lc, di⟩, true, true⟩)) 264) := by
  have := heap_place HA3.out.p HP.out ⟨key, ⟨st, la, ll, lc, di⟩, true, true⟩;rw [<- hw4, heap_drew];exact this
 rw [hw4];have hm4 := F34.heap hm (fun e => n123.2.2 e.symm);have hc4 := F34.heap HA3.out.c n123.1;have hb04 := F34.heap (F3.heap B01.out.1 (fun h => h)) (by omega);have hb14 := F34.heap (F3.heap B01.out.2 (fun h => h)) (by omega);clear f0 f1 k0 k1 k2 k3 k4 k5 zp d0 d1 d2 dz dl c0 c1 c2 cz cl hw4 hm;obtain ⟨f0, f1, f2, fz, fl⟩ := cells3 hc4;obtain ⟨c0, c1, c2, cz, cl⟩ := cells3 hb14;have hup := fun (W : World) (hW : W.heap[bm]? = some (.map (ents l) ck)) => run_mapUpdate (P := Tryz.prog) (T := 258) Tryz.underlying258 Tryz.underlying3 hW key (.int .i64 i)
 have HP4 := hid hp4;have HC4 := hid hc4;have n1 : bm ≠ w.heap.size + 1 := by omega
 have n2 : w.heap.size + 1 ≠ bm := by omega
 clear hp4 hc4 hb04 hb14;go_wp2
 obtain ⟨w5, hw5⟩ : ∃ w5, w4.putObj bm (.map (ents (put l key (.int .i64 i) ck)) (bump l key ck)) = w5 := ⟨_, rfl⟩
 have F45 : Fr (fun b => b = bm) w4 w5 := by rw [<- hw5]; exact (Fr.refl (fun b => b = bm) _).putObj (fun _ => rfl) _
 have hm5 : w5.heap[bm]? = some (.map (ents (put l key (.int .i64 i) ck)) (bump l key ck)) := by rw [<- hw5]; exact heap_putObj_same _ _ _ (loh hm4)
 rw [hw5];have e0 := (F45.cell (p := ⟨w.heap.size + 1, 0, none⟩) cl n2).trans c0;have e1 := (F45.cell (p := ⟨w.heap.size + 1, 1, none⟩) cl n2).trans c1;have e2 := (F45.cell (p := ⟨w.heap.size + 1, 2, none⟩) cl n2).trans c2;have ez : ∀ o, w5.frozen? ⟨w.heap.size + 1, o, none⟩ = false := fun o => (World.frozen?_of_block (F45.block _ cl n2)).trans (cz o)
 have HM5 := hid hm5;have HF45 := hid F45;clear hw5 c0 c1 c2 cz f0 f1 f2 fz hup hm5 F45 hm4;go_region
 go_wp2
 obtain ⟨hnd, hl, hn⟩ := HR.out;have hlk : Sg.look l key = none := by rw [hl, HF.out]; rfl
 have hpf : p.full = false := by
  have := HO.out;rw [empty, List.findIdx?_eq_some_iff_getElem] at this;obtain ⟨hi', h1, _⟩ := this;have e := HP.out;rw [gE hi'] at e;cases e;simpa using h1
 have hAp : AtP w5 bc bp bm (pl.set i ⟨key, ⟨st, la, ll, lc, di⟩, true, true⟩) hand := by
  refine HA3.out.place HP.out _ (fun _ => .inr HF.out) trivial HA3.out.hand ?_ ?_ HM5.out (nodup_put hnd _ _ _) (fun k => ?_) ?_
  ·exact HF45.out.heap HC4.out n123.2.1
  ·exact HF45.out.heap HP4.out n123.2.2
  ·rw [look_put, hl];simp [hpf]
  ·rw [length_put, hlk, hn, hpf]; simp
 refine bodyPost_ret (v := .tuple #[.int .i64 0, Pg.zero.val, .bool false]) (by simp [results, go_sem, Pg.zero, *]) rfl ⟨by rw [HE.out]; rfl, ?_, ?_⟩
 ·rw [HE.out];refine hAp.fr (S := fun b => b = w.heap.size + 1) ?_ (by omega) (by omega) (by omega);exact (Fr.set3 (S := fun b => b = w.heap.size + 1) (b := w.heap.size + 1) (Fr.refl _ _) rfl _ _ _).drew
 ·refine Fr.drew (Fr.set3n ?_ (by omega) _ _ _);exact (((F2.mono (S' := fun b => b = bc \/ b = bp \/ b = bm) (fun _ _ h => h.elim)).trans F3 (fun _ _ h => h.elim)).trans F34 (fun _ _ h => .inr (.inl h))).trans HF45.out (fun _ _ h => .inr (.inr h))
end CP
namespace CP
open Go.RowKit Go.Sg Go.Sg.Clk Go.Shelf
variable {w : World} {bc bm bp hand : Nat} {pl : List Pl}
theorem put_full (h : AtP w bc bp bm pl hand) (key : Int) (x : Pg) (hf : find pl key = none) (he : empty pl = none) :
  Calls Tryz.prog 111 #[.pointer (some ⟨bc, 0, none⟩), .int .i64 key, x.val] w (PutPost pl hand bc bp bm key x w) := by
 obtain ⟨st, la, ll, lc, di⟩ := x;have hlt := AtP_lts h;have n123 := h.ne;obtain ⟨w2, hw2⟩ : ∃ w2, (w.alloc (.cells #[.int .i64 st, .slice la ll lc, .bool di] 162)).alloc (.cells #[.int .i64 0, .slice none 0 0, .bool false] 162) = w2 := ⟨_, rfl⟩
 obtain ⟨b0, b1, F2⟩ := heap_two hw2;have hA := h.fr F2 (fun h => h) (fun h => h) (fun h => h);have FN := hid (find_at hA key);rw [hf] at FN;have EM := hid (empty_at hA);rw [emptyI_none he] at EM;have HA := hid hA;have HF := hid hf;have HO := hid he;have HH := hid h;have HW := hid hw2;have B01 := hi2 b0 b1;clear hf he h hA hw2 b0 b1;go_enter Tryz.func111, Tryz.ntmps111;go_wp2_with fail
 rw [HW.out];refine FN.out.mono ?_;rintro e w' ⟨rfl, rfl⟩;go_wp2_with fail
 refine EM.out.mono ?_;rintro e w3 ⟨rfl, F3⟩;have hA3 := hid (HA.out.fr F3 (fun h => h) (fun h => h) (fun h => h));go_wp2_with fail
 refine (victim_at hA3.out).mono ?_;rintro e w4 ⟨rfl, hA4, F4⟩;obtain ⟨i, hi⟩ : ∃ i, (spin pl.length pl hand).2 = i := ⟨_, rfl⟩
 obtain ⟨pl2, hpl2⟩ : ∃ pl2, (spin pl.length pl hand).1 = pl2 := ⟨_, rfl⟩
 have hlen2 : pl2.length = pl.length := by rw [<- hpl2]; exact spin_len _ _ _
 have hil : i < pl2.length := by rw [hlen2, <- hi]; exact spin_lt _ _ _ HH.out.hand
 have hf2 : find pl2 key = none := by rw [<- hpl2, spin_find]; exact HF.out
 have he2 : empty pl2 = none := by rw [<- hpl2, spin_empty]; exact HO.out
 obtain ⟨p, hp⟩ : ∃ p, pl2[i]? = some p := ⟨_, gE hil⟩
 have hpf := full_of_empty he2 hp;have hM : putM pl hand key ⟨st, la, ll, lc, di⟩ = ⟨pl2.set i ⟨key, ⟨st, la, ll, lc, di⟩, true, true⟩, (i + 1) % pl.length, some p⟩ := by rw [putM_full HF.out HO.out, hpl2, hi, hp]
 rw [hpl2, hi] at hA4;rw [hi];have f0 := hA4.c0;have f1 := hA4.c1;have k0 := hA4.k0 hp;have k1 := hA4.k1 hp;have k2 := hA4.k2 hp;have k3 := hA4.k3 hp;have l2 := loh B01.out.2;have l3 := F3.size;have l4 := F4.size;obtain ⟨d0, d1, d2, dz, dl⟩ := cells3 (F4.heap (F3.heap B01.out.1 (fun h => h)) (by omega));have hr1 := F4.heap (F3.heap B01.out.2 (fun h => h)) (by omega);obtain ⟨c0, c1, c2, cz, cl⟩ := cells3 hr1;obtain ⟨l, ck, hm, hR⟩ := hA4.m;have hr2 := hA4.room;have HR := hid hR;have HA4 := hid hA4;have HM := hid hM;have HP := hid hp;have HU := hid hpf;have HF2 := hid hf2;have HL := hid hlen2;have HR1 := hid hr1;have Hm := hid hm;clear hR hA4 hM hp hpf hi hpl2 hf2 he2 hlen2 hr1 hm;go_wp2
 go_region
 obtain ⟨w5, hw5⟩ : ∃ w5, (((w4.setCell ⟨w.heap.size + 1, 0, none⟩ (.int .i64 p.v.stamp)).setCell ⟨w.heap.size + 1, 1, none⟩ (.slice p.v.la p.v.ll p.v.lc)).setCell ⟨w.heap.size + 1, 2, none⟩ (.bool p.v.dirty)).drew = w5 := ⟨_, rfl⟩
 have F45 : Fr (fun b => b = w.heap.size + 1) w4 w5 := by
  rw [<- hw5];exact (Fr.set3 (S := fun b => b = w.heap.size + 1) (b := w.heap.size + 1) (Fr.refl _ _) rfl _ _ _).drew
 have hr5 : w5.heap[w.heap.size + 1]? = some (.cells #[.int .i64 p.v.stamp, .slice p.v.la p.v.ll p.v.lc, .bool p.v.dirty] 162) := by
  rw [<- hw5, heap_drew, hsc _ _ _ _ (hsc _ _ _ _ (hsc _ _ _ _ HR1.out))];simp
 rw [hw5];have hA5 := HA4.out.fr F45 (by omega) (by omega) (by omega);have hm5 := F45.heap Hm.out (by omega);have hb05 := F45.heap (F4.heap (F3.heap B01.out.1 (fun h => h)) (by omega)) (by omega);clear f0 f1 k0 k1 k2 k3 d0 d1 d2 dz dl c0 c1 c2 cz cl hw5;have f0 := hA5.c0;have f1 := hA5.c1;have hdel := fun (W : World) (hW : W.heap[bm]? = some (.map (ents l) ck)) (t' : TypeId) => run_delete (P := Tryz.prog) (T := 258) Tryz.underlying258 Tryz.underlying3 hW p.key t' #[258, 3] rfl
 have HN := hid hdel;have HA5 := hid hA5;have HR5 := hid hr5;have HB5 := hid hb05;have Hm5 := hid hm5;have HF45 := hid F45;have l5 := F45.size;clear hdel hA5 hr5 hb05 hm5 F45;go_wp2
 rw [HN.out w5 Hm5.out 0];obtain ⟨w6, hw6⟩ : ∃ w6, w5.putObj bm (.map (ents (del l p.key)) ck) = w6 := ⟨_, rfl⟩
 have F56 : Fr (fun b => b = bm) w5 w6 := by rw [<- hw6]; exact (Fr.refl (fun b => b = bm) _).putObj (fun _ => rfl) _
 have hm6 : w6.heap[bm]? = some (.map (ents (del l p.key)) ck) := by rw [<- hw6]; exact heap_putObj_same _ _ _ (loh Hm5.out)
 have hc6 := F56.heap HA5.out.c n123.2.1;have hp6 := F56.heap HA5.out.p n123.2.2;have hr6 := F56.heap HR5.out (by omega);have hb6 := F56.heap HB5.out (by omega);rw [hw6];clear f0 f1 hw6;obtain ⟨f0, f1, f2, fz, fl⟩ := cells3 hc6;obtain ⟨d0, d1, d2, dz, dl⟩ := cells3 hb6;have zp : ∀ o, w6.frozen? ⟨bp, o, none⟩ = false := fun o => foh hp6 o
 have j : ∀ o, o < 6 -> w6.cell? ⟨bp, i * 6 + o, none⟩ = p.cells[o]? := fun o ho => by rw [coh hp6, cells_get HP.out o ho]
 have k0 : w6.cell? ⟨bp, i * 6, none⟩ = some (.int .i64 p.key) := j 0 (by omega);have k1 : w6.cell? ⟨bp, i * 6 + 1, none⟩ = some (.int .i64 p.v.stamp) := j 1 (by omega);have k2 : w6.cell? ⟨bp, i * 6 + 2, none⟩ = some (.slice p.v.la p.v.ll p.v.lc) := j 2 (by omega);have k3 : w6.cell? ⟨bp, i * 6 + 3, none⟩ = some (.bool p.v.dirty) := j 3 (by omega);have k4 : w6.cell? ⟨bp, i * 6 + 4, none⟩ = some (.bool p.full) := j 4 (by omega);have k5 : w6.cell? ⟨bp, i * 6 + 5, none⟩ = some (.bool p.marked) := j 5 (by omega);have Hm6 := hid hm6;have HC6 := hid hc6;have HP6 := hid hp6;have HR6 := hid hr6;have HF56 := hid F56;clear j hm6 hc6 hp6 hr6 hb6 F56;go_wp2
 go_region
 obtain ⟨w7, hw7⟩ : ∃ w7, ((((((w6.setCell ⟨bp, i * 6, none⟩ (.int .i64 key)).setCell ⟨bp, i * 6 + 1, none⟩ (.int .i64 st)).setCell ⟨bp, i * 6 + 2, none⟩ (.slice la ll lc)).setCell ⟨bp, i * 6 + 3, none⟩ (.bool di)).setCell ⟨bp, i * 6 + 4, none⟩ (.bool true)).setCell ⟨bp, i * 6 + 5, none⟩ (.bool true)).drew = w7 := ⟨_, rfl⟩
 have F67 : Fr (fun b => b = bp) w6 w7 := by
  rw [<- hw7];exact (((((((Fr.refl (fun b => b = bp) _).setCell (a := ⟨bp, i * 6, none⟩) (fun _ => rfl) _).setCell (a := ⟨bp, i * 6 + 1, none⟩) (fun _ => rfl) _).setCell (a := ⟨bp, i * 6 + 2, none⟩) (fun _ => rfl) _).setCell (a := ⟨bp, i * 6 + 3, none⟩) (fun _ => rfl) _).setCell (a := ⟨bp, i * 6 + 4, none⟩) (fun _ => rfl) _).setCell (a := ⟨bp, i * 6 + 5, none⟩) (fun _ => rfl) _).drew
 have hp7 : w7.heap[bp]? = some (.cells (cellsOf (pl2.set i ⟨key, ⟨st, la, ll, lc, di⟩, true, true⟩)) 264) := by
  have := heap_place HP6.out HP.out ⟨key, ⟨st, la, ll, lc, di⟩, true, true⟩;rw [<- hw7, heap_drew];exact this
 rw [hw7];have hm7 := F67.heap Hm6.out (fun e => n123.2.2 e.symm);have hc7 := F67.heap HC6.out n123.1;have hr7 := F67.heap HR6.out (by omega);clear f0 f1 f2 fz fl k0 k1 k2 k3 k4 k5 zp d0 d1 d2 dz dl hw7;obtain ⟨f0, f1, f2, fz, fl⟩ := cells3 hc7;obtain ⟨c0, c1, c2, cz, cl⟩ := cells3 hr7;have hup := fun (W : World) (hW : W.heap[bm]? = some (.map (ents (del l p.key)) ck)) => run_mapUpdate (P := Tryz.prog) (T := 258) Tryz.underlying258 Tryz.underlying3 hW key (.int .i64 i)
 have HP7 := hid hp7;have HC7 := hid hc7;have n2 : w.heap.size + 1 ≠ bm := by omega
 have HF67 := hid F67;clear hp7 hc7 hr7 F67;go_wp2
 obtain ⟨w8, hw8⟩ : ∃ w8, w7.putObj bm (.map (ents (put (del l p.key) key (.int .i64 i) ck)) (bump (del l p.key) key ck)) = w8 := ⟨_, rfl⟩
 have F78 : Fr (fun b => b = bm) w7 w8 := by rw [<- hw8]; exact (Fr.refl (fun b => b = bm) _).putObj (fun _ => rfl) _
 have hm8 : w8.heap[bm]? = some (.map (ents (put (del l p.key) key (.int .i64 i) ck)) (bump (del l p.key) key ck)) := by rw [<- hw8]; exact heap_putObj_same _ _ _ (loh hm7)
 rw [hw8];have e0 := (F78.cell (p := ⟨w.heap.size + 1, 0, none⟩) cl n2).trans c0;have e1 := (F78.cell (p := ⟨w.heap.size + 1, 1, none⟩) cl n2).trans c1;have e2 := (F78.cell (p := ⟨w.heap.size + 1, 2, none⟩) cl n2).trans c2;have ez : ∀ o, w8.frozen? ⟨w.heap.size + 1, o, none⟩ = false := fun o => (World.frozen?_of_block (F78.block _ cl n2)).trans (cz o)
 have HM8 := hid hm8;have HF78 := hid F78;clear hw8 c0 c1 c2 cz f0 f1 f2 fz hup hm8 F78 hm7;go_region
 go_wp2
 obtain ⟨hnd, hl, hn⟩ := HR.out;have hfp : find pl2 p.key = some i := (find_iff HA4.out.nd _ _).2 ⟨p, HP.out, HU.out, rfl⟩;have hlk : Sg.look (del l p.key) key = none := by
  rw [look_del hnd, hl, HF2.out]; split <;> rfl
 have hlp : (Sg.look l p.key).isSome = true := by rw [hl, hfp]; rfl
 have hmod := Nat.mod_lt (i + 1) (show 0 < pl.length by have := HL.out; omega);have hAp : AtP w8 bc bp bm (pl2.set i ⟨key, ⟨st, la, ll, lc, di⟩, true, true⟩) ((i + 1) % pl.length) := by
  refine HA4.out.place HP.out _ (fun _ => .inr HF2.out) trivial (by rw [HL.out]; exact hmod) ?_ ?_ HM8.out (nodup_put (nodup_del hnd _) _ _ _) (fun k => ?_) ?_
  ·exact HF78.out.heap HC7.out n123.2.1
  ·exact HF78.out.heap HP7.out n123.2.2
  ·rw [look_put, look_del hnd, hl];simp [HU.out]
  ·rw [length_put, hlk, length_del, hlp, hn, HU.out]; simp
 have Fa : Fr (fun b => b = bc \/ b = bp \/ b = bm) w w8 :=
  ((((((F2.mono (S' := fun b => b = bc \/ b = bp \/ b = bm) (fun _ _ h => h.elim)).trans F3 (fun _ _ h => h.elim)).trans F4 (fun _ _ h => h.elim .inl (fun h => .inr (.inl h)))).trans HF45.out (fun b hb h => by omega)).trans HF56.out (fun _ _ h => .inr (.inr h))).trans HF67.out (fun _ _ h => .inr (.inl h))).trans HF78.out (fun _ _ h => .inr (.inr h))
 refine bodyPost_ret (v := .tuple #[.int .i64 p.key, p.v.val, .bool true]) (by simp [results, go_sem, *]) rfl ⟨by rw [HM.out]; rfl, ?_, ?_⟩
 ·rw [HM.out];refine hAp.fr (S := fun b => b = w.heap.size + 1) ?_ (by omega) (by omega) (by omega);exact (Fr.set3 (S := fun b => b = w.heap.size + 1) (b := w.heap.size + 1) (Fr.refl _ _) rfl _ _ _).drew
 ·exact Fr.drew (Fr.set3n Fa (by omega) _ _ _)
theorem put_at (h : AtP w bc bp bm pl hand) (key : Int) (x : Pg) :
  Calls Tryz.prog 111 #[.pointer (some ⟨bc, 0, none⟩), .int .i64 key, x.val] w (PutPost pl hand bc bp bm key x w) := by
 cases hf : find pl key with
 | some i => exact put_there h key x hf
 | none =>
  cases he : empty pl with
  | some i => exact put_free h key x hf he
  | none => exact put_full h key x hf he
end CP
namespace CP
open Go.RowKit Go.Sg Go.Sg.Clk Go.Shelf
def dropM (pl : List Pl) (key : Int) : List Pl := match find pl key with
 | some i => pl.set i (Pl.none Pg.zero)
 | none => pl
def DropPost (pl : List Pl) (hand bc bp bm : Nat) (key : Int) (w : World) (e : Ending) (w' : World) : Prop :=
 e = .returned (.tuple #[(lookM pl key).val, .bool (find pl key).isSome]) /\ AtP w' bc bp bm (dropM pl key) hand /\ Fr (fun b => b = bp \/ b = bm) w w'
variable {w : World} {bc bm bp hand : Nat} {pl : List Pl}
theorem drop_none (h : AtP w bc bp bm pl hand) (key : Int) (hf : find pl key = none) :
  Calls Tryz.prog 108 #[.pointer (some ⟨bc, 0, none⟩), .int .i64 key] w (DropPost pl hand bc bp bm key w) := by
 have hlt := AtP_lts h;obtain ⟨w1, hw1⟩ : ∃ w1, w.alloc (.cells #[.int .i64 0, .slice none 0 0, .bool false] 162) = w1 := ⟨_, rfl⟩
 have b1 : w1.heap[w.heap.size]? = some (.cells #[.int .i64 0, .slice none 0 0, .bool false] 162) := by rw [<- hw1]; exact han _ _
 have F1 : Fq w w1 := by rw [<- hw1]; exact (Fr.refl _ _).alloc _
 have hA1 := hid (h.fr F1 (fun h => h) (fun h => h) (fun h => h));have e1 : dropM pl key = pl := by simp [dropM, hf]
 have e2 : lookM pl key = Pg.zero := by simp [lookM, hf]
 have HF := hid hf;have E := hi2 e1 e2;have HW := hid hw1;have B1 := hid b1;clear h hf e1 e2 hw1 b1;go_enter Tryz.func108, Tryz.ntmps108;go_wp2_with fail
 rw [HW.out];refine (look_at hA1.out key).mono ?_;rintro e w2 ⟨rfl, F2⟩;rw [HF.out, E.out.2];obtain ⟨c0, c1, c2, z, l⟩ := cells3 (F2.heap B1.out (fun h => h));simp only [Pg.val, Pg.zero];go_wp2
 refine bodyPost_ret (v := .tuple #[Pg.zero.val, .bool false]) (by simp [results, go_sem, Pg.zero, *]) rfl ⟨by rw [HF.out, E.out.2]; rfl, ?_, ?_⟩
 ·rw [E.out.1];refine (hA1.out.fr F2 (fun h => h) (fun h => h) (fun h => h)).fr (S := fun b => b = w.heap.size) ?_ (by omega) (by omega) (by omega);exact (Fr.set3 (S := fun b => b = w.heap.size) (b := w.heap.size) (Fr.refl _ _) rfl _ _ _).alloc _
 ·exact (Fr.set3n ((F1.trans F2 (fun _ _ h => h)).mono (fun _ _ h => h.elim)) (nR _) _ _ _).alloc _
theorem drop_some (h : AtP w bc bp bm pl hand) (key : Int) {i : Nat} (hf : find pl key = some i) :
  Calls Tryz.prog 108 #[.pointer (some ⟨bc, 0, none⟩), .int .i64 key] w (DropPost pl hand bc bp bm key w) := by
 have hlt := AtP_lts h;have n123 := h.ne;obtain ⟨w1, hw1⟩ : ∃ w1, w.alloc (.cells #[.int .i64 0, .slice none 0 0, .bool false] 162) = w1 := ⟨_, rfl⟩
 have b1 : w1.heap[w.heap.size]? = some (.cells #[.int .i64 0, .slice none 0 0, .bool false] 162) := by rw [<- hw1]; exact han _ _
 have F1 : Fq w w1 := by rw [<- hw1]; exact (Fr.refl _ _).alloc _
 have hA1 := hid (h.fr F1 (fun h => h) (fun h => h) (fun h => h));obtain ⟨p, hp, hful, hkey⟩ := find_some hf;have hi : i < pl.length := (gI.1 hp).1;have e1 : dropM pl key = pl.set i (Pl.none Pg.zero) := by simp [dropM, hf]
 have e2 : lookM pl key = p.v := by simp [lookM, hf, hp]
 have HF := hid hf;have E := hi2 e1 e2;have HW := hid hw1;have B1 := hid b1;have HP := hid hp;have HU := hi2 hful hkey;have l1 := loh b1;clear h hf e1 e2 hw1 b1 hp hful hkey;go_enter Tryz.func108, Tryz.ntmps108;go_wp2_with fail
 rw [HW.out];refine (look_at hA1.out key).mono ?_;rintro e w2 ⟨rfl, F2⟩;rw [HF.out, E.out.2];have hA2 := hA1.out.fr F2 (fun h => h) (fun h => h) (fun h => h);have hb2 := F2.heap B1.out (fun h => h);obtain ⟨w3, hw3⟩ : ∃ w3, w2.alloc (.cells #[.int .i64 p.v.stamp, .slice p.v.la p.v.ll p.v.lc, .bool p.v.dirty] 162) = w3 := ⟨_, rfl⟩
 have F3 : Fq w2 w3 := by rw [<- hw3]; exact (Fr.refl _ _).alloc _
 have hv3 : w3.heap[w2.heap.size]? = some (.cells #[.int .i64 p.v.stamp, .slice p.v.la p.v.ll p.v.lc, .bool p.v.dirty] 162) := by rw [<- hw3]; exact han _ _
 have hA3 := hA2.fr F3 (fun h => h) (fun h => h) (fun h => h);have hb3 := F3.heap hb2 (fun h => h);have f0 := hA3.c0;have f1 := hA3.c1;have k0 := hA3.k0 HP.out;have k1 := hA3.k1 HP.out;have k2 := hA3.k2 HP.out;have k3 := hA3.k3 HP.out;have k4 := hA3.k4 HP.out;have k5 := hA3.k5 HP.out;have zp := hA3.zp;have hr := hA3.room;have l2 := F2.size;obtain ⟨l, ck, hm, hR⟩ := hA3.m;have hlk : Sg.look l key = some (.int .i64 i) := by rw [hR.2.1, HF.out]; rfl
 have hl2 := fun (W : World) (hW : W.heap[bm]? = some (.map (ents l) ck)) => run_lookup (P := Tryz.prog) (T := 258) false Tryz.underlying258 Tryz.underlying3 Tryz.zero3 hW key
 have hdel := fun (W : World) (hW : W.heap[bm]? = some (.map (ents l) ck)) => run_delete (P := Tryz.prog) (T := 258) Tryz.underlying258 Tryz.underlying3 hW key 0 #[258, 3] rfl
 rw [hlk] at hl2;simp only [Option.getD_some, Bool.false_eq_true, if_false] at hl2;have HW3 := hid hw3;have HA3 := hid hA3;have HR := hid hR;have HK := hid hlk;have HV3 := hid hv3;have HB3 := hid hb3;have Hm := hid hm;have F13 := hid (F2.trans F3 (fun _ _ h => h));clear hw3 hA3 hR hlk hv3 hb3 hA2 hb2 F3;simp only [Pg.val];go_wp2
 rw [HW3.out];go_region
 obtain ⟨w4, hw4⟩ : ∃ w4, ((((((w3.setCell ⟨bp, i * 6, none⟩ (.int .i64 0)).setCell ⟨bp, i * 6 + 1, none⟩ (.int .i64 0)).setCell ⟨bp, i * 6 + 2, none⟩ (.slice none 0 0)).setCell ⟨bp, i * 6 + 3, none⟩ (.bool false)).setCell ⟨bp, i * 6 + 4, none⟩ (.bool false)).setCell ⟨bp, i * 6 + 5, none⟩ (.bool false)).drew = w4 := ⟨_, rfl⟩
 have F34 : Fr (fun b => b = bp) w3 w4 := by
  rw [<- hw4];exact (((((((Fr.refl (fun b => b = bp) _).setCell (a := ⟨bp, i * 6, none⟩) (fun _ => rfl) _).setCell (a := ⟨bp, i * 6 + 1, none⟩) (fun _ => rfl) _).setCell (a := ⟨bp, i * 6 + 2, none⟩) (fun _ => rfl) _).setCell (a := ⟨bp, i * 6 + 3, none⟩) (fun _ => rfl) _).setCell (a := ⟨bp, i * 6 + 4, none⟩) (fun _ => rfl) _).setCell (a := ⟨bp, i * 6 + 5, none⟩) (fun _ => rfl) _).drew
 have hp4 : w4.heap[bp]? = some (.cells (cellsOf (pl.set i (Pl.none Pg.zero))) 264) := by
  have := heap_place HA3.out.p HP.out (Pl.none Pg.zero);rw [<- hw4, heap_drew];exact this
 rw [hw4];have hm4 := F34.heap Hm.out (fun e => n123.2.2 e.symm);have hc4 := F34.heap HA3.out.c n123.1;have hb4 := F34.heap HB3.out (by omega);have hv4 := F34.heap HV3.out (by omega);clear f0 f1 k0 k1 k2 k3 k4 k5 zp hl2 hw4 hm;obtain ⟨f0, f1, f2, fz, fl⟩ := cells3 hc4;obtain ⟨c0, c1, c2, cz, cl⟩ := cells3 hb4;obtain ⟨v0, v1, v2, vz, vl⟩ := cells3 hv4;have m1 : bm ≠ w.heap.size := by omega
 have m2 : bm ≠ w2.heap.size := by omega
 have m3 : w.heap.size ≠ bm := by omega
 have m4 : w2.heap.size ≠ bm := by omega
 have HP4 := hid hp4;have HC4 := hid hc4;have HF34 := hid F34;clear hp4 hc4 hb4 hv4 F34;go_wp2
 obtain ⟨w5, hw5⟩ : ∃ w5, w4.putObj bm (.map (ents (del l key)) ck) = w5 := ⟨_, rfl⟩
 have F45 : Fr (fun b => b = bm) w4 w5 := by rw [<- hw5]; exact (Fr.refl (fun b => b = bm) _).putObj (fun _ => rfl) _
 have hm5 : w5.heap[bm]? = some (.map (ents (del l key)) ck) := by rw [<- hw5]; exact heap_putObj_same _ _ _ (loh hm4)
 have g0 := (F45.cell (p := ⟨w.heap.size, 0, none⟩) cl m3).trans c0;have g1 := (F45.cell (p := ⟨w.heap.size, 1, none⟩) cl m3).trans c1;have g2 := (F45.cell (p := ⟨w.heap.size, 2, none⟩) cl m3).trans c2;rw [hw5];obtain ⟨hnd, hl, hn⟩ := HR.out;obtain ⟨hu, hk⟩ := HU.out;have hAp : AtP w5 bc bp bm (pl.set i (Pl.none Pg.zero)) hand := by
  refine HA3.out.place HP.out _ (fun h => by cases h) trivial HA3.out.hand ?_ ?_ hm5 (nodup_del hnd _) (fun k => ?_) ?_
  ·exact F45.heap HC4.out n123.2.1
  ·exact F45.heap HP4.out n123.2.2
  ·rw [look_del hnd, hl, hu, hk];simp [Pl.none]
  ·rw [length_del, HK.out, hn, hu]; simp [Pl.none]
 refine bodyPost_ret (v := .tuple #[p.v.val, .bool true]) (by simp [results, go_sem, *]) rfl ⟨by rw [HF.out, E.out.2]; rfl, ?_, ?_⟩
 ·rw [E.out.1];refine hAp.fr (S := fun b => b = w.heap.size) ?_ (by omega) (by omega) (by omega);exact Fr.set3 (S := fun b => b = w.heap.size) (b := w.heap.size) (Fr.refl _ _) rfl _ _ _
 ·exact Fr.set3n ((((F1.mono (S' := fun b => b = bp \/ b = bm) (fun _ _ h => h.elim)).trans F13.out (fun _ _ h => h.elim)).trans HF34.out (fun _ _ h => .inl h)).trans F45 (fun _ _ h => .inr h)) (nR _) _ _ _
theorem drop_at (h : AtP w bc bp bm pl hand) (key : Int) :
  Calls Tryz.prog 108 #[.pointer (some ⟨bc, 0, none⟩), .int .i64 key] w (DropPost pl hand bc bp bm key w) := by
 cases hf : find pl key with
 | some i => exact drop_some h key hf
 | none => exact drop_none h key hf
end CP
end Go.Proofs.YtgdhaaokolfdoaaGreatDoor
namespace Go.Sg.Clk
open Go.RowKit
def memOf (pl : List Pl) (k : Int) : Option Pg := (find pl k).bind fun i => (pl[i]?).map (·.v)
variable {pl : List Pl} {i : Nat}
theorem memOf_iff (hn : Nd pl) (k : Int) (v : Pg) : memOf pl k = some v ↔ ∃ (i : Nat) (p : Pl), pl[i]? = some p /\ p.full = true /\ p.key = k /\ p.v = v := by
 constructor
 ·intro h;rw [memOf, Option.bind_eq_some_iff] at h;obtain ⟨i, hi, hv⟩ := h;obtain ⟨p, hp, hf, hk⟩ := find_some hi;rw [hp] at hv;exact ⟨i, p, hp, hf, hk, by simpa using hv⟩
 ·rintro ⟨i, p, hp, hf, hk, rfl⟩;rw [memOf, (find_iff hn k i).2 ⟨p, hp, hf, hk⟩];simp [hp]
theorem memOf_isSome (k : Int) : (memOf pl k).isSome = (find pl k).isSome := by
 rw [memOf];cases h : find pl k with
 | none => rfl
 | some i =>
  obtain ⟨p, hp, _⟩ := find_some h;simp [hp]
variable {p : Pl}
theorem memOf_set (hn : Nd pl) (hp : pl[i]? = some p) (q : Pl) (h : q.full = true -> (p.full = true /\ q.key = p.key) \/ find pl q.key = none) (k : Int) :
  memOf (pl.set i q) k = if q.full = true /\ q.key = k then some q.v else if p.full = true /\ p.key = k then none else memOf pl k := by
 rw [memOf, find_set hn hp q h];split
 ·simp [get_set hp]
 ·split
  ·rfl
  ·rename_i h1 h2;rw [memOf];cases hf : find pl k with
   | none => rfl
   | some j =>
    obtain ⟨x, hx, hxf, hxk⟩ := find_some hf;have : ¬ i = j := by
     rintro rfl;rw [hp] at hx; cases hx;exact h2 ⟨hxf, hxk⟩
    simp only [Option.bind_some];rw [get_set hp, if_neg this]
theorem memOf_unmark (pl : List Pl) (k : Int) : memOf pl k = memOf (pl.map Pl.unmark) k := by
 rw [memOf, memOf, <- find_unmark];congr 1
 funext i
 rw [gP];cases pl[i]? <;> rfl
theorem memOf_spin (f : Nat) (pl : List Pl) (h : Nat) (k : Int) : memOf (spin f pl h).1 k = memOf pl k := by
 rw [memOf_unmark, spin_same, <- memOf_unmark]
theorem nd_unmark {a b : List Pl} (h : a.map Pl.unmark = b.map Pl.unmark) (hn : Nd b) : Nd a := by
 intro i j x y hx hy hxf hyf hk;have ga : ∀ n : Nat, (a[n]?).map Pl.unmark = (b[n]?).map Pl.unmark := fun n => by rw [<- gP, <- gP, h]
 have gx := ga i;have gy := ga j;rw [hx] at gx;rw [hy] at gy;cases hxa : b[i]? with
 | none => rw [hxa] at gx; cases gx
 | some x' =>
  cases hyb : b[j]? with
  | none => rw [hyb] at gy; cases gy
  | some y' =>
   rw [hxa] at gx;rw [hyb] at gy;simp only [Option.map_some, Option.some.injEq, Pl.unmark, Pl.mk.injEq] at gx gy;exact hn i j x' y' hxa hyb (by rw [<- gx.2.2.1, hxf]) (by rw [<- gy.2.2.1, hyf]) (by rw [<- gx.1, <- gy.1, hk])
structure MPut (pl : List Pl) (key : Int) (v : Pg) (M : Put) : Prop where
 at_ : (M.gone = none /\ ∀ k, memOf M.pl k = if k = key then some v else memOf pl k) \/
  (∃ g, M.gone = some g /\ g.key ≠ key /\ memOf pl g.key = some g.v /\ memOf pl key = none /\ pl.countP (·.full) = pl.length /\ ∀ k, memOf M.pl k = if k = key then some v else if k = g.key then none else memOf pl k)
theorem mem_put {hand : Nat} (hn : Nd pl) (hh : hand < pl.length) (key : Int) (v : Pg) : MPut pl key v (putM pl hand key v) := by
 constructor;cases hf : find pl key with
 | some i =>
  obtain ⟨p, hp, hfu, hk⟩ := find_some hf;have e : putM pl hand key v = ⟨pl.set i ⟨key, v, true, true⟩, hand, none⟩ := by simp [putM, hf]
  have hq : (⟨key, v, true, true⟩ : Pl).full = true -> (p.full = true /\ (⟨key, v, true, true⟩ : Pl).key = p.key) \/ find pl (⟨key, v, true, true⟩ : Pl).key = none := fun _ => .inl ⟨hfu, hk.symm⟩
  refine .inl ⟨by rw [e], fun k => ?_⟩;rw [e];simp only;rw [memOf_set hn hp _ hq];by_cases hkk : k = key
  ·subst hkk; simp
  ·have h1 : ¬ key = k := fun x => hkk x.symm
   have h2 : ¬ p.key = k := by rw [hk]; exact h1
   simp [h1, h2, hkk]
 | none =>
  cases he : empty pl with
  | some i =>
   obtain ⟨p, hp, hfu⟩ : ∃ p, pl[i]? = some p /\ p.full = false := by
    rw [empty, List.findIdx?_eq_some_iff_getElem] at he;obtain ⟨hi, h1, _⟩ := he;exact ⟨pl[i], by simp, by simpa using h1⟩
   have e : putM pl hand key v = ⟨pl.set i ⟨key, v, true, true⟩, hand, none⟩ := by simp [putM, hf, he]
   have hq : (⟨key, v, true, true⟩ : Pl).full = true -> (p.full = true /\ (⟨key, v, true, true⟩ : Pl).key = p.key) \/ find pl (⟨key, v, true, true⟩ : Pl).key = none := fun _ => .inr hf
   refine .inl ⟨by rw [e], fun k => ?_⟩;rw [e];simp only;rw [memOf_set hn hp _ hq];by_cases hkk : k = key
   ·subst hkk; simp
   ·have h1 : ¬ key = k := fun x => hkk x.symm
    simp [h1, hfu, hkk]
  | none =>
   have e := putM_full (hand := hand) (v := v) hf he;have hl := spin_len pl.length pl hand;have hi := spin_lt pl.length pl hand hh;have hf2 := spin_find pl.length pl hand key;have he2 := spin_empty pl.length pl hand;rw [hf] at hf2;rw [he] at he2;have hn2 : Nd (spin pl.length pl hand).1 := nd_unmark (spin_same _ _ _) hn;have hm2 := memOf_spin pl.length pl hand;generalize spin pl.length pl hand = s at *
   obtain ⟨p, hp⟩ : ∃ p, s.1[s.2]? = some p := ⟨_, gE (by omega)⟩
   have hfu := full_of_empty he2 hp;have hq : (⟨key, v, true, true⟩ : Pl).full = true -> (p.full = true /\ (⟨key, v, true, true⟩ : Pl).key = p.key) \/ find s.1 (⟨key, v, true, true⟩ : Pl).key = none := fun _ => .inr hf2
   have hne := find_none hf2 hp hfu;refine .inr ⟨p, by rw [e]; exact hp, hne, ?_, ?_, full_count he, fun k => ?_⟩
   ·rw [<- hm2, memOf_iff hn2];exact ⟨s.2, p, hp, hfu, rfl, rfl⟩
   ·rw [memOf, hf]; rfl
   ·rw [e];simp only;rw [memOf_set hn2 hp _ hq, hm2];by_cases hkk : k = key
    ·subst hkk; simp
    ·have h1 : ¬ key = k := fun x => hkk x.symm
     by_cases hg : k = p.key
     ·subst hg; simp [h1, hfu, hkk]
     ·have h2 : ¬ p.key = k := fun x => hg x.symm
      simp [h1, h2, hkk, hg]
theorem count_cover (hn : Nd pl) (L : List Int) (h : ∀ k, (memOf pl k).isSome = true -> k ∈ L) : pl.countP (·.full) <= L.length := by
 rw [List.countP_eq_length_filter];have h1 : ((pl.filter (·.full)).map (·.key)).Nodup := by
  rw [List.Nodup, List.pairwise_map];have : (pl.filter (·.full)).Pairwise (fun a b => a.key ≠ b.key) := by
   rw [List.pairwise_filter];rw [List.pairwise_iff_getElem];intro i j hi hj hij hfi hfj hk;have := hn i j pl[i] pl[j] (gE hi) (gE hj) hfi hfj hk;omega
  exact this
 have h2 := List.Nodup.length_le_of_subset h1 (l₂ := L) (by
  intro k hk;obtain ⟨p, hp, rfl⟩ := List.mem_map.1 hk;rw [List.mem_filter] at hp;obtain ⟨hp, hf⟩ := hp;obtain ⟨i, hi, rfl⟩ := List.getElem_of_mem hp;refine h _ ?_;rw [(memOf_iff hn _ _).2 ⟨i, pl[i], gE hi, hf, rfl, rfl⟩];rfl)
 simpa using h2
def updM (m : Int -> Option Pg) (k : Int) (v : Option Pg) : Int -> Option Pg := fun j => if j = k then v else m j
theorem memOf_drop (hn : Nd pl) {key : Int} (hf : find pl key = some i) (z : Pg) (k : Int) : memOf (pl.set i (Pl.none z)) k = updM (memOf pl) key none k := by
 obtain ⟨p, hp, hfu, hk⟩ := find_some hf;rw [memOf_set hn hp _ (fun a => by cases a), updM];by_cases hkk : k = key
 ·subst hkk; simp [Pl.none, hfu, hk]
 ·have h1 : ¬ p.key = k := by rw [hk]; exact fun x => hkk x.symm
  simp [Pl.none, h1, hkk]
theorem memOf_mark (hn : Nd pl) (hp : pl[i]? = some p) (b : Bool) (k : Int) : memOf (pl.set i { p with marked := b }) k = memOf pl k := by
 rw [memOf_set hn hp { p with marked := b } (fun a => .inl ⟨a, rfl⟩)];by_cases h : p.full = true /\ p.key = k
 ·rw [if_pos h, (memOf_iff hn _ _).2 ⟨i, p, hp, h.1, h.2, rfl⟩]
 ·rw [if_neg h, if_neg h]
theorem memOf_replicate (n : Nat) (z : Pg) (k : Int) : memOf (List.replicate n (Pl.none z)) k = none := by
 have : find (List.replicate n (Pl.none z)) k = none := by
  rw [find, List.findIdx?_eq_none_iff];intro p hp;rw [List.eq_of_mem_replicate hp]; rfl
 rw [memOf, this]; rfl
end Go.Sg.Clk
namespace Go.Proofs.YtgdhaaokolfdoaaGreatDoor
namespace CP
open Go.RowKit Go.Sg Go.Sg.Clk
structure MemAt (w : World) (bc bp bm n : Nat) (m : Int -> Option Pg) : Prop where
 ex : ∃ pl hand, AtP w bc bp bm pl hand /\ pl.length = n /\ ∀ k, memOf pl k = m k
variable {w : World} {bc bm bp n : Nat} {m : Int -> Option Pg}
theorem MemAt.fr {S : Nat -> Prop} {w' : World} (h : MemAt w bc bp bm n m) (F : Fr S w w') (h1 : ¬ S bc) (h2 : ¬ S bp) (h3 : ¬ S bm) : MemAt w' bc bp bm n m := by
 obtain ⟨pl, hand, hA, hl, hm⟩ := h.ex;exact ⟨pl, hand, hA.fr F h1 h2 h3, hl, hm⟩
theorem MemAt.lts (h : MemAt w bc bp bm n m) : bc < w.heap.size /\ bp < w.heap.size /\ bm < w.heap.size := by
 obtain ⟨pl, hand, hA, hl, hm⟩ := h.ex;exact AtP_lts hA
theorem MemAt.heaps (h : MemAt w bc bp bm n m) : (∃ c, w.heap[bc]? = some (.cells c 260)) /\ (∃ c, w.heap[bp]? = some (.cells c 264)) /\ ∃ l ck, w.heap[bm]? = some (.map (ents l) ck) := by
 obtain ⟨pl, hand, hA, hl, hm⟩ := h.ex;obtain ⟨l, ck, hm, _⟩ := hA.m;exact ⟨⟨_, hA.c⟩, ⟨_, hA.p⟩, l, ck, hm⟩
def Cover (m : Int -> Option Pg) (L : List Int) : Prop := ∀ k, (m k).isSome = true -> k ∈ L
theorem memOf_markM {pl : List Pl} (hn : Nd pl) (key k : Int) : memOf (markM pl key) k = memOf pl k := by
 cases hf : find pl key with
 | none => simp [markM, hf]
 | some i =>
  obtain ⟨p, hp, _⟩ := find_some hf;have e1 : markM pl key = pl.set i { p with marked := true } := by simp only [markM, hf]; exact modify_eq hp _
  rw [e1]; exact memOf_mark hn hp true k
theorem lookM_eq (pl : List Pl) (key : Int) : lookM pl key = (memOf pl key).getD Pg.zero := rfl
theorem newmem_ok (n : Nat) (h1 : 1 <= n) (h2 : n <= 4096) (w : World) :
  Calls Tryz.prog 96 #[.int .i64 n] w fun e w' => e = .returned (.pointer (some ⟨w.heap.size + 2, 0, none⟩)) /\ MemAt w' (w.heap.size + 2) w.heap.size (w.heap.size + 1) n (fun _ => none) /\ Fq w w' :=
 (new_ok n h1 h2 w).mono fun e w' ⟨he, hA, hF⟩ => ⟨he, ⟨⟨_, _, hA, by simp, fun k => memOf_replicate _ _ _⟩⟩, hF⟩
theorem getmem_at (h : MemAt w bc bp bm n m) (key : Int) :
  Calls Tryz.prog 86 #[.pointer (some ⟨bc, 0, none⟩), .int .i64 key] w fun e w' => e = .returned (.tuple #[((m key).getD Pg.zero).val, .bool (m key).isSome]) /\ MemAt w' bc bp bm n m /\ Fr (fun b => b = bp) w w' := by
 obtain ⟨pl, hand, hA, hl, hm⟩ := h.ex;refine (get_at hA key).mono fun e w' ⟨he, hA', hF⟩ => ⟨?_, ⟨⟨_, _, hA', ?_, fun k => ?_⟩⟩, hF⟩
 ·rw [he, lookM_eq, <- memOf_isSome, hm]
 ·rw [<- hl];cases hf : find pl key with
  | none => simp [markM, hf]
  | some i => simp [markM, hf]
 ·rw [memOf_markM hA.nd, hm]
theorem lookmem_at (h : MemAt w bc bp bm n m) (key : Int) :
  Calls Tryz.prog 155 #[.pointer (some ⟨bc, 0, none⟩), .int .i64 key] w fun e w' => e = .returned (.tuple #[((m key).getD Pg.zero).val, .bool (m key).isSome]) /\ Fq w w' := by
 obtain ⟨pl, hand, hA, hl, hm⟩ := h.ex;refine (look_at hA key).mono fun e w' ⟨he, hF⟩ => ⟨?_, hF⟩
 rw [he, lookM_eq, <- memOf_isSome, hm]
def GoneOk (m : Int -> Option Pg) (n : Nat) (key : Int) : Option (Int × Pg) -> Prop
 | none => True
 | some g => g.1 ≠ key /\ m g.1 = some g.2 /\ m key = none /\ ∀ L, Cover m L -> n <= L.length
def putF (m : Int -> Option Pg) (key : Int) (x : Pg) (g : Option (Int × Pg)) : Int -> Option Pg := fun k => if k = key then some x else if g.map (·.1) = some k then none else m k
def gK (g : Option (Int × Pg)) : Int := (g.map (·.1)).getD 0
def gV (g : Option (Int × Pg)) : Pg := (g.map (·.2)).getD Pg.zero
def PutMem (m : Int -> Option Pg) (bc bp bm n : Nat) (key : Int) (x : Pg) (w : World) (e : Ending) (w' : World) : Prop :=
 ∃ g, GoneOk m n key g /\ e = .returned (.tuple #[.int .i64 (gK g), (gV g).val, .bool g.isSome]) /\ MemAt w' bc bp bm n (putF m key x g) /\ Fr (fun b => b = bc \/ b = bp \/ b = bm) w w'
theorem putmem_at (h : MemAt w bc bp bm n m) (key : Int) (x : Pg) :
  Calls Tryz.prog 111 #[.pointer (some ⟨bc, 0, none⟩), .int .i64 key, x.val] w (PutMem m bc bp bm n key x w) := by
 obtain ⟨pl, hand, hA, hl, hm⟩ := h.ex;have hc : ∀ L, Cover m L -> pl.countP (·.full) <= L.length := fun L hL => count_cover hA.nd L fun k hk => hL k (by rw [<- hm]; exact hk)
 have hlen := (did hA.nd hA.hand key x).len;refine (put_at hA key x).mono fun e w' ⟨he, hA', hF⟩ => ?_
 rcases (mem_put hA.nd hA.hand key x).at_ with ⟨hg, hmm⟩ | ⟨g, hg, hne, hgm, hkm, hcnt, hmm⟩
 ·refine ⟨none, trivial, ?_, ⟨⟨_, _, hA', by rw [hlen, hl], fun k => ?_⟩⟩, hF⟩
  ·rw [he, hg]; rfl
  ·rw [hmm, putF, hm]; simp
 ·refine ⟨some (g.key, g.v), ⟨hne, by rw [<- hm]; exact hgm, by rw [<- hm]; exact hkm, fun L hL => ?_⟩, ?_, ⟨⟨_, _, hA', by rw [hlen, hl], fun k => ?_⟩⟩, hF⟩
  ·rw [<- hl, <- hcnt]; exact hc L hL
  ·rw [he, hg]; rfl
  ·rw [hmm, putF, hm];by_cases h1 : k = key
   ·simp [h1]
   ·by_cases h2 : k = g.key
    ·simp [h1, h2]
    ·have h3 : ¬ g.key = k := fun x => h2 x.symm
     simp [h1, h2, h3]
theorem dropmem_at (h : MemAt w bc bp bm n m) (key : Int) :
  Calls Tryz.prog 108 #[.pointer (some ⟨bc, 0, none⟩), .int .i64 key] w fun e w' => e = .returned (.tuple #[((m key).getD Pg.zero).val, .bool (m key).isSome]) /\ MemAt w' bc bp bm n (updM m key none) /\ Fr (fun b => b = bp \/ b = bm) w w' := by
 obtain ⟨pl, hand, hA, hl, hm⟩ := h.ex;refine (drop_at hA key).mono fun e w' ⟨he, hA', hF⟩ => ⟨?_, ⟨⟨_, _, hA', ?_, fun k => ?_⟩⟩, hF⟩
 ·rw [he, lookM_eq, <- memOf_isSome, hm]
 ·rw [<- hl];cases hf : find pl key with
  | none => simp [dropM, hf]
  | some i => simp [dropM, hf]
 ·cases hf : find pl key with
  | none =>
   have e : dropM pl key = pl := by simp [dropM, hf]
   have e2 : m key = none := by rw [<- hm, memOf, hf]; rfl
   rw [e, hm, updM];split
   ·rename_i h; rw [h, e2]
   ·rfl
  | some i =>
   have e : dropM pl key = pl.set i (Pl.none Pg.zero) := by simp [dropM, hf]
   rw [e, memOf_drop hA.nd hf, updM, updM, hm]
end CP
end Go.Proofs.YtgdhaaokolfdoaaGreatDoor
