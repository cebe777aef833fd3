/- The clock of pages by what is in memory: New, Get, Look, Put, Drop, Len. Conditions: the clock lies in the world as MemAt says. -/
import Derived.Test.YtgdhaaokolfdoaaGreatDoorCT
import Derived.Test.YtgdhaaokolfdoaaGreatDoorMem
namespace Go.Proofs.YtgdhaaokolfdoaaGreatDoor
namespace CP
open Go.RowKit Go.Sg Go.Sg.Clk
/-- A clock of n places lies in the world; m is what is in memory. -/
structure MemAt (w : World) (bc bp bm n : Nat) (m : Int → Option Pg) : Prop where
  ex : ∃ pl hand, AtP w bc bp bm pl hand ∧ pl.length = n ∧ ∀ k, memOf pl k = m k
theorem MemAt.fr {S : Nat → Prop} {w w' : World} {bc bp bm n : Nat} {m : Int → Option Pg} (h : MemAt w bc bp bm n m) (F : Fr S w w') (h1 : ¬ S bc) (h2 : ¬ S bp) (h3 : ¬ S bm) : MemAt w' bc bp bm n m := by
  obtain ⟨pl, hand, hA, hl, hm⟩ := h.ex
  exact ⟨pl, hand, hA.fr F h1 h2 h3, hl, hm⟩
theorem MemAt.lts {w : World} {bc bp bm n : Nat} {m : Int → Option Pg} (h : MemAt w bc bp bm n m) : bc < w.heap.size ∧ bp < w.heap.size ∧ bm < w.heap.size := by
  obtain ⟨pl, hand, hA, hl, hm⟩ := h.ex
  exact AtP_lts hA
theorem MemAt.heaps {w : World} {bc bp bm n : Nat} {m : Int → Option Pg} (h : MemAt w bc bp bm n m) : (∃ c, w.heap[bc]? = some (.cells c 260)) ∧ (∃ c, w.heap[bp]? = some (.cells c 264)) ∧ ∃ l ck, w.heap[bm]? = some (.map (ents l) ck) := by
  obtain ⟨pl, hand, hA, hl, hm⟩ := h.ex
  obtain ⟨l, ck, hm, _⟩ := hA.m
  exact ⟨⟨_, hA.c⟩, ⟨_, hA.p⟩, l, ck, hm⟩
theorem MemAt.congr {w : World} {bc bp bm n : Nat} {m m' : Int → Option Pg} (h : MemAt w bc bp bm n m) (hm : ∀ k, m k = m' k) : MemAt w bc bp bm n m' := by
  obtain ⟨pl, hand, hA, hl, hm'⟩ := h.ex
  exact ⟨pl, hand, hA, hl, fun k => (hm' k).trans (hm k)⟩
def Cover (m : Int → Option Pg) (L : List Int) : Prop := ∀ k, (m k).isSome = true → k ∈ L

theorem memOf_markM {pl : List Pl} (hn : Nd pl) (key k : Int) : memOf (markM pl key) k = memOf pl k := by
  cases hf : find pl key with
  | none => simp [markM, hf]
  | some i =>
    obtain ⟨p, hp, _⟩ := find_some hf
    have e1 : markM pl key = pl.set i { p with marked := true } := by simp only [markM, hf]; exact modify_eq hp _
    rw [e1]; exact memOf_mark hn hp true k
theorem lookM_eq (pl : List Pl) (key : Int) : lookM pl key = (memOf pl key).getD Pg.zero := rfl
theorem newmem_ok (n : Nat) (h1 : 1 ≤ n) (h2 : n ≤ 4096) (w : World) :
    Calls Tryz.prog 96 #[.int .i64 n] w fun e w' => e = .returned (.pointer (some ⟨w.heap.size + 2, 0, none⟩)) ∧ MemAt w' (w.heap.size + 2) w.heap.size (w.heap.size + 1) n (fun _ => none) ∧ Fr (fun _ => False) w w' :=
  (new_ok n h1 h2 w).mono fun e w' ⟨he, hA, hF⟩ => ⟨he, ⟨⟨_, _, hA, by simp, fun k => memOf_replicate _ _ _⟩⟩, hF⟩
theorem getmem_at {w : World} {bc bp bm n : Nat} {m : Int → Option Pg} (h : MemAt w bc bp bm n m) (key : Int) :
    Calls Tryz.prog 86 #[.pointer (some ⟨bc, 0, none⟩), .int .i64 key] w fun e w' => e = .returned (.tuple #[((m key).getD Pg.zero).val, .bool (m key).isSome]) ∧ MemAt w' bc bp bm n m ∧ Fr (fun b => b = bp) w w' := by
  obtain ⟨pl, hand, hA, hl, hm⟩ := h.ex
  refine (get_at hA key).mono fun e w' ⟨he, hA', hF⟩ => ⟨?_, ⟨⟨_, _, hA', ?_, fun k => ?_⟩⟩, hF⟩
  · rw [he, lookM_eq, ← memOf_isSome, hm]
  · rw [← hl]
    cases hf : find pl key with
    | none => simp [markM, hf]
    | some i => simp [markM, hf]
  · rw [memOf_markM hA.nd, hm]
theorem lookmem_at {w : World} {bc bp bm n : Nat} {m : Int → Option Pg} (h : MemAt w bc bp bm n m) (key : Int) :
    Calls Tryz.prog 155 #[.pointer (some ⟨bc, 0, none⟩), .int .i64 key] w fun e w' => e = .returned (.tuple #[((m key).getD Pg.zero).val, .bool (m key).isSome]) ∧ Fr (fun _ => False) w w' := by
  obtain ⟨pl, hand, hA, hl, hm⟩ := h.ex
  refine (look_at hA key).mono fun e w' ⟨he, hF⟩ => ⟨?_, hF⟩
  rw [he, lookM_eq, ← memOf_isSome, hm]
/-- Which page goes for another one. -/
def GoneOk (m : Int → Option Pg) (n : Nat) (key : Int) : Option (Int × Pg) → Prop
  | none => True
  | some g => g.1 ≠ key ∧ m g.1 = some g.2 ∧ m key = none ∧ ∀ L, Cover m L → n ≤ L.length
def putF (m : Int → Option Pg) (key : Int) (x : Pg) (g : Option (Int × Pg)) : Int → Option Pg := fun k => if k = key then some x else if g.map (·.1) = some k then none else m k
def gK (g : Option (Int × Pg)) : Int := (g.map (·.1)).getD 0
def gV (g : Option (Int × Pg)) : Pg := (g.map (·.2)).getD Pg.zero
def PutMem (m : Int → Option Pg) (bc bp bm n : Nat) (key : Int) (x : Pg) (w : World) (e : Ending) (w' : World) : Prop :=
  ∃ g, GoneOk m n key g ∧ e = .returned (.tuple #[.int .i64 (gK g), (gV g).val, .bool g.isSome]) ∧ MemAt w' bc bp bm n (putF m key x g) ∧ Fr (fun b => b = bc ∨ b = bp ∨ b = bm) w w'
theorem putmem_at {w : World} {bc bp bm n : Nat} {m : Int → Option Pg} (h : MemAt w bc bp bm n m) (key : Int) (x : Pg) :
    Calls Tryz.prog 111 #[.pointer (some ⟨bc, 0, none⟩), .int .i64 key, x.val] w (PutMem m bc bp bm n key x w) := by
  obtain ⟨pl, hand, hA, hl, hm⟩ := h.ex
  have hc : ∀ L, Cover m L → pl.countP (·.full) ≤ L.length := fun L hL => count_cover hA.nd L fun k hk => hL k (by rw [← hm]; exact hk)
  have hlen := (did hA.nd hA.hand key x).len
  refine (put_at hA key x).mono fun e w' ⟨he, hA', hF⟩ => ?_
  rcases (mem_put hA.nd hA.hand key x).at_ with ⟨hg, hmm⟩ | ⟨g, hg, hne, hgm, hkm, hcnt, hmm⟩
  · refine ⟨none, trivial, ?_, ⟨⟨_, _, hA', by rw [hlen, hl], fun k => ?_⟩⟩, hF⟩
    · rw [he, hg]; rfl
    · rw [hmm, putF, hm]; simp
  · refine ⟨some (g.key, g.v), ⟨hne, by rw [← hm]; exact hgm, by rw [← hm]; exact hkm, fun L hL => ?_⟩, ?_, ⟨⟨_, _, hA', by rw [hlen, hl], fun k => ?_⟩⟩, hF⟩
    · rw [← hl, ← hcnt]; exact hc L hL
    · rw [he, hg]; rfl
    · rw [hmm, putF, hm]
      by_cases h1 : k = key
      · simp [h1]
      · by_cases h2 : k = g.key
        · simp [h1, h2]
        · have h3 : ¬ g.key = k := fun x => h2 x.symm
          simp [h1, h2, h3]
theorem dropmem_at {w : World} {bc bp bm n : Nat} {m : Int → Option Pg} (h : MemAt w bc bp bm n m) (key : Int) :
    Calls Tryz.prog 108 #[.pointer (some ⟨bc, 0, none⟩), .int .i64 key] w fun e w' => e = .returned (.tuple #[((m key).getD Pg.zero).val, .bool (m key).isSome]) ∧ MemAt w' bc bp bm n (updM m key none) ∧ Fr (fun b => b = bp ∨ b = bm) w w' := by
  obtain ⟨pl, hand, hA, hl, hm⟩ := h.ex
  refine (drop_at hA key).mono fun e w' ⟨he, hA', hF⟩ => ⟨?_, ⟨⟨_, _, hA', ?_, fun k => ?_⟩⟩, hF⟩
  · rw [he, lookM_eq, ← memOf_isSome, hm]
  · rw [← hl]
    cases hf : find pl key with
    | none => simp [dropM, hf]
    | some i => simp [dropM, hf]
  · cases hf : find pl key with
    | none =>
      have e : dropM pl key = pl := by simp [dropM, hf]
      have e2 : m key = none := by rw [← hm, memOf, hf]; rfl
      rw [e, hm, updM]
      split
      · rename_i h; rw [h, e2]
      · rfl
    | some i =>
      have e : dropM pl key = pl.set i (Pl.none Pg.zero) := by simp [dropM, hf]
      rw [e, memOf_drop hA.nd hf, updM, updM, hm]
theorem lenmem_at {w : World} {bc bp bm n : Nat} {m : Int → Option Pg} (h : MemAt w bc bp bm n m) :
    Calls Tryz.prog 84 #[.pointer (some ⟨bc, 0, none⟩)] w fun e w' => ∃ c : Nat, e = .returned (.int .i64 c) ∧ (c ≤ n ∧ ∀ L, Cover m L → c ≤ L.length) ∧ w = w' := by
  obtain ⟨pl, hand, hA, hl, hm⟩ := h.ex
  exact (len_at hA).mono fun e w' ⟨he, hw⟩ => ⟨_, he, ⟨by rw [← hl]; exact count_le pl, fun L hL => count_cover hA.nd L fun k hk => hL k (by rw [← hm]; exact hk)⟩, hw⟩
end CP
end Go.Proofs.YtgdhaaokolfdoaaGreatDoor
