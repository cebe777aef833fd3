/- The set of bits: what in and Has compute. Conditions: the set lies in the world as BRaw says. -/
import Derived.Test.YtgdhaaokolfdoaaGreatDoorProg
import Derived.Test.YtgdhaaokolfdoaaGreatDoorLib
import Derived.Deep.QuietTactic
import Derived.BigQuiet
import Derived.RegionTactic
import Derived.BigRegion
import Derived.Deep.LoopGhost
import Derived.Laws.BitsAllLaws
namespace Go.Sg.Bits
open Go.RowKit
def bit (ws : List Nat) (i : Nat) : Bool := (ws.getD (i / 64) 0).testBit (i % 64)
def wcells (ws : List Nat) : Array Value := (ws.map (fun (x : Nat) => Value.int .u64 (x : Int))).toArray
/-- A set of bits lies in the world: n numbers, the words ws. -/
structure BRaw (w : World) (bs bw n hand : Nat) (ws : List Nat) : Prop where
  s : w.heap[bs]? = some (.cells #[.int .i64 n, .int .i64 hand, .slice (some ⟨bw, 0, none⟩) ws.length ws.length] 256)
  w_ : w.heap[bw]? = some (.cells (wcells ws) 29)
  len : ws.length = (n + 63) / 64
  room : 1 ≤ n ∧ n ≤ 65536
  hand : hand < n
  wf : ∀ x ∈ ws, x < 18446744073709551616
  pad : ∀ i, n ≤ i → bit ws i = false
theorem BRaw.fr {S : Nat → Prop} {w w' : World} {bs bw n hand : Nat} {ws : List Nat} (h : BRaw w bs bw n hand ws) (F : Fr S w w') (h1 : ¬ S bs) (h2 : ¬ S bw) : BRaw w' bs bw n hand ws :=
  ⟨F.heap h.s h1, F.heap h.w_ h2, h.len, h.room, h.hand, h.wf, h.pad⟩
theorem BRaw.word {w : World} {bs bw n hand : Nat} {ws : List Nat} (h : BRaw w bs bw n hand ws) {j x : Nat} (hj : ws[j]? = some x) : w.cell? ⟨bw, j, none⟩ = some (.int .u64 x) := by
  rw [cell_of_heap h.w_]
  simp [wcells, hj]
theorem BRaw.get {w : World} {bs bw n hand : Nat} {ws : List Nat} (h : BRaw w bs bw n hand ws) {i : Nat} (hi : i < n) : ∃ x, ws[i / 64]? = some x ∧ x < 18446744073709551616 ∧ bit ws i = x.testBit (i % 64) := by
  have hl := h.len
  have hlt : i / 64 < ws.length := by omega
  refine ⟨ws[i / 64], List.getElem?_eq_getElem hlt, h.wf _ (List.getElem_mem hlt), ?_⟩
  simp [bit, List.getD, List.getElem?_eq_getElem hlt]
theorem shr_nat (x k : Nat) : (x : Int) / 2 ^ k = ((x / 2 ^ k : Nat) : Int) := by simp
theorem and_one (x k : Nat) (hx : x < 18446744073709551616) : (bits BinOp.and IntKind.u64 ((x : Int) / 2 ^ k) 1 == 1) = x.testBit k := by
  have h1 : x / 2 ^ k < 18446744073709551616 := Nat.lt_of_le_of_lt (Nat.div_le_self _ _) hx
  rw [shr_nat, show (1 : Int) = ((1 : Nat) : Int) from rfl, u64_and_nat _ _ h1 (by decide), nat_mask1, Nat.testBit_eq_decide_div_mod_eq]
  have h2 : x / 2 ^ k % 2 = 0 ∨ x / 2 ^ k % 2 = 1 := by omega
  rcases h2 with h2 | h2 <;> rw [h2] <;> rfl
theorem bit_set {ws : List Nat} {k x : Nat} (hk : ws[k]? = some x) (y j : Nat) : bit (ws.set k y) j = if j / 64 = k then y.testBit (j % 64) else bit ws j := by
  have hl := (List.getElem?_eq_some_iff.1 hk).1
  by_cases h : j / 64 = k
  · subst h
    simp [bit, List.getD, hl]
  · rw [if_neg h]
    have h' : ¬ k = j / 64 := fun e => h e.symm
    simp [bit, List.getD, List.getElem?_set, h']
theorem bit_or {ws : List Nat} {i x : Nat} (hx : ws[i / 64]? = some x) (j : Nat) : bit (ws.set (i / 64) (x ||| 2 ^ (i % 64))) j = if j = i then true else bit ws j := by
  rw [bit_set hx]
  split
  · rename_i h
    have hb : bit ws j = x.testBit (j % 64) := by simp [bit, List.getD, h, hx]
    rw [Nat.testBit_or, Nat.testBit_two_pow, hb]
    by_cases he : j = i
    · subst he; simp
    · rw [if_neg he]
      have : ¬ i % 64 = j % 64 := by omega
      simp [this]
  · rename_i h
    rw [if_neg (by rintro rfl; exact h rfl)]
theorem bit_andNot {ws : List Nat} {i x : Nat} (hx : ws[i / 64]? = some x) (j : Nat) : bit (ws.set (i / 64) (x &&& (18446744073709551615 - 2 ^ (i % 64)))) j = if j = i then false else bit ws j := by
  rw [bit_set hx]
  have hm : j % 64 < 64 := by omega
  split
  · rename_i h
    have hb : bit ws j = x.testBit (j % 64) := by simp [bit, List.getD, h, hx]
    rw [Nat.testBit_and, show 18446744073709551615 - 2 ^ (i % 64) = 2 ^ 64 - (2 ^ (i % 64) + 1) by omega, Nat.testBit_two_pow_sub_succ (Nat.pow_lt_pow_right (by decide) (by omega)), Nat.testBit_two_pow, hb]
    by_cases he : j = i
    · subst he; simp
    · rw [if_neg he]
      have : ¬ i % 64 = j % 64 := by omega
      simp [this, hm]
  · rename_i h
    rw [if_neg (by rintro rfl; exact h rfl)]
theorem wcells_set (ws : List Nat) (k y : Nat) : (wcells ws).setIfInBounds k (.int .u64 y) = wcells (ws.set k y) := by simp [wcells]
theorem pow_lt (i : Nat) : 2 ^ (i % 64) < 18446744073709551616 := Nat.lt_of_lt_of_le (Nat.pow_lt_pow_right (a := 2) (m := i % 64) (n := 64) (by decide) (by omega)) (by decide)
theorem wrap_pow (i : Nat) : IntKind.u64.wrap (2 ^ (i % 64)) = ((2 ^ (i % 64) : Nat) : Int) := by
  have h := pow_lt i
  have e : (2 : Int) ^ (i % 64) = ((2 ^ (i % 64) : Nat) : Int) := (Int.natCast_pow 2 (i % 64)).symm
  rw [IntKind.wrap_u64, e]
  generalize 2 ^ (i % 64) = p at *
  omega
theorem BRaw.store {w : World} {bs bw n hand : Nat} {ws : List Nat} (h : BRaw w bs bw n hand ws) {k x y : Nat} (hk : ws[k]? = some x) (hy : y < 18446744073709551616) (hp : ∀ i, n ≤ i → bit (ws.set k y) i = false) :
    BRaw (w.setCell ⟨bw, k, none⟩ (.int .u64 y)) bs bw n hand (ws.set k y) := by
  have hne : bw ≠ bs := heap_ne h.w_ h.s (by simp)
  refine ⟨?_, ?_, by simpa using h.len, h.room, h.hand, ?_, hp⟩
  · rw [heap_setCell_ne _ _ _ _ hne, h.s]; simp
  · rw [heap_setCell_cells _ _ _ _ h.w_, wcells_set]
  · intro z hz
    rcases List.mem_or_eq_of_mem_set hz with hz | rfl
    · exact h.wf z hz
    · exact hy
/-- A set of bits, by its members. -/
structure BitsAt (w : World) (bs bw n hand : Nat) (t : Nat → Bool) : Prop where
  ex : ∃ ws, BRaw w bs bw n hand ws ∧ ∀ i, bit ws i = t i
theorem BitsAt.fr {S : Nat → Prop} {w w' : World} {bs bw n hand : Nat} {t : Nat → Bool} (h : BitsAt w bs bw n hand t) (F : Fr S w w') (h1 : ¬ S bs) (h2 : ¬ S bw) : BitsAt w' bs bw n hand t := by
  obtain ⟨ws, h, ht⟩ := h
  exact ⟨ws, h.fr F h1 h2, ht⟩
def upd (t : Nat → Bool) (i : Nat) (b : Bool) : Nat → Bool := fun j => if j = i then b else t j
end Go.Sg.Bits
namespace Go.Proofs.YtgdhaaokolfdoaaGreatDoor
open Go.RowKit Go.Sg Go.Sg.Bits

theorem in_yes {w : World} {bs bw n hand : Nat} {ws : List Nat} (h : BRaw w bs bw n hand ws) (i : Nat) (hi : i < n) :
    Calls Tryz.prog 157 #[.pointer (some ⟨bs, 0, none⟩), .int .i64 i] w fun e w' => e = .returned (.bool true) ∧ w = w' := by
  have c0 := cell_of_heap h.s 0
  simp at c0
  clear h
  go_enter Tryz.func157, Tryz.ntmps157
  go_wp2
  go_ret
  exact ⟨rfl, rfl⟩
theorem in_no {w : World} {bs bw n hand : Nat} {ws : List Nat} (h : BRaw w bs bw n hand ws) (i : Int) (hi : i < 0 ∨ (n : Int) ≤ i) :
    Calls Tryz.prog 157 #[.pointer (some ⟨bs, 0, none⟩), .int .i64 i] w fun e w' => e = .returned (.bool false) ∧ w = w' := by
  have c0 := cell_of_heap h.s 0
  simp at c0
  clear h
  rcases hi with hi | hi
  · go_enter Tryz.func157, Tryz.ntmps157
    go_wp2
    go_ret
    exact ⟨rfl, rfl⟩
  · have h0 : 0 ≤ i := by omega
    have h1 : decide (i < (n : Int)) = false := by simp; omega
    go_enter Tryz.func157, Tryz.ntmps157
    go_wp2
    go_ret
    exact ⟨by simp [h1], rfl⟩
theorem in_nil (i : Int) (w : World) : Calls Tryz.prog 157 #[.pointer none, .int .i64 i] w fun e w' => e = .returned (.bool false) ∧ w = w' := by
  go_enter Tryz.func157, Tryz.ntmps157
  go_wp2
  go_ret
  exact ⟨rfl, rfl⟩
theorem has_yes {w : World} {bs bw n hand : Nat} {ws : List Nat} (h : BRaw w bs bw n hand ws) (i : Nat) (hi : i < n) :
    Calls Tryz.prog 88 #[.pointer (some ⟨bs, 0, none⟩), .int .i64 i] w fun e w' => e = .returned (.bool (bit ws i)) ∧ w = w' := by
  have c2 := cell_of_heap h.s 2
  simp at c2
  obtain ⟨x, hx, hlt, hb⟩ := h.get hi
  have cw := h.word hx
  have hl := h.len
  have hr := h.room
  have H := hid h
  have HB := hid hb
  clear hx hb h
  go_enter Tryz.func88, Tryz.ntmps88
  go_wp2_with (go_at_call 157; refine (in_yes H.out i hi).mono ?_; rintro e w' ⟨rfl, rfl⟩)
  go_ret
  exact ⟨by rw [HB.out, ← and_one x _ hlt]; rfl, rfl⟩
theorem has_no {w : World} {bs bw n hand : Nat} {ws : List Nat} (h : BRaw w bs bw n hand ws) (i : Int) (hi : i < 0 ∨ (n : Int) ≤ i) :
    Calls Tryz.prog 88 #[.pointer (some ⟨bs, 0, none⟩), .int .i64 i] w fun e w' => e = .returned (.bool false) ∧ w = w' := by
  have H := hid (in_no h i hi)
  clear h hi
  go_enter Tryz.func88, Tryz.ntmps88
  go_wp2_with (go_at_call 157; refine H.out.mono ?_; rintro e w' ⟨rfl, rfl⟩)
  go_ret
  exact ⟨rfl, rfl⟩
theorem has_nil (i : Int) (w : World) : Calls Tryz.prog 88 #[.pointer none, .int .i64 i] w fun e w' => e = .returned (.bool false) ∧ w = w' := by
  go_enter Tryz.func88, Tryz.ntmps88
  go_wp2_with (go_at_call 157; refine (in_nil i w).mono ?_; rintro e w' ⟨rfl, rfl⟩)
  go_ret
  exact ⟨rfl, rfl⟩

theorem has_at {w : World} {bs bw n hand : Nat} {t : Nat → Bool} (h : BitsAt w bs bw n hand t) (i : Nat) (hi : i < n) :
    Calls Tryz.prog 88 #[.pointer (some ⟨bs, 0, none⟩), .int .i64 i] w fun e w' => e = .returned (.bool (t i)) ∧ w = w' := by
  obtain ⟨ws, h, ht⟩ := h
  rw [← ht]
  exact has_yes h i hi

set_option maxHeartbeats 1000000 in
theorem mark_new {w : World} {bs bw n hand : Nat} {t : Nat → Bool} (h : BitsAt w bs bw n hand t) (i : Nat) (hi : i < n) (hb : t i = false) :
    Calls Tryz.prog 90 #[.pointer (some ⟨bs, 0, none⟩), .int .i64 i] w fun e w' => e = .returned (.bool true) ∧ BitsAt w' bs bw n hand (upd t i true) ∧ Fr (fun b => b = bw) w w' := by
  obtain ⟨ws, h, ht⟩ := h
  rw [← ht] at hb
  have c2 := cell_of_heap h.s 2
  simp at c2
  obtain ⟨x, hx, hlt, hb2⟩ := h.get hi
  have cw := h.word hx
  have zw : ∀ o, w.frozen? ⟨bw, o, none⟩ = false := fun o => frozen_of_heap h.w_ o
  have hl := h.len
  have hr := h.room
  have H := hid h
  have HB := hid hb
  have HX := hid hx
  have HT := hid ht
  clear hx hb h hb2 ht
  go_enter Tryz.func90, Tryz.ntmps90
  go_wp2_with (first | (go_at_call 157; refine (in_yes H.out i hi).mono ?_; rintro e w' ⟨rfl, rfl⟩) | (go_at_call 88; refine (has_yes H.out i hi).mono ?_; rintro e w' ⟨rfl, rfl⟩; rw [HB.out]))
  go_region
  go_wp2
  go_ret
  have hy : x ||| 2 ^ (i % 64) < 18446744073709551616 := Nat.or_lt_two_pow (n := 64) hlt (pow_lt i)
  refine ⟨rfl, ⟨ws.set (i / 64) (x ||| 2 ^ (i % 64)), ?_, fun j => ?_⟩, ((Fr.refl (fun b => b = bw) _).setCell (a := ⟨bw, i / 64, none⟩) (fun _ => rfl) _).drew⟩
  · rw [wrap_pow, u64_or_nat _ _ hlt (pow_lt i)]
    exact (H.out.store HX.out hy fun j hj => by rw [bit_or HX.out, if_neg (by omega)]; exact H.out.pad j hj).fr ((Fr.refl (fun _ => False) _).drew) (fun h => h) (fun h => h)
  · rw [bit_or HX.out, upd, HT.out]

theorem mark_there {w : World} {bs bw n hand : Nat} {t : Nat → Bool} (h : BitsAt w bs bw n hand t) (i : Nat) (hi : i < n) (hb : t i = true) :
    Calls Tryz.prog 90 #[.pointer (some ⟨bs, 0, none⟩), .int .i64 i] w fun e w' => e = .returned (.bool false) ∧ w = w' := by
  have H := hid h
  have HB := hid hb
  obtain ⟨ws, h', ht⟩ := h
  have H' := hid h'
  clear hb h' ht
  go_enter Tryz.func90, Tryz.ntmps90
  go_wp2_with (first | (go_at_call 157; refine (in_yes H'.out i hi).mono ?_; rintro e w' ⟨rfl, rfl⟩) | (go_at_call 88; refine (has_at H.out i hi).mono ?_; rintro e w' ⟨rfl, rfl⟩; rw [HB.out]))
  go_ret
  exact ⟨rfl, rfl⟩
theorem mark_no {w : World} {bs bw n hand : Nat} {t : Nat → Bool} (h : BitsAt w bs bw n hand t) (i : Int) (hi : i < 0 ∨ (n : Int) ≤ i) :
    Calls Tryz.prog 90 #[.pointer (some ⟨bs, 0, none⟩), .int .i64 i] w fun e w' => e = .returned (.bool false) ∧ w = w' := by
  obtain ⟨ws, h', ht⟩ := h
  have H := hid (in_no h' i hi)
  clear hi h' ht
  go_enter Tryz.func90, Tryz.ntmps90
  go_wp2_with (first | (go_at_call 157; refine H.out.mono ?_; rintro e w' ⟨rfl, rfl⟩))
  go_ret
  exact ⟨rfl, rfl⟩

set_option maxHeartbeats 1000000 in
theorem clear_there {w : World} {bs bw n hand : Nat} {t : Nat → Bool} (h : BitsAt w bs bw n hand t) (i : Nat) (hi : i < n) (hb : t i = true) :
    Calls Tryz.prog 107 #[.pointer (some ⟨bs, 0, none⟩), .int .i64 i] w fun e w' => e = .returned (.bool true) ∧ BitsAt w' bs bw n hand (upd t i false) ∧ Fr (fun b => b = bw) w w' := by
  have H0 := hid h
  obtain ⟨ws, h, ht⟩ := h
  have c2 := cell_of_heap h.s 2
  simp at c2
  obtain ⟨x, hx, hlt, hb2⟩ := h.get hi
  have cw := h.word hx
  have zw : ∀ o, w.frozen? ⟨bw, o, none⟩ = false := fun o => frozen_of_heap h.w_ o
  have hl := h.len
  have hr := h.room
  have H := hid h
  have HB := hid hb
  have HX := hid hx
  have HT := hid ht
  clear hx hb h hb2 ht
  go_enter Tryz.func107, Tryz.ntmps107
  go_wp2_with (go_at_call 88; refine (has_at H0.out i hi).mono ?_; rintro e w' ⟨rfl, rfl⟩; rw [HB.out])
  go_region
  go_wp2
  go_ret
  have hy : x &&& (18446744073709551615 - 2 ^ (i % 64)) < 18446744073709551616 := Nat.lt_of_le_of_lt Nat.and_le_left hlt
  refine ⟨rfl, ⟨ws.set (i / 64) (x &&& (18446744073709551615 - 2 ^ (i % 64))), ?_, fun j => ?_⟩, ((Fr.refl (fun b => b = bw) _).setCell (a := ⟨bw, i / 64, none⟩) (fun _ => rfl) _).drew⟩
  · rw [wrap_pow, u64_andNot_nat _ _ hlt (pow_lt i)]
    exact (H.out.store HX.out hy fun j hj => by rw [bit_andNot HX.out, if_neg (by omega)]; exact H.out.pad j hj).fr ((Fr.refl (fun _ => False) _).drew) (fun h => h) (fun h => h)
  · rw [bit_andNot HX.out, upd, HT.out]
theorem clear_no {w : World} {bs bw n hand : Nat} {t : Nat → Bool} (h : BitsAt w bs bw n hand t) (i : Nat) (hi : i < n) (hb : t i = false) :
    Calls Tryz.prog 107 #[.pointer (some ⟨bs, 0, none⟩), .int .i64 i] w fun e w' => e = .returned (.bool false) ∧ w = w' := by
  have H := hid h
  have HB := hid hb
  clear hb h
  go_enter Tryz.func107, Tryz.ntmps107
  go_wp2_with (go_at_call 88; refine (has_at H.out i hi).mono ?_; rintro e w' ⟨rfl, rfl⟩; rw [HB.out])
  go_ret
  exact ⟨rfl, rfl⟩
end Go.Proofs.YtgdhaaokolfdoaaGreatDoor
