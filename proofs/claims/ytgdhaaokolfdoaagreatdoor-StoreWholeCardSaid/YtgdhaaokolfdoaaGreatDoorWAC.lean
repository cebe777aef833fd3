/- A pack of texts: Bits, Shl, Tz, Free, Take, Lf, Fl, Fr, St. Conditions: those that each text names. -/
import Derived.Test.YtgdhaaokolfdoaaGreatDoorProg
import Derived.Test.YtgdhaaokolfdoaaGreatDoorWAA
import Derived.Deep.QuietTactic
import Derived.BigQuiet
import Derived.RegionTactic
import Derived.BigRegion
import Derived.Deep.LoopGhost
import Derived.Laws.BitsAllLaws
import Derived.Shelf.Spec.TrailingZeros
import Derived.Shelf.SlIterI.Nil
import Derived.Shelf.SortM.Plain
import Derived.Shelf.SortM.SortNone
import Derived.Ground.GgzProg
import Derived.Ground.SlgmProg
import Derived.Ground.Names7Prog
import Derived.Test.YtgdhaaokolfdoaaGreatDoorWAB
set_option linter.unusedVariables false
set_option linter.unusedSimpArgs false
set_option linter.unnecessarySimpa false
/- The set of bits: what in and Has compute. Conditions: the set lies in the world as BRaw says. -/
namespace Go.Sg.Bits
open Go.RowKit
def bit (ws : List Nat) (i : Nat) : Bool := (ws.getD (i / 64) 0).testBit (i % 64)
def wcells (ws : List Nat) : Array Value := (ws.map (fun (x : Nat) => Value.int .u64 (x : Int))).toArray
/-- A set of bits lies in the world: n numbers, the words ws. -/
structure BRaw (w : World) (bs bw n hand : Nat) (ws : List Nat) : Prop where
  s : w.heap[bs]? = some (.cells #[.int .i64 n, .int .i64 hand, .slice (some ⟨bw, 0, none⟩) ws.length ws.length] 256)
  w_ : w.heap[bw]? = some (.cells (wcells ws) 29)
  len : ws.length = (n + 63) / 64
  room : 1 ≤ n ∧ n ≤ 65536
  hand : hand < n
  wf : ∀ x ∈ ws, x < 18446744073709551616
  pad : ∀ i, n ≤ i → bit ws i = false
theorem BRaw.fr {S : Nat → Prop} {w w' : World} {bs bw n hand : Nat} {ws : List Nat} (h : BRaw w bs bw n hand ws) (F : Fr S w w') (h1 : ¬ S bs) (h2 : ¬ S bw) : BRaw w' bs bw n hand ws :=
  ⟨F.heap h.s h1, F.heap h.w_ h2, h.len, h.room, h.hand, h.wf, h.pad⟩
theorem BRaw.word {w : World} {bs bw n hand : Nat} {ws : List Nat} (h : BRaw w bs bw n hand ws) {j x : Nat} (hj : ws[j]? = some x) : w.cell? ⟨bw, j, none⟩ = some (.int .u64 x) := by
  rw [cell_of_heap h.w_]
  simp [wcells, hj]
theorem BRaw.get {w : World} {bs bw n hand : Nat} {ws : List Nat} (h : BRaw w bs bw n hand ws) {i : Nat} (hi : i < n) : ∃ x, ws[i / 64]? = some x ∧ x < 18446744073709551616 ∧ bit ws i = x.testBit (i % 64) := by
  have hl := h.len
  have hlt : i / 64 < ws.length := by omega
  refine ⟨ws[i / 64], List.getElem?_eq_getElem hlt, h.wf _ (List.getElem_mem hlt), ?_⟩
  simp [bit, List.getD, List.getElem?_eq_getElem hlt]
theorem shr_nat (x k : Nat) : (x : Int) / 2 ^ k = ((x / 2 ^ k : Nat) : Int) := by simp
theorem and_one (x k : Nat) (hx : x < 18446744073709551616) : (bits BinOp.and IntKind.u64 ((x : Int) / 2 ^ k) 1 == 1) = x.testBit k := by
  have h1 : x / 2 ^ k < 18446744073709551616 := Nat.lt_of_le_of_lt (Nat.div_le_self _ _) hx
  rw [shr_nat, show (1 : Int) = ((1 : Nat) : Int) from rfl, u64_and_nat _ _ h1 (by decide), nat_mask1, Nat.testBit_eq_decide_div_mod_eq]
  have h2 : x / 2 ^ k % 2 = 0 ∨ x / 2 ^ k % 2 = 1 := by omega
  rcases h2 with h2 | h2 <;> rw [h2] <;> rfl
theorem bit_set {ws : List Nat} {k x : Nat} (hk : ws[k]? = some x) (y j : Nat) : bit (ws.set k y) j = if j / 64 = k then y.testBit (j % 64) else bit ws j := by
  have hl := (List.getElem?_eq_some_iff.1 hk).1
  by_cases h : j / 64 = k
  · subst h
    simp [bit, List.getD, hl]
  · rw [if_neg h]
    have h' : ¬ k = j / 64 := fun e => h e.symm
    simp [bit, List.getD, List.getElem?_set, h']
theorem bit_or {ws : List Nat} {i x : Nat} (hx : ws[i / 64]? = some x) (j : Nat) : bit (ws.set (i / 64) (x ||| 2 ^ (i % 64))) j = if j = i then true else bit ws j := by
  rw [bit_set hx]
  split
  · rename_i h
    have hb : bit ws j = x.testBit (j % 64) := by simp [bit, List.getD, h, hx]
    rw [Nat.testBit_or, Nat.testBit_two_pow, hb]
    by_cases he : j = i
    · subst he; simp
    · rw [if_neg he]
      have : ¬ i % 64 = j % 64 := by omega
      simp [this]
  · rename_i h
    rw [if_neg (by rintro rfl; exact h rfl)]
theorem bit_andNot {ws : List Nat} {i x : Nat} (hx : ws[i / 64]? = some x) (j : Nat) : bit (ws.set (i / 64) (x &&& (18446744073709551615 - 2 ^ (i % 64)))) j = if j = i then false else bit ws j := by
  rw [bit_set hx]
  have hm : j % 64 < 64 := by omega
  split
  · rename_i h
    have hb : bit ws j = x.testBit (j % 64) := by simp [bit, List.getD, h, hx]
    rw [Nat.testBit_and, show 18446744073709551615 - 2 ^ (i % 64) = 2 ^ 64 - (2 ^ (i % 64) + 1) by omega, Nat.testBit_two_pow_sub_succ (Nat.pow_lt_pow_right (by decide) (by omega)), Nat.testBit_two_pow, hb]
    by_cases he : j = i
    · subst he; simp
    · rw [if_neg he]
      have : ¬ i % 64 = j % 64 := by omega
      simp [this, hm]
  · rename_i h
    rw [if_neg (by rintro rfl; exact h rfl)]
theorem wcells_set (ws : List Nat) (k y : Nat) : (wcells ws).setIfInBounds k (.int .u64 y) = wcells (ws.set k y) := by simp [wcells]
theorem pow_lt (i : Nat) : 2 ^ (i % 64) < 18446744073709551616 := Nat.lt_of_lt_of_le (Nat.pow_lt_pow_right (a := 2) (m := i % 64) (n := 64) (by decide) (by omega)) (by decide)
theorem wrap_pow (i : Nat) : IntKind.u64.wrap (2 ^ (i % 64)) = ((2 ^ (i % 64) : Nat) : Int) := by
  have h := pow_lt i
  have e : (2 : Int) ^ (i % 64) = ((2 ^ (i % 64) : Nat) : Int) := (Int.natCast_pow 2 (i % 64)).symm
  rw [IntKind.wrap_u64, e]
  generalize 2 ^ (i % 64) = p at *
  omega
theorem BRaw.store {w : World} {bs bw n hand : Nat} {ws : List Nat} (h : BRaw w bs bw n hand ws) {k x y : Nat} (hk : ws[k]? = some x) (hy : y < 18446744073709551616) (hp : ∀ i, n ≤ i → bit (ws.set k y) i = false) :
    BRaw (w.setCell ⟨bw, k, none⟩ (.int .u64 y)) bs bw n hand (ws.set k y) := by
  have hne : bw ≠ bs := heap_ne h.w_ h.s (by simp)
  refine ⟨?_, ?_, by simpa using h.len, h.room, h.hand, ?_, hp⟩
  · rw [heap_setCell_ne _ _ _ _ hne, h.s]; simp
  · rw [heap_setCell_cells _ _ _ _ h.w_, wcells_set]
  · intro z hz
    rcases List.mem_or_eq_of_mem_set hz with hz | rfl
    · exact h.wf z hz
    · exact hy
/-- A set of bits, by its members. -/
structure BitsAt (w : World) (bs bw n hand : Nat) (t : Nat → Bool) : Prop where
  ex : ∃ ws, BRaw w bs bw n hand ws ∧ ∀ i, bit ws i = t i
theorem BitsAt.fr {S : Nat → Prop} {w w' : World} {bs bw n hand : Nat} {t : Nat → Bool} (h : BitsAt w bs bw n hand t) (F : Fr S w w') (h1 : ¬ S bs) (h2 : ¬ S bw) : BitsAt w' bs bw n hand t := by
  obtain ⟨ws, h, ht⟩ := h
  exact ⟨ws, h.fr F h1 h2, ht⟩
def upd (t : Nat → Bool) (i : Nat) (b : Bool) : Nat → Bool := fun j => if j = i then b else t j
end Go.Sg.Bits
namespace Go.Proofs.YtgdhaaokolfdoaaGreatDoor
open Go.RowKit Go.Sg Go.Sg.Bits

theorem in_yes {w : World} {bs bw n hand : Nat} {ws : List Nat} (h : BRaw w bs bw n hand ws) (i : Nat) (hi : i < n) :
    Calls Tryz.prog 157 #[.pointer (some ⟨bs, 0, none⟩), .int .i64 i] w fun e w' => e = .returned (.bool true) ∧ w = w' := by
  have c0 := cell_of_heap h.s 0
  simp at c0
  clear h
  go_enter Tryz.func157, Tryz.ntmps157
  go_wp2
  go_ret
  exact ⟨rfl, rfl⟩
theorem has_yes {w : World} {bs bw n hand : Nat} {ws : List Nat} (h : BRaw w bs bw n hand ws) (i : Nat) (hi : i < n) :
    Calls Tryz.prog 88 #[.pointer (some ⟨bs, 0, none⟩), .int .i64 i] w fun e w' => e = .returned (.bool (bit ws i)) ∧ w = w' := by
  have c2 := cell_of_heap h.s 2
  simp at c2
  obtain ⟨x, hx, hlt, hb⟩ := h.get hi
  have cw := h.word hx
  have hl := h.len
  have hr := h.room
  have H := hid h
  have HB := hid hb
  clear hx hb h
  go_enter Tryz.func88, Tryz.ntmps88
  go_wp2_with (go_at_call 157; refine (in_yes H.out i hi).mono ?_; rintro e w' ⟨rfl, rfl⟩)
  go_ret
  exact ⟨by rw [HB.out, ← and_one x _ hlt]; rfl, rfl⟩

theorem has_at {w : World} {bs bw n hand : Nat} {t : Nat → Bool} (h : BitsAt w bs bw n hand t) (i : Nat) (hi : i < n) :
    Calls Tryz.prog 88 #[.pointer (some ⟨bs, 0, none⟩), .int .i64 i] w fun e w' => e = .returned (.bool (t i)) ∧ w = w' := by
  obtain ⟨ws, h, ht⟩ := h
  rw [← ht]
  exact has_yes h i hi

set_option maxHeartbeats 1000000 in
theorem mark_new {w : World} {bs bw n hand : Nat} {t : Nat → Bool} (h : BitsAt w bs bw n hand t) (i : Nat) (hi : i < n) (hb : t i = false) :
    Calls Tryz.prog 90 #[.pointer (some ⟨bs, 0, none⟩), .int .i64 i] w fun e w' => e = .returned (.bool true) ∧ BitsAt w' bs bw n hand (upd t i true) ∧ Fr (fun b => b = bw) w w' := by
  obtain ⟨ws, h, ht⟩ := h
  rw [← ht] at hb
  have c2 := cell_of_heap h.s 2
  simp at c2
  obtain ⟨x, hx, hlt, hb2⟩ := h.get hi
  have cw := h.word hx
  have zw : ∀ o, w.frozen? ⟨bw, o, none⟩ = false := fun o => frozen_of_heap h.w_ o
  have hl := h.len
  have hr := h.room
  have H := hid h
  have HB := hid hb
  have HX := hid hx
  have HT := hid ht
  clear hx hb h hb2 ht
  go_enter Tryz.func90, Tryz.ntmps90
  go_wp2_with (first | (go_at_call 157; refine (in_yes H.out i hi).mono ?_; rintro e w' ⟨rfl, rfl⟩) | (go_at_call 88; refine (has_yes H.out i hi).mono ?_; rintro e w' ⟨rfl, rfl⟩; rw [HB.out]))
  go_region
  go_wp2
  go_ret
  have hy : x ||| 2 ^ (i % 64) < 18446744073709551616 := Nat.or_lt_two_pow (n := 64) hlt (pow_lt i)
  refine ⟨rfl, ⟨ws.set (i / 64) (x ||| 2 ^ (i % 64)), ?_, fun j => ?_⟩, ((Fr.refl (fun b => b = bw) _).setCell (a := ⟨bw, i / 64, none⟩) (fun _ => rfl) _).drew⟩
  · rw [wrap_pow, u64_or_nat _ _ hlt (pow_lt i)]
    exact (H.out.store HX.out hy fun j hj => by rw [bit_or HX.out, if_neg (by omega)]; exact H.out.pad j hj).fr ((Fr.refl (fun _ => False) _).drew) (fun h => h) (fun h => h)
  · rw [bit_or HX.out, upd, HT.out]


set_option maxHeartbeats 1000000 in
theorem clear_there {w : World} {bs bw n hand : Nat} {t : Nat → Bool} (h : BitsAt w bs bw n hand t) (i : Nat) (hi : i < n) (hb : t i = true) :
    Calls Tryz.prog 107 #[.pointer (some ⟨bs, 0, none⟩), .int .i64 i] w fun e w' => e = .returned (.bool true) ∧ BitsAt w' bs bw n hand (upd t i false) ∧ Fr (fun b => b = bw) w w' := by
  have H0 := hid h
  obtain ⟨ws, h, ht⟩ := h
  have c2 := cell_of_heap h.s 2
  simp at c2
  obtain ⟨x, hx, hlt, hb2⟩ := h.get hi
  have cw := h.word hx
  have zw : ∀ o, w.frozen? ⟨bw, o, none⟩ = false := fun o => frozen_of_heap h.w_ o
  have hl := h.len
  have hr := h.room
  have H := hid h
  have HB := hid hb
  have HX := hid hx
  have HT := hid ht
  clear hx hb h hb2 ht
  go_enter Tryz.func107, Tryz.ntmps107
  go_wp2_with (go_at_call 88; refine (has_at H0.out i hi).mono ?_; rintro e w' ⟨rfl, rfl⟩; rw [HB.out])
  go_region
  go_wp2
  go_ret
  have hy : x &&& (18446744073709551615 - 2 ^ (i % 64)) < 18446744073709551616 := Nat.lt_of_le_of_lt Nat.and_le_left hlt
  refine ⟨rfl, ⟨ws.set (i / 64) (x &&& (18446744073709551615 - 2 ^ (i % 64))), ?_, fun j => ?_⟩, ((Fr.refl (fun b => b = bw) _).setCell (a := ⟨bw, i / 64, none⟩) (fun _ => rfl) _).drew⟩
  · rw [wrap_pow, u64_andNot_nat _ _ hlt (pow_lt i)]
    exact (H.out.store HX.out hy fun j hj => by rw [bit_andNot HX.out, if_neg (by omega)]; exact H.out.pad j hj).fr ((Fr.refl (fun _ => False) _).drew) (fun h => h) (fun h => h)
  · rw [bit_andNot HX.out, upd, HT.out]
end Go.Proofs.YtgdhaaokolfdoaaGreatDoor

/- The shelf's contracts at this program, laid by the kit's own plain mode: TrailingZeros64, maps.Keys, slices.Sorted, slices.Sort. Conditions: none. -/
namespace Go.Proofs.YtgdhaaokolfdoaaGreatDoor
open Go.Proofs Go.Shelf
def Tryz.tz_ren : Go.Shelf.Ren := ⟨fun | 29 => 214 | n => n, fun | 22 => 29 | 3 => 3 | 4 => 4 | 25 => 234 | 54 => 375 | 0 => 0 | 5 => 5 | n => n, fun | 1 => 0 | n => n⟩
theorem Tryz.tz : Go.Proofs.Lays7.n29 Tryz.prog Tryz.tz_ren := {
  mixed := by kernel_rfl
  f29 := Tryz.func214.trans (congrArg some (by kernel_rfl))
  t0 := Tryz.underlying0
  a0 := Tryz.isAgg0
  z0 := Tryz.sizeOf0
  v0 := Tryz.zeroValue0
  i0 := by kernel_rfl
  t3 := Tryz.underlying3
  a3 := Tryz.isAgg3
  z3 := Tryz.sizeOf3
  v3 := Tryz.zeroValue3
  i3 := by kernel_rfl
  t4 := Tryz.underlying4
  a4 := Tryz.isAgg4
  z4 := Tryz.sizeOf4
  v4 := Tryz.zeroValue4
  i4 := by kernel_rfl
  t5 := Tryz.underlying5
  a5 := Tryz.isAgg5
  z5 := Tryz.sizeOf5
  v5 := Tryz.zeroValue5
  i5 := by kernel_rfl
  t22 := Tryz.underlying29
  a22 := Tryz.isAgg29
  z22 := Tryz.sizeOf29
  v22 := Tryz.zeroValue29
  i22 := by kernel_rfl
  t25 := Tryz.underlying234
  a25 := Tryz.isAgg234
  z25 := Tryz.sizeOf234
  v25 := Tryz.zeroValue234
  i25 := by kernel_rfl
  t54 := Tryz.underlying375
  a54 := Tryz.isAgg375
  z54 := Tryz.sizeOf375
  g1 := by kernel_rfl }
def Tryz.keysA_ren : Go.Shelf.Ren := ⟨fun | 7 => 99 | 10 => 161 | n => n, fun | 23 => 153 | 26 => 3 | 3 => 4 | 28 => 177 | 0 => 0 | 27 => 176 | 33 => 74 | 4 => 4 | n => n, fun | n => n⟩
theorem Tryz.keysA : Go.Proofs.SlLaysZI.n7 Tryz.prog Tryz.keysA_ren := {
  mixed := by kernel_rfl
  f7 := ⟨Tryz.f99.name, by decide, Tryz.func99.trans (congrArg some (by kernel_rfl))⟩
  f10 := ⟨Tryz.f161.name, by decide, Tryz.func161.trans (congrArg some (by kernel_rfl))⟩
  t0 := Tryz.underlying0
  a0 := Tryz.isAgg0
  z0 := Tryz.sizeOf0
  v0 := Tryz.zeroValue0
  t4 := Tryz.underlying4
  a4 := Tryz.isAgg4
  z4 := Tryz.sizeOf4
  v4 := Tryz.zeroValue4
  t23 := Tryz.underlying153
  a23 := Tryz.isAgg153
  z23 := Tryz.sizeOf153
  v23 := Tryz.zeroValue153
  t26 := Tryz.underlying3
  a26 := Tryz.isAgg3
  z26 := Tryz.sizeOf3
  v26 := Tryz.zeroValue3
  t27 := Tryz.underlying176
  a27 := Tryz.isAgg176
  z27 := Tryz.sizeOf176
  v27 := Tryz.zeroValue176
  t28 := Tryz.underlying177
  a28 := Tryz.isAgg177
  z28 := Tryz.sizeOf177
  v28 := Tryz.zeroValue177
  t33 := Tryz.underlying74
  a33 := Tryz.isAgg74
  z33 := Tryz.sizeOf74
  v33 := Tryz.zeroValue74 }
def Tryz.sortedA_ren : Go.Shelf.Ren := ⟨fun | 6 => 98 | 8 => 160 | 9 => 141 | 11 => 223 | 13 => 204 | 12 => 203 | 23 => 264 | 24 => 265 | 14 => 255 | 15 => 256 | 16 => 257 | 17 => 258 | 18 => 259 | 19 => 260 | 20 => 261 | 21 => 262 | 22 => 263 | 25 => 279 | 26 => 280 | 27 => 281 | 28 => 282 | 29 => 283 | 30 => 276 | 31 => 287 | n => n, fun | 26 => 3 | 28 => 177 | 24 => 52 | 0 => 0 | 3 => 3 | 37 => 234 | 48 => 373 | 50 => 29 | 4 => 4 | 40 => 367 | 39 => 366 | 45 => 157 | 5 => 5 | 9 => 9 | 51 => 384 | 55 => 388 | 57 => 392 | 58 => 393 | 33 => 74 | n => n, fun | n => n⟩
theorem Tryz.sortedA : Go.Proofs.SlLaysZI.n6 Tryz.prog Tryz.sortedA_ren := {
  mixed := by kernel_rfl
  f6 := ⟨Tryz.f98.name, by decide, Tryz.func98.trans (congrArg some (by kernel_rfl))⟩
  f8 := ⟨Tryz.f160.name, by decide, Tryz.func160.trans (congrArg some (by kernel_rfl))⟩
  f11 := ⟨Tryz.f223.name, by decide, Tryz.func223.trans (congrArg some (by kernel_rfl))⟩
  t0 := Tryz.underlying0
  a0 := Tryz.isAgg0
  z0 := Tryz.sizeOf0
  v0 := Tryz.zeroValue0
  t24 := Tryz.underlying52
  a24 := Tryz.isAgg52
  z24 := Tryz.sizeOf52
  v24 := Tryz.zeroValue52
  t26 := Tryz.underlying3
  a26 := Tryz.isAgg3
  z26 := Tryz.sizeOf3
  v26 := Tryz.zeroValue3
  t28 := Tryz.underlying177
  a28 := Tryz.isAgg177
  z28 := Tryz.sizeOf177
  v28 := Tryz.zeroValue177
  i26 := by kernel_rfl }
def Tryz.sortA_ren : Go.Shelf.Ren := ⟨fun | 5 => 141 | 8 => 204 | 7 => 203 | 19 => 264 | 20 => 265 | 10 => 255 | 11 => 256 | 12 => 257 | 13 => 258 | 14 => 259 | 15 => 260 | 16 => 261 | 17 => 262 | 18 => 263 | 30 => 279 | 31 => 280 | 32 => 281 | 33 => 282 | 34 => 283 | 35 => 276 | 40 => 287 | n => n, fun | 23 => 52 | 25 => 3 | 3 => 3 | 32 => 234 | 22 => 52 | 0 => 0 | 44 => 373 | 46 => 29 | 4 => 4 | 36 => 367 | 35 => 366 | 41 => 157 | 5 => 5 | 9 => 9 | 53 => 384 | 57 => 388 | 63 => 392 | 64 => 393 | n => n, fun | n => n⟩
theorem Tryz.sortA : Go.Proofs.SlLaysM.n5 Tryz.prog Tryz.sortA_ren := {
  mixed := by kernel_rfl
  f5 := ⟨Tryz.f141.name, by decide, Tryz.func141.trans (congrArg some (by kernel_rfl))⟩
  f7 := ⟨Tryz.f203.name, by decide, Tryz.func203.trans (congrArg some (by kernel_rfl))⟩
  f8 := Tryz.func204.trans (congrArg some (by kernel_rfl))
  f10 := ⟨Tryz.f255.name, by decide, Tryz.func255.trans (congrArg some (by kernel_rfl))⟩
  f11 := ⟨Tryz.f256.name, by decide, Tryz.func256.trans (congrArg some (by kernel_rfl))⟩
  f12 := ⟨Tryz.f257.name, by decide, Tryz.func257.trans (congrArg some (by kernel_rfl))⟩
  f13 := ⟨Tryz.f258.name, by decide, Tryz.func258.trans (congrArg some (by kernel_rfl))⟩
  f14 := ⟨Tryz.f259.name, by decide, Tryz.func259.trans (congrArg some (by kernel_rfl))⟩
  f15 := ⟨Tryz.f260.name, by decide, Tryz.func260.trans (congrArg some (by kernel_rfl))⟩
  f16 := ⟨Tryz.f261.name, by decide, Tryz.func261.trans (congrArg some (by kernel_rfl))⟩
  f17 := ⟨Tryz.f262.name, by decide, Tryz.func262.trans (congrArg some (by kernel_rfl))⟩
  f18 := ⟨Tryz.f263.name, by decide, Tryz.func263.trans (congrArg some (by kernel_rfl))⟩
  f19 := Tryz.func264.trans (congrArg some (by kernel_rfl))
  f20 := Tryz.func265.trans (congrArg some (by kernel_rfl))
  f30 := ⟨Tryz.f279.name, by decide, Tryz.func279.trans (congrArg some (by kernel_rfl))⟩
  f31 := Tryz.func280.trans (congrArg some (by kernel_rfl))
  f32 := Tryz.func281.trans (congrArg some (by kernel_rfl))
  f33 := ⟨Tryz.f282.name, by decide, Tryz.func282.trans (congrArg some (by kernel_rfl))⟩
  f34 := ⟨Tryz.f283.name, by decide, Tryz.func283.trans (congrArg some (by kernel_rfl))⟩
  f35 := ⟨Tryz.f276.name, by decide, Tryz.func276.trans (congrArg some (by kernel_rfl))⟩
  f40 := ⟨Tryz.f287.name, by decide, Tryz.func287.trans (congrArg some (by kernel_rfl))⟩
  t0 := Tryz.underlying0
  a0 := Tryz.isAgg0
  z0 := Tryz.sizeOf0
  v0 := Tryz.zeroValue0
  t3 := Tryz.underlying3
  a3 := Tryz.isAgg3
  z3 := Tryz.sizeOf3
  v3 := Tryz.zeroValue3
  t4 := Tryz.underlying4
  a4 := Tryz.isAgg4
  z4 := Tryz.sizeOf4
  v4 := Tryz.zeroValue4
  t5 := Tryz.underlying5
  a5 := Tryz.isAgg5
  z5 := Tryz.sizeOf5
  v5 := Tryz.zeroValue5
  t9 := Tryz.underlying9
  a9 := Tryz.isAgg9
  z9 := Tryz.sizeOf9
  v9 := Tryz.zeroValue9
  t22 := Tryz.underlying52
  a22 := Tryz.isAgg52
  z22 := Tryz.sizeOf52
  v22 := Tryz.zeroValue52
  t23 := Tryz.underlying52
  a23 := Tryz.isAgg52
  z23 := Tryz.sizeOf52
  v23 := Tryz.zeroValue52
  t25 := Tryz.underlying3
  a25 := Tryz.isAgg3
  z25 := Tryz.sizeOf3
  v25 := Tryz.zeroValue3
  t32 := Tryz.underlying234
  a32 := Tryz.isAgg234
  z32 := Tryz.sizeOf234
  v32 := Tryz.zeroValue234
  t35 := Tryz.underlying366
  a35 := Tryz.isAgg366
  z35 := Tryz.sizeOf366
  v35 := Tryz.zeroValue366
  t36 := Tryz.underlying367
  a36 := Tryz.isAgg367
  z36 := Tryz.sizeOf367
  v36 := Tryz.zeroValue367
  t41 := Tryz.underlying157
  a41 := Tryz.isAgg157
  z41 := Tryz.sizeOf157
  v41 := Tryz.zeroValue157
  t44 := Tryz.underlying373
  a44 := Tryz.isAgg373
  z44 := Tryz.sizeOf373
  v44 := Tryz.zeroValue373
  t46 := Tryz.underlying29
  a46 := Tryz.isAgg29
  z46 := Tryz.sizeOf29
  v46 := Tryz.zeroValue29
  t53 := Tryz.underlying384
  a53 := Tryz.isAgg384
  z53 := Tryz.sizeOf384
  v53 := Tryz.zeroValue384
  t57 := Tryz.underlying388
  a57 := Tryz.isAgg388
  z57 := Tryz.sizeOf388
  v57 := Tryz.zeroValue388
  t63 := Tryz.underlying392
  a63 := Tryz.isAgg392
  z63 := Tryz.sizeOf392
  v63 := Tryz.zeroValue392
  t64 := Tryz.underlying393
  a64 := Tryz.isAgg393
  z64 := Tryz.sizeOf393
  v64 := Tryz.zeroValue393 }
end Go.Proofs.YtgdhaaokolfdoaaGreatDoor

/- math/bits.TrailingZeros64 at this program, by the shelf's contract; facts on the lowest bit. Conditions: the library's table lies as its text lays it. -/
namespace Go.Sg.Bits
open Go
theorem ctz_spec {x : Nat} (h0 : x ≠ 0) (hx : x < 18446744073709551616) : ∃ m, x = 2 ^ Lib.ctz 64 x * (2 * m + 1) ∧ Lib.ctz 64 x < 64 := by
  have := Lib.ctzFrom_spec 64 x (by omega) hx
  simpa [Lib.ctz, h0] using this
theorem odd_bit (k m i : Nat) : (2 ^ k * (2 * m + 1)).testBit i = if i < k then false else if i = k then true else m.testBit (i - k - 1) := by
  have e : 2 ^ k * (2 * m + 1) = 2 ^ k * (2 * m + 1) + 0 := rfl
  rw [Nat.mul_comm, Nat.testBit_mul_two_pow]
  by_cases h : i < k
  · rw [if_pos h]; simp; omega
  · rw [if_neg h]
    by_cases h2 : i = k
    · subst h2; simp [Nat.testBit_zero]
    · rw [if_neg h2]
      obtain ⟨d, rfl⟩ : ∃ d, i = k + (d + 1) := ⟨i - k - 1, by omega⟩
      have e1 : k + (d + 1) - k = d + 1 := by omega
      have e2 : k + (d + 1) - k - 1 = d := by omega
      rw [e1, show d + 1 - 1 = d by omega, Nat.testBit_succ, show (2 * m + 1) / 2 = m by omega]
      simp
theorem ctz_bit {x : Nat} (h0 : x ≠ 0) (hx : x < 18446744073709551616) : Lib.ctz 64 x < 64 ∧ x.testBit (Lib.ctz 64 x) = true ∧ ∀ i, i < Lib.ctz 64 x → x.testBit i = false := by
  obtain ⟨m, hm, hl⟩ := ctz_spec h0 hx
  refine ⟨hl, ?_, fun i hi => ?_⟩
  · generalize Lib.ctz 64 x = k at *
    rw [hm, odd_bit]; simp
  · generalize Lib.ctz 64 x = k at *
    rw [hm, odd_bit, if_pos hi]
theorem drop_low {x : Nat} (h0 : x ≠ 0) (hx : x < 18446744073709551616) (i : Nat) : (x &&& (x - 1)).testBit i = if i = Lib.ctz 64 x then false else x.testBit i := by
  obtain ⟨m, hm, hl⟩ := ctz_spec h0 hx
  generalize Lib.ctz 64 x = k at *
  have e1 : x - 1 = 2 ^ k * (2 * m) + (2 ^ k - 1) := by
    have : 0 < 2 ^ k := Nat.two_pow_pos k
    rw [hm, Nat.mul_add]; omega
  have hlt : 2 ^ k - 1 < 2 ^ k := by have : 0 < 2 ^ k := Nat.two_pow_pos k; omega
  rw [Nat.testBit_and, e1, Nat.testBit_two_pow_mul_add _ hlt, hm, odd_bit]
  by_cases h : i < k
  · simp [h]
  · rw [if_neg h, if_neg h]
    by_cases h2 : i = k
    · subst h2; simp [Nat.testBit_zero]
    · rw [if_neg h2, if_neg h2]
      obtain ⟨d, rfl⟩ : ∃ d, i = k + (d + 1) := ⟨i - k - 1, by omega⟩
      rw [show k + (d + 1) - k = d + 1 by omega, show d + 1 - 1 = d by omega, Nat.testBit_succ, show 2 * m / 2 = m by omega]
      simp
theorem xor_max (x : Nat) (hx : x < 18446744073709551616) : bits BinOp.xor IntKind.u64 IntKind.u64.max (x : Int) = ((18446744073709551615 ^^^ x : Nat) : Int) := by
  rw [show IntKind.u64.max = ((18446744073709551615 : Nat) : Int) from rfl]
  exact u64_xor_nat _ _ (by decide) hx
theorem xor_max_lt (x : Nat) (hx : x < 18446744073709551616) : 18446744073709551615 ^^^ x < 18446744073709551616 := Nat.xor_lt_two_pow (n := 64) (by decide) hx
theorem xor_max_bit (x i : Nat) : (18446744073709551615 ^^^ x).testBit i = (decide (i < 64) ^^ x.testBit i) := by
  rw [Nat.testBit_xor, show 18446744073709551615 = 2 ^ 64 - 1 from rfl, Nat.testBit_two_pow_sub_one]
theorem and_pred {x : Nat} (h0 : x ≠ 0) (hx : x < 18446744073709551616) : bits BinOp.and IntKind.u64 (x : Int) ((x : Int) - 1) = ((x &&& (x - 1) : Nat) : Int) := by
  rw [show (x : Int) - 1 = ((x - 1 : Nat) : Int) by omega, u64_and_nat _ _ hx (by omega)]
end Go.Sg.Bits
namespace Go.Proofs.YtgdhaaokolfdoaaGreatDoor
open Go.Proofs Go.Shelf Go.Sg
/-- The library's table lies as its text lays it. -/
def Tab (w : World) : Prop := TabAt 0 Lib.deBruijn64tab w
theorem Tab.lt {w : World} (h : Tab w) : 0 < w.heap.size := World.block_lt_of_cell? _ _ (h 0 (by decide))
theorem Tab.fr {S : Nat → Prop} {w w' : World} (h : Tab w) (F : Fr S w w') (hS : ¬ S 0) : Tab w' := fun j hj => (F.cell (p := ⟨0, j, none⟩) h.lt hS).trans (h j hj)
theorem tz_at (x : Nat) (hx : x < 18446744073709551616) (w : World) (hT : Tab w) :
    Calls Tryz.prog 214 #[.int .u64 x] w fun e w' => e = .returned (.int .i64 (Lib.ctz 64 x)) ∧ w = w' := by
  have h := Any7.bits_TrailingZeros64 Tryz.tz x hx w (fun _ => hT)
  change Calls Tryz.prog 214 _ _ _ at h
  exact h.mono fun _ _ ⟨h1, h2⟩ => ⟨h1, h2.symm⟩
end Go.Proofs.YtgdhaaokolfdoaaGreatDoor

/- The set of bits: what free computes. Conditions: the set lies in the world as BitsAt says, the library's table as its text lays it. -/
namespace Go.Proofs.YtgdhaaokolfdoaaGreatDoor
open Go.RowKit Go.Sg Go.Sg.Bits

/-- All numbers from a on, up to b, are taken. -/
def allTaken (t : Nat → Bool) (n a b : Nat) : Prop := ∀ i, a ≤ i → i < b → i < n → t i = true
/-- The first free number from a on, or none. -/
def FreeIs (t : Nat → Bool) (n a : Nat) (r : Int) : Prop := (r = -1 ∧ allTaken t n a n) ∨ ∃ i : Nat, r = i ∧ a ≤ i ∧ i < n ∧ t i = false ∧ allTaken t n a i

set_option maxHeartbeats 2000000 in
theorem free_at {w : World} {bs bw n hand : Nat} {t : Nat → Bool} (h : BitsAt w bs bw n hand t) (hT : Tab w) (a : Nat) (ha : a ≤ n) :
    Calls Tryz.prog 153 #[.pointer (some ⟨bs, 0, none⟩), .int .i64 a] w fun e w' => ∃ r, FreeIs t n a r ∧ e = .returned (.int .i64 r) ∧ w = w' := by
  obtain ⟨ws, h, ht⟩ := h
  have c0 := cell_of_heap h.s 0
  have c2 := cell_of_heap h.s 2
  simp at c0 c2
  have hl := h.len
  have hr := h.room
  have H := hid h
  have HT := hid ht
  have HTab := hid hT
  clear h ht hT
  go_enter Tryz.func153, Tryz.ntmps153
  go_wp2
  go_step3
  go_wp2
  go_step3
  go_wp2
  go_loop [5] (fun v => ∃ k : Nat, a / 64 ≤ k ∧ k ≤ ws.length ∧ v = .int .i64 k ∧ allTaken t n a (64 * k)) (fun v => ws.length - (intOf v).toNat)
  case atStart => exact ⟨a / 64, Nat.le_refl _, by omega, by simp, fun i h1 h2 h3 => by omega⟩
  case round =>
    obtain ⟨k, hk1, hk2, rfl, hall⟩ := hrel
    by_cases hlt : k < ws.length
    · obtain ⟨x, hx⟩ : ∃ x, ws[k]? = some x := ⟨_, List.getElem?_eq_getElem hlt⟩
      have cw := H.out.word hx
      have hxl := H.out.wf x (List.mem_of_getElem? hx)
      have HX := hid hx
      clear hx
      have hbk : ∀ m, m < 64 → t (64 * k + m) = x.testBit m := fun m hm => by
        rw [← HT.out, bit, show (64 * k + m) / 64 = k by omega, show (64 * k + m) % 64 = m by omega]
        simp [List.getD, HX.out]
      have HBK := hid hbk
      have HALL := hid hall
      clear hbk hall
      go_wp2
      rw [xor_max x hxl]
      go_loopg [6] 64 (fun g v wr => ∃ (lft low : Nat), v = .int .u64 lft ∧ lft < 18446744073709551616 ∧ low ≤ 64 ∧ g = 64 - low ∧ (∀ m, m < 64 → lft.testBit m = (decide (low ≤ m) && !x.testBit m)) ∧ (∀ m, m < low → x.testBit m = true ∨ 64 * k + m < a) ∧ wr = w)
      case atStart => exact ⟨_, 0, rfl, xor_max_lt x hxl, by omega, rfl, fun m hm => by rw [xor_max_bit]; simp [hm], fun m hm => by omega, rfl⟩
      case round =>
        obtain ⟨lft, low, rfl, hll, hlow, hg, hb, hpre, rfl⟩ := hrel
        have HBb := hid hb
        have HPre := hid hpre
        clear hb hpre
        by_cases hz : lft = 0
        · subst hz
          go_wp2
          go_round
          case rel =>
            refine ⟨k + 1, by omega, by omega, by simp, fun i h1 h2 h3 => ?_⟩
            by_cases hik : i < 64 * k
            · exact HALL.out i h1 hik h3
            · have hm : i = 64 * k + (i - 64 * k) := by omega
              have hm2 : i - 64 * k < 64 := by omega
              rw [hm, HBK.out _ hm2]
              generalize i - 64 * k = m at *
              by_cases hlm : low ≤ m
              · have := HBb.out m hm2
                simp [hlm] at this
                exact this
              · rcases HPre.out m (by omega) with h | h
                · exact h
                · omega
          case measure => simp [intOf]; omega
        · obtain ⟨hc1, hc2, hc3⟩ := ctz_bit hz hll
          have hd := and_pred hz hll
          have hdl := drop_low hz hll
          have htz := hid (tz_at lft hll wr HTab.out)
          have hne : ((lft : Int) != 0) = true := by simp; omega
          generalize Lib.ctz 64 lft = m0 at *
          have hx0 : low ≤ m0 ∧ x.testBit m0 = false := by
            have := HBb.out m0 hc1
            rw [hc2] at this
            simpa using this.symm
          have hbelow : ∀ m, m < m0 → x.testBit m = true ∨ 64 * k + m < a := fun m hm => by
            by_cases hlm : low ≤ m
            · have := HBb.out m (by omega)
              rw [hc3 m hm] at this
              simp [hlm] at this
              exact .inl this
            · exact HPre.out m (by omega)
          have hall2 : allTaken t n a (64 * k + m0) := fun i h1 h2 h3 => by
            by_cases hik : i < 64 * k
            · exact HALL.out i h1 hik h3
            · have hm : i = 64 * k + (i - 64 * k) := by omega
              have hm2 : i - 64 * k < 64 := by omega
              rw [hm, HBK.out _ hm2]
              rcases hbelow (i - 64 * k) (by omega) with h | h
              · exact h
              · omega
          have HB2 := hid (And.intro hc2 (And.intro hc3 (And.intro hdl (And.intro hx0.2 (And.intro hbelow hall2)))))
          have hx1 := hx0.1
          have HD := hid hd
          clear hc2 hc3 hdl hx0 hbelow hall2 hd
          rcases (show n ≤ 64 * k + m0 ∨ (64 * k + m0 < n ∧ a ≤ 64 * k + m0) ∨ (64 * k + m0 < n ∧ 64 * k + m0 < a) by omega) with hc | ⟨hc, hc'⟩ | ⟨hc, hc'⟩
          · go_wp2_with (go_at_call 214; refine htz.out.mono ?_; rintro e w' ⟨rfl, rfl⟩)
            rw [Exit.noGoto_ret]
            go_ret
            obtain ⟨hc2, hc3, hdl, hx0, hbelow, hall2⟩ := HB2.out
            exact ⟨-1, .inl ⟨rfl, fun i h1 h2 h3 => hall2 i h1 (by omega) h3⟩, rfl, rfl⟩
          · go_wp2_with (go_at_call 214; refine htz.out.mono ?_; rintro e w' ⟨rfl, rfl⟩)
            rw [Exit.noGoto_ret]
            go_ret
            obtain ⟨hc2, hc3, hdl, hx0, hbelow, hall2⟩ := HB2.out
            exact ⟨(64 * k + m0 : Nat), .inr ⟨64 * k + m0, rfl, hc', hc, by rw [HBK.out m0 hc1]; exact hx0, hall2⟩, by simp [Int.mul_comm], rfl⟩
          · go_wp2_with (go_at_call 214; refine htz.out.mono ?_; rintro e w' ⟨rfl, rfl⟩)
            rw [HD.out]
            obtain ⟨hc2, hc3, hdl, hx0, hbelow, hall2⟩ := HB2.out
            go_roundg (64 - (m0 + 1))
            case measure => omega
            case rel =>
              refine ⟨lft &&& (lft - 1), m0 + 1, rfl, Nat.lt_of_le_of_lt Nat.and_le_left hll, by omega, rfl, fun m hm => ?_, fun m hm => ?_, rfl⟩
              · rw [hdl]
                by_cases he : m = m0
                · rw [if_pos he]; simp; omega
                · rw [if_neg he, HBb.out m hm]
                  by_cases hlm : m0 + 1 ≤ m
                  · have : low ≤ m := by omega
                    simp [hlm, this]
                  · have h3 := hc3 m (by omega)
                    rw [HBb.out m hm] at h3
                    simp [hlm]
                    simpa using h3
              · rcases Nat.lt_or_ge m m0 with h | h
                · exact hbelow m h
                · obtain rfl : m = m0 := by omega
                  exact .inr hc'
    · obtain rfl : k = ws.length := by omega
      go_wp2
      go_ret
      exact ⟨-1, .inl ⟨rfl, fun i h1 h2 h3 => hall i h1 (by omega) h3⟩, rfl, rfl⟩
end Go.Proofs.YtgdhaaokolfdoaaGreatDoor

/- The set of bits: what Take and New compute. Conditions: the set lies in the world as BitsAt says, the library's table as its text lays it. -/
namespace Go.Sg.Bits
open Go.RowKit
theorem BitsAt.room {w : World} {bs bw n hand : Nat} {t : Nat → Bool} (h : BitsAt w bs bw n hand t) : (1 ≤ n ∧ n ≤ 65536) ∧ hand < n := by
  obtain ⟨ws, h, _⟩ := h; exact ⟨h.room, h.hand⟩
theorem BitsAt.cells {w : World} {bs bw n hand : Nat} {t : Nat → Bool} (h : BitsAt w bs bw n hand t) : ∃ m, w.cell? ⟨bs, 0, none⟩ = some (.int .i64 n) ∧ w.cell? ⟨bs, 1, none⟩ = some (.int .i64 hand) ∧ w.cell? ⟨bs, 2, none⟩ = some (.slice (some ⟨bw, 0, none⟩) m m) ∧ ∀ o, w.frozen? ⟨bs, o, none⟩ = false := by
  obtain ⟨ws, h, _⟩ := h
  obtain ⟨c0, c1, c2, z, _⟩ := cells3 h.s
  exact ⟨_, c0, c1, c2, z⟩
theorem BitsAt.turn {w : World} {bs bw n hand : Nat} {t : Nat → Bool} (h : BitsAt w bs bw n hand t) {k : Nat} (hk : k < n) : BitsAt (w.setCell ⟨bs, 1, none⟩ (.int .i64 k)) bs bw n k t := by
  obtain ⟨ws, h, ht⟩ := h
  have hne : bs ≠ bw := heap_ne h.s h.w_ (by simp)
  refine ⟨ws, ⟨?_, ?_, h.len, h.room, hk, h.wf, h.pad⟩, ht⟩
  · rw [heap_setCell_cells _ _ _ _ h.s]; simp
  · rw [heap_setCell_ne _ _ _ _ hne, h.w_]
theorem BitsAt.lts {w : World} {bs bw n hand : Nat} {t : Nat → Bool} (h : BitsAt w bs bw n hand t) : bs < w.heap.size ∧ bw < w.heap.size ∧ bs ≠ bw := by
  obtain ⟨ws, h, ht⟩ := h
  exact ⟨lt_of_heap h.s, lt_of_heap h.w_, heap_ne h.s h.w_ (by simp)⟩

end Go.Sg.Bits
namespace Go.Proofs.YtgdhaaokolfdoaaGreatDoor
open Go.RowKit Go.Sg Go.Sg.Bits

/-- Which number is taken next. -/
def TakeIs (t : Nat → Bool) (n hand : Nat) (i : Nat) : Prop :=
  i < n ∧ t i = false ∧ ((hand ≤ i ∧ allTaken t n hand i) ∨ (allTaken t n hand n ∧ allTaken t n 0 i))

set_option maxHeartbeats 2000000 in
theorem take_none {w : World} {bs bw n hand : Nat} {t : Nat → Bool} (h : BitsAt w bs bw n hand t) (hT : Tab w) (hall : allTaken t n 0 n) :
    Calls Tryz.prog 81 #[.pointer (some ⟨bs, 0, none⟩)] w fun e w' => e = .returned (.tuple #[.int .i64 0, .bool false]) ∧ w = w' := by
  obtain ⟨m, c0, c1, c2, z⟩ := h.cells
  obtain ⟨hr, hh⟩ := h.room
  have nofree : ∀ a r, FreeIs t n a r → r = -1 := fun a r hf => by
    rcases hf with ⟨h, _⟩ | ⟨i, _, _, hi, hti, _⟩
    · exact h
    · rw [hall i (Nat.zero_le _) hi hi] at hti; cases hti
  have H := hid h
  have HT := hid hT
  have HN := hid nofree
  clear h hT hall nofree
  go_enter Tryz.func81, Tryz.ntmps81
  go_wp2_with fail
  refine (free_at H.out HT.out hand (by omega)).mono ?_
  rintro e w' ⟨r, hf, rfl, rfl⟩
  obtain rfl := HN.out _ _ hf
  clear hf
  go_wp2_with fail
  refine (free_at H.out HT.out 0 (by omega)).mono ?_
  rintro e w' ⟨r, hf, rfl, rfl⟩
  obtain rfl := HN.out _ _ hf
  clear hf
  go_wp2
  try simp only [Exit.inBlock, Exit.then]
  go_ret2
  exact ⟨rfl, rfl⟩

def TakePost (t : Nat → Bool) (bs bw n hand : Nat) (w : World) (e : Ending) (w' : World) : Prop :=
  ∃ i, TakeIs t n hand i ∧ e = .returned (.tuple #[.int .i64 i, .bool true]) ∧ BitsAt w' bs bw n ((i + 1) % n) (upd t i true) ∧ Fr (fun b => b = bs ∨ b = bw) w w'

set_option maxHeartbeats 2000000 in
theorem take_some {w : World} {bs bw n hand : Nat} {t : Nat → Bool} (h : BitsAt w bs bw n hand t) (hT : Tab w) {j : Nat} (hj : j < n) (hfree : t j = false) :
    Calls Tryz.prog 81 #[.pointer (some ⟨bs, 0, none⟩)] w (TakePost t bs bw n hand w) := by
  obtain ⟨m, c0, c1, c2, z⟩ := h.cells
  obtain ⟨hr, hh⟩ := h.room
  obtain ⟨l1, l2, l3⟩ := h.lts
  have H := hid h
  have HT := hid hT
  have HJ := hid hfree
  clear h hT hfree
  go_enter Tryz.func81, Tryz.ntmps81
  go_wp2_with fail
  refine (free_at H.out HT.out hand (by omega)).mono ?_
  rintro e w' ⟨r, hf, rfl, rfl⟩
  rcases hf with ⟨rfl, hall⟩ | ⟨i, rfl, hhi, hi, hti, hall⟩
  · have HALL := hid hall
    clear hall
    go_wp2_with fail
    refine (free_at H.out HT.out 0 (by omega)).mono ?_
    rintro e w' ⟨r, hf, rfl, rfl⟩
    rcases hf with ⟨rfl, hall⟩ | ⟨i, rfl, hhi, hi, hti, hall⟩
    · have := hall j (Nat.zero_le _) hj hj
      rw [HJ.out] at this; cases this
    · have HI := hid (show TakeIs t n hand i from ⟨hi, hti, .inr ⟨HALL.out, hall⟩⟩)
      have HTI := hid hti
      clear hall hti
      go_wp2_with fail
      refine (mark_new H.out i hi HTI.out).mono ?_
      rintro e w1 ⟨rfl, hB, F1⟩
      obtain ⟨m', d0, d1, d2, dz⟩ := hB.cells
      have HB := hid hB
      have hmod := Nat.mod_lt (i + 1) (show 0 < n by omega)
      have hc1 : ((i : Int) + 1) % (n : Int) = (((i + 1) % n : Nat) : Int) := by simp
      have HC := hid hc1
      clear hB hc1
      go_wp2
      go_ret2
      exact ⟨i, HI.out, rfl, by rw [HC.out]; exact HB.out.turn hmod, (F1.mono (fun b _ h => .inr h)).setCell (fun _ => .inl rfl) _⟩
  · have HI := hid (show TakeIs t n hand i from ⟨hi, hti, .inl ⟨hhi, hall⟩⟩)
    have HTI := hid hti
    clear hall hti
    go_wp2_with fail
    refine (mark_new H.out i hi HTI.out).mono ?_
    rintro e w1 ⟨rfl, hB, F1⟩
    obtain ⟨m', d0, d1, d2, dz⟩ := hB.cells
    have HB := hid hB
    have hmod := Nat.mod_lt (i + 1) (show 0 < n by omega)
    have hc1 : ((i : Int) + 1) % (n : Int) = (((i + 1) % n : Nat) : Int) := by simp
    have HC := hid hc1
    clear hB hc1
    go_wp2
    go_ret2
    exact ⟨i, HI.out, rfl, by rw [HC.out]; exact HB.out.turn hmod, (F1.mono (fun b _ h => .inr h)).setCell (fun _ => .inl rfl) _⟩

theorem info29 : (Tryz.prog.info? 29).map (fun i => (i.zero, i.size, i.bytes)) = some (some (.int .u64 0), 1, 8) := by kernel_rfl
set_option maxHeartbeats 1000000 in
set_option maxRecDepth 100000 in
theorem newbits_ok (n : Nat) (h1 : 1 ≤ n) (h2 : n ≤ 65536) (w : World) :
    Calls Tryz.prog 95 #[.int .i64 n] w fun e w' => ∃ bs bw, e = .returned (.pointer (some ⟨bs, 0, none⟩)) ∧ BitsAt w' bs bw n 0 (fun _ => false) ∧ w.heap.size ≤ bs ∧ w.heap.size ≤ bw ∧ Fr (fun _ => False) w w' := by
  obtain ⟨i0, hi, hz0, hz1, hz2⟩ := info_parts info29
  have hmk := fun W => run_make_len (P := Tryz.prog) 254 29 i0 _ Tryz.underlying254 hi hz0 ((n + 63) / 64) (by rw [hz2]; omega) (by omega) W
  rw [hz1] at hmk
  have e : (((n + 63) / 64 : Nat) : Int) = ((n : Int) + 64 - 1) / 64 := by omega
  simp only [e] at hmk
  clear hi hz0 hz1 hz2 e
  go_enter Tryz.func95, Tryz.ntmps95
  go_wp2
  go_ret
  have hz : madeCells #[Value.int IntKind.u64 0] ((n + 63) / 64) = wcells (List.replicate ((n + 63) / 64) 0) := by
    apply Array.ext
    · rw [size_madeCells]; simp [wcells]
    · intro i h1 h2
      simp [madeCells, wcells, Nat.mod_one]
  refine ⟨w.heap.size + 1, w.heap.size, by simp, ⟨List.replicate ((n + 63) / 64) 0, ?_, fun i => ?_⟩, by omega, Nat.le_refl _, ((Fr.refl _ _).alloc _).alloc _⟩
  · obtain ⟨g1, g2, _⟩ := heap_two (w := w) (A := .cells (madeCells #[.int .u64 0] ((n + 63) / 64)) 29) (B := .cells #[.int .i64 n, .int .i64 0, .slice (some ⟨w.heap.size, 0, none⟩) ((n + 63) / 64) ((n + 63) / 64)] 256) rfl
    refine ⟨?_, ?_, by simp, ⟨h1, h2⟩, by omega, fun x hx => ?_, fun i _ => ?_⟩
    · rw [List.length_replicate]; exact g2
    · rw [← hz]; exact g1
    · rw [List.eq_of_mem_replicate hx]; decide
    · simp [bit, List.getD, List.getElem?_replicate]; split <;> simp
  · simp [bit, List.getD, List.getElem?_replicate]; split <;> simp
end Go.Proofs.YtgdhaaokolfdoaaGreatDoor

/- leaf.may and leaf.Room. Conditions: none. -/
namespace Go.Proofs.YtgdhaaokolfdoaaGreatDoor
open Go.RowKit Go.Sg
set_option maxRecDepth 100000 in
theorem may_yes (s : Int) (h1 : 96 ≤ s) (h2 : s ≤ 512) (w : World) : Calls Tryz.prog 159 #[.int .i64 s] w fun e w' => e = .returned (.bool true) ∧ w = w' := by
  go_enter Tryz.func159, Tryz.ntmps159
  go_wp2
  go_ret
  exact ⟨rfl, rfl⟩
set_option maxRecDepth 100000 in
theorem room_ok (s : Int) (h1 : 96 ≤ s) (h2 : s ≤ 512) (w : World) : Calls Tryz.prog 94 #[.int .i64 s] w fun e w' => e = .returned (.int .i64 (s - 19)) ∧ w = w' := by
  go_enter Tryz.func94, Tryz.ntmps94
  go_wp2_with (go_at_call 159; refine (may_yes s h1 h2 _).mono ?_; rintro e w' ⟨rfl, rfl⟩)
  go_ret
  exact ⟨rfl, rfl⟩
end Go.Proofs.YtgdhaaokolfdoaaGreatDoor

/- flash: Sectors, Size, there, New. Conditions: the device's cells lie as DevAt says. -/
namespace Go.Proofs.YtgdhaaokolfdoaaGreatDoor
open Go.RowKit Go.Sg
theorem sectors_at {w : World} {d : Nat} {n : Int} (h : w.cell? ⟨d, 0, none⟩ = some (.int .i64 n)) :
    Calls Tryz.prog 92 #[.pointer (some ⟨d, 0, none⟩)] w fun e w' => e = .returned (.int .i64 n) ∧ w = w' := by
  go_enter Tryz.func92, Tryz.ntmps92
  go_wp2
  go_ret
  exact ⟨rfl, rfl⟩
theorem size_at {w : World} {d : Nat} {n : Int} (h : w.cell? ⟨d, 1, none⟩ = some (.int .i64 n)) :
    Calls Tryz.prog 93 #[.pointer (some ⟨d, 0, none⟩)] w fun e w' => e = .returned (.int .i64 n) ∧ w = w' := by
  go_enter Tryz.func93, Tryz.ntmps93
  go_wp2
  go_ret
  exact ⟨rfl, rfl⟩
set_option maxRecDepth 100000 in
theorem newdev_ok (s z : Int) (h1 : 1 ≤ s) (h2 : s ≤ 16384) (h3 : 96 ≤ z) (h4 : z ≤ 512) (w : World) :
    Calls Tryz.prog 20 #[.int .i64 s, .int .i64 z] w fun e w' => e = .returned (.pointer (some ⟨w.heap.size + 2, 0, none⟩)) ∧
      w'.heap[w.heap.size]? = some (.map #[] 0) ∧ w'.heap[w.heap.size + 1]? = some (.map #[] 0) ∧
      w'.heap[w.heap.size + 1 + 1]? = some (.cells #[.int .i64 s, .int .i64 z, .map (some w.heap.size), .slice none 0 0, .map (some (w.heap.size + 1)), .int .i64 0, .int .i64 0, .bool false] 151) ∧ Fr (fun _ => False) w w' := by
  have hmm := fun (t : TypeId) (W : World) => run_makeMap (P := Tryz.prog) t W
  go_enter Tryz.func20, Tryz.ntmps20
  go_wp2
  go_ret
  exact ⟨rfl, heap_three rfl⟩
end Go.Proofs.YtgdhaaokolfdoaaGreatDoor

/- flash: there, ready. Conditions: the cells of the device that are read. -/
namespace Go.Proofs.YtgdhaaokolfdoaaGreatDoor
open Go.RowKit Go.Sg
theorem there_yes {w : World} {d : Nat} {n at_ : Int} (h : w.cell? ⟨d, 0, none⟩ = some (.int .i64 n)) (h1 : 0 ≤ at_) (h2 : at_ < n) :
    Calls Tryz.prog 230 #[.pointer (some ⟨d, 0, none⟩), .int .i64 at_] w fun e w' => e = .returned (.bool true) ∧ w = w' := by
  go_enter Tryz.func230, Tryz.ntmps230
  go_wp2
  go_ret
  exact ⟨rfl, rfl⟩
theorem ready_ok {w : World} {d : Nat} {n at_ : Int} (h : w.cell? ⟨d, 0, none⟩ = some (.int .i64 n)) (hd : w.cell? ⟨d, 7, none⟩ = some (.bool false)) (h1 : 0 ≤ at_) (h2 : at_ < n) :
    Calls Tryz.prog 173 #[.pointer (some ⟨d, 0, none⟩), .int .i64 at_] w fun e w' => e = .returned (.int .i64 0) ∧ w = w' := by
  have H := hid (there_yes h h1 h2)
  go_enter Tryz.func173, Tryz.ntmps173
  go_wp2_with (go_at_call 230; refine H.out.mono ?_; rintro e w' ⟨rfl, rfl⟩)
  go_ret
  exact ⟨rfl, rfl⟩
end Go.Proofs.YtgdhaaokolfdoaaGreatDoor

/- How a device and a store lie in a world; which blocks their functions may turn. Conditions: none. -/
namespace Go.Sg
open Go.RowKit
/-- The types of the cells that a store's functions may turn. -/
def mutT : List Nat := [156, 151, 256, 29, 260, 264, 196, 22]
/-- Such a block: a map, or cells of these types. -/
def Mut (w : World) (b : Nat) : Prop := ∀ c t f, w.heap[b]? = some (.cells c t f) → t ∈ mutT
theorem Mut.cells {w : World} {b : Nat} {c : Array Value} {t : TypeId} {f : Nat × Nat} (h : w.heap[b]? = some (.cells c t f)) (ht : t ∈ mutT) : Mut w b := by
  intro c' t' f' h'
  rw [h] at h'; cases h'; exact ht
theorem Mut.map {w : World} {b : Nat} {l : Array MapEntry} {ck : Nat} (h : w.heap[b]? = some (.map l ck)) : Mut w b := by
  intro c' t' f' h'
  rw [h] at h'; cases h'

/-! ### A device -/
structure Dev where
  sectors : Nat
  size : Nat
  fast : Int → Option (List Int)
  loose : List (Int × List Int)
  armed : Nat
  acts : Nat
  down : Bool
/-- What a fast sector's value reads as. -/
def FastIs (w : World) (size : Nat) : Option Value → Option (List Int) → Prop
  | none, none => True
  | some v, some bs => ∃ b off cap, v = .slice (some ⟨b, off, none⟩) size cap ∧ ByV w (some ⟨b, off, none⟩) size cap bs ∧ size ≤ cap
  | _, _ => False
/-- A write that was made: its sector, its bytes. -/
structure Wr where
  at_ : Int
  la : Option Addr
  ll : Nat
  lc : Nat
def Wr.cells (x : Wr) : List Value := [.int .i64 x.at_, .slice x.la x.ll x.lc]
def LooseAt (w : World) (base : Nat) (v : Value) (l : List (Int × List Int)) : Prop :=
  ∃ ws : List Wr, w.ownsRow base 196 2 v ws.length (ws.flatMap Wr.cells) ∧ ws.length = l.length ∧ ∀ (i : Nat) (x : Wr) (y : Int × List Int), ws[i]? = some x → l[i]? = some y → x.at_ = y.1 ∧ (ByV w x.la x.ll x.lc y.2 ∧ x.ll ≤ x.lc)
/-- A row of slices of bytes. -/
def PastV (w : World) (base N : Nat) (v : Value) : Prop :=
  ∃ n xs, n ≤ N ∧ w.ownsRow base 22 1 v n xs ∧ ∀ x ∈ xs, ∃ a k cap bs, x = .slice a k cap ∧ ByV w a k cap bs ∧ k ≤ 512
structure DevAt (w : World) (base d bf bq : Nat) (x : Dev) : Prop where
  dc : ∃ lv, w.heap[d]? = some (.cells #[.int .i64 x.sectors, .int .i64 x.size, .map (some bf), lv, .map (some bq), .int .i64 x.armed, .int .i64 x.acts, .bool x.down] 151) ∧ LooseAt w base lv x.loose
  fast : ∃ l ck, w.heap[bf]? = some (.map (ents l) ck) ∧ (keys l).Nodup ∧ ∀ k, FastIs w x.size (look l k) (x.fast k)
  past : ∃ l ck, w.heap[bq]? = some (.map (ents l) ck) ∧ (keys l).Nodup ∧ (∀ e ∈ l, PastV w base x.acts e.v) ∧ ∀ e ∈ l, ∀ e' ∈ l, ∀ g, e.v.ownBlock = some g → e'.v.ownBlock = some g → e.k = e'.k
  ge : base ≤ d ∧ base ≤ bf ∧ base ≤ bq
  ne : bf ≠ bq
  rg : (1 ≤ x.sectors ∧ x.sectors ≤ 16384) ∧ 96 ≤ x.size ∧ x.size ≤ 512
theorem DevAt.lts {w : World} {base d bf bq : Nat} {x : Dev} (h : DevAt w base d bf bq x) : d < w.heap.size ∧ bf < w.heap.size ∧ bq < w.heap.size := by
  obtain ⟨lv, hd, _⟩ := h.dc
  obtain ⟨l, ck, hf, _⟩ := h.fast
  obtain ⟨l', ck', hq, _⟩ := h.past
  exact ⟨lt_of_heap hd, lt_of_heap hf, lt_of_heap hq⟩
theorem ownsRow_fr {S : Nat → Prop} {w w' : World} {base e size n : Nat} {v : Value} {xs : List Value} (h : w.ownsRow base e size v n xs) (F : Fr S w w') (hS : ∀ g c, w.heap[g]? = some (.cells c e) → ¬ S g) : w'.ownsRow base e size v n xs := by
  obtain ⟨hl, h0 | ⟨g, cap, cur, hv, hb, hg, r⟩⟩ := h
  · exact ⟨hl, .inl h0⟩
  · exact ⟨hl, .inr ⟨g, cap, cur, hv, hb, F.heap hg (hS g cur hg), r⟩⟩
/-- A device lies on while other blocks turn. -/
theorem DevAt.fr {S : Nat → Prop} {w w' : World} {base d bf bq : Nat} {x : Dev} (h : DevAt w base d bf bq x) (F : Fr S w w') (h1 : ¬ S d) (h2 : ¬ S bf) (h3 : ¬ S bq)
    (h4 : ∀ g c t, (t = 5 ∨ t = 196 ∨ t = 22) → w.heap[g]? = some (.cells c t) → ¬ S g) : DevAt w' base d bf bq x := by
  obtain ⟨lv, hd, ws, hown, hlen, hws⟩ := h.dc
  obtain ⟨l, ck, hf, hfn, hfs⟩ := h.fast
  obtain ⟨l', ck', hq, hqn, hqs, hqd⟩ := h.past
  have hB : ∀ a n c bs, ByV w a n c bs → ByV w' a n c bs := fun a n c bs hb => hb.fr F fun b c hc => h4 b c 5 (.inl rfl) hc
  refine ⟨⟨lv, F.heap hd h1, ws, ownsRow_fr hown F fun g c hg => h4 g c _ (.inr (.inl rfl)) hg, hlen, fun i y z hy hz => ⟨(hws i y z hy hz).1, hB _ _ _ _ (hws i y z hy hz).2.1, (hws i y z hy hz).2.2⟩⟩,
    ⟨l, ck, F.heap hf h2, hfn, fun k => ?_⟩, ⟨l', ck', F.heap hq h3, hqn, fun e he => ?_, hqd⟩, h.ge, h.ne, h.rg⟩
  · have := hfs k
    cases hlk : look l k with
    | none => rw [hlk] at this; cases hx : x.fast k with
      | none => trivial
      | some bs => rw [hx] at this; exact this.elim
    | some v => rw [hlk] at this; cases hx : x.fast k with
      | none => rw [hx] at this; exact this.elim
      | some bs =>
        rw [hx] at this
        obtain ⟨b, off, cap, e, hb, hcp⟩ := this
        exact ⟨b, off, cap, e, hB _ _ _ _ hb, hcp⟩
  · obtain ⟨n, xs, hnN, hx, hxs⟩ := hqs e he
    refine ⟨n, xs, hnN, ownsRow_fr hx F fun g c hg => h4 g c _ (.inr (.inr rfl)) hg, fun y hy => ?_⟩
    obtain ⟨a, k, cap, bs, e, hb, hk⟩ := hxs y hy
    exact ⟨a, k, cap, bs, e, hB _ _ _ _ hb, hk⟩
def Dev.fresh (s z : Nat) : Dev := ⟨s, z, fun _ => none, [], 0, 0, false⟩

/-! ### A store -/
structure Plan8 where
  sectors : Int
  size : Int
  regions : Int
  rsectors : Int
  log : Int
  depth : Int
  memory : Int
  seed : Int
abbrev Plan8.val (p : Plan8) : Value := .agg #[.int .i64 p.sectors, .int .i64 p.size, .int .i64 p.regions, .int .i64 p.rsectors, .int .i64 p.log, .int .i64 p.depth, .int .i64 p.memory, .int .u64 p.seed]
/-- Where a store's blocks lie. -/
structure Blk where
  base : Nat
  s : Nat
  d : Nat
  bf : Nat
  bq : Nat
  bs : Nat
  bw : Nat
  fr : Nat
  dy : Nat
  de : Nat
  bc : Nat
  bp : Nat
  bm : Nat
structure Sto where
  plan : Plan8
  first : Int
  pages : Nat
  room : Nat
  gen : Nat
  hand : Nat
  taken : Nat → Bool
  fresh : Int → Bool
  dying : Int → Bool
  dead : Int → Bool
  mem : Int → Option Clk.Pg
  places : Nat
  dev : Dev
def Blk.maps (B : Blk) : List Nat := [B.bf, B.bq, B.fr, B.dy, B.de, B.bm]
abbrev Blk.ptr (B : Blk) : Value := .pointer (some ⟨B.s, 0, none⟩)
/-- What a block of a store is for. -/
inductive Role
  | s | d | bf | bq | bs | bw | fr | dy | de | bc | bp | bm
  deriving DecidableEq
def Role.kind : Role → Nat
  | .s => 156 + 1
  | .d => 152
  | .bs => 257
  | .bw => 30
  | .bc => 261
  | .bp => 265
  | _ => 0
def Blk.at_ (B : Blk) : Role → Nat
  | .s => B.s
  | .d => B.d
  | .bf => B.bf
  | .bq => B.bq
  | .bs => B.bs
  | .bw => B.bw
  | .fr => B.fr
  | .dy => B.dy
  | .de => B.de
  | .bc => B.bc
  | .bp => B.bp
  | .bm => B.bm
/-- Only a store's maps, and such cells from its base on, and new blocks, have turned. -/
def MutB (B : Blk) (w : World) (b : Nat) : Prop := Mut w b ∧ ((∃ c t f, w.heap[b]? = some (.cells c t f)) ∨ ∃ r, b = B.at_ r)
abbrev FrB (B : Blk) (w w' : World) : Prop := Fr (fun b => B.base ≤ b ∧ MutB B w b) w w'
theorem FrB.trans {B : Blk} {w w1 w2 : World} (h : FrB B w w1) (k : FrB B w1 w2) : FrB B w w2 := by
  refine Fr.trans h k fun b hb hs => ?_
  rcases Classical.em (B.base ≤ b ∧ MutB B w b) with hm | hm
  · exact hm
  · have e := h.block b hb hm
    refine ⟨hs.1, fun c t f hc => hs.2.1 c t f (e.trans hc), ?_⟩
    rw [← e]; exact hs.2.2
theorem FrB.none {B : Blk} {w w' : World} (h : Fr (fun _ => False) w w') : FrB B w w' := h.mono fun _ _ h => h.elim
theorem FrB.heap {B : Blk} {w w' : World} (h : FrB B w w') {b : Nat} {c : Array Value} {t : TypeId} {f : Nat × Nat} (hb : w.heap[b]? = some (.cells c t f)) (ht : t ∉ mutT) : w'.heap[b]? = some (.cells c t f) :=
  Fr.heap h hb fun hs => ht (hs.2.1 c t f hb)
theorem FrB.alloc {B : Blk} {w w1 : World} (h : FrB B w w1) (o : Obj) : FrB B w (w1.alloc o) := Fr.alloc h o
theorem ByV.frB {B : Blk} {w w' : World} {a : Option Addr} {n c : Nat} {bs : List Int} (h : ByV w a n c bs) (F : FrB B w w') : ByV w' a n c bs :=
  h.fr F fun b c hb hs => absurd (hs.2.1 c 5 _ hb) (by decide)
theorem FrB.ge {B : Blk} {w w' : World} (h : FrB B w w') : Fr (fun b => B.base ≤ b) w w' := h.mono fun _ _ h => h.1
/-- What is no cells stays but for the store's own maps. -/
theorem FrB.keeps {B : Blk} {w w' : World} (h : FrB B w w') {B0 : Nat} (hB : ∀ r, B.at_ r < B0) : KeepsFrom B0 w w' := by
  refine ⟨h.size, fun k o hk ho hc => Fr.heap h ho fun hs => ?_⟩
  rcases hs.2.2 with ⟨c, t, f, e⟩ | ⟨r, e⟩
  · rw [ho] at e; cases e; cases hc
  · have := hB r; omega
end Go.Sg
namespace Go.Proofs.YtgdhaaokolfdoaaGreatDoor
open Go.RowKit Go.Sg Go.Sg.Bits CP
structure StoreAt (w : World) (B : Blk) (x : Sto) : Prop where
  s : w.heap[B.s]? = some (.cells #[.pointer (some ⟨B.d, 0, none⟩), .int .i64 x.plan.sectors, .int .i64 x.plan.size, .int .i64 x.plan.regions, .int .i64 x.plan.rsectors, .int .i64 x.plan.log, .int .i64 x.plan.depth, .int .i64 x.plan.memory, .int .u64 x.plan.seed,
    .int .i64 x.first, .int .i64 x.pages, .int .i64 x.room, .int .i64 x.gen, .pointer (some ⟨B.bs, 0, none⟩), .map (some B.fr), .map (some B.dy), .map (some B.de), .pointer (some ⟨B.bc, 0, none⟩)] 156)
  dev : DevAt w B.base B.d B.bf B.bq x.dev
  bits : BitsAt w B.bs B.bw x.pages x.hand x.taken
  fr : SetAt w B.fr x.fresh
  dy : SetAt w B.dy x.dying
  de : SetAt w B.de x.dead
  mem : MemAt w B.bc B.bp B.bm x.places x.mem
  load : ∀ k p, x.mem k = some p → ∃ bs, ByV w p.la p.ll p.lc bs ∧ bs.length ≤ x.room
  ne : B.maps.Nodup
  ge : B.base ≤ B.s ∧ B.base ≤ B.bs ∧ B.base ≤ B.bw ∧ B.base ≤ B.fr ∧ B.base ≤ B.dy ∧ B.base ≤ B.de ∧ B.base ≤ B.bc ∧ B.base ≤ B.bp ∧ B.base ≤ B.bm
  rg : x.room ≤ 493 ∧ (1 ≤ x.gen ∧ x.gen ≤ 2199023255552) ∧ 0 ≤ x.first ∧ x.first + x.pages = x.dev.sectors ∧ x.room + 19 = x.dev.size
  inr : (∀ k, x.fresh k = true → 0 ≤ k ∧ k < x.pages) ∧ (∀ k, x.dying k = true → 0 ≤ k ∧ k < x.pages) ∧ (∀ k, x.dead k = true → 0 ≤ k ∧ k < x.pages)
theorem BitsAt_heaps {w : World} {bs bw n hand : Nat} {t : Nat → Bool} (h : BitsAt w bs bw n hand t) : (∃ c, w.heap[bs]? = some (.cells c 256)) ∧ ∃ c, w.heap[bw]? = some (.cells c 29) := by
  obtain ⟨ws, h, _⟩ := h
  exact ⟨⟨_, h.s⟩, ⟨_, h.w_⟩⟩
/-- What kind of block lies at b. -/
def kd (w : World) (b : Nat) : Nat := match w.heap[b]? with
  | some (.cells _ t _) => t + 1
  | _ => 0
theorem kd_cells {w : World} {b : Nat} {c : Array Value} {t : TypeId} {f : Nat × Nat} (h : w.heap[b]? = some (.cells c t f)) : kd w b = t + 1 := by rw [kd, h]
theorem kd_map {w : World} {b : Nat} {l : Array MapEntry} {ck : Nat} (h : w.heap[b]? = some (.map l ck)) : kd w b = 0 := by rw [kd, h]
theorem StoreAt.heaps {w : World} {B : Blk} {x : Sto} (h : StoreAt w B x) (r : Role) : B.base ≤ B.at_ r ∧ Mut w (B.at_ r) ∧ B.at_ r < w.heap.size ∧ kd w (B.at_ r) = r.kind := by
  obtain ⟨g1, g2, g3, g4, g5, g6, g7, g8, g9⟩ := h.ge
  obtain ⟨k1, k2, k3⟩ := h.dev.ge
  obtain ⟨lv, hd, _⟩ := h.dev.dc
  obtain ⟨l, ck, hf, _⟩ := h.dev.fast
  obtain ⟨l', ck', hq, _⟩ := h.dev.past
  obtain ⟨⟨_, hbs⟩, ⟨_, hbw⟩⟩ := BitsAt_heaps h.bits
  obtain ⟨l1, c1, hfr, _⟩ := h.fr.ex
  obtain ⟨l2, c2, hdy, _⟩ := h.dy.ex
  obtain ⟨l3, c3, hde, _⟩ := h.de.ex
  obtain ⟨⟨_, hbc⟩, ⟨_, hbp⟩, _, _, hbm⟩ := h.mem.heaps
  cases r
  · exact ⟨g1, Mut.cells h.s (by decide), lt_of_heap h.s, kd_cells h.s⟩
  · exact ⟨k1, Mut.cells hd (by decide), lt_of_heap hd, kd_cells hd⟩
  · exact ⟨k2, Mut.map hf, lt_of_heap hf, kd_map hf⟩
  · exact ⟨k3, Mut.map hq, lt_of_heap hq, kd_map hq⟩
  · exact ⟨g2, Mut.cells hbs (by decide), lt_of_heap hbs, kd_cells hbs⟩
  · exact ⟨g3, Mut.cells hbw (by decide), lt_of_heap hbw, kd_cells hbw⟩
  · exact ⟨g4, Mut.map hfr, lt_of_heap hfr, kd_map hfr⟩
  · exact ⟨g5, Mut.map hdy, lt_of_heap hdy, kd_map hdy⟩
  · exact ⟨g6, Mut.map hde, lt_of_heap hde, kd_map hde⟩
  · exact ⟨g7, Mut.cells hbc (by decide), lt_of_heap hbc, kd_cells hbc⟩
  · exact ⟨g8, Mut.cells hbp (by decide), lt_of_heap hbp, kd_cells hbp⟩
  · exact ⟨g9, Mut.map hbm, lt_of_heap hbm, kd_map hbm⟩
theorem StoreAt.inj {w : World} {B : Blk} {x : Sto} (h : StoreAt w B x) {r r' : Role} (e : B.at_ r = B.at_ r') : r = r' := by
  have hk : r.kind = r'.kind := by rw [← (h.heaps r).2.2.2, ← (h.heaps r').2.2.2, e]
  have hn := h.ne
  simp only [Blk.maps, List.nodup_cons, List.mem_cons, not_or, List.not_mem_nil, not_false_eq_true, List.nodup_nil, and_true] at hn
  obtain ⟨⟨a1, a2, a3, a4, a5⟩, ⟨b1, b2, b3, b4⟩, ⟨c1, c2, c3⟩, ⟨d1, d2⟩, e1⟩ := hn
  cases r <;> cases r' <;> first | rfl | (exact absurd hk (by decide)) | (exact absurd e (by assumption)) | (exact absurd e.symm (by assumption))
/-- Only the blocks of these roles, and new ones, have turned. -/
abbrev FrR (B : Blk) (L : List Role) (w w' : World) : Prop := Fr (fun b => ∃ r ∈ L, b = B.at_ r) w w'
theorem StoreAt.out {w : World} {B : Blk} {x : Sto} (h : StoreAt w B x) {L : List Role} {r : Role} (hr : r ∉ L) : ¬ ∃ r' ∈ L, B.at_ r = B.at_ r' := by
  rintro ⟨r', hL, e⟩
  exact hr (by rw [h.inj e]; exact hL)
theorem StoreAt.outB {w : World} {B : Blk} {x : Sto} (h : StoreAt w B x) (L : List Role) {b : Nat} {c : Array Value} {t : TypeId} {f : Nat × Nat} (hb : w.heap[b]? = some (.cells c t f)) (ht : t ∉ [156, 151, 256, 29, 260, 264]) : ¬ ∃ r ∈ L, b = B.at_ r := by
  rintro ⟨r, _, rfl⟩
  have h1 := kd_cells hb
  rw [(h.heaps r).2.2.2] at h1
  cases r <;> simp [Role.kind] at h1 <;> (subst h1; simp at ht)
theorem StoreAt.frB {w w' : World} {B : Blk} {x : Sto} (h : StoreAt w B x) {L : List Role} (F : FrR B L w w') : FrB B w w' :=
  Fr.mono F fun b _ hs => by obtain ⟨r, _, rfl⟩ := hs; exact ⟨(h.heaps r).1, (h.heaps r).2.1, .inr ⟨r, rfl⟩⟩
/-- What stays of a store while blocks of these roles turn. -/
structure Stays (w' : World) (B : Blk) (x : Sto) (L : List Role) : Prop where
  s : Role.s ∉ L → w'.heap[B.s]? = some (.cells #[.pointer (some ⟨B.d, 0, none⟩), .int .i64 x.plan.sectors, .int .i64 x.plan.size, .int .i64 x.plan.regions, .int .i64 x.plan.rsectors, .int .i64 x.plan.log, .int .i64 x.plan.depth, .int .i64 x.plan.memory, .int .u64 x.plan.seed,
    .int .i64 x.first, .int .i64 x.pages, .int .i64 x.room, .int .i64 x.gen, .pointer (some ⟨B.bs, 0, none⟩), .map (some B.fr), .map (some B.dy), .map (some B.de), .pointer (some ⟨B.bc, 0, none⟩)] 156)
  dev : Role.d ∉ L → Role.bf ∉ L → Role.bq ∉ L → DevAt w' B.base B.d B.bf B.bq x.dev
  bits : Role.bs ∉ L → Role.bw ∉ L → BitsAt w' B.bs B.bw x.pages x.hand x.taken
  fr : Role.fr ∉ L → SetAt w' B.fr x.fresh
  dy : Role.dy ∉ L → SetAt w' B.dy x.dying
  de : Role.de ∉ L → SetAt w' B.de x.dead
  mem : Role.bc ∉ L → Role.bp ∉ L → Role.bm ∉ L → MemAt w' B.bc B.bp B.bm x.places x.mem
  load : ∀ k p, x.mem k = some p → ∃ bs, ByV w' p.la p.ll p.lc bs ∧ bs.length ≤ x.room
theorem StoreAt.stays {w w' : World} {B : Blk} {x : Sto} (h : StoreAt w B x) {L : List Role} (F : FrR B L w w') : Stays w' B x L := by
  refine ⟨fun a => Fr.heap F h.s (h.out a), fun a b c => h.dev.fr F (h.out a) (h.out b) (h.out c) fun g c t ht hg => h.outB L hg ?_, fun a b => h.bits.fr F (h.out a) (h.out b), fun a => h.fr.fr F (h.out a), fun a => h.dy.fr F (h.out a), fun a => h.de.fr F (h.out a),
    fun a b c => h.mem.fr F (h.out a) (h.out b) (h.out c), fun k p hp => ?_⟩
  · rcases ht with rfl | rfl | rfl <;> decide
  · obtain ⟨bs, hb, hl⟩ := h.load k p hp
    exact ⟨bs, hb.fr F fun b c hc => h.outB L hc (by decide), hl⟩
theorem StoreAt.byv {w w' : World} {B : Blk} {x : Sto} (h : StoreAt w B x) {L : List Role} (F : FrR B L w w') {a : Option Addr} {n c : Nat} {bs : List Int} (hb : ByV w a n c bs) : ByV w' a n c bs :=
  hb.fr F fun b c hc => h.outB L hc (by decide)
/-- A store lies on while a block of the caller's own turns. -/
theorem StoreAt.frL {w w' : World} {B : Blk} {x : Sto} (h : StoreAt w B x) {k : Nat} (F : Fr (fun b => b = k) w w') {c : Array Value} {t : TypeId} (hk : w.heap[k]? = some (.cells c t)) (ht : t ∉ 5 :: mutT) : StoreAt w' B x := by
  have h1 : ∀ r, ¬ B.at_ r = k := fun r e => by
    have h2 := (h.heaps r).2.1 c t
    rw [e] at h2
    exact ht (List.mem_cons_of_mem _ (h2 _ hk))
  have h4 : ∀ g c' t', t' ∈ 5 :: mutT → w.heap[g]? = some (.cells c' t') → ¬ g = k := fun g c' t' h5 hg e => by
    rw [e, hk] at hg; cases hg; exact ht h5
  refine ⟨F.heap h.s (h1 .s), h.dev.fr F (h1 .d) (h1 .bf) (h1 .bq) fun g c' t' h5 hg => h4 g c' t' (by rcases h5 with rfl | rfl | rfl <;> decide) hg, h.bits.fr F (h1 .bs) (h1 .bw), h.fr.fr F (h1 .fr), h.dy.fr F (h1 .dy), h.de.fr F (h1 .de), h.mem.fr F (h1 .bc) (h1 .bp) (h1 .bm), fun k p hp => ?_, h.ne, h.ge, h.rg, h.inr⟩
  obtain ⟨bs, hb, hl⟩ := h.load k p hp
  exact ⟨bs, hb.fr F fun b c hc => h4 b c 5 (by decide) hc, hl⟩
theorem _root_.Go.Sg.ByV.frL {w w' : World} {a : Option Addr} {n c : Nat} {bs : List Int} (h : ByV w a n c bs) {k : Nat} (F : Fr (fun b => b = k) w w') {cs : Array Value} {t : TypeId} (hk : w.heap[k]? = some (.cells cs t)) (ht : t ≠ 5) : ByV w' a n c bs :=
  h.fr F fun b c hc e => by rw [e, hk] at hc; cases hc; exact ht rfl
/-- A store lies on while only new blocks are laid. -/
theorem StoreAt.fr0 {w w' : World} {B : Blk} {x : Sto} (h : StoreAt w B x) (F : Fr (fun _ => False) w w') : StoreAt w' B x := by
  have S := h.stays (L := []) (F.mono fun _ _ h => h.elim)
  exact ⟨S.s (by decide), S.dev (by decide) (by decide) (by decide), S.bits (by decide) (by decide), S.fr (by decide), S.dy (by decide), S.de (by decide), S.mem (by decide) (by decide) (by decide), S.load, h.ne, h.ge, h.rg, h.inr⟩
end Go.Proofs.YtgdhaaokolfdoaaGreatDoor
