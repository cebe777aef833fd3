/- math/bits.TrailingZeros64 at this program, by the shelf's contract; facts on the lowest bit. Conditions: the library's table lies as its text lays it. -/
import Derived.Test.YtgdhaaokolfdoaaGreatDoorShl
import Derived.Test.YtgdhaaokolfdoaaGreatDoorLib
import Derived.Shelf.Spec.TrailingZeros
import Derived.Laws.BitsAllLaws
import Derived.Ground.Names7Prog
namespace Go.Sg.Bits
open Go
theorem ctz_spec {x : Nat} (h0 : x ≠ 0) (hx : x < 18446744073709551616) : ∃ m, x = 2 ^ Lib.ctz 64 x * (2 * m + 1) ∧ Lib.ctz 64 x < 64 := by
  have := Lib.ctzFrom_spec 64 x (by omega) hx
  simpa [Lib.ctz, h0] using this
theorem odd_bit (k m i : Nat) : (2 ^ k * (2 * m + 1)).testBit i = if i < k then false else if i = k then true else m.testBit (i - k - 1) := by
  have e : 2 ^ k * (2 * m + 1) = 2 ^ k * (2 * m + 1) + 0 := rfl
  rw [Nat.mul_comm, Nat.testBit_mul_two_pow]
  by_cases h : i < k
  · rw [if_pos h]; simp; omega
  · rw [if_neg h]
    by_cases h2 : i = k
    · subst h2; simp [Nat.testBit_zero]
    · rw [if_neg h2]
      obtain ⟨d, rfl⟩ : ∃ d, i = k + (d + 1) := ⟨i - k - 1, by omega⟩
      have e1 : k + (d + 1) - k = d + 1 := by omega
      have e2 : k + (d + 1) - k - 1 = d := by omega
      rw [e1, show d + 1 - 1 = d by omega, Nat.testBit_succ, show (2 * m + 1) / 2 = m by omega]
      simp
theorem ctz_bit {x : Nat} (h0 : x ≠ 0) (hx : x < 18446744073709551616) : Lib.ctz 64 x < 64 ∧ x.testBit (Lib.ctz 64 x) = true ∧ ∀ i, i < Lib.ctz 64 x → x.testBit i = false := by
  obtain ⟨m, hm, hl⟩ := ctz_spec h0 hx
  refine ⟨hl, ?_, fun i hi => ?_⟩
  · generalize Lib.ctz 64 x = k at *
    rw [hm, odd_bit]; simp
  · generalize Lib.ctz 64 x = k at *
    rw [hm, odd_bit, if_pos hi]
theorem drop_low {x : Nat} (h0 : x ≠ 0) (hx : x < 18446744073709551616) (i : Nat) : (x &&& (x - 1)).testBit i = if i = Lib.ctz 64 x then false else x.testBit i := by
  obtain ⟨m, hm, hl⟩ := ctz_spec h0 hx
  generalize Lib.ctz 64 x = k at *
  have e1 : x - 1 = 2 ^ k * (2 * m) + (2 ^ k - 1) := by
    have : 0 < 2 ^ k := Nat.two_pow_pos k
    rw [hm, Nat.mul_add]; omega
  have hlt : 2 ^ k - 1 < 2 ^ k := by have : 0 < 2 ^ k := Nat.two_pow_pos k; omega
  rw [Nat.testBit_and, e1, Nat.testBit_two_pow_mul_add _ hlt, hm, odd_bit]
  by_cases h : i < k
  · simp [h]
  · rw [if_neg h, if_neg h]
    by_cases h2 : i = k
    · subst h2; simp [Nat.testBit_zero]
    · rw [if_neg h2, if_neg h2]
      obtain ⟨d, rfl⟩ : ∃ d, i = k + (d + 1) := ⟨i - k - 1, by omega⟩
      rw [show k + (d + 1) - k = d + 1 by omega, show d + 1 - 1 = d by omega, Nat.testBit_succ, show 2 * m / 2 = m by omega]
      simp
theorem not_bit {x : Nat} (hx : x < 18446744073709551616) (i : Nat) : (18446744073709551615 - x).testBit i = (decide (i < 64) && !x.testBit i) := by
  rw [show 18446744073709551615 - x = 2 ^ 64 - (x + 1) by omega, Nat.testBit_two_pow_sub_succ hx]
theorem xor_max (x : Nat) (hx : x < 18446744073709551616) : bits BinOp.xor IntKind.u64 IntKind.u64.max (x : Int) = ((18446744073709551615 ^^^ x : Nat) : Int) := by
  rw [show IntKind.u64.max = ((18446744073709551615 : Nat) : Int) from rfl]
  exact u64_xor_nat _ _ (by decide) hx
theorem xor_max_lt (x : Nat) (hx : x < 18446744073709551616) : 18446744073709551615 ^^^ x < 18446744073709551616 := Nat.xor_lt_two_pow (n := 64) (by decide) hx
theorem xor_max_bit (x i : Nat) : (18446744073709551615 ^^^ x).testBit i = (decide (i < 64) ^^ x.testBit i) := by
  rw [Nat.testBit_xor, show 18446744073709551615 = 2 ^ 64 - 1 from rfl, Nat.testBit_two_pow_sub_one]
theorem and_pred {x : Nat} (h0 : x ≠ 0) (hx : x < 18446744073709551616) : bits BinOp.and IntKind.u64 (x : Int) ((x : Int) - 1) = ((x &&& (x - 1) : Nat) : Int) := by
  rw [show (x : Int) - 1 = ((x - 1 : Nat) : Int) by omega, u64_and_nat _ _ hx (by omega)]
end Go.Sg.Bits
namespace Go.Proofs.YtgdhaaokolfdoaaGreatDoor
open Go.Proofs Go.Shelf Go.Sg
/-- The library's table lies as its text lays it. -/
def Tab (w : World) : Prop := TabAt 0 Lib.deBruijn64tab w
theorem Tab.lt {w : World} (h : Tab w) : 0 < w.heap.size := World.block_lt_of_cell? _ _ (h 0 (by decide))
theorem Tab.fr {S : Nat → Prop} {w w' : World} (h : Tab w) (F : Fr S w w') (hS : ¬ S 0) : Tab w' := fun j hj => (F.cell (p := ⟨0, j, none⟩) h.lt hS).trans (h j hj)
theorem tz_at (x : Nat) (hx : x < 18446744073709551616) (w : World) (hT : Tab w) :
    Calls Tryz.prog 214 #[.int .u64 x] w fun e w' => e = .returned (.int .i64 (Lib.ctz 64 x)) ∧ w = w' := by
  have h := Any7.bits_TrailingZeros64 Tryz.tz x hx w (fun _ => hT)
  change Calls Tryz.prog 214 _ _ _ at h
  exact h.mono fun _ _ ⟨h1, h2⟩ => ⟨h1, h2.symm⟩
end Go.Proofs.YtgdhaaokolfdoaaGreatDoor
