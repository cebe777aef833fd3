/- The reference's plan check (ref06.Fit) answers 0 exactly where plan.Fit does. Conditions: none. -/
import Derived.Test.YtgdhaaokolfdoaaGreatDoorFC
import Derived.Outline
import Derived.Deep.Cut
namespace Go.Proofs.YtgdhaaokolfdoaaGreatDoor
open Go.RowKit Go.Sg
def RefPost (c : Int) (w : World) (e : Ending) (w' : World) : Prop :=
  (∃ x0 x1 x2 x3 x4 x5 x6 x7 : Int, e = .returned (.tuple #[.agg #[.int .i64 x0, .int .i64 x1, .int .i64 x2, .int .i64 x3, .int .i64 x4, .int .i64 x5, .int .i64 x6, .int .i64 x7], .int .i64 c])) ∧ Fr (fun _ => False) w w'
def codeOf (b : Bool) : Int := if b = true then 0 else 12
theorem RefPost.zero {w w' : World} (h : Fr (fun _ => False) w w') : RefPost 12 w (.returned (.tuple #[layZ, .int .i64 12])) w' := ⟨⟨0, 0, 0, 0, 0, 0, 0, 0, rfl⟩, h⟩
theorem pow_bd (k : Nat) (h : k ≤ 8) : 1 ≤ (2 : Int) ^ k ∧ (2 : Int) ^ k ≤ 256 := by
  rcases (show k = 0 ∨ k = 1 ∨ k = 2 ∨ k = 3 ∨ k = 4 ∨ k = 5 ∨ k = 6 ∨ k = 7 ∨ k = 8 by omega) with rfl | rfl | rfl | rfl | rfl | rfl | rfl | rfl | rfl <;> decide
theorem ceil_eq {m q : Int} (hq : 0 < q) {k : Nat} {j : Int} (hj : j = k * q) (h1 : m ≤ j) (h2 : j < m + q) : (m + q - 1) / q = k := by
  refine Int.le_antisymm ?_ ?_
  · have : m + q - 1 < (k + 1) * q := by rw [Int.add_mul]; omega
    exact Int.le_of_lt_add_one (Int.ediv_lt_of_lt_mul hq this)
  · exact Int.le_ediv_of_mul_le hq (by omega)
set_option maxHeartbeats 4000000 in
set_option maxRecDepth 100000 in
theorem ref_one (a b c d f g hh s : Int) (hb : 96 ≤ b ∧ b ≤ 512) (ha : 1 ≤ a ∧ a ≤ 16384) (hc : 3 ≤ c ∧ c ≤ 64) (hd : 1 ≤ d ∧ d ≤ 32) (hf : 4 ≤ f ∧ f ≤ 256) (hg : 0 ≤ g ∧ g ≤ 8) (hh8 : 8 ≤ hh ∧ hh ≤ 256)
    (hw : withinM ⟨a, b, c, d, f, g, hh, s⟩ = true) (w : World) : Calls Tryz.prog 29 #[(Plan8.mk a b c d f g hh s).val] w (RefPost (codeOf (fitsM ⟨a, b, c, d, f, g, hh, s⟩)) w) := by
  obtain ⟨m0, m1⟩ := mul_bd (show 0 ≤ c by omega) hc.2 (show 0 ≤ d by omega) hd.2
  obtain ⟨r0, r1⟩ := mul_bd (show 0 ≤ d by omega) hd.2 (show 0 ≤ b - 19 by omega) (show b - 19 ≤ 493 by omega)
  have q0 : 6 ≤ (b - 19) / 12 := by omega
  have q1 : (b - 19) / 12 ≤ 41 := by omega
  obtain ⟨p0, p1⟩ := mul_bd (show 0 ≤ (b - 19) / 12 by omega) q1 (show 0 ≤ (b - 19) / 12 by omega) q1
  obtain ⟨w1, hw1⟩ : ∃ w1, (w.alloc (.cells #[.int .i64 a, .int .i64 b, .int .i64 c, .int .i64 d, .int .i64 f, .int .i64 g, .int .i64 hh, .int .u64 s] 46)).alloc (.cells #[.int .i64 0, .int .i64 0, .int .i64 0, .int .i64 0, .int .i64 0, .int .i64 0, .int .i64 0, .int .i64 0] 48) = w1 := ⟨_, rfl⟩
  obtain ⟨b0, b1, F1⟩ := heap_two hw1
  have HF1 := hid F1
  have HB01 := hid (And.intro b0 b1)
  have HWI := hid hw
  obtain ⟨hb1, hb2⟩ := hb
  obtain ⟨ha1, ha2⟩ := ha
  obtain ⟨hc1, hc2⟩ := hc
  obtain ⟨hd1, hd2⟩ := hd
  obtain ⟨hf1, hf2⟩ := hf
  obtain ⟨hg1, hg2⟩ := hg
  obtain ⟨hh1, hh2⟩ := hh8
  have HW := hid hw1
  have k0 := cell_of_heap b0 0
  have k1 := cell_of_heap b0 1
  have k2 := cell_of_heap b0 2
  have k3 := cell_of_heap b0 3
  have k4 := cell_of_heap b0 4
  have k5 := cell_of_heap b0 5
  simp at k0 k1 k2 k3 k4 k5
  have l0 := lt_of_heap b0
  clear hw1 b0 b1 F1 hw
  go_enter Tryz.func29, Tryz.ntmps29
  go_wp2
  rw [HW.out]
  go_loopw [5, 6] (fun r i wr => ∃ (k : Nat) (m : Int), (k : Int) ≤ g ∧ i = .int .i64 k ∧ r = .int .i64 m ∧ m = 2 ^ k ∧ wr = w1) (fun _ i _ => (g - Go.RowKit.intOf i).toNat)
  case atStart => exact ⟨0, 1, by omega, rfl, rfl, rfl, rfl⟩
  case round =>
    obtain ⟨k, m, hk, rfl, rfl, hm, hwr⟩ := hrel
    rw [hwr]
    clear hwr
    obtain ⟨mb1, mb2⟩ := pow_bd k (by omega)
    rw [← hm] at mb1 mb2
    have HM := hid hm
    clear hm
    by_cases hlt : (k : Int) < g
    · have hdec : decide ((k : Int) < g) = true := decide_eq_true hlt
      go_wp2
      go_roundw
      case rel => exact ⟨k + 1, m * 2, by omega, by simp, rfl, by rw [HM.out, Int.pow_succ], trivial⟩
      case measure => simp [Go.RowKit.intOf]; omega
    · have hge : g ≤ (k : Int) := by omega
      obtain rfl : g = (k : Int) := by omega
      have hdec : decide ((k : Int) < (k : Int)) = false := by simp
      obtain ⟨w2, hw2⟩ : ∃ w2, w1.alloc (.cells #[.int .i64 2, .int .i64 (2 + f), .int .i64 0, .int .i64 0, .int .i64 ((b - 19) / 12), .int .i64 ((b - 19 - 10) / 20), .int .i64 0, .int .i64 (d * (b - 19))] 48) = w2 := ⟨_, rfl⟩
      have F12 : Fr (fun _ => False) w1 w2 := by rw [← hw2]; exact (Fr.refl _ _).alloc _
      have b2 : w2.heap[w1.heap.size]? = some (.cells #[.int .i64 2, .int .i64 (2 + f), .int .i64 0, .int .i64 0, .int .i64 ((b - 19) / 12), .int .i64 ((b - 19 - 10) / 20), .int .i64 0, .int .i64 (d * (b - 19))] 48) := by rw [← hw2]; exact heap_alloc_new _ _
      have G2 := hid (HF1.out.trans F12 (fun _ _ h => h))
      have a2 := F12.heap HB01.out.1 (fun h => h)
      have u0 := cell_of_heap a2 0
      have u2 := cell_of_heap a2 2
      have u3 := cell_of_heap a2 3
      have v1 := cell_of_heap b2 1
      have v2 := cell_of_heap b2 2
      have v3 := cell_of_heap b2 3
      have v6 := cell_of_heap b2 6
      simp at u0 u2 u3 v1 v2 v3 v6
      have vz : ∀ o, w2.frozen? ⟨w1.heap.size, o, none⟩ = false := fun o => frozen_of_heap b2 o
      have hle := hid HF1.out.size
      have HB2 := hid b2
      have HZ2 := hid (F12.heap HB01.out.2 (fun h => h))
      go_upto_region 10 with (fail)
      try rw [hw2]
      clear hw2 F12 b2 a2 k0 k1 k2 k3 k4 k5
      go_wp2
      have b3 := heap_setCell_cells _ w1.heap.size 6 (.int .i64 (1 + m)) (heap_setCell_cells _ w1.heap.size 3 (.int .i64 (a - (2 + f + c * d))) (heap_setCell_cells _ w1.heap.size 2 (.int .i64 (2 + f + c * d)) HB2.out))
      simp at b3
      have F3 : Fr (fun b => b = w1.heap.size) w2 (((w2.setCell ⟨w1.heap.size, 2, none⟩ (.int .i64 (2 + f + c * d))).setCell ⟨w1.heap.size, 3, none⟩ (.int .i64 (a - (2 + f + c * d)))).setCell ⟨w1.heap.size, 6, none⟩ (.int .i64 (1 + m))) :=
        (((Fr.refl (fun b => b = w1.heap.size) _).setCell (a := ⟨w1.heap.size, 2, none⟩) (fun _ => rfl) _).setCell (a := ⟨w1.heap.size, 3, none⟩) (fun _ => rfl) _).setCell (a := ⟨w1.heap.size, 6, none⟩) (fun _ => rfl) _
      have HG3 := hid (G2.out.trans F3 (fun b hb h => by have := hle.out; omega))
      have HB3 := hid b3
      have HZ3 := hid (F3.heap HZ2.out (show ¬ w.heap.size + 1 = w1.heap.size from fun h => by have := lt_of_heap HB01.out.2; omega))
      clear b3 F3 u0 u2 u3 v1 v2 v3 v6 vz
      generalize ((w2.setCell ⟨w1.heap.size, 2, none⟩ (.int .i64 (2 + f + c * d))).setCell ⟨w1.heap.size, 3, none⟩ (.int .i64 (a - (2 + f + c * d)))).setCell ⟨w1.heap.size, 6, none⟩ (.int .i64 (1 + m)) = w3 at *
      go_loopw [8] (fun r wr => ∃ (n : Nat) (j : Int), r = .int .i64 j ∧ Hid (j = n * ((b - 19) / 12)) ∧ 0 ≤ j ∧ j < m + (b - 19) / 12 ∧ 6 * (n : Int) ≤ j ∧ wr.heap[w1.heap.size]? = some (.cells #[.int .i64 2, .int .i64 (2 + f), .int .i64 (2 + f + c * d), .int .i64 (a - (2 + f + c * d)), .int .i64 ((b - 19) / 12), .int .i64 ((b - 19 - 10) / 20), .int .i64 (1 + m + n), .int .i64 (d * (b - 19))] 48) ∧ wr.heap[w.heap.size + 1]? = some (.cells #[.int .i64 0, .int .i64 0, .int .i64 0, .int .i64 0, .int .i64 0, .int .i64 0, .int .i64 0, .int .i64 0] 48) ∧ Fr (fun _ => False) w wr) (fun r _ => (512 - Go.RowKit.intOf r).toNat)
      case atStart => exact ⟨0, 0, rfl, hid (by simp), by omega, by omega, by simp, by simpa using HB3.out, HZ3.out, HG3.out⟩
      case round =>
        obtain ⟨n, j, rfl, hj, j0, j1, j2, hT, hZ, hF⟩ := hrel
        have t1 := cell_of_heap hT 1
        have t4 := cell_of_heap hT 4
        have t6 := cell_of_heap hT 6
        simp at t1 t4 t6
        have tz : ∀ o, wr.frozen? ⟨w1.heap.size, o, none⟩ = false := fun o => frozen_of_heap hT o
        have tl := lt_of_heap hT
        have HT := hid hT
        have HZ := hid hZ
        have HF := hid hF
        have hL := hle.out
        clear hT hZ hF
        by_cases hlt : j < m
        · have hdec : decide (j < m) = true := decide_eq_true hlt
          go_wp2
          go_roundw
          case rel =>
            have h6 := heap_setCell_cells _ w1.heap.size 6 (.int .i64 (1 + m + n + 1)) HT.out
            simp at h6
            have F6 : Fr (fun b => b = w1.heap.size) wr (wr.setCell ⟨w1.heap.size, 6, none⟩ (.int .i64 (1 + m + n + 1))) := (Fr.refl (fun b => b = w1.heap.size) _).setCell (a := ⟨w1.heap.size, 6, none⟩) (fun _ => rfl) _
            have e : (1 + m + n + 1 : Int) = 1 + m + ((n + 1 : Nat) : Int) := by omega
            rw [e] at h6
            refine ⟨n + 1, _, rfl, hid (by rw [hj.out, Int.natCast_add, Int.add_mul]; omega), by omega, by omega, by omega, by rw [e]; exact h6, F6.heap HZ.out (fun h => by have := lt_of_heap HB01.out.2; omega), HF.out.trans F6 (fun b hb h => by omega)⟩
          case measure => simp [Go.RowKit.intOf]; omega
        · have hge : m ≤ j := by omega
          have hdec : decide (j < m) = false := decide_eq_false hlt
          have hceil := ceil_eq (show 0 < (b - 19) / 12 by omega) hj.out hge j1
          have hfit : fitsM ⟨a, b, c, d, f, (k : Int), hh, s⟩ = decide (m ≤ (b - 19) / 12 * ((b - 19) / 12) ∧ 3 * (1 + m + n) + 4 ≤ a - (2 + f + c * d)) := by
            have e : (1 : Int) + n + m = 1 + m + n := by omega
            rw [fitsM, HWI.out, Bool.true_and]
            simp only [layM, Int.toNat_natCast, ← HM.out, hceil, e]
          have HE := hid hfit
          have t0 := cell_of_heap HT.out 0
          have t2 := cell_of_heap HT.out 2
          have t3 := cell_of_heap HT.out 3
          have t5 := cell_of_heap HT.out 5
          have t7 := cell_of_heap HT.out 7
          simp at t0 t2 t3 t5 t7
          have z0 := cell_of_heap HZ.out 0
          have z1 := cell_of_heap HZ.out 1
          have z2 := cell_of_heap HZ.out 2
          have z3 := cell_of_heap HZ.out 3
          have z4 := cell_of_heap HZ.out 4
          have z5 := cell_of_heap HZ.out 5
          have z6 := cell_of_heap HZ.out 6
          have z7 := cell_of_heap HZ.out 7
          simp at z0 z1 z2 z3 z4 z5 z6 z7
          have zz : ∀ o, wr.frozen? ⟨w.heap.size + 1, o, none⟩ = false := fun o => frozen_of_heap HZ.out o
          have zl := lt_of_heap HZ.out
          have hn1 : ¬ w1.heap.size = w.heap.size + 1 := by have := lt_of_heap HB01.out.2; omega
          have hn2 : ¬ w.heap.size + 1 = w1.heap.size := by omega
          clear hfit hceil hge
          by_cases h1 : m ≤ (b - 19) / 12 * ((b - 19) / 12)
          · have h1' : ¬ (b - 19) / 12 * ((b - 19) / 12) < m := by omega
            by_cases h2 : 3 * (1 + m + n) + 4 ≤ a - (2 + f + c * d)
            · have h2' : ¬ a - (2 + f + c * d) < 3 * (1 + m + n) + 4 := by omega
              have HEE := hid (HE.out.trans (decide_eq_true ⟨h1, h2⟩))
              clear h1 h2
              go_wp2
              refine bodyPost_ret (v := .tuple #[.agg #[.int .i64 2, .int .i64 (2 + f), .int .i64 (2 + f + c * d), .int .i64 (a - (2 + f + c * d)), .int .i64 ((b - 19) / 12), .int .i64 ((b - 19 - 10) / 20), .int .i64 (1 + m + n), .int .i64 (d * (b - 19))], .int .i64 0]) (by simp [results, go_sem, *]) rfl ?_
              rw [HEE.out]
              refine ⟨⟨_, _, _, _, _, _, _, _, rfl⟩, ?_⟩
              repeat (with_reducible refine Fr.setNew ?_ (by omega) _)
              exact HF.out
            · have h2' : a - (2 + f + c * d) < 3 * (1 + m + n) + 4 := by omega
              have HEE := hid (HE.out.trans (decide_eq_false (fun h => h2 h.2)))
              clear h1 h2
              go_wp2
              refine bodyPost_ret (v := .tuple #[layZ, .int .i64 12]) (by simp [results, go_sem, *]) rfl ?_
              rw [HEE.out]
              refine RefPost.zero (w := w) ?_
              repeat (with_reducible refine Fr.setNew ?_ (by omega) _)
              exact HF.out
          · have h1' : (b - 19) / 12 * ((b - 19) / 12) < m := by omega
            have HEE := hid (HE.out.trans (decide_eq_false (fun h => h1 h.1)))
            clear h1
            go_wp2
            refine bodyPost_ret (v := .tuple #[layZ, .int .i64 12]) (by simp [results, go_sem, *]) rfl ?_
            rw [HEE.out]
            refine RefPost.zero (w := w) ?_
            repeat (with_reducible refine Fr.setNew ?_ (by omega) _)
            exact HF.out
end Go.Proofs.YtgdhaaokolfdoaaGreatDoor
