/- The chapter example of the clock (awake) returns true. Conditions: none. -/
import Derived.Test.YtfeemnhkdjkgpaaC2
namespace Go.Proofs.Ytfeemnhkdjkgpaa
open Go.RowKit Go.Sg Go.Sg.Clk

def V (n : Int) : Value := .int .i64 n
def P (k v : Int) (m : Bool) : Pl := ⟨k, .int .i64 v, true, m⟩
def Z : Pl := Pl.none (.int .i64 0)
theorem p1 : putM [Z, Z, Z] 0 1 (.int .i64 10) = ⟨[P 1 10 true, Z, Z], 0, none⟩ := by rfl
theorem p2 : putM [P 1 10 true, Z, Z] 0 2 (.int .i64 20) = ⟨[P 1 10 true, P 2 20 true, Z], 0, none⟩ := by rfl
theorem p3 : putM [P 1 10 true, P 2 20 true, Z] 0 3 (.int .i64 30) = ⟨[P 1 10 true, P 2 20 true, P 3 30 true], 0, none⟩ := by rfl
theorem p4 : putM [P 1 10 true, P 2 20 true, P 3 30 true] 0 4 (.int .i64 40) = ⟨[P 4 40 true, P 2 20 false, P 3 30 false], 1, some (P 1 10 false)⟩ := by rfl
theorem p5 : putM [P 4 40 true, P 2 20 true, P 3 30 false] 1 5 (.int .i64 50) = ⟨[P 4 40 true, P 2 20 false, P 5 50 true], 0, some (P 3 30 false)⟩ := by rfl

set_option maxHeartbeats 2000000 in
theorem awake_ok (w : World) : Calls Try.prog 12 #[] w fun e w' => e = .returned (.bool true) ∧ Fr (fun _ => False) w w' := by
  have c0 := CI.new_ok 3 (by omega) (by omega) w
  rw [show ((3 : Nat) : Int) = 3 from rfl, show List.replicate 3 (Pl.none (.int .i64 0)) = [Z, Z, Z] from rfl] at c0
  have C0 := hid c0
  clear c0
  go_enter Try.func12, Try.ntmps12
  go_wp2_with fail
  refine C0.out.mono ?_
  rintro e w0 ⟨rfl, h0, F0⟩
  obtain ⟨bc, hbc⟩ : ∃ bc, w.heap.size + 2 = bc := ⟨_, rfl⟩
  obtain ⟨bp, hbp⟩ : ∃ bp, w.heap.size = bp := ⟨_, rfl⟩
  obtain ⟨bm, hbm⟩ : ∃ bm, w.heap.size + 1 = bm := ⟨_, rfl⟩
  have hnew : w.heap.size ≤ bc ∧ w.heap.size ≤ bp ∧ w.heap.size ≤ bm := by omega
  rw [hbc, hbm, hbp] at h0
  rw [hbc]
  clear hbc hbm hbp C0
  have H0 := hid h0
  clear h0
  go_wp2_with fail
  refine (CI.put_at H0.out 1 10).mono ?_
  rintro e w1 ⟨rfl, h1, F1⟩
  rw [p1] at h1 ⊢
  have H1 := hid h1
  clear h1
  go_wp2_with fail
  refine (CI.put_at H1.out 2 20).mono ?_
  rintro e w2 ⟨rfl, h2, F2⟩
  rw [p2] at h2 ⊢
  have H2 := hid h2
  clear h2
  go_wp2_with fail
  refine (CI.put_at H2.out 3 30).mono ?_
  rintro e w3 ⟨rfl, h3, F3⟩
  rw [p3] at h3 ⊢
  have H3 := hid h3
  clear h3
  go_wp2_with fail
  refine (CI.put_at H3.out 4 40).mono ?_
  rintro e w4 ⟨rfl, h4, F4⟩
  rw [p4] at h4 ⊢
  have H4 := hid h4
  clear h4
  simp only [CI.goneK, CI.goneV, Option.map_some, Option.getD_some, P]
  go_wp2_with fail
  refine (CI.get_at H4.out 2).mono ?_
  rintro e w5 ⟨rfl, h5, F5⟩
  rw [show CI.markM [P 4 40 true, P 2 20 false, P 3 30 false] 2 = [P 4 40 true, P 2 20 true, P 3 30 false] from rfl] at h5
  rw [show CI.got (.int .i64 0) [P 4 40 true, P 2 20 false, P 3 30 false] 2 = .int .i64 20 from rfl, show find [P 4 40 true, P 2 20 false, P 3 30 false] 2 = some 1 from rfl]
  have H5 := hid h5
  clear h5
  go_wp2_with fail
  refine (CI.put_at H5.out 5 50).mono ?_
  rintro e w6 ⟨rfl, h6, F6⟩
  rw [p5] at h6 ⊢
  have H6 := hid h6
  clear h6
  simp only [CI.goneK, CI.goneV, Option.map_some, Option.getD_some, P]
  go_wp2_with fail
  refine (CI.len_at H6.out).mono ?_
  rintro e w7 ⟨rfl, rfl⟩
  rw [show List.countP (fun p : Pl => p.full) [P 4 40 true, P 2 20 false, P 5 50 true] = 3 from rfl]
  go_wp2
  go_ret
  refine ⟨rfl, ?_⟩
  have t : ∀ b, b < w.heap.size → (b = bc ∨ b = bp ∨ b = bm) → False := fun b hb h => by omega
  exact ((((((F0.trans F1 t).trans F2 t).trans F3 t).trans F4 t).trans F5 (fun b hb h => t b hb (.inr (.inl h)))).trans F6 t)
end Go.Proofs.Ytfeemnhkdjkgpaa
