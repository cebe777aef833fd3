/- A pack of texts: FB. Conditions: those that each text names. -/
import Derived.Test.YtgdhaaokolfdoaaGreatDoorWAE
import Derived.WalkMore
set_option linter.unusedVariables false
set_option linter.unusedSimpArgs false
set_option linter.unnecessarySimpa false
/- plan: within. Conditions: none. -/
namespace Go.Sg
/-- Are all numbers of a plan between their bounds? -/
def withinM (p : Plan8) : Bool := decide ((96 ≤ p.size ∧ p.size ≤ 512) ∧ (1 ≤ p.sectors ∧ p.sectors ≤ 16384) ∧ (3 ≤ p.regions ∧ p.regions ≤ 64) ∧ (1 ≤ p.rsectors ∧ p.rsectors ≤ 32) ∧ (4 ≤ p.log ∧ p.log ≤ 256) ∧ (0 ≤ p.depth ∧ p.depth ≤ 8) ∧ (8 ≤ p.memory ∧ p.memory ≤ 256))
def okTo (p : Plan8) (k : Nat) : Prop := (0 < k → 96 ≤ p.size ∧ p.size ≤ 512) ∧ (1 < k → 1 ≤ p.sectors ∧ p.sectors ≤ 16384) ∧ (2 < k → 3 ≤ p.regions ∧ p.regions ≤ 64) ∧ (3 < k → 1 ≤ p.rsectors ∧ p.rsectors ≤ 32) ∧ (4 < k → 4 ≤ p.log ∧ p.log ≤ 256) ∧ (5 < k → 0 ≤ p.depth ∧ p.depth ≤ 8) ∧ (6 < k → 8 ≤ p.memory ∧ p.memory ≤ 256)
end Go.Sg
namespace Go.Proofs.YtgdhaaokolfdoaaGreatDoor
open Go.RowKit Go.Sg
theorem idx0 (p : Plan8) (w : World) : (Instr.index 327 (.agg (bndL p).toArray) (.int .i64 0)).run Tryz.prog w = .ok (.agg #[.int .i64 p.size, .int .i64 96, .int .i64 512]) w := by kernel_rfl
theorem idx1 (p : Plan8) (w : World) : (Instr.index 327 (.agg (bndL p).toArray) (.int .i64 1)).run Tryz.prog w = .ok (.agg #[.int .i64 p.sectors, .int .i64 1, .int .i64 16384]) w := by kernel_rfl
theorem idx2 (p : Plan8) (w : World) : (Instr.index 327 (.agg (bndL p).toArray) (.int .i64 2)).run Tryz.prog w = .ok (.agg #[.int .i64 p.regions, .int .i64 3, .int .i64 64]) w := by kernel_rfl
theorem idx3 (p : Plan8) (w : World) : (Instr.index 327 (.agg (bndL p).toArray) (.int .i64 3)).run Tryz.prog w = .ok (.agg #[.int .i64 p.rsectors, .int .i64 1, .int .i64 32]) w := by kernel_rfl
theorem idx4 (p : Plan8) (w : World) : (Instr.index 327 (.agg (bndL p).toArray) (.int .i64 4)).run Tryz.prog w = .ok (.agg #[.int .i64 p.log, .int .i64 4, .int .i64 256]) w := by kernel_rfl
theorem idx5 (p : Plan8) (w : World) : (Instr.index 327 (.agg (bndL p).toArray) (.int .i64 5)).run Tryz.prog w = .ok (.agg #[.int .i64 p.depth, .int .i64 0, .int .i64 8]) w := by kernel_rfl
theorem idx6 (p : Plan8) (w : World) : (Instr.index 327 (.agg (bndL p).toArray) (.int .i64 6)).run Tryz.prog w = .ok (.agg #[.int .i64 p.memory, .int .i64 8, .int .i64 256]) w := by kernel_rfl
set_option maxRecDepth 100000 in
set_option maxHeartbeats 4000000 in
theorem within_ok (p : Plan8) (w : World) : Calls Tryz.prog 158 #[p.val] w fun e w' => e = .returned (.bool (withinM p)) ∧ Fr (fun _ => False) w w' := by
  have HB := hid (fun W => bounds_ok p W)
  obtain ⟨V, hV⟩ : ∃ V, (Value.agg (bndL p).toArray) = V := ⟨_, rfl⟩
  have i0 := idx0 p
  have i1 := idx1 p
  have i2 := idx2 p
  have i3 := idx3 p
  have i4 := idx4 p
  have i5 := idx5 p
  have i6 := idx6 p
  rw [hV] at i0 i1 i2 i3 i4 i5 i6
  simp only [hV] at HB
  obtain ⟨a, b, c, d, f, g, h, s⟩ := p
  clear hV
  go_enter Tryz.func158, Tryz.ntmps158
  go_wp2
  go_step3
  go_wp2
  go_step3
  go_wp2_with fail
  refine (HB.out _).mono ?_
  rintro e w1 ⟨rfl, F1⟩
  have G1 := hid (((Fr.refl (fun _ => False) w).alloc _).trans F1 (fun _ _ h => h))
  clear F1
  go_wp2
  go_loopw [3, 8] (fun r i wr => ∃ k : Nat, k ≤ 7 ∧ i = .int .i64 k ∧ r = .bool true ∧ okTo ⟨a, b, c, d, f, g, h, s⟩ k ∧ Fr (fun _ => False) w wr) (fun _ i _ => 7 - (Go.RowKit.intOf i).toNat)
  case atStart => exact ⟨0, by omega, rfl, rfl, by simp [okTo], G1.out⟩
  case round =>
    obtain ⟨k, hk, rfl, rfl, hok, hF⟩ := hrel
    have HOK := hid hok
    have HF := hid hF
    clear hok hF
    rcases (show k = 0 ∨ k = 1 ∨ k = 2 ∨ k = 3 ∨ k = 4 ∨ k = 5 ∨ k = 6 ∨ k = 7 by omega) with rfl | rfl | rfl | rfl | rfl | rfl | rfl | rfl
    · have ho := HOK.out
      simp only [okTo] at ho
      have HO := hid ho
      clear ho
      go_wp2
      · rw [Exit.noGoto_ret]
        go_ret
        exact ⟨by rw [show withinM ⟨a, b, c, d, f, g, h, s⟩ = false from decide_eq_false (by simp only; omega)]; rfl, HF.out.alloc _⟩
      · rw [Exit.noGoto_ret]
        go_ret
        exact ⟨by rw [show withinM ⟨a, b, c, d, f, g, h, s⟩ = false from decide_eq_false (by simp only; omega)]; rfl, HF.out.alloc _⟩
      · go_roundw
        case rel =>
          have ho := HO.out
          exact ⟨1, by omega, rfl, rfl, by simp only [okTo]; omega, HF.out.alloc _⟩
        case measure => simp [Go.RowKit.intOf]
    · have ho := HOK.out
      simp only [okTo] at ho
      have HO := hid ho
      clear ho
      go_wp2
      · rw [Exit.noGoto_ret]
        go_ret
        exact ⟨by rw [show withinM ⟨a, b, c, d, f, g, h, s⟩ = false from decide_eq_false (by simp only; omega)]; rfl, HF.out.alloc _⟩
      · rw [Exit.noGoto_ret]
        go_ret
        exact ⟨by rw [show withinM ⟨a, b, c, d, f, g, h, s⟩ = false from decide_eq_false (by simp only; omega)]; rfl, HF.out.alloc _⟩
      · go_roundw
        case rel =>
          have ho := HO.out
          exact ⟨2, by omega, rfl, rfl, by simp only [okTo]; omega, HF.out.alloc _⟩
        case measure => simp [Go.RowKit.intOf]
    · have ho := HOK.out
      simp only [okTo] at ho
      have HO := hid ho
      clear ho
      go_wp2
      · rw [Exit.noGoto_ret]
        go_ret
        exact ⟨by rw [show withinM ⟨a, b, c, d, f, g, h, s⟩ = false from decide_eq_false (by simp only; omega)]; rfl, HF.out.alloc _⟩
      · rw [Exit.noGoto_ret]
        go_ret
        exact ⟨by rw [show withinM ⟨a, b, c, d, f, g, h, s⟩ = false from decide_eq_false (by simp only; omega)]; rfl, HF.out.alloc _⟩
      · go_roundw
        case rel =>
          have ho := HO.out
          exact ⟨3, by omega, rfl, rfl, by simp only [okTo]; omega, HF.out.alloc _⟩
        case measure => simp [Go.RowKit.intOf]
    · have ho := HOK.out
      simp only [okTo] at ho
      have HO := hid ho
      clear ho
      go_wp2
      · rw [Exit.noGoto_ret]
        go_ret
        exact ⟨by rw [show withinM ⟨a, b, c, d, f, g, h, s⟩ = false from decide_eq_false (by simp only; omega)]; rfl, HF.out.alloc _⟩
      · rw [Exit.noGoto_ret]
        go_ret
        exact ⟨by rw [show withinM ⟨a, b, c, d, f, g, h, s⟩ = false from decide_eq_false (by simp only; omega)]; rfl, HF.out.alloc _⟩
      · go_roundw
        case rel =>
          have ho := HO.out
          exact ⟨4, by omega, rfl, rfl, by simp only [okTo]; omega, HF.out.alloc _⟩
        case measure => simp [Go.RowKit.intOf]
    · have ho := HOK.out
      simp only [okTo] at ho
      have HO := hid ho
      clear ho
      go_wp2
      · rw [Exit.noGoto_ret]
        go_ret
        exact ⟨by rw [show withinM ⟨a, b, c, d, f, g, h, s⟩ = false from decide_eq_false (by simp only; omega)]; rfl, HF.out.alloc _⟩
      · rw [Exit.noGoto_ret]
        go_ret
        exact ⟨by rw [show withinM ⟨a, b, c, d, f, g, h, s⟩ = false from decide_eq_false (by simp only; omega)]; rfl, HF.out.alloc _⟩
      · go_roundw
        case rel =>
          have ho := HO.out
          exact ⟨5, by omega, rfl, rfl, by simp only [okTo]; omega, HF.out.alloc _⟩
        case measure => simp [Go.RowKit.intOf]
    · have ho := HOK.out
      simp only [okTo] at ho
      have HO := hid ho
      clear ho
      go_wp2
      · rw [Exit.noGoto_ret]
        go_ret
        exact ⟨by rw [show withinM ⟨a, b, c, d, f, g, h, s⟩ = false from decide_eq_false (by simp only; omega)]; rfl, HF.out.alloc _⟩
      · rw [Exit.noGoto_ret]
        go_ret
        exact ⟨by rw [show withinM ⟨a, b, c, d, f, g, h, s⟩ = false from decide_eq_false (by simp only; omega)]; rfl, HF.out.alloc _⟩
      · go_roundw
        case rel =>
          have ho := HO.out
          exact ⟨6, by omega, rfl, rfl, by simp only [okTo]; omega, HF.out.alloc _⟩
        case measure => simp [Go.RowKit.intOf]
    · have ho := HOK.out
      simp only [okTo] at ho
      have HO := hid ho
      clear ho
      go_wp2
      · rw [Exit.noGoto_ret]
        go_ret
        exact ⟨by rw [show withinM ⟨a, b, c, d, f, g, h, s⟩ = false from decide_eq_false (by simp only; omega)]; rfl, HF.out.alloc _⟩
      · rw [Exit.noGoto_ret]
        go_ret
        exact ⟨by rw [show withinM ⟨a, b, c, d, f, g, h, s⟩ = false from decide_eq_false (by simp only; omega)]; rfl, HF.out.alloc _⟩
      · go_roundw
        case rel =>
          have ho := HO.out
          exact ⟨7, by omega, rfl, rfl, by simp only [okTo]; omega, HF.out.alloc _⟩
        case measure => simp [Go.RowKit.intOf]
    · have ho := HOK.out
      simp only [okTo] at ho
      have HO := hid ho
      clear ho
      go_wp2
      rw [Exit.noGoto_ret]
      go_ret
      have ho := HO.out
      exact ⟨by rw [show withinM ⟨a, b, c, d, f, g, h, s⟩ = true from decide_eq_true (by simp only; omega)]; rfl, HF.out⟩
end Go.Proofs.YtgdhaaokolfdoaaGreatDoor
