/- leaf.may and leaf.Room. Conditions: none. -/
import Derived.Test.YtgdhaaokolfdoaaGreatDoorBy
namespace Go.Proofs.YtgdhaaokolfdoaaGreatDoor
open Go.RowKit Go.Sg
set_option maxRecDepth 100000 in
theorem may_yes (s : Int) (h1 : 96 ≤ s) (h2 : s ≤ 512) (w : World) : Calls Tryz.prog 159 #[.int .i64 s] w fun e w' => e = .returned (.bool true) ∧ w = w' := by
  go_enter Tryz.func159, Tryz.ntmps159
  go_wp2
  go_ret
  exact ⟨rfl, rfl⟩
set_option maxRecDepth 100000 in
theorem may_no (s : Int) (h : s < 96 ∨ 512 < s) (w : World) : Calls Tryz.prog 159 #[.int .i64 s] w fun e w' => e = .returned (.bool false) ∧ w = w' := by
  rcases h with h | h
  · go_enter Tryz.func159, Tryz.ntmps159
    go_wp2
    go_ret
    exact ⟨rfl, rfl⟩
  · have h1 : 96 ≤ s := by omega
    have h2 : decide (s ≤ 512) = false := by simp; omega
    go_enter Tryz.func159, Tryz.ntmps159
    go_wp2
    go_ret
    exact ⟨by simp [h2], rfl⟩
set_option maxRecDepth 100000 in
theorem room_ok (s : Int) (h1 : 96 ≤ s) (h2 : s ≤ 512) (w : World) : Calls Tryz.prog 94 #[.int .i64 s] w fun e w' => e = .returned (.int .i64 (s - 19)) ∧ w = w' := by
  go_enter Tryz.func94, Tryz.ntmps94
  go_wp2_with (go_at_call 159; refine (may_yes s h1 h2 _).mono ?_; rintro e w' ⟨rfl, rfl⟩)
  go_ret
  exact ⟨rfl, rfl⟩
set_option maxRecDepth 100000 in
theorem room_no (s : Int) (h : s < 96 ∨ 512 < s) (w : World) : Calls Tryz.prog 94 #[.int .i64 s] w fun e w' => e = .returned (.int .i64 0) ∧ w = w' := by
  have H := hid (may_no s h w)
  clear h
  go_enter Tryz.func94, Tryz.ntmps94
  go_wp2_with (go_at_call 159; refine H.out.mono ?_; rintro e w' ⟨rfl, rfl⟩)
  go_ret
  exact ⟨rfl, rfl⟩
end Go.Proofs.YtgdhaaokolfdoaaGreatDoor
