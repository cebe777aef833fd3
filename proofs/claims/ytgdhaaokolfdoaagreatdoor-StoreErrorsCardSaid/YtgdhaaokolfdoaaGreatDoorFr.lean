/- flash: there, ready. Conditions: the cells of the device that are read. -/
import Derived.Test.YtgdhaaokolfdoaaGreatDoorFl
namespace Go.Proofs.YtgdhaaokolfdoaaGreatDoor
open Go.RowKit Go.Sg
theorem there_yes {w : World} {d : Nat} {n at_ : Int} (h : w.cell? ⟨d, 0, none⟩ = some (.int .i64 n)) (h1 : 0 ≤ at_) (h2 : at_ < n) :
    Calls Tryz.prog 230 #[.pointer (some ⟨d, 0, none⟩), .int .i64 at_] w fun e w' => e = .returned (.bool true) ∧ w = w' := by
  go_enter Tryz.func230, Tryz.ntmps230
  go_wp2
  go_ret
  exact ⟨rfl, rfl⟩
theorem ready_ok {w : World} {d : Nat} {n at_ : Int} (h : w.cell? ⟨d, 0, none⟩ = some (.int .i64 n)) (hd : w.cell? ⟨d, 7, none⟩ = some (.bool false)) (h1 : 0 ≤ at_) (h2 : at_ < n) :
    Calls Tryz.prog 173 #[.pointer (some ⟨d, 0, none⟩), .int .i64 at_] w fun e w' => e = .returned (.int .i64 0) ∧ w = w' := by
  have H := hid (there_yes h h1 h2)
  go_enter Tryz.func173, Tryz.ntmps173
  go_wp2_with (go_at_call 230; refine H.out.mono ?_; rintro e w' ⟨rfl, rfl⟩)
  go_ret
  exact ⟨rfl, rfl⟩
end Go.Proofs.YtgdhaaokolfdoaaGreatDoor
