/- flash: Sectors, Size, there, New. Conditions: the device's cells lie as DevAt says. -/
import Derived.Test.YtgdhaaokolfdoaaGreatDoorLf
namespace Go.Proofs.YtgdhaaokolfdoaaGreatDoor
open Go.RowKit Go.Sg
theorem sectors_at {w : World} {d : Nat} {n : Int} (h : w.cell? ⟨d, 0, none⟩ = some (.int .i64 n)) :
    Calls Tryz.prog 92 #[.pointer (some ⟨d, 0, none⟩)] w fun e w' => e = .returned (.int .i64 n) ∧ w = w' := by
  go_enter Tryz.func92, Tryz.ntmps92
  go_wp2
  go_ret
  exact ⟨rfl, rfl⟩
theorem size_at {w : World} {d : Nat} {n : Int} (h : w.cell? ⟨d, 1, none⟩ = some (.int .i64 n)) :
    Calls Tryz.prog 93 #[.pointer (some ⟨d, 0, none⟩)] w fun e w' => e = .returned (.int .i64 n) ∧ w = w' := by
  go_enter Tryz.func93, Tryz.ntmps93
  go_wp2
  go_ret
  exact ⟨rfl, rfl⟩
set_option maxRecDepth 100000 in
theorem newdev_ok (s z : Int) (h1 : 1 ≤ s) (h2 : s ≤ 16384) (h3 : 96 ≤ z) (h4 : z ≤ 512) (w : World) :
    Calls Tryz.prog 20 #[.int .i64 s, .int .i64 z] w fun e w' => e = .returned (.pointer (some ⟨w.heap.size + 2, 0, none⟩)) ∧
      w'.heap[w.heap.size]? = some (.map #[] 0) ∧ w'.heap[w.heap.size + 1]? = some (.map #[] 0) ∧
      w'.heap[w.heap.size + 1 + 1]? = some (.cells #[.int .i64 s, .int .i64 z, .map (some w.heap.size), .slice none 0 0, .map (some (w.heap.size + 1)), .int .i64 0, .int .i64 0, .bool false] 151) ∧ Fr (fun _ => False) w w' := by
  have hmm := fun (t : TypeId) (W : World) => run_makeMap (P := Tryz.prog) t W
  go_enter Tryz.func20, Tryz.ntmps20
  go_wp2
  go_ret
  exact ⟨rfl, heap_three rfl⟩
end Go.Proofs.YtgdhaaokolfdoaaGreatDoor
