/- A new clock, of int and of string. Conditions: from 1 to 4096 places. -/
import Derived.Test.YtfeemnhkdjkgpaaCS
namespace Go.Proofs.Ytfeemnhkdjkgpaa
namespace CI
open Go.RowKit Go.Sg Go.Sg.Clk Go.Shelf
theorem info72 : (Try.prog.info? 72).map (fun i => (i.zero, i.size, i.bytes)) = some (some (.agg #[.int .i64 0, .int .i64 0, .bool false, .bool false]), 4, 24) := by kernel_rfl
set_option maxHeartbeats 1000000 in
theorem new_ok (n : Nat) (h1 : 1 ≤ n) (h2 : n ≤ 4096) (w : World) :
    Calls Try.prog 13 #[.int .i64 n] w fun e w' => e = .returned (.pointer (some ⟨w.heap.size + 2, 0, none⟩)) ∧ AtI w' (w.heap.size + 2) w.heap.size (w.heap.size + 1) (List.replicate n (Pl.none (.int .i64 0))) 0 ∧ Fr (fun _ => False) w w' := by
  obtain ⟨i0, hi, hz0, hz1, hz2⟩ := info_parts info72
  have hmk := fun W => run_make_len (P := Try.prog) 66 72 i0 _ Try.underlying66 hi hz0 n (by rw [hz2]; omega) (by omega) W
  have hmm := fun (t : TypeId) (W : World) => run_makeMap (P := Try.prog) t W
  rw [hz1] at hmk
  clear hi hz0 hz1 hz2
  go_enter Try.func13, Try.ntmps13
  go_wp2
  go_ret
  exact ⟨rfl, At.fresh ⟨_, rfl⟩ h1 h2, (((Fr.refl _ _).alloc _).alloc _).alloc _⟩
end CI
namespace CS
open Go.RowKit Go.Sg Go.Sg.Clk Go.Shelf
theorem info65 : (Try.prog.info? 65).map (fun i => (i.zero, i.size, i.bytes)) = some (some (.agg #[.int .i64 0, .string { data := #[] }, .bool false, .bool false]), 4, 32) := by kernel_rfl
set_option maxHeartbeats 1000000 in
theorem new_ok (n : Nat) (h1 : 1 ≤ n) (h2 : n ≤ 4096) (w : World) :
    Calls Try.prog 7 #[.int .i64 n] w fun e w' => e = .returned (.pointer (some ⟨w.heap.size + 2, 0, none⟩)) ∧ AtI w' (w.heap.size + 2) w.heap.size (w.heap.size + 1) (List.replicate n (Pl.none (.string { data := #[] }))) 0 ∧ Fr (fun _ => False) w w' := by
  obtain ⟨i0, hi, hz0, hz1, hz2⟩ := info_parts info65
  have hmk := fun W => run_make_len (P := Try.prog) 58 65 i0 _ Try.underlying58 hi hz0 n (by rw [hz2]; omega) (by omega) W
  have hmm := fun (t : TypeId) (W : World) => run_makeMap (P := Try.prog) t W
  rw [hz1] at hmk
  clear hi hz0 hz1 hz2
  go_enter Try.func7, Try.ntmps7
  go_wp2
  go_ret
  exact ⟨rfl, At.fresh ⟨_, rfl⟩ h1 h2, (((Fr.refl _ _).alloc _).alloc _).alloc _⟩
end CS
end Go.Proofs.Ytfeemnhkdjkgpaa
