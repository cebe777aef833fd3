/- The store on nothing: Mourn, Mark, Free, Flush, Plan of no store. -/
import Derived.Test.YtgdhaaokolfdoaaGreatDoorAX
namespace Go.Proofs.YtgdhaaokolfdoaaGreatDoor
open Go.RowKit Go.Sg Go.Sg.Bits CP
namespace SF
theorem mourn_nil (v : Value) (w : World) : Calls Tryz.prog 38 #[.pointer none, v] w fun e w' => e = .returned (.tuple #[]) ∧ w = w' := by
  go_enter Tryz.func38, Tryz.ntmps38
  go_wp2
  refine bodyPost_ret (results_none rfl _ _ _) rfl ?_
  exact ⟨rfl, rfl⟩
theorem mark_nil (p st : Int) (w : World) :
    Calls Tryz.prog 28 #[.pointer none, .agg #[.int .i64 p, .int .i64 st]] w fun e w' => e = .returned (.int .i64 1) ∧ Fr (fun _ => False) w w' := by
  have H := hid (fun W => in_nil p st W)
  go_enter Tryz.func28, Tryz.ntmps28
  go_wp2_with (go_at_call 85; refine (H.out _).mono ?_; rintro e w1 ⟨rfl, F1⟩)
  go_ret
  exact ⟨rfl, ((Fr.refl _ _).alloc _).trans F1 (fun _ _ h => h)⟩
theorem free_nil (p st : Int) (w : World) :
    Calls Tryz.prog 27 #[.pointer none, .agg #[.int .i64 p, .int .i64 st]] w fun e w' => e = .returned (.int .i64 1) ∧ Fr (fun _ => False) w w' := by
  have H := hid (fun W => in_nil p st W)
  go_enter Tryz.func27, Tryz.ntmps27
  go_wp2_with (go_at_call 85; refine (H.out _).mono ?_; rintro e w1 ⟨rfl, F1⟩)
  go_ret
  exact ⟨rfl, ((Fr.refl _ _).alloc _).trans F1 (fun _ _ h => h)⟩
theorem flush_nil (w : World) : Calls Tryz.prog 39 #[.pointer none] w fun e w' => e = .returned (.int .i64 1) ∧ Fr (fun _ => False) w w' := by
  refine (callsIn_wide (n := 10)).1 ?_
  refine callsIn_of_wp_marks Tryz.func39 rfl trivial ?_ rfl
  simp only [Tryz.ntmps39, List.size_toArray, List.length_cons, List.length_nil, Nat.reduceAdd, Nat.reduceSub, Array.replicate_succ, Array.replicate_zero, List.push_toArray, List.append_toArray, List.nil_append, List.cons_append]
  gi_wp2
  refine ⟨.int .i64 1, ?_, rfl, ((Fr.refl _ _).alloc _).alloc _⟩
  have hr : Tryz.f39.results = #[.cell 2 24] := rfl
  simp [results, hr, go_sem, asAddr]
theorem Tryz.size31 : (Tryz.prog.info? 31).map (·.size) = some 8 := by kernel_rfl
theorem plan_nil (w : World) : Calls Tryz.prog 33 #[.pointer none] w fun e w' => e = .returned (.agg #[.int .i64 0, .int .i64 0, .int .i64 0, .int .i64 0, .int .i64 0, .int .i64 0, .int .i64 0, .int .u64 0]) ∧ Fr (fun _ => False) w w' := by
  go_enter Tryz.func33, Tryz.ntmps33
  go_wp2
  refine bodyPost_ret (v := (.agg #[.int .i64 0, .int .i64 0, .int .i64 0, .int .i64 0, .int .i64 0, .int .i64 0, .int .i64 0, .int .u64 0])) (results_cell_mid rfl _ _ w.heap.size [.int .i64 0, .int .i64 0, .int .i64 0, .int .i64 0, .int .i64 0, .int .i64 0, .int .i64 0, .int .u64 0] _ rfl ?_ Tryz.underlying31 rfl (by rw [Tryz.size31]; rfl)) rfl ⟨rfl, (Fr.refl _ _).alloc _⟩
  intro j v hj
  rw [Nat.zero_add, cell_of_heap (heap_alloc_new _ _) j]
  simpa using hj
end SF
end Go.Proofs.YtgdhaaokolfdoaaGreatDoor
