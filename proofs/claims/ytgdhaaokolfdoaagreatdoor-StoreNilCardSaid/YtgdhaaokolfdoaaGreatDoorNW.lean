/- StoreNil: the walk. Conditions: the library's table lies as its text lays it. -/
import Derived.Test.YtgdhaaokolfdoaaGreatDoorSN
namespace Go.Proofs.YtgdhaaokolfdoaaGreatDoor
open Go.RowKit Go.Sg Go.Sg.Bits Go.Sg.Clk CP SF
theorem eql31_zz (w : World) : (binOp .eql 31 (.agg #[.int .i64 0, .int .i64 0, .int .i64 0, .int .i64 0, .int .i64 0, .int .i64 0, .int .i64 0, .int .u64 0]) (.agg #[.int .i64 0, .int .i64 0, .int .i64 0, .int .i64 0, .int .i64 0, .int .i64 0, .int .i64 0, .int .u64 0])).run Tryz.prog w = .ok (.bool true) w := by kernel_rfl
theorem field54_0 (w : World) : (Instr.field 54 (.agg #[.slice none 0 0, .slice none 0 0, .slice none 0 0, .slice none 0 0]) 0).run Tryz.prog w = .ok (.slice none 0 0) w := by kernel_rfl
set_option maxHeartbeats 4000000 in
set_option maxRecDepth 100000 in
theorem storeNil_walk (n : Int) (w : World) (hT : Tab w) : Calls Tryz.prog 7 #[.int .i64 n] w fun e w' => e = .returned (.bool true) ∧ Fr (fun _ => False) w w' := by
  have HT := hid hT
  clear hT
  go_enter Tryz.func7, Tryz.ntmps7
  go_wp2_with fail
  refine (commit_nil w).mono ?_
  rintro e w' ⟨rfl, rfl⟩
  go_wp2_with fail
  refine (mourn_nil _ _).mono ?_
  rintro e w1 ⟨rfl, hw1⟩
  have F1 : Fr (fun _ => False) w w1 := by rw [← hw1]; exact (Fr.refl _ _).alloc _
  clear hw1
  obtain ⟨w2, hw2⟩ : ∃ w2, w1.alloc (.cells #[.int .i64 n, .int .i64 n] 35) = w2 := ⟨_, rfl⟩
  have F2 : Fr (fun _ => False) w1 w2 := by rw [← hw2]; exact (Fr.refl _ _).alloc _
  have hb2 : w2.heap[w1.heap.size]? = some (.cells #[.int .i64 n, .int .i64 n] 35) := by rw [← hw2]; exact heap_alloc_new _ _
  have HB2 := hid hb2
  have HF2 := hid (F1.trans F2 (fun _ _ h => h))
  have HW2 := hid hw2
  clear hw2 F1 F2 hb2
  go_wp2_with fail
  rw [HW2.out]
  refine (small13_ok _).mono ?_
  rintro e w3 ⟨rfl, F3⟩
  have HB3 := hid (F3.heap HB2.out (fun h => h))
  have HF3 := hid (HF2.out.trans F3 (fun _ _ h => h))
  clear F3
  go_wp2_with fail
  refine (format_nil small13 _).mono ?_
  rintro e w4 ⟨rfl, F4⟩
  have HB4 := hid (F4.heap HB3.out (fun h => h))
  have HF4 := hid (HF3.out.trans F4 (fun _ _ h => h))
  clear F4
  go_wp2_with fail
  refine (small13_ok _).mono ?_
  rintro e w5 ⟨rfl, F5⟩
  have HB5 := hid (F5.heap HB4.out (fun h => h))
  have HF5 := hid (HF4.out.trans F5 (fun _ _ h => h))
  clear F5
  go_wp2_with fail
  refine (open_nil small13 n _).mono ?_
  rintro e w6 ⟨rfl, F6⟩
  have HB6 := hid (F6.heap HB5.out (fun h => h))
  have HF6 := hid (HF5.out.trans F6 (fun _ _ h => h))
  clear F6
  go_wp2_with fail
  refine (new_nil none 0 0 _).mono ?_
  rintro e w7 ⟨rfl, F7⟩
  obtain ⟨w8, hw8⟩ : ∃ w8, w7.alloc (.cells #[.int .i64 0, .int .i64 0] 35) = w8 := ⟨_, rfl⟩
  have F8 : Fr (fun _ => False) w7 w8 := by rw [← hw8]; exact (Fr.refl _ _).alloc _
  have hb8 := F8.heap (F7.heap HB6.out (fun h => h)) (fun h => h)
  have HB8 := hid hb8
  have HF8 := hid (HF6.out.trans (F7.trans F8 (fun _ _ h => h)) (fun _ _ h => h))
  obtain ⟨k0, k1, _, _⟩ := cells2 (F7.heap HB6.out (fun h => h))
  have hl7 := lt_of_heap (F7.heap HB6.out (fun h => h))
  have HW8 := hid hw8
  clear F7 F8 hw8 hb8
  go_wp2_with fail
  rw [HW8.out]
  refine (read_nil n n _).mono ?_
  rintro e w9 ⟨rfl, F9⟩
  have hb9 := F9.heap HB8.out (fun h => h)
  have HB9 := hid hb9
  have HF9 := hid (HF8.out.trans F9 (fun _ _ h => h))
  clear k0 k1 hl7
  obtain ⟨k0, k1, _, _⟩ := cells2 hb9
  clear F9 hb9
  go_wp2_with fail
  refine (write_nil n n none 0 0 _).mono ?_
  rintro e w10 ⟨rfl, F10⟩
  obtain ⟨w11, hw11⟩ : ∃ w11, w10.alloc (.cells #[.int .i64 0, .int .i64 0] 35) = w11 := ⟨_, rfl⟩
  have F11 : Fr (fun _ => False) w10 w11 := by rw [← hw11]; exact (Fr.refl _ _).alloc _
  have hb11 := F11.heap (F10.heap HB9.out (fun h => h)) (fun h => h)
  have HB11 := hid hb11
  have HF11 := hid (HF9.out.trans (F10.trans F11 (fun _ _ h => h)) (fun _ _ h => h))
  clear k0 k1
  obtain ⟨k0, k1, _, _⟩ := cells2 (F10.heap HB9.out (fun h => h))
  have hl7 := lt_of_heap (F10.heap HB9.out (fun h => h))
  have HW11 := hid hw11
  clear F10 F11 hw11 hb11
  go_wp2_with fail
  rw [HW11.out]
  refine (mark_nil n n _).mono ?_
  rintro e w12 ⟨rfl, F12⟩
  have hb12 := F12.heap HB11.out (fun h => h)
  have HB12 := hid hb12
  have HF12 := hid (HF11.out.trans F12 (fun _ _ h => h))
  clear k0 k1 hl7
  obtain ⟨k0, k1, _, _⟩ := cells2 hb12
  clear F12 hb12
  go_wp2_with fail
  refine (free_nil n n _).mono ?_
  rintro e w13 ⟨rfl, F13⟩
  have HF13 := hid (HF12.out.trans F13 (fun _ _ h => h))
  clear F13 k0 k1
  go_wp2_with fail
  refine (flush_nil _).mono ?_
  rintro e w14 ⟨rfl, F14⟩
  have HF14 := hid (HF13.out.trans F14 (fun _ _ h => h))
  clear F14
  go_wp2_with fail
  refine (gen_nil _).mono ?_
  rintro e w' ⟨rfl, rfl⟩
  go_wp2_with fail
  refine (held_nil _).mono ?_
  rintro e w' ⟨rfl, rfl⟩
  go_wp2_with fail
  refine (parts_nil _).mono ?_
  rintro e w15 ⟨rfl, F15⟩
  have HF15 := hid (HF14.out.trans F15 (fun _ _ h => h))
  clear F15
  have ef := field54_0 w15
  go_wp2_with fail
  refine (plan_nil _).mono ?_
  rintro e w16 ⟨rfl, F16⟩
  have F16' := HF15.out.trans F16 (fun _ _ h => h)
  have HF16 := hid F16'
  have H25 := hid (awake13_ok w16 (HT.out.fr F16' (fun h => h)))
  have ez := eql31_zz w16
  clear F16 F16'
  go_wp2_with fail
  refine H25.out.mono ?_
  rintro e w17 ⟨rfl, F17⟩
  go_wp2
  go_ret
  exact ⟨rfl, HF16.out.trans F17 (fun _ _ h => h)⟩
end Go.Proofs.YtgdhaaokolfdoaaGreatDoor
