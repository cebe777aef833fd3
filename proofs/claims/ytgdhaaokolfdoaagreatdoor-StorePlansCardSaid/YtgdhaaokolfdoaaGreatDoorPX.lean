/- StorePlans: the walk for a plan that fits the device; the whole. Conditions: the library's table lies as its text lays it. -/
import Derived.Test.YtgdhaaokolfdoaaGreatDoorPW
namespace Go.Proofs.YtgdhaaokolfdoaaGreatDoor
open Go.RowKit Go.Sg Go.Sg.Bits Go.Sg.Clk CP SF
set_option maxHeartbeats 4000000 in
set_option maxRecDepth 100000 in
theorem plans_gen (c dd f dp hh s g : Int) (w : World) (hT : Tab w) (hf : fitsM ⟨200, 96, c, dd, f, dp, hh, s⟩ = true) (hg : g < 0 ∨ 1099511627776 < g) :
    Calls Tryz.prog 5 #[(Plan8.mk 200 96 c dd f dp hh s).val, .int .i64 g] w fun e w' => e = .returned (.bool true) ∧ Fr (fun _ => False) w w' := by
  have HR := hid (fun W => ref_fit ⟨200, 96, c, dd, f, dp, hh, s⟩ W)
  rw [hf, show codeOf true = 0 from rfl] at HR
  have HT := hid hT
  have HFT := hid hf
  obtain ⟨w1, hw1⟩ : ∃ w1, (w.alloc (.cells #[.int .i64 200, .int .i64 96, .int .i64 c, .int .i64 dd, .int .i64 f, .int .i64 dp, .int .i64 hh, .int .u64 s] 46)).alloc (.cells #[.int .i64 200, .int .i64 96, .int .i64 c, .int .i64 dd, .int .i64 f, .int .i64 dp, .int .i64 hh, .int .u64 s] 31) = w1 := ⟨_, rfl⟩
  obtain ⟨b0, b1, F1⟩ := heap_two hw1
  have HW1 := hid hw1
  have HF1 := hid F1
  have HB1 := hid (And.intro b0 b1)
  clear hT hw1 F1 b0 b1 hf
  go_enter Tryz.func5, Tryz.ntmps5
  go_wp2_with fail
  rw [HW1.out]
  refine (HR.out _).mono ?_
  rintro e w2 ⟨⟨x0, x1, x2, x3, x4, x5, x6, x7, rfl⟩, F2⟩
  obtain ⟨w3, hw3⟩ : ∃ w3, w2.alloc (.cells #[.int .i64 x0, .int .i64 x1, .int .i64 x2, .int .i64 x3, .int .i64 x4, .int .i64 x5, .int .i64 x6, .int .i64 x7] 48) = w3 := ⟨_, rfl⟩
  have F3 : Fr (fun _ => False) w2 w3 := by rw [← hw3]; exact (Fr.refl _ _).alloc _
  have HF3 := hid (HF1.out.trans (F2.trans F3 (fun _ _ h => h)) (fun _ _ h => h))
  have b3 := hid (F3.heap (F2.heap HB1.out.2 (fun h => h)) (fun h => h))
  have a2 := F2.heap HB1.out.1 (fun h => h)
  have i0 := cell_of_heap a2 0
  have i1 := cell_of_heap a2 1
  simp at i0 i1
  have li := lt_of_heap a2
  have HW3 := hid hw3
  clear F2 F3 hw3 a2
  go_wp2_with fail
  rw [HW3.out]
  refine (flashnew_ok 200 96 (by omega) (by omega) _).mono ?_
  rintro e w4 ⟨rfl, hD, F4⟩
  have HF4 := hid (HF3.out.trans F4 (fun _ _ h => h))
  have HS4 := hid F4.size
  have HD := hid hD
  have b4 := hid (F4.heap b3.out (fun h => h))
  have k0 := cell_of_heap b4.out 0
  have k1 := cell_of_heap b4.out 1
  have k2 := cell_of_heap b4.out 2
  have k3 := cell_of_heap b4.out 3
  have k4 := cell_of_heap b4.out 4
  have k5 := cell_of_heap b4.out 5
  have k6 := cell_of_heap b4.out 6
  have k7 := cell_of_heap b4.out 7
  simp at k0 k1 k2 k3 k4 k5 k6 k7
  clear hD F4 i0 i1 li
  go_wp2_with fail
  have H19 : Calls Tryz.prog 19 #[.pointer (some ⟨w3.heap.size + 2, 0, none⟩), (Plan8.mk 200 96 c dd f dp hh s).val] w4 (OpenPost w3.heap.size (w3.heap.size + 2) w3.heap.size (w3.heap.size + 1) ⟨200, 96, c, dd, f, dp, hh, s⟩ 0 (Dev.fresh 200 96) w4) :=
    format_ok HD.out HS4.out c dd f dp hh s HFT.out
  refine H19.mono ?_
  rintro e w5 ⟨B0, hB0, rfl, hS0, F5⟩
  have HF5 := hid (HF4.out.trans F5 (fun _ _ h => h))
  have HD5 := hid (HD.out.fr F5 (fun h => h) (fun h => h) (fun h => h) (fun _ _ _ _ _ h => h))
  have HS0 := hid hS0
  have HS5 := hid (Nat.le_trans HS4.out F5.size)
  have b5 := hid (F5.heap b4.out (fun h => h))
  clear k0 k1 k2 k3 k4 k5 k6 k7
  have k0 := cell_of_heap b5.out 0
  have k1 := cell_of_heap b5.out 1
  have k2 := cell_of_heap b5.out 2
  have k3 := cell_of_heap b5.out 3
  have k4 := cell_of_heap b5.out 4
  have k5 := cell_of_heap b5.out 5
  have k6 := cell_of_heap b5.out 6
  have k7 := cell_of_heap b5.out 7
  simp at k0 k1 k2 k3 k4 k5 k6 k7
  clear F5 hB0 hS0 H19
  go_wp2_with fail
  have H30 : Calls Tryz.prog 30 #[.pointer (some ⟨w3.heap.size + 2, 0, none⟩), (Plan8.mk 200 96 c dd f dp hh s).val, .int .i64 g] w5 fun e w' => e = .returned (.tuple #[.pointer none, .int .i64 1]) ∧ Fr (fun _ => False) w5 w' :=
    open_gen HD5.out ⟨200, 96, c, dd, f, dp, hh, s⟩ g HFT.out rfl rfl hg
  refine H30.mono ?_
  rintro e w6 ⟨rfl, F6⟩
  have F6' := HF5.out.trans F6 (fun _ _ h => h)
  have HF6 := hid F6'
  have H25 := hid (awake13_ok w6 (HT.out.fr F6' (fun h => h)))
  clear k0 k1 k2 k3 k4 k5 k6 k7
  clear F6 F6' H30
  rcases hg with hg | hg
  · go_wp2_with fail
    refine H25.out.mono ?_
    rintro e w7 ⟨rfl, F7⟩
    go_wp2
    go_ret
    exact ⟨rfl, HF6.out.trans F7 (fun _ _ h => h)⟩
  · have hg0 : ¬ g < 0 := by omega
    go_wp2_with fail
    refine H25.out.mono ?_
    rintro e w7 ⟨rfl, F7⟩
    go_wp2
    go_ret
    exact ⟨rfl, HF6.out.trans F7 (fun _ _ h => h)⟩
theorem field54_any (a : Option Addr) (n c : Nat) (v1 v2 v3 : Value) (w : World) : (Instr.field 54 (.agg #[.slice a n c, v1, v2, v3]) 0).run Tryz.prog w = .ok (.slice a n c) w := by kernel_rfl
theorem tu_none (n : Nat) : tu (fun _ => false) n = [] := by
  simp [tu]
set_option maxHeartbeats 4000000 in
set_option maxRecDepth 100000 in
theorem plans_ok (c dd f dp hh s : Int) (gen : Nat) (w : World) (hT : Tab w) (hf : fitsM ⟨200, 96, c, dd, f, dp, hh, s⟩ = true) (hg : gen ≤ 1099511627776) :
    Calls Tryz.prog 5 #[(Plan8.mk 200 96 c dd f dp hh s).val, .int .i64 gen] w fun e w' => e = .returned (.bool true) ∧ Fr (fun _ => False) w w' := by
  have HR := hid (fun W => ref_fit ⟨200, 96, c, dd, f, dp, hh, s⟩ W)
  rw [hf, show codeOf true = 0 from rfl] at HR
  have HT := hid hT
  have HFT := hid hf
  obtain ⟨w1, hw1⟩ : ∃ w1, (w.alloc (.cells #[.int .i64 200, .int .i64 96, .int .i64 c, .int .i64 dd, .int .i64 f, .int .i64 dp, .int .i64 hh, .int .u64 s] 46)).alloc (.cells #[.int .i64 200, .int .i64 96, .int .i64 c, .int .i64 dd, .int .i64 f, .int .i64 dp, .int .i64 hh, .int .u64 s] 31) = w1 := ⟨_, rfl⟩
  obtain ⟨b0, b1, F1⟩ := heap_two hw1
  have HW1 := hid hw1
  have HF1 := hid F1
  have HB1 := hid (And.intro b0 b1)
  clear hT hw1 F1 b0 b1 hf
  go_enter Tryz.func5, Tryz.ntmps5
  go_wp2_with fail
  rw [HW1.out]
  refine (HR.out _).mono ?_
  rintro e w2 ⟨⟨x0, x1, x2, x3, x4, x5, x6, x7, rfl⟩, F2⟩
  obtain ⟨w3, hw3⟩ : ∃ w3, w2.alloc (.cells #[.int .i64 x0, .int .i64 x1, .int .i64 x2, .int .i64 x3, .int .i64 x4, .int .i64 x5, .int .i64 x6, .int .i64 x7] 48) = w3 := ⟨_, rfl⟩
  have F3 : Fr (fun _ => False) w2 w3 := by rw [← hw3]; exact (Fr.refl _ _).alloc _
  have HF3 := hid (HF1.out.trans (F2.trans F3 (fun _ _ h => h)) (fun _ _ h => h))
  have b3 := hid (F3.heap (F2.heap HB1.out.2 (fun h => h)) (fun h => h))
  have a2 := F2.heap HB1.out.1 (fun h => h)
  have i0 := cell_of_heap a2 0
  have i1 := cell_of_heap a2 1
  simp at i0 i1
  have li := lt_of_heap a2
  have HW3 := hid hw3
  clear F2 F3 hw3 a2
  go_wp2_with fail
  rw [HW3.out]
  refine (flashnew_ok 200 96 (by omega) (by omega) _).mono ?_
  rintro e w4 ⟨rfl, hD, F4⟩
  have HF4 := hid (HF3.out.trans F4 (fun _ _ h => h))
  have HS4 := hid F4.size
  have HD := hid hD
  have b4 := hid (F4.heap b3.out (fun h => h))
  have k0 := cell_of_heap b4.out 0
  have k1 := cell_of_heap b4.out 1
  have k2 := cell_of_heap b4.out 2
  have k3 := cell_of_heap b4.out 3
  have k4 := cell_of_heap b4.out 4
  have k5 := cell_of_heap b4.out 5
  have k6 := cell_of_heap b4.out 6
  have k7 := cell_of_heap b4.out 7
  simp at k0 k1 k2 k3 k4 k5 k6 k7
  clear hD F4 i0 i1 li
  go_wp2_with fail
  have H19 : Calls Tryz.prog 19 #[.pointer (some ⟨w3.heap.size + 2, 0, none⟩), (Plan8.mk 200 96 c dd f dp hh s).val] w4 (OpenPost w3.heap.size (w3.heap.size + 2) w3.heap.size (w3.heap.size + 1) ⟨200, 96, c, dd, f, dp, hh, s⟩ 0 (Dev.fresh 200 96) w4) :=
    format_ok HD.out HS4.out c dd f dp hh s HFT.out
  refine H19.mono ?_
  rintro e w5 ⟨B0, hB0, rfl, hS0, F5⟩
  have HF5 := hid (HF4.out.trans F5 (fun _ _ h => h))
  have HD5 := hid (HD.out.fr F5 (fun h => h) (fun h => h) (fun h => h) (fun _ _ _ _ _ h => h))
  have HS0 := hid hS0
  have HS5 := hid (Nat.le_trans HS4.out F5.size)
  have b5 := hid (F5.heap b4.out (fun h => h))
  clear k0 k1 k2 k3 k4 k5 k6 k7
  have k0 := cell_of_heap b5.out 0
  have k1 := cell_of_heap b5.out 1
  have k2 := cell_of_heap b5.out 2
  have k3 := cell_of_heap b5.out 3
  have k4 := cell_of_heap b5.out 4
  have k5 := cell_of_heap b5.out 5
  have k6 := cell_of_heap b5.out 6
  have k7 := cell_of_heap b5.out 7
  simp at k0 k1 k2 k3 k4 k5 k6 k7
  clear F5 hB0 hS0 H19
  go_wp2_with fail
  have H30 : Calls Tryz.prog 30 #[.pointer (some ⟨w3.heap.size + 2, 0, none⟩), (Plan8.mk 200 96 c dd f dp hh s).val, .int .i64 gen] w5 (OpenPost w3.heap.size (w3.heap.size + 2) w3.heap.size (w3.heap.size + 1) ⟨200, 96, c, dd, f, dp, hh, s⟩ gen (Dev.fresh 200 96) w5) :=
    open_ok HD5.out HS5.out c dd f dp hh s gen hg HFT.out
  refine H30.mono ?_
  rintro e w6 ⟨B1, hB1, rfl, hS1, F6⟩
  have F6' := HF5.out.trans F6 (fun _ _ h => h)
  have HF6 := hid F6'
  have hS0 := HS0.out.fr0 F6
  have HTT := hid (HT.out.fr F6' (fun h => h))
  have b6 := hid (F6.heap b5.out (fun h => h))
  clear k0 k1 k2 k3 k4 k5 k6 k7
  have k0 := cell_of_heap b6.out 0
  have k1 := cell_of_heap b6.out 1
  have k2 := cell_of_heap b6.out 2
  have k3 := cell_of_heap b6.out 3
  have k4 := cell_of_heap b6.out 4
  have k5 := cell_of_heap b6.out 5
  have k6 := cell_of_heap b6.out 6
  have k7 := cell_of_heap b6.out 7
  simp at k0 k1 k2 k3 k4 k5 k6 k7
  have lb := lt_of_heap b6.out
  have G := hid (Fr.refl (fun _ => False) w6)
  have HG0 := hid (fun W (F : Fr (fun _ => False) w6 W) => show Calls Tryz.prog 31 #[B0.ptr] W (fun e w' => e = .returned (.int .i64 1) ∧ W = w') from gen_at (hS0.fr0 F))
  have HG1 := hid (fun W (F : Fr (fun _ => False) w6 W) => show Calls Tryz.prog 31 #[B1.ptr] W (fun e w' => e = .returned (.int .i64 (gen + 1)) ∧ W = w') from gen_at (hS1.fr0 F))
  have HH1 := hid (fun W (F : Fr (fun _ => False) w6 W) => show Calls Tryz.prog 23 #[B1.ptr] W (fun e w' => e = .returned (.int .i64 0) ∧ W = w') from
    (held_at (hS1.fr0 F)).mono fun e w' ⟨n, he, hn, hw⟩ => by
      have := hn.2 [] (fun k hk => absurd hk (by simp [openX]))
      obtain rfl : n = 0 := by simpa using this
      exact ⟨he, hw⟩)
  have HP1 := hid (fun W (F : Fr (fun _ => False) w6 W) => show Calls Tryz.prog 32 #[B1.ptr] W (fun e w' => ∃ a n v1 v2 v3, e = .returned (.agg #[.slice a 0 n, v1, v2, v3]) ∧ Fr (fun _ => False) W w') from
    (parts_at (hS1.fr0 F) (HTT.out.fr F (fun h => h))).mono fun e w' ⟨v0, v1, v2, v3, L1, L2, L3, he, ⟨a0, c0, h0, _⟩, _, _, _, _, hF⟩ => by
      rw [show (openX ⟨200, 96, c, dd, f, dp, hh, s⟩ gen (Dev.fresh 200 96)).taken = fun _ => false from rfl, tu_none] at h0
      exact ⟨a0, c0, v1, v2, v3, by rw [he, h0]; rfl, hF⟩)
  have HL1 := hid (fun W (F : Fr (fun _ => False) w6 W) => show Calls Tryz.prog 33 #[B1.ptr] W (fun e w' => e = .returned (Plan8.mk 200 96 c dd f dp hh s).val ∧ Fr (fun _ => False) W w') from plan_at (hS1.fr0 F))
  have HA1 := hid (fun W (F : Fr (fun _ => False) w6 W) => awake13_ok W (HTT.out.fr F (fun h => h)))
  have hgg : ¬ (gen : Int) < 0 := by omega
  have hgh : ¬ (1099511627776 : Int) < (gen : Int) := by omega
  clear F6 F6' H30 hS0 hS1 hB1
  go_wp2
  have hwr : IntKind.i64.wrap ((gen : Int) + 1) = (gen : Int) + 1 := by rw [IntKind.wrap_i64]; omega
  have ef := fun (a : Option Addr) (n : Nat) (v1 v2 v3 : Value) (W : World) => field54_any a 0 n v1 v2 v3 W
  have hbq : ((gen : Int) + 1 == (gen : Int) + 1) = true := by simp
  have hdq : decide ((gen : Int) + 1 = (gen : Int) + 1) = true := by simp
  go_region_held3 (fun W => W.cell? ⟨w.heap.size + 1, 0, none⟩ = some (.int .i64 200) ∧ W.cell? ⟨w.heap.size + 1, 1, none⟩ = some (.int .i64 96) ∧ W.cell? ⟨w.heap.size + 1, 2, none⟩ = some (.int .i64 c) ∧ W.cell? ⟨w.heap.size + 1, 3, none⟩ = some (.int .i64 dd) ∧ W.cell? ⟨w.heap.size + 1, 4, none⟩ = some (.int .i64 f) ∧ W.cell? ⟨w.heap.size + 1, 5, none⟩ = some (.int .i64 dp) ∧ W.cell? ⟨w.heap.size + 1, 6, none⟩ = some (.int .i64 hh) ∧ W.cell? ⟨w.heap.size + 1, 7, none⟩ = some (.int .u64 s))
    (go_keep)
    (first
      | (go_at_call_of 31 B0.ptr; refine (HG0.out _ (by first | with_reducible exact G.out.drew | with_reducible exact G.out)).mono ?_; rintro e w' ⟨rfl, rfl⟩)
      | (go_at_call_of 31 B1.ptr; refine (HG1.out _ (by first | with_reducible exact G.out.drew | with_reducible exact G.out)).mono ?_; rintro e w' ⟨rfl, rfl⟩)
      | (go_at_call 23; refine (HH1.out _ (by first | with_reducible exact G.out.drew | with_reducible exact G.out)).mono ?_; rintro e w' ⟨rfl, rfl⟩)
      | (go_at_call 32; refine (HP1.out _ (by first | with_reducible exact G.out.drew | with_reducible exact G.out)).mono ?_; rintro e w7 ⟨pa, pn, v1, v2, v3, rfl, F7⟩; have lb' := lb; have G := hid (Fr.trans (by first | with_reducible exact G.out.drew | with_reducible exact G.out) F7 (fun _ _ h => h)); have k0 := (F7.cell (p := ⟨w.heap.size + 1, 0, none⟩) lb (fun h => h)).trans k0; have k1 := (F7.cell (p := ⟨w.heap.size + 1, 1, none⟩) lb (fun h => h)).trans k1; have k2 := (F7.cell (p := ⟨w.heap.size + 1, 2, none⟩) lb (fun h => h)).trans k2; have k3 := (F7.cell (p := ⟨w.heap.size + 1, 3, none⟩) lb (fun h => h)).trans k3; have k4 := (F7.cell (p := ⟨w.heap.size + 1, 4, none⟩) lb (fun h => h)).trans k4; have k5 := (F7.cell (p := ⟨w.heap.size + 1, 5, none⟩) lb (fun h => h)).trans k5; have k6 := (F7.cell (p := ⟨w.heap.size + 1, 6, none⟩) lb (fun h => h)).trans k6; have k7 := (F7.cell (p := ⟨w.heap.size + 1, 7, none⟩) lb (fun h => h)).trans k7; have lb := Nat.lt_of_lt_of_le lb F7.size)
      | (go_at_call 33; refine (HL1.out _ (by first | with_reducible exact G.out.drew | with_reducible exact G.out)).mono ?_; rintro e w8 ⟨rfl, F8⟩; have lb' := lb; have G := hid (Fr.trans (by first | with_reducible exact G.out.drew | with_reducible exact G.out) F8 (fun _ _ h => h)); have k0 := (F8.cell (p := ⟨w.heap.size + 1, 0, none⟩) lb (fun h => h)).trans k0; have k1 := (F8.cell (p := ⟨w.heap.size + 1, 1, none⟩) lb (fun h => h)).trans k1; have k2 := (F8.cell (p := ⟨w.heap.size + 1, 2, none⟩) lb (fun h => h)).trans k2; have k3 := (F8.cell (p := ⟨w.heap.size + 1, 3, none⟩) lb (fun h => h)).trans k3; have k4 := (F8.cell (p := ⟨w.heap.size + 1, 4, none⟩) lb (fun h => h)).trans k4; have k5 := (F8.cell (p := ⟨w.heap.size + 1, 5, none⟩) lb (fun h => h)).trans k5; have k6 := (F8.cell (p := ⟨w.heap.size + 1, 6, none⟩) lb (fun h => h)).trans k6; have k7 := (F8.cell (p := ⟨w.heap.size + 1, 7, none⟩) lb (fun h => h)).trans k7; have lb := Nat.lt_of_lt_of_le lb F8.size)
      | (go_at_call 25; refine (HA1.out _ (by first | with_reducible exact G.out.drew | with_reducible exact G.out)).mono ?_; rintro e w9 ⟨rfl, F9⟩; have lb' := lb; have G := hid (Fr.trans (by first | with_reducible exact G.out.drew | with_reducible exact G.out) F9 (fun _ _ h => h)); have k0 := (F9.cell (p := ⟨w.heap.size + 1, 0, none⟩) lb (fun h => h)).trans k0; have k1 := (F9.cell (p := ⟨w.heap.size + 1, 1, none⟩) lb (fun h => h)).trans k1; have k2 := (F9.cell (p := ⟨w.heap.size + 1, 2, none⟩) lb (fun h => h)).trans k2; have k3 := (F9.cell (p := ⟨w.heap.size + 1, 3, none⟩) lb (fun h => h)).trans k3; have k4 := (F9.cell (p := ⟨w.heap.size + 1, 4, none⟩) lb (fun h => h)).trans k4; have k5 := (F9.cell (p := ⟨w.heap.size + 1, 5, none⟩) lb (fun h => h)).trans k5; have k6 := (F9.cell (p := ⟨w.heap.size + 1, 6, none⟩) lb (fun h => h)).trans k6; have k7 := (F9.cell (p := ⟨w.heap.size + 1, 7, none⟩) lb (fun h => h)).trans k7; have lb := Nat.lt_of_lt_of_le lb F9.size))
  go_wp2
  go_ret
  exact ⟨rfl, HF6.out.trans G.out (fun _ _ h => h)⟩
/-- StorePlans answers true for every plan and every generation. -/
theorem storePlans_walk (p : Plan8) (g : Int) (w : World) (hT : Tab w) :
    Calls Tryz.prog 5 #[p.val, .int .i64 g] w fun e w' => e = .returned (.bool true) ∧ Fr (fun _ => False) w w' := by
  by_cases hb : fitsM p = false ∨ ¬ (p.sectors = 200 ∧ p.size = 96)
  · exact plans_bad p g w hT hb
  · obtain ⟨a, b, c, dd, f, dp, hh, s⟩ := p
    have hf : fitsM ⟨a, b, c, dd, f, dp, hh, s⟩ = true := by
      cases h : fitsM ⟨a, b, c, dd, f, dp, hh, s⟩ with
      | true => rfl
      | false => exact absurd (.inl h) hb
    have h2 : a = 200 ∧ b = 96 := Classical.byContradiction fun h => hb (.inr h)
    obtain ⟨rfl, rfl⟩ := h2
    by_cases hg : g < 0 ∨ 1099511627776 < g
    · exact plans_gen c dd f dp hh s g w hT hf hg
    · obtain ⟨n, rfl⟩ := Int.eq_ofNat_of_zero_le (show 0 ≤ g by omega)
      exact plans_ok c dd f dp hh s n w hT hf (by omega)
end Go.Proofs.YtgdhaaokolfdoaaGreatDoor
