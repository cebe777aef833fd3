/- StorePlans: the walk. Conditions: the library's table lies as its text lays it. -/
import Derived.Test.YtgdhaaokolfdoaaGreatDoorPL
namespace Go.Proofs.YtgdhaaokolfdoaaGreatDoor
open Go.RowKit Go.Sg Go.Sg.Bits Go.Sg.Clk CP SF
set_option maxHeartbeats 4000000 in
set_option maxRecDepth 100000 in
/-- A plan that is refused: by its own numbers, or for another device. -/
theorem plans_bad (p : Plan8) (g : Int) (w : World) (hT : Tab w) (hbad : fitsM p = false ∨ ¬ (p.sectors = 200 ∧ p.size = 96)) :
    Calls Tryz.prog 5 #[p.val, .int .i64 g] w fun e w' => e = .returned (.bool true) ∧ Fr (fun _ => False) w w' := by
  have HO := hid (fun (W : World) (base d bf bq : Nat) (hD : DevAt W base d bf bq (Dev.fresh 200 96)) (gg : Int) =>
    show Calls Tryz.prog 30 #[.pointer (some ⟨d, 0, none⟩), p.val, .int .i64 gg] W fun e w' => e = .returned (.tuple #[.pointer none, .int .i64 12]) ∧ Fr (fun _ => False) W w' from by
      cases hf : fitsM p with
      | false => exact open_unfit p gg d W hf
      | true =>
        refine open_other hD p gg hf ?_
        rcases hbad with h | h
        · rw [hf] at h; cases h
        · exact h)
  have hcode : ∃ code : Int, (∀ W, Calls Tryz.prog 29 #[p.val] W (RefPost code W)) ∧ (code = 12 ∨ (code = 0 ∧ ¬ p.sectors = 200) ∨ (code = 0 ∧ p.sectors = 200 ∧ ¬ p.size = 96)) := by
    refine ⟨_, fun W => ref_fit p W, ?_⟩
    cases hf : fitsM p with
    | false => left; rfl
    | true =>
      rcases hbad with h | h
      · rw [hf] at h; cases h
      · rw [show codeOf true = 0 from rfl]
        by_cases h1 : p.sectors = 200
        · exact .inr (.inr ⟨rfl, h1, fun h2 => h ⟨h1, h2⟩⟩)
        · exact .inr (.inl ⟨rfl, h1⟩)
  obtain ⟨code, hR, hc⟩ := hcode
  have HR := hid hR
  have HT := hid hT
  obtain ⟨a, b, c, dd, f, dp, hh, s⟩ := p
  simp only at hc
  obtain ⟨w1, hw1⟩ : ∃ w1, (w.alloc (.cells #[.int .i64 a, .int .i64 b, .int .i64 c, .int .i64 dd, .int .i64 f, .int .i64 dp, .int .i64 hh, .int .u64 s] 46)).alloc (.cells #[.int .i64 a, .int .i64 b, .int .i64 c, .int .i64 dd, .int .i64 f, .int .i64 dp, .int .i64 hh, .int .u64 s] 31) = w1 := ⟨_, rfl⟩
  obtain ⟨b0, b1, F1⟩ := heap_two hw1
  have HW1 := hid hw1
  have HF1 := hid F1
  have HB1 := hid (And.intro b0 b1)
  clear hT hw1 F1 b0 b1 hR hbad
  rcases hc with rfl | ⟨rfl, hs⟩ | ⟨rfl, rfl, hz⟩
  all_goals
    go_enter Tryz.func5, Tryz.ntmps5
    go_wp2_with fail
    rw [HW1.out]
    refine (HR.out _).mono ?_
    rintro e w2 ⟨⟨x0, x1, x2, x3, x4, x5, x6, x7, rfl⟩, F2⟩
    obtain ⟨w3, hw3⟩ : ∃ w3, w2.alloc (.cells #[.int .i64 x0, .int .i64 x1, .int .i64 x2, .int .i64 x3, .int .i64 x4, .int .i64 x5, .int .i64 x6, .int .i64 x7] 48) = w3 := ⟨_, rfl⟩
    have F3 : Fr (fun _ => False) w2 w3 := by rw [← hw3]; exact (Fr.refl _ _).alloc _
    have HF3 := hid (HF1.out.trans (F2.trans F3 (fun _ _ h => h)) (fun _ _ h => h))
    have b3 := hid (F3.heap (F2.heap HB1.out.2 (fun h => h)) (fun h => h))
    have a2 := F2.heap HB1.out.1 (fun h => h)
    have i0 := cell_of_heap a2 0
    have i1 := cell_of_heap a2 1
    simp at i0 i1
    have li := lt_of_heap a2
    have HW3 := hid hw3
    clear F2 F3 hw3 a2
    go_wp2_with fail
    rw [HW3.out]
    refine (flashnew_ok 200 96 (by omega) (by omega) _).mono ?_
    rintro e w4 ⟨rfl, hD, F4⟩
    have HF4 := hid (HF3.out.trans F4 (fun _ _ h => h))
    have HD := hid hD
    have b4 := hid (F4.heap b3.out (fun h => h))
    have k0 := cell_of_heap b4.out 0
    have k1 := cell_of_heap b4.out 1
    have k2 := cell_of_heap b4.out 2
    have k3 := cell_of_heap b4.out 3
    have k4 := cell_of_heap b4.out 4
    have k5 := cell_of_heap b4.out 5
    have k6 := cell_of_heap b4.out 6
    have k7 := cell_of_heap b4.out 7
    simp at k0 k1 k2 k3 k4 k5 k6 k7
    clear hD F4 i0 i1 li
    go_wp2_with fail
    refine (format_bad (w3.heap.size + 2) _ 12 (fun W F => HO.out W _ _ _ _ (HD.out.fr F (fun h => h) (fun h => h) (fun h => h) (fun _ _ _ _ _ h => h)) 0)).mono ?_
    rintro e w5 ⟨rfl, F5⟩
    have HF5 := hid (HF4.out.trans F5 (fun _ _ h => h))
    have HO5 := hid (HO.out w5 _ _ _ _ (HD.out.fr F5 (fun h => h) (fun h => h) (fun h => h) (fun _ _ _ _ _ h => h)) g)
    clear k0 k1 k2 k3 k4 k5 k6 k7
    have b5 := hid (F5.heap b4.out (fun h => h))
    have k0 := cell_of_heap b5.out 0
    have k1 := cell_of_heap b5.out 1
    have k2 := cell_of_heap b5.out 2
    have k3 := cell_of_heap b5.out 3
    have k4 := cell_of_heap b5.out 4
    have k5 := cell_of_heap b5.out 5
    have k6 := cell_of_heap b5.out 6
    have k7 := cell_of_heap b5.out 7
    simp at k0 k1 k2 k3 k4 k5 k6 k7
    clear F5
    go_wp2_with fail
    refine HO5.out.mono ?_
    rintro e w6 ⟨rfl, F6⟩
    have F6' := HF5.out.trans F6 (fun _ _ h => h)
    have HF6 := hid F6'
    have H25 := hid (awake13_ok w6 (HT.out.fr F6' (fun h => h)))
    clear F6 F6' k0 k1 k2 k3 k4 k5 k6 k7
    go_wp2_with fail
    refine H25.out.mono ?_
    rintro e w7 ⟨rfl, F7⟩
    go_wp2
    go_ret
    exact ⟨rfl, HF6.out.trans F7 (fun _ _ h => h)⟩
end Go.Proofs.YtgdhaaokolfdoaaGreatDoor
