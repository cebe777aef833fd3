/- The store: Open of a plan that does not fit, of another device's plan, of a generation out of range. Conditions: the device lies in the world as DevAt says. -/
import Derived.Test.YtgdhaaokolfdoaaGreatDoorSO
namespace Go.Proofs.YtgdhaaokolfdoaaGreatDoor
open Go.RowKit Go.Sg Go.Sg.Bits Go.Sg.Clk CP
namespace SF
theorem open_unfit (p : Plan8) (g : Int) (d : Nat) (w : World) (hf : fitsM p = false) :
    Calls Tryz.prog 30 #[.pointer (some ⟨d, 0, none⟩), p.val, .int .i64 g] w fun e w' => e = .returned (.tuple #[.pointer none, .int .i64 12]) ∧ Fr (fun _ => False) w w' := by
  have HFit := hid (fun W => fit_ok p W)
  rw [hf] at HFit
  clear hf
  obtain ⟨a, b, c, dd, f, dp, hh, s⟩ := p
  obtain ⟨w1, hw1⟩ : ∃ w1, w.alloc (.cells #[.int .i64 a, .int .i64 b, .int .i64 c, .int .i64 dd, .int .i64 f, .int .i64 dp, .int .i64 hh, .int .u64 s] 31) = w1 := ⟨_, rfl⟩
  have HF1 : Hid (Fr (fun _ => False) w w1) := hid (by rw [← hw1]; exact (Fr.refl _ _).alloc _)
  have HW := hid hw1
  clear hw1
  go_enter Tryz.func30, Tryz.ntmps30
  go_wp2_with fail
  rw [HW.out]
  refine (HFit.out _).mono ?_
  rintro e w2 ⟨rfl, F2⟩
  have FF := hid (HF1.out.trans F2 (fun _ _ h => h))
  clear F2
  simp only [Bool.false_eq_true, if_false]
  go_wp2
  go_quiet (fail)
  go_wp2
  go_ret2
  exact ⟨rfl, (FF.out.alloc _).drewN _⟩
/-- What a plan that fits leaves behind region 3 of Open. -/
theorem open_other {w : World} {base d bf bq : Nat} {D : Dev} (h : DevAt w base d bf bq D) (p : Plan8) (g : Int) (hf : fitsM p = true) (hne : ¬ (p.sectors = D.sectors ∧ p.size = D.size)) :
    Calls Tryz.prog 30 #[.pointer (some ⟨d, 0, none⟩), p.val, .int .i64 g] w fun e w' => e = .returned (.tuple #[.pointer none, .int .i64 12]) ∧ Fr (fun _ => False) w w' := by
  have HFit := hid (fun W => fit_ok p W)
  rw [hf] at HFit
  clear hf
  obtain ⟨a, b, c, dd, f, dp, hh, s⟩ := p
  simp only at hne
  obtain ⟨lv, hd, hlo⟩ := h.dc
  have e0 := cell_of_heap hd 0
  have e1 := cell_of_heap hd 1
  simp at e0 e1
  have ld := lt_of_heap hd
  obtain ⟨w1, hw1⟩ : ∃ w1, w.alloc (.cells #[.int .i64 a, .int .i64 b, .int .i64 c, .int .i64 dd, .int .i64 f, .int .i64 dp, .int .i64 hh, .int .u64 s] 31) = w1 := ⟨_, rfl⟩
  have F1 : Fr (fun _ => False) w w1 := by rw [← hw1]; exact (Fr.refl _ _).alloc _
  have b1 : w1.heap[w.heap.size]? = some (.cells #[.int .i64 a, .int .i64 b, .int .i64 c, .int .i64 dd, .int .i64 f, .int .i64 dp, .int .i64 hh, .int .u64 s] 31) := by rw [← hw1]; exact heap_alloc_new _ _
  have HW := hid hw1
  have HF1 := hid F1
  have HB1 := hid b1
  clear h hd hlo hw1 F1 b1
  go_enter Tryz.func30, Tryz.ntmps30
  go_wp2_with fail
  rw [HW.out]
  refine (HFit.out _).mono ?_
  rintro e w2 ⟨rfl, F2⟩
  have FF := hid (HF1.out.trans F2 (fun _ _ h => h))
  have b2 := F2.heap HB1.out (fun h => h)
  have k0 := cell_of_heap b2 0
  have k1 := cell_of_heap b2 1
  simp at k0 k1
  have lb2 := lt_of_heap b2
  have g0 := (FF.out.cell (p := ⟨d, 0, none⟩) ld (fun h => h)).trans e0
  have g1 := (FF.out.cell (p := ⟨d, 1, none⟩) ld (fun h => h)).trans e1
  have ld2 := Nat.lt_of_lt_of_le ld FF.out.size
  clear F2 e0 e1 b2
  simp only [if_true, Lay.val]
  generalize layM ⟨a, b, c, dd, f, dp, hh, s⟩ = y
  obtain ⟨ya, yb, yc, yd, ye, yf, yg⟩ := y
  go_wp2
  obtain ⟨w3, hw3⟩ : ∃ w3, w2.alloc (.cells #[.int .i64 2, .int .i64 ya, .int .i64 yb, .int .i64 yc, .int .i64 yd, .int .i64 ye, .int .i64 yf, .int .i64 yg] 169) = w3 := ⟨_, rfl⟩
  have F23 : Fr (fun _ => False) w2 w3 := by rw [← hw3]; exact (Fr.refl _ _).alloc _
  rw [hw3]
  have m0 := (F23.cell (p := ⟨w.heap.size, 0, none⟩) lb2 (fun h => h)).trans k0
  have m1 := (F23.cell (p := ⟨w.heap.size, 1, none⟩) lb2 (fun h => h)).trans k1
  have h0 := (F23.cell (p := ⟨d, 0, none⟩) ld2 (fun h => h)).trans g0
  have h1 := (F23.cell (p := ⟨d, 1, none⟩) ld2 (fun h => h)).trans g1
  have HS := hid (fun (n : Nat) => sectors_at (w := w3.drewN n) h0)
  have HZ := hid (fun (n : Nat) => size_at (w := w3.drewN n) h1)
  have G3 := hid (FF.out.trans F23 (fun _ _ h => h))
  clear k0 k1 g0 g1 h0 h1 F23 hw3 ld2
  by_cases hs : a = D.sectors
  · have hz : ¬ b = D.size := fun hz => hne ⟨hs, hz⟩
    clear hne
    go_quiet (first | (go_at_call 92; exact quiet_left (HS.out _)) | (go_at_call 93; exact quiet_left (HZ.out _)))
    go_wp2
    go_ret2
    exact ⟨rfl, G3.out.drewN _⟩
  · clear hne
    go_quiet (first | (go_at_call 92; exact quiet_left (HS.out _)) | (go_at_call 93; exact quiet_left (HZ.out _)))
    go_wp2
    go_ret2
    exact ⟨rfl, G3.out.drewN _⟩
theorem open_gen {w : World} {base d bf bq : Nat} {D : Dev} (h : DevAt w base d bf bq D) (p : Plan8) (g : Int) (hf : fitsM p = true) (hs : p.sectors = D.sectors) (hz : p.size = D.size) (hg : g < 0 ∨ 1099511627776 < g) :
    Calls Tryz.prog 30 #[.pointer (some ⟨d, 0, none⟩), p.val, .int .i64 g] w fun e w' => e = .returned (.tuple #[.pointer none, .int .i64 1]) ∧ Fr (fun _ => False) w w' := by
  have HFit := hid (fun W => fit_ok p W)
  rw [hf] at HFit
  clear hf
  obtain ⟨a, b, c, dd, f, dp, hh, s⟩ := p
  simp only at hs hz
  subst hs
  subst hz
  obtain ⟨lv, hd, hlo⟩ := h.dc
  have e0 := cell_of_heap hd 0
  have e1 := cell_of_heap hd 1
  simp at e0 e1
  have ld := lt_of_heap hd
  obtain ⟨w1, hw1⟩ : ∃ w1, w.alloc (.cells #[.int .i64 D.sectors, .int .i64 D.size, .int .i64 c, .int .i64 dd, .int .i64 f, .int .i64 dp, .int .i64 hh, .int .u64 s] 31) = w1 := ⟨_, rfl⟩
  have F1 : Fr (fun _ => False) w w1 := by rw [← hw1]; exact (Fr.refl _ _).alloc _
  have b1 : w1.heap[w.heap.size]? = some (.cells #[.int .i64 D.sectors, .int .i64 D.size, .int .i64 c, .int .i64 dd, .int .i64 f, .int .i64 dp, .int .i64 hh, .int .u64 s] 31) := by rw [← hw1]; exact heap_alloc_new _ _
  have HW := hid hw1
  have HF1 := hid F1
  have HB1 := hid b1
  clear h hd hlo hw1 F1 b1
  go_enter Tryz.func30, Tryz.ntmps30
  go_wp2_with fail
  rw [HW.out]
  refine (HFit.out _).mono ?_
  rintro e w2 ⟨rfl, F2⟩
  have FF := hid (HF1.out.trans F2 (fun _ _ h => h))
  have b2 := F2.heap HB1.out (fun h => h)
  have k0 := cell_of_heap b2 0
  have k1 := cell_of_heap b2 1
  simp at k0 k1
  have lb2 := lt_of_heap b2
  have g0 := (FF.out.cell (p := ⟨d, 0, none⟩) ld (fun h => h)).trans e0
  have g1 := (FF.out.cell (p := ⟨d, 1, none⟩) ld (fun h => h)).trans e1
  have ld2 := Nat.lt_of_lt_of_le ld FF.out.size
  clear F2 e0 e1 b2
  simp only [if_true, Lay.val]
  generalize layM ⟨D.sectors, D.size, c, dd, f, dp, hh, s⟩ = y
  obtain ⟨ya, yb, yc, yd, ye, yf, yg⟩ := y
  go_wp2
  obtain ⟨w3, hw3⟩ : ∃ w3, w2.alloc (.cells #[.int .i64 2, .int .i64 ya, .int .i64 yb, .int .i64 yc, .int .i64 yd, .int .i64 ye, .int .i64 yf, .int .i64 yg] 169) = w3 := ⟨_, rfl⟩
  have F23 : Fr (fun _ => False) w2 w3 := by rw [← hw3]; exact (Fr.refl _ _).alloc _
  rw [hw3]
  have m0 := (F23.cell (p := ⟨w.heap.size, 0, none⟩) lb2 (fun h => h)).trans k0
  have m1 := (F23.cell (p := ⟨w.heap.size, 1, none⟩) lb2 (fun h => h)).trans k1
  have h0 := (F23.cell (p := ⟨d, 0, none⟩) ld2 (fun h => h)).trans g0
  have h1 := (F23.cell (p := ⟨d, 1, none⟩) ld2 (fun h => h)).trans g1
  have HS := hid (fun (n : Nat) => sectors_at (w := w3.drewN n) h0)
  have HZ := hid (fun (n : Nat) => size_at (w := w3.drewN n) h1)
  have G3 := hid (FF.out.trans F23 (fun _ _ h => h))
  clear k0 k1 g0 g1 h0 h1 F23 hw3 ld2
  go_quiet (first | (go_at_call 92; exact quiet_left (HS.out _)) | (go_at_call 93; exact quiet_left (HZ.out _)))
  rcases hg with hg | hg
  · go_wp2
    go_ret2
    exact ⟨rfl, G3.out.drewN _⟩
  · have hg0 : ¬ g < 0 := by omega
    go_wp2
    go_ret2
    exact ⟨rfl, G3.out.drewN _⟩
end SF
end Go.Proofs.YtgdhaaokolfdoaaGreatDoor
