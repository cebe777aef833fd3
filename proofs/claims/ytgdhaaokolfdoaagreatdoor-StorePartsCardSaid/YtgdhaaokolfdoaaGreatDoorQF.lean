/- A pack of texts: FB, FC, SO, PA, BA, BB, SC, PB, AW, CW, AX, AP. Conditions: those that each text names. -/
import Derived.Test.YtgdhaaokolfdoaaGreatDoorQB
import Derived.WalkMore
import Derived.Test.YtgdhaaokolfdoaaGreatDoorQA
import Derived.Test.YtgdhaaokolfdoaaGreatDoorQC
import Derived.Outline
import Derived.Deep.Cut
import Derived.Shelf.SlIterI.Nil
import Derived.Shelf.SortM.Plain
import Derived.Shelf.SortM.SortNone
import Derived.Ground.GgzProg
import Derived.Ground.SlgmProg
import Derived.RangeFuncBox
import Derived.Test.YtgdhaaokolfdoaaGreatDoorQE
import Derived.Maps.RangeWalk
import Derived.Deep.RegionWith
import Derived.Laws.BytesArg
import Derived.Lib.SmallJoins
import Derived.Laws.AppendOwnNone
/- plan: within. Conditions: none. -/
namespace Go.Sg
/-- Are all numbers of a plan between their bounds? -/
def withinM (p : Plan8) : Bool := decide ((96 ≤ p.size ∧ p.size ≤ 512) ∧ (1 ≤ p.sectors ∧ p.sectors ≤ 16384) ∧ (3 ≤ p.regions ∧ p.regions ≤ 64) ∧ (1 ≤ p.rsectors ∧ p.rsectors ≤ 32) ∧ (4 ≤ p.log ∧ p.log ≤ 256) ∧ (0 ≤ p.depth ∧ p.depth ≤ 8) ∧ (8 ≤ p.memory ∧ p.memory ≤ 256))
def okTo (p : Plan8) (k : Nat) : Prop := (0 < k → 96 ≤ p.size ∧ p.size ≤ 512) ∧ (1 < k → 1 ≤ p.sectors ∧ p.sectors ≤ 16384) ∧ (2 < k → 3 ≤ p.regions ∧ p.regions ≤ 64) ∧ (3 < k → 1 ≤ p.rsectors ∧ p.rsectors ≤ 32) ∧ (4 < k → 4 ≤ p.log ∧ p.log ≤ 256) ∧ (5 < k → 0 ≤ p.depth ∧ p.depth ≤ 8) ∧ (6 < k → 8 ≤ p.memory ∧ p.memory ≤ 256)
end Go.Sg
namespace Go.Proofs.YtgdhaaokolfdoaaGreatDoor
open Go.RowKit Go.Sg
theorem idx0 (p : Plan8) (w : World) : (Instr.index 327 (.agg (bndL p).toArray) (.int .i64 0)).run Tryz.prog w = .ok (.agg #[.int .i64 p.size, .int .i64 96, .int .i64 512]) w := by kernel_rfl
theorem idx1 (p : Plan8) (w : World) : (Instr.index 327 (.agg (bndL p).toArray) (.int .i64 1)).run Tryz.prog w = .ok (.agg #[.int .i64 p.sectors, .int .i64 1, .int .i64 16384]) w := by kernel_rfl
theorem idx2 (p : Plan8) (w : World) : (Instr.index 327 (.agg (bndL p).toArray) (.int .i64 2)).run Tryz.prog w = .ok (.agg #[.int .i64 p.regions, .int .i64 3, .int .i64 64]) w := by kernel_rfl
theorem idx3 (p : Plan8) (w : World) : (Instr.index 327 (.agg (bndL p).toArray) (.int .i64 3)).run Tryz.prog w = .ok (.agg #[.int .i64 p.rsectors, .int .i64 1, .int .i64 32]) w := by kernel_rfl
theorem idx4 (p : Plan8) (w : World) : (Instr.index 327 (.agg (bndL p).toArray) (.int .i64 4)).run Tryz.prog w = .ok (.agg #[.int .i64 p.log, .int .i64 4, .int .i64 256]) w := by kernel_rfl
theorem idx5 (p : Plan8) (w : World) : (Instr.index 327 (.agg (bndL p).toArray) (.int .i64 5)).run Tryz.prog w = .ok (.agg #[.int .i64 p.depth, .int .i64 0, .int .i64 8]) w := by kernel_rfl
theorem idx6 (p : Plan8) (w : World) : (Instr.index 327 (.agg (bndL p).toArray) (.int .i64 6)).run Tryz.prog w = .ok (.agg #[.int .i64 p.memory, .int .i64 8, .int .i64 256]) w := by kernel_rfl
set_option maxRecDepth 100000 in
set_option maxHeartbeats 4000000 in
theorem within_ok (p : Plan8) (w : World) : Calls Tryz.prog 158 #[p.val] w fun e w' => e = .returned (.bool (withinM p)) ∧ Fr (fun _ => False) w w' := by
  have HB := hid (fun W => bounds_ok p W)
  obtain ⟨V, hV⟩ : ∃ V, (Value.agg (bndL p).toArray) = V := ⟨_, rfl⟩
  have i0 := idx0 p
  have i1 := idx1 p
  have i2 := idx2 p
  have i3 := idx3 p
  have i4 := idx4 p
  have i5 := idx5 p
  have i6 := idx6 p
  rw [hV] at i0 i1 i2 i3 i4 i5 i6
  simp only [hV] at HB
  obtain ⟨a, b, c, d, f, g, h, s⟩ := p
  clear hV
  go_enter Tryz.func158, Tryz.ntmps158
  go_wp2
  go_step3
  go_wp2
  go_step3
  go_wp2_with fail
  refine (HB.out _).mono ?_
  rintro e w1 ⟨rfl, F1⟩
  have G1 := hid (((Fr.refl (fun _ => False) w).alloc _).trans F1 (fun _ _ h => h))
  clear F1
  go_wp2
  go_loopw [3, 8] (fun r i wr => ∃ k : Nat, k ≤ 7 ∧ i = .int .i64 k ∧ r = .bool true ∧ okTo ⟨a, b, c, d, f, g, h, s⟩ k ∧ Fr (fun _ => False) w wr) (fun _ i _ => 7 - (Go.RowKit.intOf i).toNat)
  case atStart => exact ⟨0, by omega, rfl, rfl, by simp [okTo], G1.out⟩
  case round =>
    obtain ⟨k, hk, rfl, rfl, hok, hF⟩ := hrel
    have HOK := hid hok
    have HF := hid hF
    clear hok hF
    rcases (show k = 0 ∨ k = 1 ∨ k = 2 ∨ k = 3 ∨ k = 4 ∨ k = 5 ∨ k = 6 ∨ k = 7 by omega) with rfl | rfl | rfl | rfl | rfl | rfl | rfl | rfl
    · have ho := HOK.out
      simp only [okTo] at ho
      have HO := hid ho
      clear ho
      go_wp2
      · rw [Exit.noGoto_ret]
        go_ret
        exact ⟨by rw [show withinM ⟨a, b, c, d, f, g, h, s⟩ = false from decide_eq_false (by simp only; omega)]; rfl, HF.out.alloc _⟩
      · rw [Exit.noGoto_ret]
        go_ret
        exact ⟨by rw [show withinM ⟨a, b, c, d, f, g, h, s⟩ = false from decide_eq_false (by simp only; omega)]; rfl, HF.out.alloc _⟩
      · go_roundw
        case rel =>
          have ho := HO.out
          exact ⟨1, by omega, rfl, rfl, by simp only [okTo]; omega, HF.out.alloc _⟩
        case measure => simp [Go.RowKit.intOf]
    · have ho := HOK.out
      simp only [okTo] at ho
      have HO := hid ho
      clear ho
      go_wp2
      · rw [Exit.noGoto_ret]
        go_ret
        exact ⟨by rw [show withinM ⟨a, b, c, d, f, g, h, s⟩ = false from decide_eq_false (by simp only; omega)]; rfl, HF.out.alloc _⟩
      · rw [Exit.noGoto_ret]
        go_ret
        exact ⟨by rw [show withinM ⟨a, b, c, d, f, g, h, s⟩ = false from decide_eq_false (by simp only; omega)]; rfl, HF.out.alloc _⟩
      · go_roundw
        case rel =>
          have ho := HO.out
          exact ⟨2, by omega, rfl, rfl, by simp only [okTo]; omega, HF.out.alloc _⟩
        case measure => simp [Go.RowKit.intOf]
    · have ho := HOK.out
      simp only [okTo] at ho
      have HO := hid ho
      clear ho
      go_wp2
      · rw [Exit.noGoto_ret]
        go_ret
        exact ⟨by rw [show withinM ⟨a, b, c, d, f, g, h, s⟩ = false from decide_eq_false (by simp only; omega)]; rfl, HF.out.alloc _⟩
      · rw [Exit.noGoto_ret]
        go_ret
        exact ⟨by rw [show withinM ⟨a, b, c, d, f, g, h, s⟩ = false from decide_eq_false (by simp only; omega)]; rfl, HF.out.alloc _⟩
      · go_roundw
        case rel =>
          have ho := HO.out
          exact ⟨3, by omega, rfl, rfl, by simp only [okTo]; omega, HF.out.alloc _⟩
        case measure => simp [Go.RowKit.intOf]
    · have ho := HOK.out
      simp only [okTo] at ho
      have HO := hid ho
      clear ho
      go_wp2
      · rw [Exit.noGoto_ret]
        go_ret
        exact ⟨by rw [show withinM ⟨a, b, c, d, f, g, h, s⟩ = false from decide_eq_false (by simp only; omega)]; rfl, HF.out.alloc _⟩
      · rw [Exit.noGoto_ret]
        go_ret
        exact ⟨by rw [show withinM ⟨a, b, c, d, f, g, h, s⟩ = false from decide_eq_false (by simp only; omega)]; rfl, HF.out.alloc _⟩
      · go_roundw
        case rel =>
          have ho := HO.out
          exact ⟨4, by omega, rfl, rfl, by simp only [okTo]; omega, HF.out.alloc _⟩
        case measure => simp [Go.RowKit.intOf]
    · have ho := HOK.out
      simp only [okTo] at ho
      have HO := hid ho
      clear ho
      go_wp2
      · rw [Exit.noGoto_ret]
        go_ret
        exact ⟨by rw [show withinM ⟨a, b, c, d, f, g, h, s⟩ = false from decide_eq_false (by simp only; omega)]; rfl, HF.out.alloc _⟩
      · rw [Exit.noGoto_ret]
        go_ret
        exact ⟨by rw [show withinM ⟨a, b, c, d, f, g, h, s⟩ = false from decide_eq_false (by simp only; omega)]; rfl, HF.out.alloc _⟩
      · go_roundw
        case rel =>
          have ho := HO.out
          exact ⟨5, by omega, rfl, rfl, by simp only [okTo]; omega, HF.out.alloc _⟩
        case measure => simp [Go.RowKit.intOf]
    · have ho := HOK.out
      simp only [okTo] at ho
      have HO := hid ho
      clear ho
      go_wp2
      · rw [Exit.noGoto_ret]
        go_ret
        exact ⟨by rw [show withinM ⟨a, b, c, d, f, g, h, s⟩ = false from decide_eq_false (by simp only; omega)]; rfl, HF.out.alloc _⟩
      · rw [Exit.noGoto_ret]
        go_ret
        exact ⟨by rw [show withinM ⟨a, b, c, d, f, g, h, s⟩ = false from decide_eq_false (by simp only; omega)]; rfl, HF.out.alloc _⟩
      · go_roundw
        case rel =>
          have ho := HO.out
          exact ⟨6, by omega, rfl, rfl, by simp only [okTo]; omega, HF.out.alloc _⟩
        case measure => simp [Go.RowKit.intOf]
    · have ho := HOK.out
      simp only [okTo] at ho
      have HO := hid ho
      clear ho
      go_wp2
      · rw [Exit.noGoto_ret]
        go_ret
        exact ⟨by rw [show withinM ⟨a, b, c, d, f, g, h, s⟩ = false from decide_eq_false (by simp only; omega)]; rfl, HF.out.alloc _⟩
      · rw [Exit.noGoto_ret]
        go_ret
        exact ⟨by rw [show withinM ⟨a, b, c, d, f, g, h, s⟩ = false from decide_eq_false (by simp only; omega)]; rfl, HF.out.alloc _⟩
      · go_roundw
        case rel =>
          have ho := HO.out
          exact ⟨7, by omega, rfl, rfl, by simp only [okTo]; omega, HF.out.alloc _⟩
        case measure => simp [Go.RowKit.intOf]
    · have ho := HOK.out
      simp only [okTo] at ho
      have HO := hid ho
      clear ho
      go_wp2
      rw [Exit.noGoto_ret]
      go_ret
      have ho := HO.out
      exact ⟨by rw [show withinM ⟨a, b, c, d, f, g, h, s⟩ = true from decide_eq_true (by simp only; omega)]; rfl, HF.out⟩
end Go.Proofs.YtgdhaaokolfdoaaGreatDoor

/- plan: Fit. Conditions: none. -/
namespace Go.Sg
structure Lay where
  region : Int
  page : Int
  pages : Int
  per : Int
  slots : Int
  tree : Int
  rroom : Int
abbrev Lay.val (x : Lay) : Value := .agg #[.int .i64 2, .int .i64 x.region, .int .i64 x.page, .int .i64 x.pages, .int .i64 x.per, .int .i64 x.slots, .int .i64 x.tree, .int .i64 x.rroom]
abbrev layZ : Value := .agg #[.int .i64 0, .int .i64 0, .int .i64 0, .int .i64 0, .int .i64 0, .int .i64 0, .int .i64 0, .int .i64 0]
def layM (p : Plan8) : Lay :=
  let room := p.size - 19
  let per := room / 12
  let region := 2 + p.log
  let page := region + p.regions * p.rsectors
  let many : Int := 2 ^ p.depth.toNat
  ⟨region, page, p.sectors - page, per, (room - 10) / 20, 1 + (many + per - 1) / per + many, p.rsectors * room⟩
def fitsM (p : Plan8) : Bool := withinM p && decide ((2 : Int) ^ p.depth.toNat ≤ (layM p).per * (layM p).per ∧ 3 * (layM p).tree + 4 ≤ (layM p).pages)
end Go.Sg
namespace Go.Proofs.YtgdhaaokolfdoaaGreatDoor
open Go.RowKit Go.Sg
set_option maxHeartbeats 1000000 in
theorem fit_out (p : Plan8) (h : withinM p = false) (w : World) : Calls Tryz.prog 91 #[p.val] w fun e w' => e = .returned (.tuple #[layZ, .int .i64 12]) ∧ Fr (fun _ => False) w w' := by
  obtain ⟨a, b, c, d, f, g, hh, s⟩ := p
  have HB := hid (fun W => within_ok ⟨a, b, c, d, f, g, hh, s⟩ W)
  rw [h] at HB
  clear h
  obtain ⟨w1, hw1⟩ : ∃ w1, (w.alloc (.cells #[.int .i64 a, .int .i64 b, .int .i64 c, .int .i64 d, .int .i64 f, .int .i64 g, .int .i64 hh, .int .u64 s] 31)).alloc (.cells #[.int .i64 0, .int .i64 0, .int .i64 0, .int .i64 0, .int .i64 0, .int .i64 0, .int .i64 0, .int .i64 0] 169) = w1 := ⟨_, rfl⟩
  obtain ⟨b0, b1, F1⟩ := heap_two hw1
  have HW := hid hw1
  have HF1 := hid F1
  have HB1 := hid b1
  clear hw1 b0 b1 F1
  go_enter Tryz.func91, Tryz.ntmps91
  go_wp2_with fail
  rw [HW.out]
  refine (HB.out _).mono ?_
  rintro e w2 ⟨rfl, F2⟩
  have b2 := F2.heap HB1.out (fun h => h)
  have k0 := cell_of_heap b2 0
  have k1 := cell_of_heap b2 1
  have k2 := cell_of_heap b2 2
  have k3 := cell_of_heap b2 3
  have k4 := cell_of_heap b2 4
  have k5 := cell_of_heap b2 5
  have k6 := cell_of_heap b2 6
  have k7 := cell_of_heap b2 7
  have kz : ∀ o, w2.frozen? ⟨w.heap.size + 1, o, none⟩ = false := fun o => frozen_of_heap b2 o
  simp at k0 k1 k2 k3 k4 k5 k6 k7
  have HF2 := hid F2
  clear F2 b2
  go_wp2
  refine bodyPost_ret (v := .tuple #[layZ, .int .i64 12]) (by simp [results, go_sem, *]) rfl ⟨rfl, ?_⟩
  repeat (with_reducible refine Fr.setNew ?_ (by omega) _)
  exact HF1.out.trans HF2.out (fun _ _ h => h)
theorem mul_bd {a b A B : Int} (h1 : 0 ≤ a) (h2 : a ≤ A) (h3 : 0 ≤ b) (h4 : b ≤ B) : 0 ≤ a * b ∧ a * b ≤ A * B :=
  ⟨Int.mul_nonneg h1 h3, Int.mul_le_mul h2 h4 h3 (by omega)⟩
def FitPost (b : Bool) (x : Lay) (w : World) (e : Ending) (w' : World) : Prop := e = .returned (if b = true then .tuple #[x.val, .int .i64 0] else .tuple #[layZ, .int .i64 12]) ∧ Fr (fun _ => False) w w'
set_option maxHeartbeats 4000000 in
set_option maxRecDepth 100000 in
theorem fit_one (a b c d f g hh s many : Int) (hb : 96 ≤ b ∧ b ≤ 512) (ha : 1 ≤ a ∧ a ≤ 16384) (hc : 3 ≤ c ∧ c ≤ 64) (hd : 1 ≤ d ∧ d ≤ 32) (hf : 4 ≤ f ∧ f ≤ 256) (hg : 0 ≤ g ∧ g ≤ 8) (hh8 : 8 ≤ hh ∧ hh ≤ 256)
    (hm : ∀ w, (Op.shift BinOp.shl IntKind.i64 1 IntKind.i64 g).run Tryz.prog w = .ok (.int .i64 many) w) (hm2 : 1 ≤ many ∧ many ≤ 256) (hw : withinM ⟨a, b, c, d, f, g, hh, s⟩ = true)
    (x : Lay) (hx : x = ⟨2 + f, 2 + f + c * d, a - (2 + f + c * d), (b - 19) / 12, (b - 19 - 10) / 20, 1 + (many + (b - 19) / 12 - 1) / ((b - 19) / 12) + many, d * (b - 19)⟩) (w : World) :
    Calls Tryz.prog 91 #[(Plan8.mk a b c d f g hh s).val] w (FitPost (decide (many ≤ (b - 19) / 12 * ((b - 19) / 12) ∧ 3 * x.tree + 4 ≤ x.pages)) x w) := by
  have HB := hid (fun W => within_ok ⟨a, b, c, d, f, g, hh, s⟩ W)
  rw [hw] at HB
  obtain ⟨m0, m1⟩ := mul_bd (show 0 ≤ c by omega) hc.2 (show 0 ≤ d by omega) hd.2
  obtain ⟨r0, r1⟩ := mul_bd (show 0 ≤ d by omega) hd.2 (show 0 ≤ b - 19 by omega) (show b - 19 ≤ 493 by omega)
  have q0 : 6 ≤ (b - 19) / 12 := by omega
  have q1 : (b - 19) / 12 ≤ 41 := by omega
  obtain ⟨p0, p1⟩ := mul_bd (show 0 ≤ (b - 19) / 12 by omega) q1 (show 0 ≤ (b - 19) / 12 by omega) q1
  have u0 : 0 ≤ (many + (b - 19) / 12 - 1) / ((b - 19) / 12) := Int.ediv_nonneg (by omega) (by omega)
  have u1 : (many + (b - 19) / 12 - 1) / ((b - 19) / 12) ≤ 300 := Int.le_trans (Int.ediv_le_self _ (by omega)) (by omega)
  obtain ⟨w1, hw1⟩ : ∃ w1, (w.alloc (.cells #[.int .i64 a, .int .i64 b, .int .i64 c, .int .i64 d, .int .i64 f, .int .i64 g, .int .i64 hh, .int .u64 s] 31)).alloc (.cells #[.int .i64 0, .int .i64 0, .int .i64 0, .int .i64 0, .int .i64 0, .int .i64 0, .int .i64 0, .int .i64 0] 169) = w1 := ⟨_, rfl⟩
  obtain ⟨b0, b1, F1⟩ := heap_two hw1
  have HW := hid hw1
  have HF1 := hid F1
  have HB01 := hid (And.intro b0 b1)
  have HX := hid hx
  have hb1 := hb.1
  have hb2 := hb.2
  have ha1 := ha.1
  have ha2 := ha.2
  have hc1 := hc.1
  have hc2 := hc.2
  have hd1 := hd.1
  have hd2 := hd.2
  have hf1 := hf.1
  have hf2 := hf.2
  have hm21 := hm2.1
  have hm22 := hm2.2
  clear hw1 b0 b1 F1 hx hw hb ha hc hd hf hg hh8 hm2
  go_enter Tryz.func91, Tryz.ntmps91
  go_wp2_with fail
  rw [HW.out]
  refine (HB.out _).mono ?_
  rintro e w2 ⟨rfl, F2⟩
  have b2 := F2.heap HB01.out.2 (fun h => h)
  have a2 := F2.heap HB01.out.1 (fun h => h)
  have l2 := lt_of_heap b2
  have l3 : w.heap.size < w2.heap.size := by omega
  have l4 : ¬ w2.heap.size = w.heap.size := by omega
  have l5 : ¬ w2.heap.size = w.heap.size + 1 := by omega
  have k0 := cell_of_heap b2 0
  have k1 := cell_of_heap b2 1
  have k2 := cell_of_heap b2 2
  have k3 := cell_of_heap b2 3
  have k4 := cell_of_heap b2 4
  have k5 := cell_of_heap b2 5
  have k6 := cell_of_heap b2 6
  have k7 := cell_of_heap b2 7
  have kz : ∀ o, w2.frozen? ⟨w.heap.size + 1, o, none⟩ = false := fun o => frozen_of_heap b2 o
  have j0 := cell_of_heap a2 0
  have j1 := cell_of_heap a2 1
  have j2 := cell_of_heap a2 2
  have j3 := cell_of_heap a2 3
  have j4 := cell_of_heap a2 4
  have j5 := cell_of_heap a2 5
  simp at k0 k1 k2 k3 k4 k5 k6 k7 j0 j1 j2 j3 j4 j5
  have HF2 := hid F2
  clear F2 b2 a2
  go_wp2_with fail
  refine (room_ok b hb1 hb2 _).mono ?_
  rintro e w3 ⟨rfl, rfl⟩
  have FF := hid (HF1.out.trans HF2.out (fun _ _ h => h))
  by_cases h1 : many ≤ (b - 19) / 12 * ((b - 19) / 12)
  · by_cases h2 : 3 * (1 + (many + (b - 19) / 12 - 1) / ((b - 19) / 12) + many) + 4 ≤ a - (2 + f + c * d)
    · have HE := hid (And.intro h1 h2)
      go_wp2
      refine bodyPost_ret (v := .tuple #[.agg #[.int .i64 2, .int .i64 (2 + f), .int .i64 (2 + f + c * d), .int .i64 (a - (2 + f + c * d)), .int .i64 ((b - 19) / 12), .int .i64 ((b - 19 - 10) / 20), .int .i64 (1 + (many + (b - 19) / 12 - 1) / ((b - 19) / 12) + many), .int .i64 (d * (b - 19))], .int .i64 0]) (by simp [results, go_sem, *]) rfl ⟨?_, ?_⟩
      · rw [HX.out, if_pos (decide_eq_true HE.out)]
      · repeat (first | (with_reducible refine Fr.setNew ?_ (by omega) _) | (with_reducible refine Fr.alloc ?_ _))
        exact FF.out
    · have HE := hid h2
      have h2' : a - (2 + f + c * d) < 3 * (1 + (many + (b - 19) / 12 - 1) / ((b - 19) / 12) + many) + 4 := by omega
      clear h2
      go_wp2
      all_goals (try (exfalso; omega))
      all_goals
        refine bodyPost_ret (v := .tuple #[layZ, .int .i64 12]) (by simp [results, go_sem, *]) rfl ⟨?_, ?_⟩
        · rw [HX.out, if_neg (fun h => Int.not_le.2 HE.out (of_decide_eq_true h).2)]
        · repeat (first | (with_reducible refine Fr.setNew ?_ (by omega) _) | (with_reducible refine Fr.alloc ?_ _))
          exact FF.out
  · have HE := hid h1
    have h1' : (b - 19) / 12 * ((b - 19) / 12) < many := by omega
    clear h1
    go_wp2
    all_goals (try (exfalso; omega))
    all_goals
      refine bodyPost_ret (v := .tuple #[layZ, .int .i64 12]) (by simp [results, go_sem, *]) rfl ⟨?_, ?_⟩
      · rw [HX.out, if_neg (fun h => Int.not_le.2 HE.out (of_decide_eq_true h).1)]
      · repeat (first | (with_reducible refine Fr.setNew ?_ (by omega) _) | (with_reducible refine Fr.alloc ?_ _))
        exact FF.out
theorem shl0 (w : World) : (Op.shift BinOp.shl IntKind.i64 1 IntKind.i64 0).run Tryz.prog w = .ok (.int .i64 1) w := by kernel_rfl
theorem shl1 (w : World) : (Op.shift BinOp.shl IntKind.i64 1 IntKind.i64 1).run Tryz.prog w = .ok (.int .i64 2) w := by kernel_rfl
theorem shl2 (w : World) : (Op.shift BinOp.shl IntKind.i64 1 IntKind.i64 2).run Tryz.prog w = .ok (.int .i64 4) w := by kernel_rfl
theorem shl3 (w : World) : (Op.shift BinOp.shl IntKind.i64 1 IntKind.i64 3).run Tryz.prog w = .ok (.int .i64 8) w := by kernel_rfl
theorem shl4 (w : World) : (Op.shift BinOp.shl IntKind.i64 1 IntKind.i64 4).run Tryz.prog w = .ok (.int .i64 16) w := by kernel_rfl
theorem shl5 (w : World) : (Op.shift BinOp.shl IntKind.i64 1 IntKind.i64 5).run Tryz.prog w = .ok (.int .i64 32) w := by kernel_rfl
theorem shl6 (w : World) : (Op.shift BinOp.shl IntKind.i64 1 IntKind.i64 6).run Tryz.prog w = .ok (.int .i64 64) w := by kernel_rfl
theorem shl7 (w : World) : (Op.shift BinOp.shl IntKind.i64 1 IntKind.i64 7).run Tryz.prog w = .ok (.int .i64 128) w := by kernel_rfl
theorem shl8 (w : World) : (Op.shift BinOp.shl IntKind.i64 1 IntKind.i64 8).run Tryz.prog w = .ok (.int .i64 256) w := by kernel_rfl
theorem fit_ok (p : Plan8) (w : World) : Calls Tryz.prog 91 #[p.val] w (FitPost (fitsM p) (layM p) w) := by
  cases hw : withinM p with
  | false =>
    have e : fitsM p = false := by rw [fitsM, hw]; rfl
    rw [e]
    exact (fit_out p hw w).mono fun e w' ⟨h1, h2⟩ => ⟨by rw [h1]; rfl, h2⟩
  | true =>
    have e : fitsM p = decide ((2 : Int) ^ p.depth.toNat ≤ (layM p).per * (layM p).per ∧ 3 * (layM p).tree + 4 ≤ (layM p).pages) := by rw [fitsM, hw]; rfl
    rw [e]
    have hb := of_decide_eq_true hw
    obtain ⟨a, b, c, d, f, g, hh, s⟩ := p
    simp only at hb
    obtain ⟨h1, h2, h3, h4, h5, h6, h7⟩ := hb
    have hs : ∃ many : Int, (∀ w, (Op.shift BinOp.shl IntKind.i64 1 IntKind.i64 g).run Tryz.prog w = .ok (.int .i64 many) w) ∧ (1 ≤ many ∧ many ≤ 256) ∧ (2 : Int) ^ g.toNat = many := by
      rcases (show g = 0 ∨ g = 1 ∨ g = 2 ∨ g = 3 ∨ g = 4 ∨ g = 5 ∨ g = 6 ∨ g = 7 ∨ g = 8 by omega) with rfl | rfl | rfl | rfl | rfl | rfl | rfl | rfl | rfl
      · exact ⟨1, shl0, by omega, rfl⟩
      · exact ⟨2, shl1, by omega, rfl⟩
      · exact ⟨4, shl2, by omega, rfl⟩
      · exact ⟨8, shl3, by omega, rfl⟩
      · exact ⟨16, shl4, by omega, rfl⟩
      · exact ⟨32, shl5, by omega, rfl⟩
      · exact ⟨64, shl6, by omega, rfl⟩
      · exact ⟨128, shl7, by omega, rfl⟩
      · exact ⟨256, shl8, by omega, rfl⟩
    obtain ⟨many, hm, hm2, he⟩ := hs
    have := fit_one a b c d f g hh s many h1 h2 h3 h4 h5 h6 h7 hm hm2 hw (layM ⟨a, b, c, d, f, g, hh, s⟩) (by simp only [layM, he]) w
    simp only [he]
    exact this
end Go.Proofs.YtgdhaaokolfdoaaGreatDoor

/- The store: Open. Conditions: the device lies in the world as DevAt says. -/
namespace Go.Proofs.YtgdhaaokolfdoaaGreatDoor
open Go.RowKit Go.Sg Go.Sg.Bits Go.Sg.Clk CP
theorem fits_facts {p : Plan8} (h : fitsM p = true) : (0 ≤ (layM p).page ∧ 1 ≤ (layM p).pages ∧ (layM p).pages ≤ 16384 ∧ (layM p).page + (layM p).pages = p.sectors) ∧ 8 ≤ p.memory ∧ p.memory ≤ 256 := by
  rw [fitsM, Bool.and_eq_true] at h
  obtain ⟨h1, h2⟩ := h
  obtain ⟨a1, a2, a3, a4, a5, a6, a7⟩ := of_decide_eq_true h1
  obtain ⟨b1, b2⟩ := of_decide_eq_true h2
  obtain ⟨m0, m1⟩ := mul_bd (show 0 ≤ p.regions by omega) a3.2 (show 0 ≤ p.rsectors by omega) a4.2
  have hm : (1 : Int) ≤ 2 ^ p.depth.toNat := Int.pow_pos (by omega)
  simp only [layM] at b2 ⊢
  generalize (2 : Int) ^ p.depth.toNat = many at *
  have u0 : 0 ≤ (many + (p.size - 19) / 12 - 1) / ((p.size - 19) / 12) := Int.ediv_nonneg (by omega) (by omega)
  generalize (many + (p.size - 19) / 12 - 1) / ((p.size - 19) / 12) = q at *
  generalize p.regions * p.rsectors = r at *
  omega
namespace SF
theorem open_nil (p : Plan8) (g : Int) (w : World) : Calls Tryz.prog 30 #[.pointer none, p.val, .int .i64 g] w fun e w' => e = .returned (.tuple #[.pointer none, .int .i64 1]) ∧ Fr (fun _ => False) w w' := by
  obtain ⟨a, b, c, d, f, dp, hh, s⟩ := p
  go_enter Tryz.func30, Tryz.ntmps30
  go_wp2
  go_ret2
  exact ⟨rfl, (Fr.refl _ _).alloc _⟩
/-- A store that is opened. -/
def openX (p : Plan8) (gen : Nat) (D : Dev) : Sto :=
  ⟨p, (layM p).page, (layM p).pages.toNat, D.size - 19, gen + 1, 0, fun _ => false, fun _ => false, fun _ => false, fun _ => false, fun _ => none, p.memory.toNat, D⟩
def OpenPost (base d bf bq : Nat) (p : Plan8) (gen : Nat) (D : Dev) (w : World) (e : Ending) (w' : World) : Prop :=
  ∃ B : Blk, (B.base = base ∧ B.d = d ∧ B.bf = bf ∧ B.bq = bq) ∧ e = .returned (.tuple #[B.ptr, .int .i64 0]) ∧ StoreAt w' B (openX p gen D) ∧ Fr (fun _ => False) w w'
set_option maxHeartbeats 4000000 in
set_option maxRecDepth 100000 in
theorem open_ok {w : World} {base d bf bq : Nat} {D : Dev} (h : DevAt w base d bf bq D) (hb : base ≤ w.heap.size) (c dd f dp hh s : Int) (gen : Nat) (hg : gen ≤ 1099511627776) (hfit : fitsM ⟨D.sectors, D.size, c, dd, f, dp, hh, s⟩ = true) :
    Calls Tryz.prog 30 #[.pointer (some ⟨d, 0, none⟩), (Plan8.mk D.sectors D.size c dd f dp hh s).val, .int .i64 gen] w (OpenPost base d bf bq ⟨D.sectors, D.size, c, dd, f, dp, hh, s⟩ gen D w) := by
  have HFit := hid (fun W => fit_ok ⟨D.sectors, D.size, c, dd, f, dp, hh, s⟩ W)
  rw [hfit] at HFit
  obtain ⟨lv, hd, hlo⟩ := h.dc
  have e0 := cell_of_heap hd 0
  have e1 := cell_of_heap hd 1
  simp at e0 e1
  have ld := lt_of_heap hd
  have hs1 := h.rg.2.1
  have hs2 := h.rg.2.2
  obtain ⟨w1, hw1⟩ : ∃ w1, w.alloc (.cells #[.int .i64 D.sectors, .int .i64 D.size, .int .i64 c, .int .i64 dd, .int .i64 f, .int .i64 dp, .int .i64 hh, .int .u64 s] 31) = w1 := ⟨_, rfl⟩
  have F1 : Fr (fun _ => False) w w1 := by rw [← hw1]; exact (Fr.refl _ _).alloc _
  have b1 : w1.heap[w.heap.size]? = some (.cells #[.int .i64 D.sectors, .int .i64 D.size, .int .i64 c, .int .i64 dd, .int .i64 f, .int .i64 dp, .int .i64 hh, .int .u64 s] 31) := by rw [← hw1]; exact heap_alloc_new _ _
  have lb1 := lt_of_heap b1
  have j0 := cell_of_heap b1 0
  have j1 := cell_of_heap b1 1
  have j2 := cell_of_heap b1 2
  have j3 := cell_of_heap b1 3
  have j4 := cell_of_heap b1 4
  have j5 := cell_of_heap b1 5
  have j6 := cell_of_heap b1 6
  have j7 := cell_of_heap b1 7
  simp at j0 j1 j2 j3 j4 j5 j6 j7
  have H := hid h
  have HD := hid hd
  have HLO := hid hlo
  have HW := hid hw1
  have HF1 := hid F1
  have HB1 := hid b1
  have HFT := hid hfit
  clear h hd hlo hw1 F1 b1 hfit
  go_enter Tryz.func30, Tryz.ntmps30
  go_wp2_with fail
  rw [HW.out]
  refine (HFit.out _).mono ?_
  rintro e w2 ⟨rfl, F2⟩
  have FF := hid (HF1.out.trans F2 (fun _ _ h => h))
  have b2 := hid (F2.heap HB1.out (fun h => h))
  have k0 := cell_of_heap b2.out 0
  have k1 := cell_of_heap b2.out 1
  have k2 := cell_of_heap b2.out 2
  have k3 := cell_of_heap b2.out 3
  have k4 := cell_of_heap b2.out 4
  have k5 := cell_of_heap b2.out 5
  have k6 := cell_of_heap b2.out 6
  have k7 := cell_of_heap b2.out 7
  simp at k0 k1 k2 k3 k4 k5 k6 k7
  have lb2 := lt_of_heap b2.out
  have g0 := (FF.out.cell (p := ⟨d, 0, none⟩) ld (fun h => h)).trans e0
  have g1 := (FF.out.cell (p := ⟨d, 1, none⟩) ld (fun h => h)).trans e1
  have ld2 := Nat.lt_of_lt_of_le ld FF.out.size
  clear F2 j0 j1 j2 j3 j4 j5 j6 j7 e0 e1
  have hff := fits_facts HFT.out
  simp only at hff
  generalize hlay : layM ⟨D.sectors, D.size, c, dd, f, dp, hh, s⟩ = y at hff
  obtain ⟨ya, yb, yc, yd, ye, yf, yg⟩ := y
  simp only at hff
  obtain ⟨⟨q1, q2, q3, q4⟩, q5, q6⟩ := hff
  obtain ⟨pn, rfl⟩ := Int.eq_ofNat_of_zero_le (show 0 ≤ yc by omega)
  obtain ⟨mn, rfl⟩ := Int.eq_ofNat_of_zero_le (show 0 ≤ hh by omega)
  have HQ := hid q4
  have HY := hid hlay
  clear hlay q4
  simp only [if_true, Lay.val]
  go_wp2
  obtain ⟨w3, hw3⟩ : ∃ w3, w2.alloc (.cells #[.int .i64 2, .int .i64 ya, .int .i64 yb, .int .i64 pn, .int .i64 yd, .int .i64 ye, .int .i64 yf, .int .i64 yg] 169) = w3 := ⟨_, rfl⟩
  have F23 : Fr (fun _ => False) w2 w3 := by rw [← hw3]; exact (Fr.refl _ _).alloc _
  have b3 : w3.heap[w2.heap.size]? = some (.cells #[.int .i64 2, .int .i64 ya, .int .i64 yb, .int .i64 pn, .int .i64 yd, .int .i64 ye, .int .i64 yf, .int .i64 yg] 169) := by rw [← hw3]; exact heap_alloc_new _ _
  rw [hw3]
  have m0 := (F23.cell (p := ⟨w.heap.size, 0, none⟩) lb2 (fun h => h)).trans k0
  have m1 := (F23.cell (p := ⟨w.heap.size, 1, none⟩) lb2 (fun h => h)).trans k1
  have m2 := (F23.cell (p := ⟨w.heap.size, 2, none⟩) lb2 (fun h => h)).trans k2
  have m3 := (F23.cell (p := ⟨w.heap.size, 3, none⟩) lb2 (fun h => h)).trans k3
  have m4 := (F23.cell (p := ⟨w.heap.size, 4, none⟩) lb2 (fun h => h)).trans k4
  have m5 := (F23.cell (p := ⟨w.heap.size, 5, none⟩) lb2 (fun h => h)).trans k5
  have m6 := (F23.cell (p := ⟨w.heap.size, 6, none⟩) lb2 (fun h => h)).trans k6
  have m7 := (F23.cell (p := ⟨w.heap.size, 7, none⟩) lb2 (fun h => h)).trans k7
  have x2 := cell_of_heap b3 2
  have x3 := cell_of_heap b3 3
  simp at x2 x3
  have h0 := (F23.cell (p := ⟨d, 0, none⟩) ld2 (fun h => h)).trans g0
  have h1 := (F23.cell (p := ⟨d, 1, none⟩) ld2 (fun h => h)).trans g1
  have HS := hid (fun (n : Nat) => sectors_at (w := w3.drewN n) h0)
  have HZ := hid (fun (n : Nat) => size_at (w := w3.drewN n) h1)
  have G3 := hid (FF.out.trans F23 (fun _ _ h => h))
  have lw3 := lt_of_heap b3
  have lb3 : w.heap.size < w3.heap.size := by omega
  have HB3 := hid b3
  clear k0 k1 k2 k3 k4 k5 k6 k7 g0 g1 h0 h1 F23 hw3 b3 ld2
  go_quiet (first | (go_at_call 92; exact quiet_left (HS.out _)) | (go_at_call 93; exact quiet_left (HZ.out _)))
  go_wp2
  have hwr : IntKind.i64.wrap ((gen : Int) + 1) = (gen : Int) + 1 := by rw [IntKind.wrap_i64]; omega
  have hz1 : (96 : Int) ≤ D.size := by omega
  have hz2 : (D.size : Int) ≤ 512 := by omega
  go_region_held3 (fun W => W.cell? ⟨w.heap.size, 0, none⟩ = some (.int .i64 D.sectors) ∧ W.cell? ⟨w.heap.size, 1, none⟩ = some (.int .i64 D.size) ∧ W.cell? ⟨w.heap.size, 2, none⟩ = some (.int .i64 c) ∧ W.cell? ⟨w.heap.size, 3, none⟩ = some (.int .i64 dd) ∧ W.cell? ⟨w.heap.size, 4, none⟩ = some (.int .i64 f) ∧ W.cell? ⟨w.heap.size, 5, none⟩ = some (.int .i64 dp) ∧ W.cell? ⟨w.heap.size, 6, none⟩ = some (.int .i64 mn) ∧ W.cell? ⟨w.heap.size, 7, none⟩ = some (.int .u64 s) ∧ W.cell? ⟨w2.heap.size, 2, none⟩ = some (.int .i64 yb) ∧ W.cell? ⟨w2.heap.size, 3, none⟩ = some (.int .i64 pn))
    (go_keep)
    ((go_at_call 94; refine (room_ok _ hz1 hz2 _).mono ?_; rintro e w5 ⟨rfl, rfl⟩))
  clear hwr
  go_wp2_with fail
  obtain ⟨w6, hw6⟩ : ∃ w6, (w3.drewN (nq + 1)).alloc (.cells #[.pointer (some ⟨d, 0, none⟩), .int .i64 D.sectors, .int .i64 D.size, .int .i64 c, .int .i64 dd, .int .i64 f, .int .i64 dp, .int .i64 mn, .int .u64 s, .int .i64 yb, .int .i64 pn, .int .i64 (D.size - 19), .int .i64 (gen + 1), .pointer none, .map none, .map none, .map none, .pointer none] 156) = w6 := ⟨_, rfl⟩
  have F36 : Fr (fun _ => False) w3 w6 := by rw [← hw6]; exact ((Fr.refl _ _).drewN _).alloc _
  have s6 : w6.heap[w3.heap.size]? = some (.cells #[.pointer (some ⟨d, 0, none⟩), .int .i64 D.sectors, .int .i64 D.size, .int .i64 c, .int .i64 dd, .int .i64 f, .int .i64 dp, .int .i64 mn, .int .u64 s, .int .i64 yb, .int .i64 pn, .int .i64 (D.size - 19), .int .i64 (gen + 1), .pointer none, .map none, .map none, .map none, .pointer none] 156) := by
    rw [← hw6]; exact heap_alloc_new (w3.drewN (nq + 1)) _
  rw [hw6]
  refine (newbits_ok pn (by omega) (by omega) _).mono ?_
  rintro e w7 ⟨bs, bw, rfl, hbits, hbs, hbw, F7⟩
  have l6 := lt_of_heap s6
  have s7 := F7.heap s6 (fun h => h)
  have c13 := cell_of_heap s7 13
  simp at c13
  have cz7 : ∀ o, w7.frozen? ⟨w3.heap.size, o, none⟩ = false := fun o => frozen_of_heap s7 o
  have l7 := lt_of_heap s7
  have p6 := ((F36.trans F7 (fun _ _ h => h)).cell (p := ⟨w.heap.size, 6, none⟩) lb3 (fun h => h)).trans m6
  have n63 : ¬ w3.heap.size = w.heap.size := by omega
  have G7 := hid (G3.out.trans (F36.trans F7 (fun _ _ h => h)) (fun _ _ h => h))
  have HBI := hid hbits
  have HS7 := hid s7
  have HN := hid (And.intro hbs hbw)
  have HF7s := F7.size
  have HL6 := hid l6
  clear hw6 F36 s6 hbits F7 s7 m0 m1 m2 m3 m4 m5 m6 m7 x2 x3 hbs hbw HF7s
  go_wp2_with fail
  obtain ⟨w8, hw8⟩ : ∃ w8, w7.setCell ⟨w3.heap.size, 13, none⟩ (.pointer (some ⟨bs, 0, none⟩)) = w8 := ⟨_, rfl⟩
  have F78 : Fr (fun b => b = w3.heap.size) w7 w8 := by rw [← hw8]; exact (Fr.refl (fun b => b = w3.heap.size) _).setCell (a := ⟨w3.heap.size, 13, none⟩) (fun _ => rfl) _
  have s8 : w8.heap[w3.heap.size]? = some (.cells #[.pointer (some ⟨d, 0, none⟩), .int .i64 D.sectors, .int .i64 D.size, .int .i64 c, .int .i64 dd, .int .i64 f, .int .i64 dp, .int .i64 mn, .int .u64 s, .int .i64 yb, .int .i64 pn, .int .i64 (D.size - 19), .int .i64 (gen + 1), .pointer (some ⟨bs, 0, none⟩), .map none, .map none, .map none, .pointer none] 156) := by
    rw [← hw8, heap_setCell_cells _ _ _ _ HS7.out]; simp
  rw [hw8]
  refine (newmem_ok mn (by omega) (by omega) _).mono ?_
  rintro e w9 ⟨rfl, hmem, F9⟩
  have HL8 := hid (lt_of_heap s8)
  have s9 := F9.heap s8 (fun h => h)
  have c14 := cell_of_heap s9 14
  have c15 := cell_of_heap s9 15
  have c16 := cell_of_heap s9 16
  have c17 := cell_of_heap s9 17
  simp at c14 c15 c16 c17
  have cz9 : ∀ o, w9.frozen? ⟨w3.heap.size, o, none⟩ = false := fun o => frozen_of_heap s9 o
  have l9 := lt_of_heap s9
  have HM := hid hmem
  have HS9 := hid s9
  have H89 := hid (And.intro F78 F9)
  have hmm := fun (t : TypeId) (W : World) => run_makeMap (P := Tryz.prog) t W
  clear hw8 F78 s8 hmem s9 F9 c13 cz7 p6
  go_upto_region 11 with (fail)
  obtain ⟨w10, hw10⟩ : ∃ w10, w9.setCell ⟨w3.heap.size, 17, none⟩ (.pointer (some ⟨w8.heap.size + 2, 0, none⟩)) = w10 := ⟨_, rfl⟩
  have F910 : Fr (fun b => b = w3.heap.size) w9 w10 := by rw [← hw10]; exact (Fr.refl (fun b => b = w3.heap.size) _).setCell (a := ⟨w3.heap.size, 17, none⟩) (fun _ => rfl) _
  have s10 : w10.heap[w3.heap.size]? = some (.cells #[.pointer (some ⟨d, 0, none⟩), .int .i64 D.sectors, .int .i64 D.size, .int .i64 c, .int .i64 dd, .int .i64 f, .int .i64 dp, .int .i64 mn, .int .u64 s, .int .i64 yb, .int .i64 pn, .int .i64 (D.size - 19), .int .i64 (gen + 1), .pointer (some ⟨bs, 0, none⟩), .map none, .map none, .map none, .pointer (some ⟨w8.heap.size + 2, 0, none⟩)] 156) := by
    rw [← hw10, heap_setCell_cells _ _ _ _ HS9.out]; simp
  rw [hw10]
  have d14 := cell_of_heap s10 14
  have d15 := cell_of_heap s10 15
  have d16 := cell_of_heap s10 16
  simp at d14 d15 d16
  have cz10 : ∀ o, w10.frozen? ⟨w3.heap.size, o, none⟩ = false := fun o => frozen_of_heap s10 o
  have l10 := lt_of_heap s10
  have HS10 := hid s10
  have HF910 := hid F910
  have HSZ := hid (show w10.heap.size = w9.heap.size by rw [← hw10]; simp)
  have lw3' : w2.heap.size < w3.heap.size := lw3
  clear hw10 F910 s10 c14 c15 c16 c17 cz9 l9 l7 l6 lb1 lb2 lb3 lw3 n63
  have HL3 := hid lw3'
  generalize w3.heap.size = S at *
  obtain ⟨w11, ha⟩ : ∃ w11, ((w10.alloc (.map #[] 0)).alloc (.map #[] 0)).alloc (.map #[] 0) = w11 := ⟨_, rfl⟩
  obtain ⟨z1, z2, z3, F1011⟩ := heap_three ha
  have HZ1 := hid (And.intro z1 (And.intro z2 z3))
  have s11 := F1011.heap HS10.out (fun h => h)
  have k14 := cell_of_heap s11 14
  have k15 := cell_of_heap s11 15
  have k16 := cell_of_heap s11 16
  simp at k14 k15 k16
  have cz11 : ∀ o, w11.frozen? ⟨S, o, none⟩ = false := fun o => frozen_of_heap s11 o
  have HS11 := hid s11
  have HF11 := hid F1011
  clear z1 z2 z3 s11 F1011 d14 d15 d16 cz10
  go_wp2
  go_ret2
  have hS := HS11.out
  have s12 := heap_setCell_cells _ S 16 (.map (some (w10.heap.size + 2))) (heap_setCell_cells _ S 15 (.map (some (w10.heap.size + 1))) (heap_setCell_cells _ S 14 (.map (some w10.heap.size)) hS))
  have F1112 : Fr (fun b => b = S) w11 (((w11.setCell ⟨S, 14, none⟩ (.map (some w10.heap.size))).setCell ⟨S, 15, none⟩ (.map (some (w10.heap.size + 1)))).setCell ⟨S, 16, none⟩ (.map (some (w10.heap.size + 2)))) :=
    (((Fr.refl (fun b => b = S) _).setCell (a := ⟨S, 14, none⟩) (fun _ => rfl) _).setCell (a := ⟨S, 15, none⟩) (fun _ => rfl) _).setCell (a := ⟨S, 16, none⟩) (fun _ => rfl) _
  show OpenPost base d bf bq _ gen D w _ (((w11.setCell ⟨S, 14, none⟩ (.map (some w10.heap.size))).setCell ⟨S, 15, none⟩ (.map (some (w10.heap.size + 1)))).setCell ⟨S, 16, none⟩ (.map (some (w10.heap.size + 2))))
  generalize (((w11.setCell ⟨S, 14, none⟩ (.map (some w10.heap.size))).setCell ⟨S, 15, none⟩ (.map (some (w10.heap.size + 1)))).setCell ⟨S, 16, none⟩ (.map (some (w10.heap.size + 2)))) = W at *
  obtain ⟨z1, z2, z3⟩ := HZ1.out
  have hl3 := HL3.out
  have hl6 := HL6.out
  have hl8 := HL8.out
  have hff := FF.out.size
  have hsz := HSZ.out
  have hml := HM.out.lts
  have hbb := HN.out
  obtain ⟨dl1, dl2, dl3⟩ := H.out.lts
  have dne := H.out.ne
  have dge := H.out.ge
  have F9W : Fr (fun b => b = S) w9 W := (HF910.out.trans HF11.out (fun _ _ h => h.elim)).trans F1112 (fun _ _ h => h)
  have F7W : Fr (fun b => b = S) w7 W := (H89.out.1.trans H89.out.2 (fun _ _ h => h.elim)).trans F9W (fun _ _ h => h)
  have ex : openX ⟨D.sectors, D.size, c, dd, f, dp, mn, s⟩ gen D = ⟨⟨D.sectors, D.size, c, dd, f, dp, mn, s⟩, yb, pn, D.size - 19, gen + 1, 0, fun _ => false, fun _ => false, fun _ => false, fun _ => false, fun _ => none, mn, D⟩ := by
    simp [openX, HY.out]
  have e11 : ((D.size : Int) - 19) = ((D.size - 19 : Nat) : Int) := by omega
  refine ⟨⟨base, S, d, bf, bq, bs, bw, w10.heap.size, w10.heap.size + 1, w10.heap.size + 2, w8.heap.size + 2, w8.heap.size, w8.heap.size + 1⟩, ⟨rfl, rfl, rfl, rfl⟩, rfl, ?_, ?_⟩
  · rw [ex]
    refine ⟨?_, (H.out.fr G7.out (fun h => h) (fun h => h) (fun h => h) (fun _ _ _ _ _ h => h)).fr F7W (by omega) (by omega) (by omega) ?_, HBI.out.fr F7W (by omega) (by omega), SetAt.made (F1112.heap z1 (show ¬ w10.heap.size = S by omega)), SetAt.made (F1112.heap z2 (show ¬ w10.heap.size + 1 = S by omega)), SetAt.made (F1112.heap z3 (show ¬ w10.heap.size + 1 + 1 = S by omega)), HM.out.fr F9W (by omega) (by omega) (by omega), (fun k p hp => by cases hp), ?_, ?_, ?_, ?_⟩
    · simpa [e11] using s12
    · intro g c' t ht hg e
      rw [e, HS7.out] at hg
      cases hg
      rcases ht with h | h | h <;> cases h
    · simp only [Blk.maps, List.nodup_cons, List.mem_cons, not_or, List.not_mem_nil, not_false_eq_true, List.nodup_nil, and_true]
      omega
    · simp only
      omega
    · have := HQ.out
      simp only at *
      omega
    · exact ⟨(fun k hk => by cases hk), (fun k hk => by cases hk), (fun k hk => by cases hk)⟩
  · exact G7.out.trans F7W (fun b hb h => by omega)
end SF
end Go.Proofs.YtgdhaaokolfdoaaGreatDoor

/- The store: the row of a set's numbers (Parts's own function). Conditions: the set lies in the world as SetAt says. -/
namespace Go.Proofs.YtgdhaaokolfdoaaGreatDoor
open Go.Proofs Go.RowKit Go.Maps Go.Sort Go.Shelf Go.Sg
theorem Tryz.sortsA (m : Nat) : AnyZI.SortsIn Tryz.prog Tryz.sortedA_ren Fence.wide m :=
  ⟨fun blk off cap ss W hH hblk hsz => callsIn_wide.2 (AnyM.slices_Sort_int Tryz.sortA blk off cap ss W hH hblk hsz),
   fun p cap W => callsIn_wide.2 (AnyM.slices_Sort_int_none Tryz.sortA p cap W)⟩
/-- The numbers of a set, in order. -/
def RowOf (f : Int → Bool) (L : List Int) : Prop := (∀ k, k ∈ L ↔ f k = true) ∧ L.Pairwise (· < ·)
set_option maxHeartbeats 1000000 in
set_option maxRecDepth 100000 in
theorem row_at {w : World} {b : Nat} {f : Int → Bool} {n : Nat} (h : SetAt w b f) (hn : n ≤ 65536) (hf : ∀ k, f k = true → 0 ≤ k ∧ k < n) :
    Calls Tryz.prog 97 #[.map (some b)] w fun e w' => ∃ v L, e = .returned v ∧ Ints w' v L ∧ RowOf f L ∧ Fr (fun _ => False) w w' := by
  obtain ⟨l, ck, hm, hs⟩ := h.ex
  have hl := hs.len hf
  have hown := set_owns (H := Unit) (P := Tryz.prog) (K := 3) (E := 4) Tryz.underlying3 Tryz.underlying4 hm hs (fun k hk => WalkArith.wf_i64 (by have := hf k hk; omega)) (by simp [maxLen]; omega)
  refine (callsIn_wide (n := 6)).1 ?_
  have hbl := hown.lt
  have hseq : SeqGives Fence.wide 2 Tryz.prog 161 #[.pointer (some ⟨w.heap.size, 0, none⟩)] encZ (fun ss => ss.Perm (intKeys (setD (H := Unit) l))) (Maps.size (setD (H := Unit) l)) (w.alloc (.cells #[.map (some b)] 153)) :=
    AnyZI.keys_gives (ρ := Tryz.keysA_ren) { Tryz.keysA with } Fence.wide _ trivial rfl (by omega) w.heap.size b l.length (setD (H := Unit) l) _ (by simp) (by simp) (by
      obtain ⟨es, clock, hb, Ft, hs, hD⟩ := hown
      exact ⟨es, clock, (Below.heap_alloc _ _ b hbl).trans hb, Ft, hs, hD⟩)
  have cK : ∀ mb W, CallsIn Fence.wide 5 Tryz.prog 99 #[.map mb] W fun e w' => e = .returned (.func (.func 161) #[] #[.pointer (some ⟨W.heap.size, 0, none⟩)]) ∧ w' = W.alloc (.cells #[.map mb] 153) := fun mb W => AnyZI.keys_in Tryz.keysA Fence.wide 5 trivial rfl mb W
  have cS := AnyZI.sorted_in Tryz.sortedA Fence.wide 5 trivial trivial trivial trivial rfl (by omega) (Tryz.sortsA _) (enters_of Tryz.func141 (by kernel_rfl) rfl) 161 #[.pointer (some ⟨w.heap.size, 0, none⟩)] trivial (enters_of Tryz.func161 (by kernel_rfl) rfl) _ _ (by rw [setD_size]; simp [maxLen]; omega) (by rw [setD_size]; omega) _ hseq
  change CallsIn _ _ Tryz.prog 98 _ _ _ at cS
  have hfK : Fence.wide.fn 99 := trivial
  have hfS : Fence.wide.fn 98 := trivial
  have HS := hid hs
  clear hown hbl hm hseq hs
  refine callsIn_of_wp Tryz.func97 rfl trivial ?_ rfl
  simp only [Tryz.ntmps97, List.size_toArray, List.length_cons, List.length_nil, Nat.reduceAdd, Nat.reduceSub, Array.replicate_succ, Array.replicate_zero, List.push_toArray, List.append_toArray, List.nil_append, List.cons_append]
  gi_wp2_with (first
    | (gi_at_call 99; refine (cK _ _).mono ?_; rintro e w' ⟨rfl, rfl⟩)
    | (gi_at_call 98; refine cS.mono ?_; rintro e w' ⟨v, ss, rfl, hS, hrow, hnil, hb⟩))
  go_ret
  have hp : (ss.mergeSort (fun x y => decide (x ≤ y))).Perm (keys l) := (List.mergeSort_perm _ _).trans (hS.trans (setD_keys l))
  refine ⟨v, ss.mergeSort (fun x y => decide (x ≤ y)), rfl, ints_of_own (base := (w.alloc (.cells #[.map (some b)] 153)).heap.size) (e := 3) (by rw [List.length_mergeSort]; exact hrow), ⟨fun k => ?_, ?_⟩, ((Fr.refl _ _).alloc _).trans (Fr.of_below hb) (fun _ _ h => h)⟩
  · rw [hp.mem_iff]
    have e := HS.out.at_ k
    cases hk : f k with
    | true =>
      rw [hk] at e
      simp only [if_true] at e
      constructor
      · intro _; rfl
      · intro _
        refine Classical.byContradiction fun hc => ?_
        rw [(look_none l k).2 hc] at e
        cases e
    | false =>
      rw [hk] at e
      simp only [Bool.false_eq_true, if_false] at e
      constructor
      · intro hc; exact absurd hc ((look_none l k).1 e)
      · intro hc; cases hc
  · have h1 : (ss.mergeSort (fun x y => decide (x ≤ y))).Pairwise (fun a b => decide (a ≤ b) = true) := List.pairwise_mergeSort (fun a b c h1 h2 => by simp at *; omega) (fun a b => by simp; omega) ss
    have h2 : (ss.mergeSort (fun x y => decide (x ≤ y))).Nodup := hp.symm.nodup HS.out.nd
    refine (List.Pairwise.and h1 h2).imp ?_
    rintro a c ⟨h3, h4⟩
    simp at h3
    omega
end Go.Proofs.YtgdhaaokolfdoaaGreatDoor

/- The set of bits: All. Conditions: the set lies in the world as BitsAt says, the library's table as its text lays it. -/
namespace Go.Sg.Bits
open Go.RowKit
/-- The numbers below m that are taken. -/
def tu (t : Nat → Bool) (m : Nat) : List Int := ((List.range m).filter t).map Int.ofNat
theorem tu_len (t : Nat → Bool) (m : Nat) : (tu t m).length ≤ m := by
  simp only [tu, List.length_map]
  exact Nat.le_trans (List.length_filter_le _ _) (by simp)
theorem tu_succ (t : Nat → Bool) (m : Nat) : tu t (m + 1) = if t m then tu t m ++ [(m : Int)] else tu t m := by
  simp only [tu, List.range_succ, List.filter_append, List.map_append]
  cases h : t m <;> simp [h]
theorem tu_skip (t : Nat → Bool) (a : Nat) : ∀ d, (∀ i, a ≤ i → i < a + d → t i = false) → tu t (a + d) = tu t a := by
  intro d
  induction d with
  | zero => intro _; rfl
  | succ d ih =>
    intro h
    rw [← Nat.add_assoc, tu_succ, h (a + d) (by omega) (by omega)]
    simp only [Bool.false_eq_true, if_false]
    exact ih fun i h1 h2 => h i h1 (by omega)
theorem tu_next {t : Nat → Bool} {a b : Nat} (hab : a ≤ b) (h : ∀ i, a ≤ i → i < b → t i = false) (hb : t b = true) : tu t (b + 1) = tu t a ++ [(b : Int)] := by
  obtain ⟨d, rfl⟩ : ∃ d, b = a + d := ⟨b - a, by omega⟩
  rw [tu_succ, if_pos hb, tu_skip t a d h]
theorem tu_prefix (t : Nat → Bool) {a b : Nat} (h : a ≤ b) : tu t a <+: tu t b := by
  induction b with
  | zero => obtain rfl : a = 0 := by omega
            exact List.prefix_rfl
  | succ b ih =>
    by_cases hk : a = b + 1
    · subst hk; exact List.prefix_rfl
    · have := ih (by omega)
      rw [tu_succ]
      split
      · exact this.trans (List.prefix_append _ _)
      · exact this
end Go.Sg.Bits
namespace Go.Proofs.YtgdhaaokolfdoaaGreatDoor
open Go.RowKit Go.Sg Go.Sg.Bits Go.Shelf
attribute [local go_sem] Oper.semAt_some
theorem taken_any (a : Option Addr) (w : World) :
    Calls Tryz.prog 162 #[.pointer a] w fun e w' => e = .returned (.func (.func 224) #[] #[.pointer (some ⟨w.heap.size, 0, none⟩)]) ∧ w.alloc (.cells #[.pointer a] 152) = w' := by
  go_enter Tryz.func162, Tryz.ntmps162
  go_wp2
  go_ret
  exact ⟨rfl, rfl⟩
abbrev encT (x : Int) : Array Value := #[.int .i64 x]
set_option maxRecDepth 100000 in
set_option maxHeartbeats 4000000 in
theorem takenf_stops {w : World} {bs bw n hand bx : Nat} {ws : List Nat} (h : BRaw w bs bw n hand ws) (hT : Tab w) (hx : w.cell? ⟨bx, 0, none⟩ = some (.pointer (some ⟨bs, 0, none⟩))) :
    SeqStopsK Fence.wide 9 Tryz.prog 224 #[.pointer (some ⟨bx, 0, none⟩)] encT (fun W W' => W'.heap[bw]? = W.heap[bw]? ∧ W'.heap[0]? = W.heap[0]?) (fun xs => xs = tu (bit ws) (64 * ws.length)) (fun pre => pre <+: tu (bit ws) (64 * ws.length)) (64 * ws.length) w := fun l J Jx W hW hJ _ hY h0 => by
  have hr := h.room
  have hl := h.len
  have hwf := h.wf
  have hx' := (hW.cell (p := ⟨bx, 0, none⟩) (World.block_lt_of_cell? _ _ hx)).trans hx
  have hc2 := (hW.cell (p := ⟨bs, 2, none⟩) (lt_of_heap h.s)).trans (cell_of_heap h.s 2)
  simp at hc2
  have hp := (hW.block bw (lt_of_heap h.w_)).trans h.w_
  have ht : Tab W := hT.fr (Fr.of_below hW) (S := fun _ => False) (fun h => h)
  have HWF := hid hwf
  have hl2 : ws.length ≤ 1024 := by omega
  have HT := hid ht
  clear hx hW h hT hwf ht hl
  refine callsIn_of_wp Tryz.func224 rfl trivial ?_ rfl
  simp only [Tryz.ntmps224, List.size_toArray, List.length_cons, List.length_nil, Nat.reduceAdd, Nat.reduceSub, Array.replicate_succ, Array.replicate_zero, List.push_toArray, List.append_toArray, List.nil_append, List.cons_append]
  gi_wp2
  gi_loopw [10] (fun i wr => ∃ k : Nat, k ≤ ws.length ∧ i = .int .i64 k ∧ J (tu (bit ws) (64 * k)) wr ∧ wr.heap[bw]? = some (.cells (wcells ws) 29) ∧ wr.heap[0]? = W.heap[0]?) (fun i _ => ws.length - (intOf i).toNat)
  case atStart => exact ⟨0, Nat.zero_le _, rfl, h0, hp, rfl⟩
  case round =>
    obtain ⟨k, hk, rfl, hJs, hps, ht0⟩ := hrel
    by_cases hlt : k < ws.length
    · obtain ⟨x, hx⟩ : ∃ x, ws[k]? = some x := ⟨_, List.getElem?_eq_getElem hlt⟩
      have cw : wr.cell? ⟨bw, k, none⟩ = some (.int .u64 x) := by rw [cell_of_heap hps]; simp [wcells, hx]
      have hxl := HWF.out x (List.mem_of_getElem? hx)
      have hbk : ∀ m, m < 64 → bit ws (64 * k + m) = x.testBit m := fun m hm => by
        rw [bit, show (64 * k + m) / 64 = k by omega, show (64 * k + m) % 64 = m by omega]
        simp [List.getD, hx]
      have HBK := hid hbk
      have HX := hid hx
      have HPS := hid hps
      have HT0 := hid ht0
      clear hbk hx hps ht0
      have hkd : decide (k < ws.length) = true := by simpa using hlt
      have hkd2 : decide ((k : Int) < (ws.length : Int)) = true := by simpa using hlt
      gi_wp2
      gi_loopw [4] (fun v wr => ∃ (lft low : Nat), v = .int .u64 lft ∧ lft < 18446744073709551616 ∧ low ≤ 64 ∧ (∀ m, m < 64 → lft.testBit m = (decide (low ≤ m) && x.testBit m)) ∧ J (tu (bit ws) (64 * k + low)) wr ∧ wr.heap[bw]? = some (.cells (wcells ws) 29) ∧ wr.heap[0]? = W.heap[0]?) (fun v _ => (intOf v).toNat)
      case atStart => exact ⟨x, 0, rfl, hxl, by omega, fun m hm => by simp, hJs, HPS.out, HT0.out⟩
      case round =>

        obtain ⟨lft, low, rfl, hll, hlow, hb, hJ2, hps2, ht2⟩ := hrel
        have HBb := hid hb
        have HPS2 := hid hps2
        have HT2 := hid ht2
        have HJ2 := hid hJ2
        clear hb hps2 ht2 hJ2
        by_cases hz : lft = 0
        · subst hz
          gi_wp2
          go_roundw
          case rel =>
            refine ⟨k + 1, by omega, by simp, ?_, HPS2.out, HT2.out⟩
            have e : tu (bit ws) (64 * (k + 1)) = tu (bit ws) (64 * k + low) := by
              have := tu_skip (bit ws) (64 * k + low) (64 - low) (fun i h1 h2 => by
                have hm := HBb.out (i - 64 * k) (by omega)
                have hb := HBK.out (i - 64 * k) (by omega)
                rw [show 64 * k + (i - 64 * k) = i by omega] at hb
                rw [hb]
                have hd : decide (low ≤ i - 64 * k) = true := by simp; omega
                rw [hd] at hm
                simpa using hm.symm)
              rw [← this]; congr 1; omega
            rw [e]; exact HJ2.out
          case measure => simp [intOf]; omega
        · obtain ⟨hc1, hc2, hc3⟩ := ctz_bit hz hll
          have hd := and_pred hz hll
          have hdl := drop_low hz hll
          have htz := hid (fun W' (h : W'.heap[0]? = W.heap[0]?) => tz_at lft hll W' (fun j hj => (World.cell?_of_block (a := ⟨0, j, none⟩) h).trans (HT.out j hj)))
          have hne : ((lft : Int) != 0) = true := by simp; omega
          have hlt2 : lft &&& (lft - 1) < lft := by
            rcases Nat.lt_or_ge (lft &&& (lft - 1)) lft with h | h
            · exact h
            · have h2 := Nat.and_le_right (n := lft) (m := lft - 1)
              omega
          generalize Lib.ctz 64 lft = m0 at *
          have hx0 : low ≤ m0 ∧ x.testBit m0 = true := by
            have := HBb.out m0 hc1
            rw [hc2] at this
            simpa using this.symm
          have hnx : tu (bit ws) (64 * k + m0 + 1) = tu (bit ws) (64 * k + low) ++ [(k : Int) * 64 + m0] := by
            have := tu_next (t := bit ws) (a := 64 * k + low) (b := 64 * k + m0) (by omega) (fun i h1 h2 => by
              have hm := HBb.out (i - 64 * k) (by omega)
              have hb := HBK.out (i - 64 * k) (by omega)
              rw [show 64 * k + (i - 64 * k) = i by omega] at hb
              rw [hb]
              have hd : decide (low ≤ i - 64 * k) = true := by simp; omega
              rw [hd, hc3 _ (by omega)] at hm
              simpa using hm.symm) (by rw [HBK.out m0 hc1]; exact hx0.2)
            rw [this]
            congr 2
            have : ((64 * k + m0 : Nat) : Int) = (k : Int) * 64 + m0 := by omega
            exact this
          obtain ⟨fn, tmps, assign, body, hy, hR⟩ := hY _ ((k : Int) * 64 + m0) wr HJ2.out (by have := tu_len (bit ws) (64 * k + low); omega)
          dsimp only [encT] at hy
          have HD := hid hd
          have HX0 := hid hx0
          have HNX := hid hnx
          have HC := hid (And.intro hc2 (And.intro hc3 hdl))
          have hlm := hx0.1
          clear hd hx0 hnx hc2 hc3 hdl
          gi_wp2_with (gi_at_call 214; refine (callsIn_wide.2 (htz.out _ HT2.out)).mono ?_; rintro e w' ⟨rfl, rfl⟩)
          refine hR.mono ?_
          rintro e W3 (⟨rfl, hJ3, hk3⟩ | ⟨rfl, hJx3⟩)
          · have HJ3 := hid hJ3
            have HK3 := hid hk3
            clear hJ3 hk3
            gi_wp2
            rw [HD.out]
            go_roundw
            case rel =>
              refine ⟨lft &&& (lft - 1), m0 + 1, rfl, by omega, by omega, fun m hm => ?_, ?_, HK3.out.1.trans HPS2.out, HK3.out.2.trans HT2.out⟩
              · obtain ⟨hc2, hc3, hdl⟩ := HC.out
                rw [hdl]
                by_cases he : m = m0
                · rw [if_pos he]; simp; omega
                · rw [if_neg he, HBb.out m hm]
                  by_cases hlm' : m0 + 1 ≤ m
                  · have : low ≤ m := by omega
                    simp [hlm', this]
                  · have h3 := hc3 m (by omega)
                    rw [HBb.out m hm] at h3
                    simp [hlm']
                    simpa using h3
              · rw [show 64 * k + (m0 + 1) = 64 * k + m0 + 1 by omega, HNX.out]; exact HJ3.out
            case measure => simp [intOf]; omega
          · have HJX := hid hJx3
            clear hJx3
            gi_wp2
            refine bodyPost_ret (results_none rfl _ _ _) rfl ?_
            exact ⟨⟨_, rfl⟩, .inr ⟨_, (by have := tu_prefix (bit ws) (a := 64 * k + m0 + 1) (b := 64 * ws.length) (by omega); rw [HNX.out] at this; exact this), HJX.out⟩⟩
    · obtain rfl : k = ws.length := by omega
      gi_wp2
      go_end0
      exact ⟨⟨_, rfl⟩, .inl ⟨_, rfl, hJs⟩⟩
end Go.Proofs.YtgdhaaokolfdoaaGreatDoor

/- The set of bits: All, whole. Conditions: the set lies in the world as BitsAt says, the library's table as its text lays it. -/
namespace Go.Proofs.YtgdhaaokolfdoaaGreatDoor
open Go.RowKit Go.Sg Go.Sg.Bits Go.Shelf
attribute [local go_sem] Oper.semAt_some
theorem Tryz.info3 : (Tryz.prog.info? 3).map (fun i => (i.zero, i.size, i.bytes)) = some (some (.int .i64 0), 1, 8) := by kernel_rfl
theorem all_nil (w : World) : Calls Tryz.prog 100 #[.pointer none] w fun e w' => e = .returned (.slice none 0 0) ∧ Fr (fun _ => False) w w' := by
  refine (callsIn_wide (n := 10)).1 ?_
  refine callsIn_of_wp_marks Tryz.func100 rfl trivial ?_ rfl
  simp only [Tryz.ntmps100, List.size_toArray, List.length_cons, List.length_nil, Nat.reduceAdd, Nat.reduceSub, Array.replicate_succ, Array.replicate_zero, List.push_toArray, List.append_toArray, List.nil_append, List.cons_append]
  gi_wp2
  exact nomarks_ret1 rfl ⟨rfl, (Fr.refl _ _).alloc _⟩
def HoldsT (w : World) (pre : List Int) (W : World) : Prop :=
  ∃ v, Boxed W w.heap.size 52 v ∧ W.ownsRow w.heap.size 3 1 v pre.length (pre.map (fun x => Value.int .i64 x)) ∧ True
set_option maxRecDepth 100000 in
set_option maxHeartbeats 2000000 in
theorem all_raw {w : World} {bs bw n hand : Nat} {ws : List Nat} (h : BRaw w bs bw n hand ws) (hT : Tab w) :
    Calls Tryz.prog 100 #[.pointer (some ⟨bs, 0, none⟩)] w fun e w' => ∃ v, e = .returned v ∧ Ints w' v (tu (bit ws) (64 * ws.length)) ∧ Fr (fun _ => False) w w' := by
  obtain ⟨i0, hi0, hz0, hz1, hz2⟩ := info_parts Tryz.info3
  refine (callsIn_wide (n := 10)).1 ?_
  have hr := h.room
  have hl := h.len
  have F := hid (taken_any (some ⟨bs, 0, none⟩) (w.alloc (.cells #[.slice none 0 0] 52)))
  refine callsIn_of_wp_marks Tryz.func100 rfl trivial ?_ rfl
  simp only [Tryz.ntmps100, List.size_toArray, List.length_cons, List.length_nil, Nat.reduceAdd, Nat.reduceSub, Array.replicate_succ, Array.replicate_zero, List.push_toArray, List.append_toArray, List.nil_append, List.cons_append]
  gi_wp2_with (gi_at_call 162; refine (callsIn_wide.2 F.out).mono ?_; rintro e w' ⟨rfl, rfl⟩)
  obtain ⟨W0, hW0⟩ : ∃ W0, (w.alloc (.cells #[.slice none 0 0] 52)).alloc (.cells #[.pointer (some ⟨bs, 0, none⟩)] 152) = W0 := ⟨_, rfl⟩
  have hF0 : Fr (fun _ => False) w W0 := by rw [← hW0]; exact ((Fr.refl _ w).alloc _).alloc _
  have hsz : W0.heap.size = w.heap.size + 1 + 1 := by rw [← hW0]; simp
  have hnx : W0.heap[w.heap.size]? = some (.cells #[.slice none 0 0] 52) := by rw [← hW0]; exact (heap_alloc_lt _ _ _ (by simp)).trans (heap_alloc_new _ _)
  have hbx : W0.cell? ⟨w.heap.size + 1, 0, none⟩ = some (.pointer (some ⟨bs, 0, none⟩)) := by rw [← hW0]; simp [go_sem]
  have h0 := h.fr hF0 (fun h => h) (fun h => h)
  have hT0 := hT.fr hF0 (fun h => h)
  have hbp := lt_of_heap h0.w_
  have hl0 := hT0.lt
  have hlT := hT.lt
  have hlw := lt_of_heap h.w_
  simp only [hW0]
  refine wpIn_rangeFunc_ownG (F := Fence.wide) rfl (by omega) (gf := 224) (lb := #[.pointer (some ⟨w.heap.size + 1, 0, none⟩)]) rfl trivial (enters_of Tryz.func224 (by kernel_rfl) rfl)
    (takenf_stops h0 hT0 hbx) (fun h k => ⟨k.1.trans h.1, k.2.trans h.2⟩) (fun W l o o' hl _ _ _ => ⟨heap_putObj_ne _ _ _ _ (by omega), heap_putObj_ne _ _ _ _ (by omega)⟩) (Below.refl _ _) (fun _ => rfl)
    (fun pre W => HoldsT w pre W ∧ Fr (fun _ => False) w W)
    (fun _ _ _ => False)
    (own_and ((holdsRow_own w.heap.size w.heap.size 52 3 1 (fun pre : List Int => pre.length) (fun pre => pre.map (fun x => Value.int .i64 x)) (fun _ _ => True)).from _) (own_fr (by omega)))
    (fun _ _ _ _ _ h => h.elim)
    ⟨⟨_, hnx, World.ownsRow_nil _ _ _ _, trivial⟩, hF0⟩
    (fun x => { tmps := #[.pointer (some ⟨bs, 0, none⟩), undef, .slice none 0 0, .pointer (some ⟨w.heap.size, 0, none⟩), .int .i64 x, .pointer (some ⟨bs, 0, none⟩), .bool false, .pointer (some ⟨bs, 0, none⟩), .func (.func 224) #[] #[.pointer (some ⟨w.heap.size + 1, 0, none⟩)], .int .i64 x, undef, undef, undef, undef, undef], defers := [] }) ?assign ?body ?done ?stop
  case assign =>
    intro l x W K hK
    gi_wp2
    exact hK
  case body =>
    rintro l pre x W ⟨⟨v, hv, hown, -⟩, hF⟩ hlen
    have e0 := hv.cell
    have e1 := hv.frozen
    have l1 := hv.lt
    have hsW := hF.size
    have HV := hid hv
    have HO := hid hown
    clear hv hown h0 hnx hbx
    gi_wp2_with (gi_at_builtin; refine wpListIn_append_own _ rfl (.tmp 10) (.tmp 12) 52 rfl w.heap.size 3 i0 _ 1 8 Tryz.underlying52 hi0 hz0 hz1 hz2 rfl (by decide) _ _ _ rfl (HO.out.alloc _) ⟨W.heap.size, 0, none⟩ 1 1 [.int .i64 x] rfl rfl (cell_one_new _ _ _) (by simp [Value.oneCell']) ?c3 ?c4 ?c5 ?_)
    case c3 => simp [maxLen]; omega
    case c4 => omega
    case c5 => simp; omega
    intro v1 w2 hown2 hgrow hnil
    obtain ⟨g, cap, rfl⟩ := ownsRow_succ hown2
    obtain ⟨d1, d2, d3, d4, d5⟩ := HV.out.appended (by decide) HO.out hsW (Nat.le_refl _) hown2 hgrow
    have f0 := d1.cell
    have f1 := d1.frozen
    have D2 := hid d2
    have D3 := hid d3
    clear hown2 hgrow hnil d1 d2 d3
    gi_wp2
    refine ⟨d4.from _, ⟨d5.block _ (by omega), d5.block _ (by omega)⟩, ⟨_, D2.out, by simpa using D3.out, trivial⟩, ?_⟩
    exact ⟨d5.os.trans hF.os, d5.tape.trans hF.tape, d5.output.trans hF.output, Nat.le_trans hF.size d5.size, fun b hb hn => (d5.block b hb).trans (hF.block b hb hn)⟩
  case done =>
    rintro D ys W hD rfl ⟨⟨v, hv, hown, -⟩, hF⟩ hK
    have e0 := hv.cell
    have HO := hid hown
    clear hown hv h0 hnx hbx
    gi_wp2
    have hI := ownsRow_putObj HO.out (.deferred none) hK rfl
    refine marks_ret1 (t := 2) rfl hK ⟨v, rfl, ints_of_own (base := w.heap.size) (e := 3) (by simpa [Function.comp_def] using hI), hF.putObj (fun hh => by omega) _⟩
  case stop => exact fun _ _ _ _ _ _ h => h.elim
theorem all_at {w : World} {bs bw n hand : Nat} {t : Nat → Bool} (h : BitsAt w bs bw n hand t) (hT : Tab w) :
    Calls Tryz.prog 100 #[.pointer (some ⟨bs, 0, none⟩)] w fun e w' => ∃ v, e = .returned v ∧ Ints w' v (tu t n) ∧ Fr (fun _ => False) w w' := by
  obtain ⟨ws, h, ht⟩ := h
  have e1 : bit ws = t := funext ht
  have hl := h.len
  have e2 : tu t (64 * ws.length) = tu t n := by
    have := tu_skip t n (64 * ws.length - n) (fun i h1 h2 => by rw [← ht]; exact h.pad i h1)
    rw [← this]; congr 1; omega
  refine (all_raw h hT).mono fun e w' ⟨v, he, hI, hF⟩ => ⟨v, he, ?_, hF⟩
  rw [e1, e2] at hI
  exact hI
end Go.Proofs.YtgdhaaokolfdoaaGreatDoor

/- The store: Commit. Conditions: the store lies in the world as StoreAt says. -/
namespace Go.Proofs.YtgdhaaokolfdoaaGreatDoor
open Go.RowKit Go.Sg Go.Sg.Bits Go.Sg.Clk CP
namespace SF
theorem commit_nil (w : World) : Calls Tryz.prog 37 #[.pointer none] w fun e w' => e = .returned (.tuple #[]) ∧ w = w' := by
  go_enter Tryz.func37, Tryz.ntmps37
  go_wp2
  refine bodyPost_ret (results_none rfl _ _ _) rfl ?_
  exact ⟨rfl, rfl⟩
/-- A store behind a commit. -/
def commitX (x : Sto) : Sto :=
  { x with gen := x.gen + 1, taken := fun i => x.taken i && !x.dead i, mem := fun k => if x.dead k then none else x.mem k, fresh := fun _ => false, dying := fun _ => false, dead := x.dying }
/-- Where a store's blocks lie behind a commit. -/
def Blk.next (B : Blk) (n : Nat) : Blk := { B with de := B.dy, dy := n, fr := n + 1 }
/-- A store while a commit goes through what is dead. -/
def midX (x : Sto) (f : Int → Bool) : Sto := { x with taken := fun i => x.taken i && !f i, mem := fun k => if f k then none else x.mem k }
theorem _root_.Go.Proofs.YtgdhaaokolfdoaaGreatDoor.StoreAt.frK {w w' : World} {B : Blk} {x : Sto} (h : StoreAt w B x) {k : Nat} (F : Fr (fun b => b = k) w w') (h1 : ∀ r, ¬ B.at_ r = k) (hk : ∀ c t, w.heap[k]? ≠ some (.cells c t)) : StoreAt w' B x := by
  have h4 : ∀ (g : Nat) (c' : Array Value) (t' : TypeId), w.heap[g]? = some (.cells c' t') → ¬ g = k := fun g c' t' hg e => by
    rw [e] at hg; exact hk _ _ hg
  refine ⟨F.heap h.s (h1 .s), h.dev.fr F (h1 .d) (h1 .bf) (h1 .bq) fun g c' t' h5 hg => h4 g c' t' hg, h.bits.fr F (h1 .bs) (h1 .bw), h.fr.fr F (h1 .fr), h.dy.fr F (h1 .dy), h.de.fr F (h1 .de), h.mem.fr F (h1 .bc) (h1 .bp) (h1 .bm), fun k p hp => ?_, h.ne, h.ge, h.rg, h.inr⟩
  obtain ⟨bs, hb, hl⟩ := h.load k p hp
  exact ⟨bs, hb.fr F fun b c hc => h4 b c 5 hc, hl⟩
theorem ranges_fr {H : Type} {P : Program} {K : TypeId} {R : Value → Option (DataW H × List MemPlace)} {S : Nat → Prop} {w w' : World} {b r n : Nat} {D : DataW H} {left : Lit → Bool} {cnt : Nat} (h : w.ranges P K R b r n D left cnt) (F : Fr S w w') (h1 : ¬ S b) (h2 : ¬ S r) : w'.ranges P K R b r n D left cnt := by
  obtain ⟨es, clock, since, seen, c0, hb, Ft, hs, hD, hr, rest⟩ := h
  exact ⟨es, clock, since, seen, c0, F.heap hb h1, Ft, hs, hD, F.heap hr h2, rest⟩
theorem plainElem_bool_inv {H : Type} {P : Program} {e : TypeId} (h4 : P.underlying e = some .bool) {v : Value} {y : DataW H × List MemPlace} (h : plainElem (H := H) P e v = some y) : ∃ c, v = .bool c ∧ y.1 = .lit (.bool c) := by
  unfold plainElem at h
  rw [h4] at h
  cases v with
  | bool c =>
    simp only [Option.some.injEq] at h
    exact ⟨c, rfl, by rw [← h]⟩
  | _ => simp at h
theorem setD_at {H : Type} (l : List Ent) (k : Lit) (z : DataW H) : (setD l).atKey k z = z ∨ (setD l).atKey k z = boolD := by
  rw [setD, DataW.atKey]
  split
  · rename_i p hp
    right
    have := List.mem_of_find?_eq_some hp
    obtain ⟨e, _, rfl⟩ := List.mem_map.1 ((foldr_perm _).mem_iff.1 this)
    rfl
  · exact .inl rfl
/-- The step of a range over a set of numbers. -/
theorem wpList_next_set {w : World} {ops : Array Oper} {rest : List Oper} {o : Oper} {a : Act} {Q : Exit → Act → World → Prop} (hg : o.guard = none) (it : Operand) (hop : o.op = Op.next it false) (b r n : Nat) (l : List Ent) (left : Lit → Bool) (cnt : Nat)
    (hit : a.eval it = .pointer (some ⟨r, 0, none⟩)) (h : w.ranges Tryz.prog 3 (plainElem (H := Unit) Tryz.prog 4) b r n (setD l) left cnt)
    (hDone : cnt = 0 → (∀ kl, left kl = false) → wpList Tryz.prog ops Q rest (a.put o.dst (.tuple #[.bool false])) w)
    (hMore : ∀ (x : Int) (w' : World) (cnt' : Nat), left (.int .i64 x) = true → w'.ranges Tryz.prog 3 (plainElem (H := Unit) Tryz.prog 4) b r n (setD l) (fun z => left z && !z.sameKey (.int .i64 x)) cnt' → cnt' < cnt →
      w.grownBy w' (some r) → w'.heap.size = w.heap.size → (Instr.entry (.pointer (some ⟨r, 0, none⟩))).run Tryz.prog w' = .ok (.tuple #[.int .i64 x, .bool true]) w' → wpList Tryz.prog ops Q rest (a.put o.dst (.tuple #[.bool true, .int .i64 x, .bool true])) w') :
    wpList Tryz.prog ops Q (o :: rest) a w := by
  refine wpList_next_ranges w hg it hop 3 (Maps.int_keyed Tryz.underlying3) (plainElem (H := Unit) Tryz.prog 4) (Value.int .i64) Value.bool (fun key kl hkey => by obtain ⟨z, rfl, _⟩ := Maps.keyOf_int_inv Tryz.underlying3 hkey; exact ⟨z, rfl⟩) (fun v y hv => by obtain ⟨c, rfl, _⟩ := plainElem_bool_inv Tryz.underlying4 hv; exact ⟨c, rfl⟩) b r n _ left cnt hit h hDone ?_
  intro x c kl y w' cnt' hkey hlk hv hat hrg hlt hgr hsz hen
  obtain ⟨x', ex, rfl, hwx⟩ := Maps.keyOf_int_inv Tryz.underlying3 hkey
  cases ex
  obtain ⟨c', ec, hy⟩ := plainElem_bool_inv Tryz.underlying4 hv
  cases ec
  have hc : c = true := by
    have h1 := hat .nil
    rw [hy] at h1
    rcases setD_at (H := Unit) l (.int .i64 x) .nil with h2 | h2
    · rw [h2] at h1; cases h1
    · rw [h2] at h1; simp [boolD] at h1; exact h1
  subst hc
  exact hMore x w' cnt' hlk hrg hlt hgr hsz hen
theorem ranges_iter {H : Type} {P : Program} {K : TypeId} {R : Value → Option (DataW H × List MemPlace)} {w : World} {b r n : Nat} {D : DataW H} {left : Lit → Bool} {cnt : Nat} (h : w.ranges P K R b r n D left cnt) (c : Array Value) (t : TypeId) : w.heap[r]? ≠ some (.cells c t) := by
  obtain ⟨es, clock, since, seen, c0, hb, Ft, hs, hD, hr, rest⟩ := h
  rw [hr]; simp
set_option maxHeartbeats 2000000 in
theorem commit_at {w : World} {B : Blk} {x : Sto} (h : StoreAt w B x) (hd : ∀ k, x.dead k = true → x.taken k.toNat = true) (hg : x.gen < 2199023255552) :
    Calls Tryz.prog 37 #[B.ptr] w fun e w' => ∃ n, e = .returned (.tuple #[]) ∧ StoreAt w' (Blk.next B n) (commitX x) ∧ FrB B w w' ∧ w.heap.size ≤ n := by
  have c16 := h.sc.c16
  have ls := h.sc.lt
  obtain ⟨ld, cd, hdm, hds⟩ := h.de.ex
  have hown := set_owns (H := Unit) (P := Tryz.prog) (K := 3) (E := 4) Tryz.underlying3 Tryz.underlying4 hdm hds (fun k hk => by
    have := h.inr.2.2 k hk
    have := h.bits.room
    exact WalkArith.wf_i64 (by omega)) (by
    have := hds.len h.inr.2.2
    have := h.bits.room
    simp [maxLen]; omega)
  have HS := hid hds
  have H := hid h
  have HO := hid hown
  have HM := hid hdm
  clear hds hown hdm h
  go_enter Tryz.func37, Tryz.ntmps37
  go_wp2_with (first | (at_range; refine wpList_range_own _ rfl _ 153 rfl 3 4 (Maps.int_keyed Tryz.underlying3) Tryz.underlying153 _ B.de ld.length (setD ld) rfl HO.out ?_; intro w0 hrg0 hg0 hs0))
  go_frame
  have hlt : ∀ r, B.at_ r < w.heap.size := fun r => (H.out.heaps r).2.2.1
  have HLT := hid hlt
  have HD := hid hd
  have F00 : Fr (fun _ => False) w w0 := ⟨hg0.os, hg0.tape, hg0.output, hg0.size, fun b hb _ => hg0.block b hb (by simp)⟩
  have hS0 : StoreAt w0 B (midX x (fun k => x.dead k && !(Maps.has (setD (H := Unit) ld) (.int .i64 k)))) := by
    have e : midX x (fun k => x.dead k && !(Maps.has (setD (H := Unit) ld) (.int .i64 k))) = x := by
      have e1 : ∀ k, (x.dead k && !(Maps.has (setD (H := Unit) ld) (.int .i64 k))) = false := fun k => by
        rw [setD_has]
        cases hk : x.dead k with
        | false => rfl
        | true =>
          have : k ∈ keys ld := by
            refine Classical.byContradiction fun hn => ?_
            have := (look_none ld k).2 hn
            rw [HS.out.at_, hk] at this
            simp at this
          simp [this]
      simp [midX, e1]
    rw [e]; exact H.out.fr0 F00
  have HF00 := hid F00
  have HS0 := hid hS0
  have HR0 := hid hrg0
  clear F00 hS0 hrg0 hg0 hlt hd c16
  go_loopw [2] (fun _ wr => ∃ (left : Lit → Bool) (cnt : Nat), wr.ranges Tryz.prog 3 (plainElem (H := Unit) Tryz.prog 4) B.de w.heap.size ld.length (setD ld) left cnt ∧ (∀ k, left (.int .i64 k) = true → x.dead k = true) ∧
    StoreAt wr B (midX x (fun k => x.dead k && !left (.int .i64 k))) ∧ FrR B [.bs, .bw, .bp, .bm] w wr) (fun _ wr => wr.rangeLeft B.de w.heap.size)
  case atStart =>
    refine ⟨_, _, HR0.out, fun k hk => ?_, HS0.out, HF00.out.mono (fun _ _ h => h.elim)⟩
    rw [setD_has] at hk
    have hk' : k ∈ keys ld := by simpa using hk
    have : Sg.look ld k ≠ none := fun e => (look_none ld k).1 e hk'
    rw [HS.out.at_] at this
    cases hx : x.dead k with
    | true => rfl
    | false => rw [hx] at this; simp at this
  case round =>
    obtain ⟨left, cnt, hrg, hlf, hS, hF⟩ := hrel
    have HRG := hid hrg
    have HLF := hid hlf
    have HSr := hid hS
    have HFr := hid hF
    clear hrg hlf hS hF
    go_wp2_with (at_next; refine wpList_next_set rfl _ rfl B.de w.heap.size ld.length ld left cnt rfl HRG.out ?_ ?_)
    · intro hc0 hl0
      have hSd : StoreAt wr B (midX x x.dead) := by
        have e : (fun k => x.dead k && !left (.int .i64 k)) = x.dead := by funext k; rw [hl0]; simp
        have := HSr.out
        rw [e] at this
        exact this
      have HSd := hid hSd
      have c15 := hSd.sc.c15
      have c12 : wr.cell? ⟨B.s, 12, none⟩ = some (.int .i64 x.gen) := hSd.sc.c12
      have c14 := hSd.sc.c14
      have c16 := hSd.sc.c16
      have cz := hSd.sc.z
      have lsr := hSd.sc.lt
      have hmm := fun (t : TypeId) (W : World) => run_makeMap (P := Tryz.prog) t W
      clear hc0 hl0 hSd
      go_wp2
      go_end0
      have HF := HFr.out
      have hs := HSd.out.s
      obtain ⟨W, hW⟩ : ∃ W, ((((wr.setCell ⟨B.s, 16, none⟩ (.map (some B.dy))).setCell ⟨B.s, 15, none⟩ (.map (some wr.heap.size))).setCell ⟨B.s, 14, none⟩ (.map (some (wr.heap.size + 1)))).setCell ⟨B.s, 12, none⟩ (.int .i64 (x.gen + 1))) = W := ⟨_, rfl⟩
      have hWs : W.heap.size = wr.heap.size := by rw [← hW]; simp
      have FW : FrR B [.s] wr W := by
        rw [← hW]
        exact ((((Fr.refl _ _).setCell (a := ⟨B.s, 16, none⟩) (fun _ => ⟨.s, by simp, rfl⟩) _).setCell (a := ⟨B.s, 15, none⟩) (fun _ => ⟨.s, by simp, rfl⟩) _).setCell (a := ⟨B.s, 14, none⟩) (fun _ => ⟨.s, by simp, rfl⟩) _).setCell (a := ⟨B.s, 12, none⟩) (fun _ => ⟨.s, by simp, rfl⟩) _
      have hsW := heap_setCell_cells _ B.s 12 (.int .i64 (x.gen + 1)) (heap_setCell_cells _ B.s 14 (.map (some (wr.heap.size + 1))) (heap_setCell_cells _ B.s 15 (.map (some wr.heap.size)) (heap_setCell_cells _ B.s 16 (.map (some B.dy)) hs)))
      rw [hW] at hsW
      simp only [hW]
      have F2 : Fr (fun _ => False) W ((W.alloc (.map #[] 0)).alloc (.map #[] 0)) := ((Fr.refl _ _).alloc _).alloc _
      have hm1 : ((W.alloc (.map #[] 0)).alloc (.map #[] 0)).heap[wr.heap.size]? = some (.map #[] 0) := by
        rw [heap_alloc_lt _ _ _ (by simp; omega), ← hWs]; exact heap_alloc_new _ _
      have hm2 : ((W.alloc (.map #[] 0)).alloc (.map #[] 0)).heap[wr.heap.size + 1]? = some (.map #[] 0) := by
        have := heap_alloc_new (W.alloc (.map #[] 0)) (.map #[] 0)
        rw [World.size_alloc, hWs] at this
        exact this
      have FA : FrR B [.s] wr ((W.alloc (.map #[] 0)).alloc (.map #[] 0)) := Fr.alloc (Fr.alloc FW _) _
      have S := HSd.out.stays FA
      have hlw := HFr.out.size
      have hn := H.out.ne
      have hlt : ∀ r, B.at_ r < wr.heap.size := fun r => Nat.lt_of_lt_of_le (HLT.out r) hlw
      refine ⟨wr.heap.size, trivial, ⟨?_, S.dev (by decide) (by decide) (by decide), S.bits (by decide) (by decide), SetAt.made hm2, SetAt.made hm1, S.dy (by decide), S.mem (by decide) (by decide) (by decide), S.load, ?_, ?_, ?_, ?_⟩, ?_, hlw⟩
      · have := F2.heap hsW (fun h => h)
        simpa [commitX, Blk.next, midX] using this
      · simp only [Blk.maps, List.nodup_cons, List.mem_cons, not_or, List.not_mem_nil, not_false_eq_true, List.nodup_nil, and_true] at hn ⊢
        have e1 := hlt .bf
        have e2 := hlt .bq
        have e3 := hlt .dy
        have e4 := hlt .bm
        simp only [Blk.at_] at e1 e2 e3 e4
        obtain ⟨⟨a1, a2, a3, a4, a5⟩, ⟨b1, b2, b3, b4⟩, ⟨c1, c2, c3⟩, ⟨d1, d2⟩, e1'⟩ := hn
        refine ⟨⟨a1, ?_, ?_, a3, a5⟩, ⟨?_, ?_, b2, b4⟩, ⟨?_, ?_, ?_⟩, ⟨?_, ?_⟩, d2⟩ <;> simp only [Blk.next] <;> omega
      · have := H.out.ge
        have := H.out.dev.ge
        have := hlt .d
        simp only [Blk.at_, Blk.next] at *
        omega
      · have := H.out.rg
        simp only [commitX] at *
        omega
      · exact ⟨(fun k hk => by cases hk), (fun k hk => by cases hk), H.out.inr.2.1⟩
      · exact ((H.out.frB HF).trans (HSd.out.frB FA))
    · intro x' w1 cnt1 hlk hrg1 hlt1 hg1 hs1 hen
      have hdx := HLF.out _ hlk
      obtain ⟨hx0, hx1⟩ := H.out.inr.2.2 _ hdx
      obtain ⟨n, rfl⟩ := Int.eq_ofNat_of_zero_le hx0
      have F1 : Fr (fun b => b = w.heap.size) wr w1 := ⟨hg1.os, hg1.tape, hg1.output, hg1.size, fun b hb hn => hg1.block b hb (fun e => hn (by cases e; rfl))⟩
      have hS1 := HSr.out.frK F1 (fun r => Nat.ne_of_lt (HLT.out r)) (ranges_iter HRG.out)
      have g13 := hS1.sc.c13
      have ht : (midX x (fun k => x.dead k && !left (.int .i64 k))).taken n = true := by
        have := HD.out _ hdx
        simp [midX, hlk] at this ⊢
        exact this
      have HC := hid (clear_there hS1.bits n (by simpa [midX] using hx1) ht)
      have HS1 := hid hS1
      have HF1 := hid F1
      have HRG1 := hid hrg1
      have HLK := hid hlk
      have HDX := hid hdx
      clear hS1 F1 hrg1 hg1 hs1 hlk ht hdx
      go_wp2_with fail
      refine HC.out.mono ?_
      rintro e w2 ⟨rfl, hB2, F2⟩
      have FB2 : FrR B [.bw] w1 w2 := F2.mono (fun b _ h => ⟨.bw, by simp, h⟩)
      have S2 := HS1.out.stays FB2
      have s2 := S2.s (by decide)
      have g17 : w2.cell? ⟨B.s, 17, none⟩ = some (.pointer (some ⟨B.bc, 0, none⟩)) := by simpa using cell_of_heap s2 17
      have HDr := hid (dropmem_at (S2.mem (by decide) (by decide) (by decide)) n)
      have HB2 := hid hB2
      have HF2 := hid F2
      have HFB2 := hid FB2
      clear hB2 F2 FB2 S2 s2
      go_wp2_with fail
      refine HDr.out.mono ?_
      rintro e w3 ⟨rfl, hM3, F3⟩
      have HM3 := hid hM3
      have HF3 := hid F3
      clear hM3 F3
      go_wp2
      go_roundw
      case rel =>
        have nbw : ∀ r, B.at_ r ≠ w.heap.size := fun r => Nat.ne_of_lt (HLT.out r)
        have R2 := ranges_fr HRG1.out HF2.out (fun e => H.out.ner (r := .de) (r' := .bw) (by decide) e) (fun e => nbw .bw e.symm)
        have R3 := ranges_fr R2 HF3.out (fun e => by
          rcases e with e | e
          · exact H.out.ner (r := .de) (r' := .bp) (by decide) e
          · exact H.out.ner (r := .de) (r' := .bm) (by decide) e) (fun e => by
          rcases e with e | e
          · exact nbw .bp e.symm
          · exact nbw .bm e.symm)
        have F13 : FrR B [.bs, .bw, .bp, .bm] w1 w3 := (HFB2.out.mono (fun b _ ⟨r, hr, e⟩ => ⟨r, by simp at hr ⊢; simp [hr], e⟩)).trans HF3.out (fun b _ h => by
          rcases h with h | h
          · exact ⟨.bp, by simp, h⟩
          · exact ⟨.bm, by simp, h⟩)
        refine ⟨_, _, R3, fun k hk => HLF.out k (by simp at hk; exact hk.1), ?_, ?_⟩
        · have S3 := HS1.out.stays F13
          have eb : BitsAt w3 B.bs B.bw x.pages x.hand (upd (midX x (fun k => x.dead k && !left (.int .i64 k))).taken n false) := HB2.out.fr HF3.out (fun h => by
            rcases h with h | h
            · exact H.out.ner (r := .bs) (r' := .bp) (by decide) h
            · exact H.out.ner (r := .bs) (r' := .bm) (by decide) h) (fun h => by
            rcases h with h | h
            · exact H.out.ner (r := .bw) (r' := .bp) (by decide) h
            · exact H.out.ner (r := .bw) (r' := .bm) (by decide) h)
          have ef : ∀ k : Int, (x.dead k && !(left (.int .i64 k) && !(Lit.int .i64 k).sameKey (.int .i64 n))) = if k = n then true else (x.dead k && !left (.int .i64 k)) := fun k => by
            by_cases hk : k = n
            · subst hk; simp [Lit.sameKey, HDX.out]
            · simp [Lit.sameKey, hk]
          have e1 : upd (midX x (fun k => x.dead k && !left (.int .i64 k))).taken n false = (midX x (fun k => x.dead k && !(left (.int .i64 k) && !(Lit.int .i64 k).sameKey (.int .i64 n)))).taken := by
            funext i
            simp only [upd, midX, ef]
            by_cases hi : i = n
            · subst hi; simp
            · have : ¬ (i : Int) = n := by omega
              simp [hi, this]
          have e2 : updM (midX x (fun k => x.dead k && !left (.int .i64 k))).mem n none = (midX x (fun k => x.dead k && !(left (.int .i64 k) && !(Lit.int .i64 k).sameKey (.int .i64 n)))).mem := by
            funext k
            simp only [updM, midX, ef]
            by_cases hk : k = n
            · subst hk; simp
            · simp [hk]
          refine ⟨S3.s (by decide), S3.dev (by decide) (by decide) (by decide), by rw [← e1]; exact eb, S3.fr (by decide), S3.dy (by decide), S3.de (by decide), by rw [← e2]; exact HM3.out, fun k p hp => ?_, H.out.ne, H.out.ge, H.out.rg, H.out.inr⟩
          rw [← e2] at hp
          simp only [updM] at hp
          split at hp
          · cases hp
          · exact S3.load k p hp
        · exact (HFr.out.trans HF1.out (fun b hb h => by omega)).trans F13 (fun b _ h => h)
      case measure =>
        have nbw : ∀ r, B.at_ r ≠ w.heap.size := fun r => Nat.ne_of_lt (HLT.out r)
        have R2 := ranges_fr HRG1.out HF2.out (fun e => H.out.ner (r := .de) (r' := .bw) (by decide) e) (fun e => nbw .bw e.symm)
        have R3 := ranges_fr R2 HF3.out (fun e => by
          rcases e with e | e
          · exact H.out.ner (r := .de) (r' := .bp) (by decide) e
          · exact H.out.ner (r := .de) (r' := .bm) (by decide) e) (fun e => by
          rcases e with e | e
          · exact nbw .bp e.symm
          · exact nbw .bm e.symm)
        rw [R3.left_eq, HRG.out.left_eq]; omega
end SF
end Go.Proofs.YtgdhaaokolfdoaaGreatDoor

/- The store: Parts. Conditions: the store lies in the world as StoreAt says. -/
namespace Go.Proofs.YtgdhaaokolfdoaaGreatDoor
open Go.RowKit Go.Sg Go.Sg.Bits Go.Sg.Clk CP
theorem _root_.Go.Sg.Ints.frL {w w' : World} {v : Value} {ks : List Int} (h : Ints w v ks) {k : Nat} (F : Fr (fun b => b = k) w w') {cs : Array Value} {t : TypeId} (hk : w.heap[k]? = some (.cells cs t)) (ht : cs.all (fun c => match c with | .int .i64 _ => false | _ => true) = true) : Ints w' v ks := by
  obtain ⟨a, cap, e, h⟩ := h
  refine ⟨a, cap, e, fun i x hx => ?_⟩
  obtain ⟨g, ha, hl, hc⟩ := h i x hx
  have : ¬ g = k := by
    rintro rfl
    rw [cell_of_heap hk] at hc
    have h2 := (Array.all_eq_true (p := _)).1 ht i (Array.getElem?_eq_some_iff.1 hc).1
    have h3 := (Array.getElem?_eq_some_iff.1 hc).2
    rw [h3] at h2
    simp at h2
  exact ⟨g, ha, Nat.lt_of_lt_of_le hl F.size, (F.cell (p := ⟨g, i, none⟩) hl this).trans hc⟩
namespace SF
theorem parts_nil (w : World) : Calls Tryz.prog 32 #[.pointer none] w fun e w' => e = .returned (.agg #[.slice none 0 0, .slice none 0 0, .slice none 0 0, .slice none 0 0]) ∧ Fr (fun _ => False) w w' := by
  go_enter Tryz.func32, Tryz.ntmps32
  go_wp2
  refine bodyPost_ret (v := .agg #[.slice none 0 0, .slice none 0 0, .slice none 0 0, .slice none 0 0]) (by simp [results, go_sem, *]) rfl ⟨rfl, (Fr.refl _ _).alloc _⟩
/-- What Parts tells. -/
def PartsPost (x : Sto) (w : World) (e : Ending) (w' : World) : Prop :=
  ∃ v0 v1 v2 v3 L1 L2 L3, e = .returned (.agg #[v0, v1, v2, v3]) ∧ Ints w' v0 (tu x.taken x.pages) ∧ Ints w' v1 L1 ∧ Ints w' v2 L2 ∧ Ints w' v3 L3 ∧ (RowOf x.fresh L1 ∧ RowOf x.dying L2 ∧ RowOf x.dead L3) ∧ Fr (fun _ => False) w w'
set_option maxHeartbeats 4000000 in
theorem parts_at {w : World} {B : Blk} {x : Sto} (h : StoreAt w B x) (hT : Tab w) : Calls Tryz.prog 32 #[B.ptr] w (PartsPost x w) := by
  obtain ⟨w1, hw1⟩ : ∃ w1, w.alloc (.cells #[.slice none 0 0, .slice none 0 0, .slice none 0 0, .slice none 0 0] 54) = w1 := ⟨_, rfl⟩
  have F1 : Fr (fun _ => False) w w1 := by rw [← hw1]; exact (Fr.refl _ _).alloc _
  have b1 : w1.heap[w.heap.size]? = some (.cells #[.slice none 0 0, .slice none 0 0, .slice none 0 0, .slice none 0 0] 54) := by rw [← hw1]; exact heap_alloc_new _ _
  have h1 := h.fr0 F1
  have hT1 := hT.fr F1 (fun h => h)
  have hpg := h.bits.room.1.2
  have nsb : ¬ w.heap.size = B.s := by have := h.sc.lt; omega
  have HA := hid (fun W (F : Fr (fun _ => False) w1 W) => all_at (h1.bits.fr F (fun h => h) (fun h => h)) (hT1.fr F (fun h => h)))
  have HR1 := hid (fun W (F : Fr (fun _ => False) w1 W) => row_at (h1.fr.fr F (fun h => h)) hpg h1.inr.1)
  have HR2 := hid (fun W (F : Fr (fun _ => False) w1 W) => row_at (h1.dy.fr F (fun h => h)) hpg h1.inr.2.1)
  have HR3 := hid (fun W (F : Fr (fun _ => False) w1 W) => row_at (h1.de.fr F (fun h => h)) hpg h1.inr.2.2)
  have c13 := h1.sc.c13
  have c14 := h1.sc.c14
  have c15 := h1.sc.c15
  have c16 := h1.sc.c16
  have ls := h1.sc.lt
  have G := hid (Fr.refl (fun _ => False) w1)
  have HW := hid hw1
  have HF1 := hid F1
  have HB1 := hid b1
  clear hw1 F1 b1 h h1 hT hT1
  go_enter Tryz.func32, Tryz.ntmps32
  go_wp2
  rw [HW.out]
  go_region_held3 (fun W => W.cell? ⟨B.s, 13, none⟩ = some (.pointer (some ⟨B.bs, 0, none⟩)) ∧ W.cell? ⟨B.s, 14, none⟩ = some (.map (some B.fr)) ∧ W.cell? ⟨B.s, 15, none⟩ = some (.map (some B.dy)) ∧ W.cell? ⟨B.s, 16, none⟩ = some (.map (some B.de)))
    (go_keep)
    (first
      | (go_at_call 100; refine (HA.out _ (by first | with_reducible exact G.out.drew | with_reducible exact G.out)).mono ?_; rintro e w4 ⟨v4, rfl, ⟨a4, ca4, rfl, hi4⟩, F4⟩; have I4 := hid (show Ints w4 (.slice a4 (tu x.taken x.pages).length ca4) (tu x.taken x.pages) from ⟨a4, ca4, rfl, hi4⟩); have G := hid (Fr.trans (by first | with_reducible exact G.out.drew | with_reducible exact G.out) F4 (fun _ _ h => h)); have c13 := (F4.cell (p := ⟨B.s, 13, none⟩) ls (fun h => h)).trans c13; have c14 := (F4.cell (p := ⟨B.s, 14, none⟩) ls (fun h => h)).trans c14; have c15 := (F4.cell (p := ⟨B.s, 15, none⟩) ls (fun h => h)).trans c15; have c16 := (F4.cell (p := ⟨B.s, 16, none⟩) ls (fun h => h)).trans c16; have ls := Nat.lt_of_lt_of_le ls F4.size; clear hi4 F4)
      | (go_at_call_of 97 (Value.map (some B.fr)); refine (HR1.out _ (by first | with_reducible exact G.out.drew | with_reducible exact G.out)).mono ?_; rintro e w5 ⟨v5, L1, rfl, ⟨a5, ca5, rfl, hi5⟩, hL1, F5⟩; have I5 := hid (And.intro (show Ints w5 (.slice a5 L1.length ca5) L1 from ⟨a5, ca5, rfl, hi5⟩) hL1); have I4 := hid (Ints.fr I4.out F5 (fun _ _ h => h)); have G := hid (Fr.trans (by first | with_reducible exact G.out.drew | with_reducible exact G.out) F5 (fun _ _ h => h)); have c13 := (F5.cell (p := ⟨B.s, 13, none⟩) ls (fun h => h)).trans c13; have c14 := (F5.cell (p := ⟨B.s, 14, none⟩) ls (fun h => h)).trans c14; have c15 := (F5.cell (p := ⟨B.s, 15, none⟩) ls (fun h => h)).trans c15; have c16 := (F5.cell (p := ⟨B.s, 16, none⟩) ls (fun h => h)).trans c16; have ls := Nat.lt_of_lt_of_le ls F5.size; clear hi5 F5 hL1)
      | (go_at_call_of 97 (Value.map (some B.dy)); refine (HR2.out _ (by first | with_reducible exact G.out.drew | with_reducible exact G.out)).mono ?_; rintro e w6 ⟨v6, L2, rfl, ⟨a6, ca6, rfl, hi6⟩, hL2, F6⟩; have I6 := hid (And.intro (show Ints w6 (.slice a6 L2.length ca6) L2 from ⟨a6, ca6, rfl, hi6⟩) hL2); have I5 := hid (And.intro (Ints.fr I5.out.1 F6 (fun _ _ h => h)) I5.out.2); have I4 := hid (Ints.fr I4.out F6 (fun _ _ h => h)); have G := hid (Fr.trans (by first | with_reducible exact G.out.drew | with_reducible exact G.out) F6 (fun _ _ h => h)); have c13 := (F6.cell (p := ⟨B.s, 13, none⟩) ls (fun h => h)).trans c13; have c14 := (F6.cell (p := ⟨B.s, 14, none⟩) ls (fun h => h)).trans c14; have c15 := (F6.cell (p := ⟨B.s, 15, none⟩) ls (fun h => h)).trans c15; have c16 := (F6.cell (p := ⟨B.s, 16, none⟩) ls (fun h => h)).trans c16; have ls := Nat.lt_of_lt_of_le ls F6.size; clear hi6 F6 hL2)
      | (go_at_call_of 97 (Value.map (some B.de)); refine (HR3.out _ (by first | with_reducible exact G.out.drew | with_reducible exact G.out)).mono ?_; rintro e w7 ⟨v7, L3, rfl, ⟨a7, ca7, rfl, hi7⟩, hL3, F7⟩; have I7 := hid (And.intro (show Ints w7 (.slice a7 L3.length ca7) L3 from ⟨a7, ca7, rfl, hi7⟩) hL3); have I6 := hid (And.intro (Ints.fr I6.out.1 F7 (fun _ _ h => h)) I6.out.2); have I5 := hid (And.intro (Ints.fr I5.out.1 F7 (fun _ _ h => h)) I5.out.2); have I4 := hid (Ints.fr I4.out F7 (fun _ _ h => h)); have G := hid (Fr.trans (by first | with_reducible exact G.out.drew | with_reducible exact G.out) F7 (fun _ _ h => h)); have c13 := (F7.cell (p := ⟨B.s, 13, none⟩) ls (fun h => h)).trans c13; have c14 := (F7.cell (p := ⟨B.s, 14, none⟩) ls (fun h => h)).trans c14; have c15 := (F7.cell (p := ⟨B.s, 15, none⟩) ls (fun h => h)).trans c15; have c16 := (F7.cell (p := ⟨B.s, 16, none⟩) ls (fun h => h)).trans c16; have ls := Nat.lt_of_lt_of_le ls F7.size; obtain ⟨k0, k1, k2, k3, kz, kl⟩ := cells4 (G.out.heap HB1.out (fun h => h)); clear hi7 F7 hL3))
  go_wp2
  refine bodyPost_ret (v := .agg #[.slice a4 (tu x.taken x.pages).length ca4, .slice a5 L1.length ca5, .slice a6 L2.length ca6, .slice a7 L3.length ca7]) (by simp [results, go_sem, *]) rfl ?_
  have FF : Fr (fun b => b = w.heap.size) w7 ((((w7.setCell ⟨w.heap.size, 0, none⟩ (.slice a4 (tu x.taken x.pages).length ca4)).setCell ⟨w.heap.size, 1, none⟩ (.slice a5 L1.length ca5)).setCell ⟨w.heap.size, 2, none⟩ (.slice a6 L2.length ca6)).setCell ⟨w.heap.size, 3, none⟩ (.slice a7 L3.length ca7)) :=
    ((((Fr.refl (fun b => b = w.heap.size) _).setCell (a := ⟨w.heap.size, 0, none⟩) (fun _ => rfl) _).setCell (a := ⟨w.heap.size, 1, none⟩) (fun _ => rfl) _).setCell (a := ⟨w.heap.size, 2, none⟩) (fun _ => rfl) _).setCell (a := ⟨w.heap.size, 3, none⟩) (fun _ => rfl) _
  have hb7 := G.out.heap HB1.out (fun h => h)
  refine ⟨_, _, _, _, L1, L2, L3, rfl, I4.out.frL FF hb7 (by simp), I5.out.1.frL FF hb7 (by simp), I6.out.1.frL FF hb7 (by simp), I7.out.1.frL FF hb7 (by simp), ⟨I5.out.2, I6.out.2, I7.out.2⟩, ?_⟩
  refine (HF1.out.trans G.out (fun _ _ h => h)).trans FF (fun b hb h => by omega)
end SF
end Go.Proofs.YtgdhaaokolfdoaaGreatDoor

/- The example of chapter 13: what it needs of plans, devices, worlds. Conditions: none. -/
namespace Go.Proofs.YtgdhaaokolfdoaaGreatDoor
open Go.RowKit Go.Sg Go.Sg.Bits Go.Sg.Clk CP SF
theorem dev_fresh {w w' : World} {s z : Nat} (hs : 1 ≤ s ∧ s ≤ 16384) (hz : 96 ≤ z ∧ z ≤ 512) (h1 : w'.heap[w.heap.size]? = some (.map #[] 0)) (h2 : w'.heap[w.heap.size + 1]? = some (.map #[] 0))
    (h3 : w'.heap[w.heap.size + 1 + 1]? = some (.cells #[.int .i64 s, .int .i64 z, .map (some w.heap.size), .slice none 0 0, .map (some (w.heap.size + 1)), .int .i64 0, .int .i64 0, .bool false] 151)) :
    DevAt w' w.heap.size (w.heap.size + 2) w.heap.size (w.heap.size + 1) (Dev.fresh s z) := by
  refine ⟨⟨_, h3, [], World.ownsRow_nil _ _ _ _, rfl, fun i x y hx _ => by simp at hx⟩, ⟨[], 0, h1, by simp [keys], fun k => trivial⟩, ⟨[], 0, h2, by simp [keys], (fun e he => by cases he), (fun e he => by cases he)⟩, by omega, by omega, hs, hz⟩
theorem flashnew_ok (s z : Nat) (hs : 1 ≤ s ∧ s ≤ 16384) (hz : 96 ≤ z ∧ z ≤ 512) (w : World) :
    Calls Tryz.prog 20 #[.int .i64 s, .int .i64 z] w fun e w' => e = .returned (.pointer (some ⟨w.heap.size + 2, 0, none⟩)) ∧ DevAt w' w.heap.size (w.heap.size + 2) w.heap.size (w.heap.size + 1) (Dev.fresh s z) ∧ Fr (fun _ => False) w w' :=
  (newdev_ok s z (by omega) (by omega) (by omega) (by omega) w).mono fun e w' ⟨he, h1, h2, h3, hF⟩ => ⟨he, dev_fresh hs hz h1 h2 h3, hF⟩
def small13 : Plan8 := ⟨60, 96, 3, 2, 4, 2, 8, 0⟩
theorem small13_ok (w : World) : Calls Tryz.prog 21 #[] w fun e w' => e = .returned small13.val ∧ Fr (fun _ => False) w w' := by
  go_enter Tryz.func21, Tryz.ntmps21
  go_wp2
  refine bodyPost_ret (v := .agg #[.int .i64 60, .int .i64 96, .int .i64 3, .int .i64 2, .int .i64 4, .int .i64 2, .int .i64 8, .int .u64 0]) (by simp [results, go_sem, *]) rfl ⟨rfl, (Fr.refl _ _).alloc _⟩
theorem format_ok {w : World} {base d bf bq : Nat} {D : Dev} (h : DevAt w base d bf bq D) (hb : base ≤ w.heap.size) (c dd f dp hh s : Int) (hfit : fitsM ⟨D.sectors, D.size, c, dd, f, dp, hh, s⟩ = true) :
    Calls Tryz.prog 19 #[.pointer (some ⟨d, 0, none⟩), (Plan8.mk D.sectors D.size c dd f dp hh s).val] w (OpenPost base d bf bq ⟨D.sectors, D.size, c, dd, f, dp, hh, s⟩ 0 D w) := by
  obtain ⟨w1, hw1⟩ : ∃ w1, w.alloc (.cells #[.int .i64 D.sectors, .int .i64 D.size, .int .i64 c, .int .i64 dd, .int .i64 f, .int .i64 dp, .int .i64 hh, .int .u64 s] 31) = w1 := ⟨_, rfl⟩
  have F1 : Fr (fun _ => False) w w1 := by rw [← hw1]; exact (Fr.refl _ _).alloc _
  have H := hid (open_ok (h.fr F1 (fun h => h) (fun h => h) (fun h => h) (fun _ _ _ _ _ h => h)) (Nat.le_trans hb F1.size) c dd f dp hh s 0 (by omega) hfit)
  have HW := hid hw1
  have HF1 := hid F1
  clear h hw1 F1 hfit
  go_enter Tryz.func19, Tryz.ntmps19
  go_wp2_with fail
  rw [HW.out]
  refine H.out.mono ?_
  rintro e w2 ⟨B, hB, rfl, hS, F2⟩
  have HS := hid (And.intro hB (And.intro hS F2))
  clear hB hS F2
  go_wp2
  go_ret2
  exact ⟨B, HS.out.1, rfl, HS.out.2.1, HF1.out.trans HS.out.2.2 (fun _ _ h => h)⟩
theorem format_nil (p : Plan8) (w : World) : Calls Tryz.prog 19 #[.pointer none, p.val] w fun e w' => e = .returned (.tuple #[.pointer none, .int .i64 1]) ∧ Fr (fun _ => False) w w' := by
  have H := hid (fun W => open_nil p 0 W)
  obtain ⟨a, b, c, d, f, dp, hh, s⟩ := p
  go_enter Tryz.func19, Tryz.ntmps19
  go_wp2_with fail
  refine (H.out _).mono ?_
  rintro e w2 ⟨rfl, F2⟩
  have HF2 := hid F2
  clear F2
  go_wp2
  go_ret2
  exact ⟨rfl, ((Fr.refl _ _).alloc _).trans HF2.out (fun _ _ h => h)⟩
theorem small13_fits : fitsM ⟨(60 : Nat), (96 : Nat), 3, 2, 4, 2, 8, 0⟩ = true := by decide +kernel
theorem str_empty {w : World} (ad : Addr) (c : Nat) (dst : TypeId) (hd : Tryz.prog.underlying dst = some .string) : (convert 22 dst (.slice (some ad) 0 c)).run Tryz.prog w = .ok (.string (strOfNums [])) w := by
  rw [run_convert_bytes_string w 22 dst 5 _ 0 c Tryz.underlying22 Tryz.underlying5 hd, run_bytesToString w ad 0 c [] (by simpa using run_loadCells_list (P := Tryz.prog) w ad [] (fun j v hj => by simp at hj))]
  rfl
theorem str_at {w : World} {a : Option Addr} {n c : Nat} {bs : List Int} (h : SlB w a n c bs) (dst : TypeId) (hd : Tryz.prog.underlying dst = some .string) :
    (convert 22 dst (.slice a n c)).run Tryz.prog w = .ok (.string (strOfNums bs)) w := by
  have hl := h.by_.len
  rcases h.at_ with ⟨rfl, rfl, rfl⟩ | ⟨ad, rfl⟩
  · have : bs = [] := List.eq_nil_of_length_eq_zero hl
    rw [this]
    exact run_convert_bytes_nil w 22 5 Tryz.underlying22 Tryz.underlying5 0 0 dst hd
  · cases n with
    | zero =>
      have : bs = [] := List.eq_nil_of_length_eq_zero hl
      rw [this]
      exact str_empty ad c dst hd
    | succ n =>
    obtain ⟨b, off, e, _, _⟩ := h.by_.at_ 0 _ (List.getElem?_eq_getElem (show 0 < bs.length by omega))
    cases e
    refine run_convert_bytes_arg w 22 5 Tryz.underlying22 Tryz.underlying5 b off (n + 1) c bs hl (fun i hi => ?_) dst hd
    have hx : bs[i]? = some bs[i] := List.getElem?_eq_getElem (by omega)
    obtain ⟨b', off', e, _, hc⟩ := h.by_.at_ i _ hx
    cases e
    rw [hc]; simp [List.getD, hx]
end Go.Proofs.YtgdhaaokolfdoaaGreatDoor

/- The store in terms of its pages' contents: Write, Free, Mark, Commit, Held, Gen, Parts, Format. Conditions: the store lies in the world as StoreC says. -/
namespace Go.Proofs.YtgdhaaokolfdoaaGreatDoor
open Go.RowKit Go.Sg Go.Sg.Bits Go.Sg.Clk CP SF
/-- What Write does to a page that was made since the last commit. -/
def WFreshC (B : Blk) (y : Cs) (P : Prot) (a : Bool) (N : Nat) (n : Nat) (bs : List Int) (w : World) (e : Ending) (w' : World) : Prop :=
  ∃ err, e = .returned (.tuple #[.agg #[.int .i64 n, .int .i64 y.gen], .int .i64 err]) ∧ Went w' B y { y with cont := updC y.cont n (some (y.gen, bs)) } P a (N + 1) err ∧ FrB B w w'
theorem wfresh_c {w : World} {B : Blk} {y : Cs} {P : Prot} {a : Bool} {N : Nat} (h : StoreC w B y P a N) (n : Nat) (st : Int) {la : Option Addr} {ll lc : Nat} {bs : List Int} (hin : Inp w B la ll lc bs) (hby : ∀ b ∈ bs, 0 ≤ b ∧ b < 256) (hl : ll ≤ y.room)
    (hp : n < y.pages) (ht : y.taken n = true) (hf : y.fresh n = true) (hN : N + 1 ≤ 90000) :
    Calls Tryz.prog 26 #[B.ptr, .agg #[.int .i64 n, .int .i64 st], .slice la ll lc] w (WFreshC B y P a N n bs w) := by
  obtain ⟨⟨x, c, hS, rfl, hi⟩, hT, hb⟩ := h
  have hlen := hin.1.by_.len
  have hrg := hS.rg
  have hgen := gen_lt hS
  have hpn : P (x.first + n) = none := by
    cases hP : P (x.first + n) with
    | none => rfl
    | some v =>
      have h2 := (hi.ptk n hp (by rw [hP]; simp)).2
      have hf' : x.fresh n = true := hf
      rw [hf'] at h2; cases h2
  refine (write_fresh hS n st hin hl hp ht hf fun W p hS' hF hp => keep_dev hS' (hi.holds.frB hF).good (hi.dev.up hi.down hi.few) n p hp).mono ?_
  rintro e w' ⟨err, g, D, p, he, hg, ho, hS', hpp, F⟩
  obtain ⟨h1, h2, h3⟩ := goes hi.holds hi.dev hi.down hg ho F ⟨hpp.1, hpp.2.2⟩ (n := n) (st := x.gen) ⟨by have : n < x.pages := hp; omega, hgen, by rw [hlen]; exact hl, hby⟩ ⟨hrg.2.2.2.2, hrg.2.2.2.1, hrg.2.2.1⟩ (fun _ => hpn) (fun hc => by rw [hpp.2.1] at hc; cases hc)
  refine ⟨err, he, ?_, F⟩
  rcases h2 with ⟨rfl, hD⟩ | ⟨rfl, ha, hD⟩
  · refine .inl ⟨rfl, ⟨_, _, hS', ?_, ⟨hD, h1.1, h3 _ rfl rfl rfl rfl rfl, hi.ptk, hi.apart, hN⟩⟩, hT.fr F (fun h => by omega), hb⟩
    simp [Sto.cs, h1.2.1, h1.2.2]
  · subst ha
    exact .inr ⟨rfl, rfl, ⟨D, hS'.dev, h1.1, hD, h1.2.1, h1.2.2⟩⟩
/-- A store behind a page of the last commit got another one. -/
def Cs.moved (y : Cs) (n m : Nat) (bs : List Int) : Cs := { y.new m bs with dying := updI y.dying n true }
def WNewC (B : Blk) (y : Cs) (P : Prot) (a : Bool) (N : Nat) (n : Nat) (bs : List Int) (w : World) (e : Ending) (w' : World) : Prop :=
  ∃ m err, TakeIs y.taken y.pages y.hand m ∧ e = .returned (.tuple #[refV err m y.gen, .int .i64 err]) ∧ Went w' B y (y.moved n m bs) P a (N + 1) err ∧ FrB B w w'
theorem Apart.dies {t : Nat → Bool} {f y d : Int → Bool} (h : Apart t f y d) {n : Nat} (ht : t n = true) (hf : f n = false) (hd : d n = false) : Apart t f (updI y n true) d := by
  refine ⟨h.ft, fun k hk => ?_, h.et, fun k hk => ⟨?_, (h.fy k hk).2⟩, fun k hk => ?_⟩
  · simp only [updI] at hk
    split at hk
    · rename_i e
      have : k = n := by omega
      rw [this]; exact ht
    · exact h.yt k hk
  · simp only [updI]
    split
    · rename_i e; subst e; rw [hf] at hk; cases hk
    · exact (h.fy k hk).1
  · simp only [updI] at hk
    split at hk
    · rename_i e; subst e; exact hd
    · exact h.ye k hk
theorem wnew_c {w : World} {B : Blk} {y : Cs} {P : Prot} {a : Bool} {N : Nat} (h : StoreC w B y P a N) (n : Nat) (st : Int) {la : Option Addr} {ll lc : Nat} {bs : List Int} (hin : Inp w B la ll lc bs) (hby : ∀ b ∈ bs, 0 ≤ b ∧ b < 256) (hl : ll ≤ y.room)
    (hp : n < y.pages) (ht : y.taken n = true) (hf : y.fresh n = false) (hd : y.dead n = false) {j : Nat} (hj : j < y.pages) (hfree : y.taken j = false) (hN : N + 1 ≤ 90000) :
    Calls Tryz.prog 26 #[B.ptr, .agg #[.int .i64 n, .int .i64 st], .slice la ll lc] w (WNewC B y P a N n bs w) := by
  have hBw := h.base_le
  obtain ⟨⟨x, c, hS, rfl, hi⟩, hT, hb⟩ := h
  have hlen := hin.1.by_.len
  refine (write_new hS n st (bs := bs) hl hp ht hf fun W hS' F' => SF.new_ok hS' (hT.fr F' (fun h => h)) hb (Inp.fr0 hin F' hBw) hl hj hfree fun W' p n hn hS'' hF hp => keep_dev hS'' (((hi.holds.frB (FrB.none (B := B) F')).frB hF).good : GoodMem W' x) (hi.dev.up hi.down hi.few) n p hp).mono ?_
  rintro e w' ⟨m, err, g, D, p, hm, he, hg, ho, hS', hpp, F⟩
  have hrg := hS.rg
  have hgen := gen_lt hS
  have hpn : P (x.first + m) = none := by
    cases hP : P (x.first + m) with
    | none => rfl
    | some v =>
      have := (hi.ptk m hm.1 (by rw [hP]; simp)).1
      rw [hm.2.1] at this; cases this
  obtain ⟨h1, h2, h3⟩ := goes hi.holds hi.dev hi.down hg ho F ⟨hpp.1, hpp.2.2⟩ (n := m) (st := x.gen) ⟨by have := hm.1; omega, hgen, by rw [hlen]; exact hl, hby⟩ ⟨hrg.2.2.2.2, hrg.2.2.2.1, hrg.2.2.1⟩ (fun _ => hpn) (fun hc => by rw [hpp.2.1] at hc; cases hc)
  refine ⟨m, err, hm, he, ?_, F⟩
  rcases h2 with ⟨rfl, hD⟩ | ⟨rfl, ha, hD⟩
  · rw [moved, if_pos rfl] at hS'
    have ht' : x.taken n = true := ht
    have hmn : m ≠ n := by rintro rfl; rw [hm.2.1] at ht'; cases ht'
    refine .inl ⟨rfl, ⟨_, _, hS', ?_, ⟨hD, h1.1, h3 _ rfl rfl rfl rfl rfl, fun k hk hP => ?_, ?_, hN⟩⟩, hT.fr F (fun h => by omega), hb⟩
    · show Cs.moved (x.cs c) n m bs = _
      simp [Cs.moved, Cs.new, Sto.cs, tk, h1.2.1, h1.2.2]
    · obtain ⟨a1, a2⟩ := hi.ptk k hk hP
      have hkn : k ≠ m := by rintro rfl; rw [hm.2.1] at a1; cases a1
      exact ⟨by show upd x.taken m true k = true; simp [upd, hkn, a1], by show updI x.fresh m true k = false; simp only [updI]; rw [if_neg (by omega)]; exact a2⟩
    · refine (hi.apart.new hm.2.1).dies (n := n) ?_ ?_ hd
      · simp only [upd]; split
        · rfl
        · exact ht
      · simp only [updI]; rw [if_neg (by omega)]; exact hf
  · subst ha
    rw [moved, if_neg (by decide)] at hS'
    exact .inr ⟨rfl, rfl, ⟨D, hS'.dev, h1.1, hD, h1.2.1, h1.2.2⟩⟩
/-- A store behind a page is freed. -/
def Cs.gone (y : Cs) (n : Nat) : Cs :=
  if y.fresh n = true then { y with fresh := updI y.fresh n false, taken := upd y.taken n false, cont := updC y.cont n none } else { y with dying := updI y.dying n true }
theorem free_c {w : World} {B : Blk} {y : Cs} {P : Prot} {a : Bool} {N : Nat} (h : StoreC w B y P a N) (n : Nat) (st : Int) (hp : n < y.pages) (ht : y.taken n = true) (hy : y.dying n = false) (he : y.dead n = false) :
    Calls Tryz.prog 27 #[B.ptr, .agg #[.int .i64 n, .int .i64 st]] w fun e w' => e = .returned (.int .i64 0) ∧ StoreC w' B (y.gone n) P a N ∧ FrB B w w' := by
  obtain ⟨⟨x, c, hS, rfl, hi⟩, hT, hb⟩ := h
  refine (free_ok hS n st hp ht hy he).mono ?_
  rintro e w' ⟨rfl, hS', F⟩
  refine ⟨rfl, ⟨?_, hT.fr F (fun h => by omega), hb⟩, F⟩
  have hh := hi.holds.frB F
  by_cases hf : x.fresh n = true
  · rw [goneX, if_pos hf] at hS'
    refine ⟨_, updC c n none, hS', ?_, hi.down, hi.dev, ⟨fun k s b hk => ?_, fun k q hq => ?_, fun k s b hk hm => ?_⟩, fun k hk hP => ?_, ?_, hi.few⟩
    · show Cs.gone (x.cs c) n = _
      rw [Cs.gone, if_pos hf]
    · simp only [updC] at hk
      split at hk
      · cases hk
      · exact hh.ok k s b hk
    · simp only [updM] at hq
      split at hq
      · cases hq
      · rename_i hkn
        obtain ⟨s0, b0, a1, r⟩ := hh.mem k q hq
        exact ⟨s0, b0, by simp only [updC]; rw [if_neg hkn]; exact a1, r⟩
    · simp only [updC] at hk
      simp only [updM] at hm
      split at hk
      · cases hk
      · rename_i hkn
        rw [if_neg hkn] at hm
        exact hh.dev k s b hk hm
    · obtain ⟨a1, a2⟩ := hi.ptk k hk hP
      have hkn : k ≠ n := by rintro rfl; rw [hf] at a2; cases a2
      exact ⟨by show upd x.taken n false k = true; simp [upd, hkn, a1], by show updI x.fresh n false k = false; simp only [updI]; rw [if_neg (by omega)]; exact a2⟩
    · have hap := hi.apart
      have hne := hap.fy n hf
      refine ⟨fun k hk => ?_, fun k hk => ?_, fun k hk => ?_, fun k hk => ?_, hap.ye⟩
      · simp only [updI] at hk
        split at hk
        · cases hk
        · rename_i e; simp only [upd]; rw [if_neg (by omega)]; exact hap.ft k hk
      · simp only [upd]
        split
        · rename_i e; subst e; have hk' : x.dying k = true := hk; rw [hne.1] at hk'; cases hk'
        · exact hap.yt k hk
      · simp only [upd]
        split
        · rename_i e; subst e; have hk' : x.dead k = true := hk; rw [hne.2] at hk'; cases hk'
        · exact hap.et k hk
      · simp only [updI] at hk
        split at hk
        · cases hk
        · exact hap.fy k hk
  · have hf' : x.fresh n = false := by simpa using hf
    rw [goneX, if_neg hf] at hS'
    refine ⟨_, c, hS', ?_, hi.down, hi.dev, ⟨hh.ok, hh.mem, hh.dev⟩, hi.ptk, hi.apart.dies ht hf' he, hi.few⟩
    show Cs.gone (x.cs c) n = _
    rw [Cs.gone, if_neg hf]
/-- A store behind a commit. -/
def Cs.commit (y : Cs) : Cs :=
  { y with taken := fun i => y.taken i && !y.dead i, cont := fun k => if y.dead k then none else y.cont k, dead := y.dying, dying := fun _ => false, fresh := fun _ => false, gen := y.gen + 1 }
theorem held_c {w : World} {B : Blk} {y : Cs} {P : Prot} {a : Bool} {N : Nat} (h : StoreC w B y P a N) : Calls Tryz.prog 23 #[B.ptr] w fun e w' => ∃ c : Nat, e = .returned (.int .i64 c) ∧ c ≤ y.places ∧ w = w' := by
  obtain ⟨⟨x, c, hS, rfl, hi⟩, hT, hb⟩ := h
  exact (held_at hS).mono fun e w' ⟨c, he, hc, hw⟩ => ⟨c, he, hc.1, hw⟩
theorem gen_c {w : World} {B : Blk} {y : Cs} {P : Prot} {a : Bool} {N : Nat} (h : StoreC w B y P a N) : Calls Tryz.prog 31 #[B.ptr] w fun e w' => e = .returned (.int .i64 y.gen) ∧ w = w' := by
  obtain ⟨⟨x, c, hS, rfl, hi⟩, hT, hb⟩ := h
  exact gen_at hS
/-- What Parts tells. -/
def PartsC (y : Cs) (w : World) (e : Ending) (w' : World) : Prop :=
  ∃ v0 v1 v2 v3 L1 L2 L3, e = .returned (.agg #[v0, v1, v2, v3]) ∧ Ints w' v0 (tu y.taken y.pages) ∧ Ints w' v1 L1 ∧ Ints w' v2 L2 ∧ Ints w' v3 L3 ∧ (RowOf y.fresh L1 ∧ RowOf y.dying L2 ∧ RowOf y.dead L3) ∧ Fr (fun _ => False) w w'
theorem parts_c {w : World} {B : Blk} {y : Cs} {P : Prot} {a : Bool} {N : Nat} (h : StoreC w B y P a N) : Calls Tryz.prog 32 #[B.ptr] w (PartsC y w) := by
  obtain ⟨⟨x, c, hS, rfl, hi⟩, hT, hb⟩ := h
  exact parts_at hS hT
theorem commit_c {w : World} {B : Blk} {y : Cs} {P : Prot} {a : Bool} {N : Nat} (h : StoreC w B y P a N) (hg : y.gen < 2199023255552) (P' : Prot) (hP : ∀ s v, P' s = some v → P s = some v) (hd : ∀ k : Nat, k < y.pages → y.dead k = true → P' (y.first + k) = none) :
    Calls Tryz.prog 37 #[B.ptr] w fun e w' => ∃ n, e = .returned (.tuple #[]) ∧ StoreC w' (Blk.next B n) y.commit P' a N ∧ FrB B w w' ∧ w.heap.size ≤ n := by
  obtain ⟨⟨x, c, hS, rfl, hi⟩, hT, hb⟩ := h
  have hap := hi.apart
  refine (commit_at hS (fun k hk => ?_) hg).mono ?_
  · obtain ⟨n, rfl⟩ := Int.eq_ofNat_of_zero_le (hS.inr.2.2 k hk).1
    exact hap.et n hk
  rintro e w' ⟨n, he, hS', F, hn⟩
  have hh := hi.holds.frB F
  refine ⟨n, he, ⟨⟨_, fun k => if x.dead k then none else c k, hS', rfl, hi.down, ⟨hi.dev.acts, hi.dev.many, hi.dev.len, fun k v hv => hi.dev.prot k v (hP k v hv), hi.dev.armed, hi.dev.calm, hi.dev.byt⟩, ⟨fun k s b hk => ?_, fun k q hq => ?_, fun k s b hk hm => ?_⟩, fun k hk hne => ?_, ?_, hi.few⟩, hT.fr F (fun h => by omega), hb⟩, F, hn⟩
  · split at hk
    · cases hk
    · exact hh.ok k s b hk
  · have hq' : (if x.dead k then none else x.mem k) = some q := hq
    split at hq'
    · cases hq'
    · rename_i hdk
      obtain ⟨s0, b0, a1, a2, a3, a4, a5⟩ := hh.mem k q hq'
      refine ⟨s0, b0, by rw [if_neg hdk]; exact a1, a2, a3, fun hdi => ?_, a5⟩
      cases e : P' (x.first + k) with
      | none => exact e
      | some v => have := hP _ v e; rw [a4 hdi] at this; cases this
  · split at hk
    · cases hk
    · rename_i hdk
      have hm' : (if x.dead k then none else x.mem k) = none := hm
      rw [if_neg hdk] at hm'
      exact hh.dev k s b hk hm'
  · have hne' : P' (x.first + k) ≠ none := hne
    have h1 : P (x.first + k) ≠ none := by
      cases e : P' (x.first + k) with
      | none => exact absurd e hne'
      | some v => rw [hP _ v e]; simp
    have h2 := hi.ptk k hk h1
    refine ⟨?_, rfl⟩
    show (x.taken k && !x.dead k) = true
    cases e : x.dead k with
    | true => exact absurd (hd k hk e) hne'
    | false => simp [h2.1]
  · refine ⟨fun k hk => (by cases hk), fun k hk => (by cases hk), fun k hk => ?_, fun k hk => (by cases hk), fun k hk => by cases hk⟩
    have hk' : x.dying k = true := hk
    show (x.taken k && !x.dead k) = true
    rw [hap.yt k hk', hap.ye k hk']; rfl
theorem mark_c {w : World} {B : Blk} {y : Cs} {P : Prot} {a : Bool} {N : Nat} (h : StoreC w B y P a N) (n : Nat) (st : Int) (hp : n < y.pages) (ht : y.taken n = false) :
    Calls Tryz.prog 28 #[B.ptr, .agg #[.int .i64 n, .int .i64 st]] w fun e w' => e = .returned (.int .i64 0) ∧ StoreC w' B { y with taken := upd y.taken n true } P a N ∧ FrB B w w' := by
  obtain ⟨⟨x, c, hS, rfl, hi⟩, hT, hb⟩ := h
  refine (mark_free hS n st hp ht).mono ?_
  rintro e w' ⟨rfl, hS', F⟩
  have hh := hi.holds.frB F
  have ha := hi.apart
  have hu : ∀ k, x.taken k = true → upd x.taken n true k = true := fun k hk => by
    simp only [upd]; split
    · rfl
    · exact hk
  exact ⟨rfl, ⟨⟨_, c, hS', rfl, hi.down, hi.dev, ⟨hh.ok, hh.mem, hh.dev⟩, fun k hk hP => ⟨hu k (hi.ptk k hk hP).1, (hi.ptk k hk hP).2⟩, ⟨fun k hk => hu k (ha.ft k hk), fun k hk => hu k (ha.yt k hk), fun k hk => hu k (ha.et k hk), ha.fy, ha.ye⟩, hi.few⟩, hT.fr F (fun h => by omega), hb⟩, F⟩
/-- A store that is opened, as its callers know it. -/
def openY (p : Plan8) (gen : Nat) (D : Dev) (c : Cont) : Cs := (openX p gen D).cs c
theorem open_is {w : World} {B : Blk} {p : Plan8} {gen : Nat} {D : Dev} (hS : StoreAt w B (openX p gen D)) (hT : Tab w) (hb : 0 < B.base) {a : Bool} {N : Nat} (hd : DevOk D (fun _ => none) a N) (hdn : D.down = false) (hN : N ≤ 90000) (c : Cont)
    (hc : ∀ k st bs, c k = some (st, bs) → CntOk (layM p).pages.toNat (D.size - 19) k st bs ∧ D.sec ((layM p).page + k) = buildM D.size 2 k.toNat st bs) : StoreC w B (openY p gen D c) (fun _ => none) a N := by
  refine ⟨⟨_, c, hS, rfl, hdn, hd, ⟨fun k st bs hk => (hc k st bs hk).1, fun k q hq => (by cases hq), fun k st bs hk _ => (hc k st bs hk).2⟩, fun k _ hP => absurd rfl hP, ⟨fun k hk => (by cases hk), fun k hk => (by cases hk), fun k hk => (by cases hk), fun k hk => (by cases hk), fun k hk => by cases hk⟩, hN⟩, hT, hb⟩
theorem fresh_ok (s z : Nat) : DevOk (Dev.fresh s z) (fun _ => none) false 0 := ⟨Nat.le_refl _, Nat.le_refl _, fun y hy => (by cases hy), fun k bs h => (by cases h), (by show (0 : Nat) ≤ _; omega), fun _ => rfl, ⟨fun y hy => (by cases hy), fun k bs h => by cases h⟩⟩
theorem format_c {w : World} {base d bf bq s z : Nat} (h : DevAt w base d bf bq (Dev.fresh s z)) (hb : base ≤ w.heap.size) (hT : Tab w) (h0 : 0 < base) (c dd f dp hh sd : Int) (hfit : fitsM ⟨s, z, c, dd, f, dp, hh, sd⟩ = true) :
    Calls Tryz.prog 19 #[.pointer (some ⟨d, 0, none⟩), (Plan8.mk s z c dd f dp hh sd).val] w fun e w' => ∃ B : Blk, (B.base = base ∧ B.d = d ∧ B.bf = bf ∧ B.bq = bq) ∧ e = .returned (.tuple #[B.ptr, .int .i64 0]) ∧
      StoreC w' B (openY ⟨s, z, c, dd, f, dp, hh, sd⟩ 0 (Dev.fresh s z) (fun _ => none)) (fun _ => none) false 0 ∧ Fr (fun _ => False) w w' :=
  (format_ok h hb c dd f dp hh sd hfit).mono fun e w' ⟨B, hB, he, hS, F⟩ => ⟨B, hB, he, open_is hS (hT.fr F (fun h => h)) (by rw [hB.1]; exact h0) (fresh_ok s z) rfl (by omega) _ (fun k st bs hk => by cases hk), F⟩
/-- An append to a row of one's own leaves a store alone. -/
theorem StoreC.grown {w w' : World} {B : Blk} {y : Cs} {P : Prot} {a : Bool} {N : Nat} (h : StoreC w B y P a N) {base e size n : Nat} {v : Value} {xs : List Value} (hown : w.ownsRow base e size v n xs) (he : e ∉ 5 :: mutT) (h0 : 0 < base) {o : Obj} (hg : (w.alloc o).grownBy w' v.ownBlock) : StoreC w' B y P a N := by
  have hal := heap_alloc_lt w o
  cases hv : v.ownBlock with
  | none =>
    rw [hv] at hg
    exact h.fr0 ⟨hg.os, hg.tape, hg.output, Nat.le_trans (by simp) hg.size, fun b hb _ => (hg.block b (Nat.lt_of_lt_of_le hb (by simp)) (by simp)).trans (hal b hb)⟩
  | some g =>
    have hlt := hown.lt g hv
    obtain ⟨_, ⟨rfl, _⟩ | ⟨g', cap, cur, rfl, hb, hgc, _⟩⟩ := hown
    · simp [Value.ownBlock] at hv
    · have : g' = g := by simpa [Value.ownBlock] using hv
      subst this
      rw [hv] at hg
      refine h.frL (k := g') ⟨hg.os, hg.tape, hg.output, Nat.le_trans (by simp) hg.size, fun b hb hn => (hg.block b (Nat.lt_of_lt_of_le hb (by simp)) (fun e => hn (by cases e; rfl))).trans (hal b hb)⟩ hgc he (by omega)
end Go.Proofs.YtgdhaaokolfdoaaGreatDoor

/- The example of chapter 13 is awake. Conditions: the library's table lies as its text lays it. -/
namespace Go.Proofs.YtgdhaaokolfdoaaGreatDoor
open Go.RowKit Go.Sg Go.Sg.Bits Go.Sg.Clk CP SF
theorem inp_one (w : World) (B : Blk) (x : Int) : Inp (w.alloc (.cells #[.int .u8 x] 5 (1, 2))) B (some ⟨w.heap.size, 0, none⟩) 1 1 [x] := by
  have h := heap_alloc_new w (.cells #[.int .u8 x] 5 (1, 2))
  refine ⟨⟨⟨rfl, fun i y hy => ⟨w.heap.size, 0, rfl, by simp, ?_⟩⟩, .inr ⟨_, rfl⟩⟩, fun b off e => .inr ?_⟩
  · obtain ⟨rfl, rfl⟩ : i = 0 ∧ y = x := by
      cases i with
      | zero => simp at hy; exact ⟨rfl, hy.symm⟩
      | succ i => simp at hy
    rw [cell_of_heap h]; rfl
  · cases e; exact .inr (kd_cells h)
theorem take_first {n i : Nat} {t : Nat → Bool} {hand : Nat} (h : TakeIs t n hand i) {k : Nat} (h1 : hand ≤ k) (h2 : k < n) (h3 : t k = false) (h4 : ∀ j, hand ≤ j → j < k → t j = true) : i = k := by
  obtain ⟨a, b, c | c⟩ := h
  · rcases Nat.lt_trichotomy i k with h | h | h
    · rw [h4 i c.1 h] at b; cases b
    · exact h
    · rw [c.2 k h1 h h2] at h3; cases h3
  · rw [c.1 k h1 h2 h2] at h3; cases h3
theorem row_one {f : Int → Bool} {L : List Int} (h : RowOf f L) (a : Int) (hf : ∀ k, f k = true ↔ k = a) : L = [a] := by
  obtain ⟨h1, h2⟩ := h
  have hm : ∀ k, k ∈ L ↔ k = a := fun k => (h1 k).trans (hf k)
  cases L with
  | nil => have := (hm a).2 rfl; cases this
  | cons x r =>
    obtain rfl : x = a := (hm x).1 (by simp)
    cases r with
    | nil => rfl
    | cons y r =>
      obtain rfl : y = x := (hm y).1 (by simp)
      simp at h2
theorem eql35_01 (w : World) : (binOp .eql 35 (.agg #[.int .i64 0, .int .i64 1]) (.agg #[.int .i64 0, .int .i64 1])).run Tryz.prog w = .ok (.bool true) w := by kernel_rfl
theorem eql35_12 (w : World) : (binOp .eql 35 (.agg #[.int .i64 1, .int .i64 2]) (.agg #[.int .i64 1, .int .i64 2])).run Tryz.prog w = .ok (.bool true) w := by kernel_rfl
set_option maxHeartbeats 4000000 in
set_option maxRecDepth 100000 in
theorem awake13_ok (w : World) (hT : Tab w) : Calls Tryz.prog 25 #[] w fun e w' => e = .returned (.bool true) ∧ Fr (fun _ => False) w w' := by
  have hT0 := hT.lt
  have HT := hid hT
  have H20 := hid (flashnew_ok 60 96 (by omega) (by omega) w)
  clear hT
  have kc := fun (W : World) (C : Array Value) (n c g : Nat) (hg : g = W.heap.size) => Joins.run_convert_bytes_const_at (P := Tryz.prog) W 22 5 C n c g hg Tryz.underlying22 Tryz.underlying5
  go_enter Tryz.func25, Tryz.ntmps25
  go_wp2_with fail
  refine H20.out.mono ?_
  rintro e w1 ⟨rfl, hD, F1⟩
  have HD := hid hD
  have HF1 := hid F1
  clear hD F1
  go_wp2_with fail
  refine (small13_ok _).mono ?_
  rintro e w2 ⟨rfl, F2⟩
  have HF2 := hid (HF1.out.trans F2 (fun _ _ h => h))
  have HD2 := hid (HD.out.fr F2 (fun h => h) (fun h => h) (fun h => h) (fun _ _ _ _ _ h => h))
  clear F2
  go_wp2_with fail
  have H19 : Calls Tryz.prog 19 #[.pointer (some ⟨w.heap.size + 2, 0, none⟩), small13.val] w2 (OpenPost w.heap.size (w.heap.size + 2) w.heap.size (w.heap.size + 1) small13 0 (Dev.fresh 60 96) w2) :=
    format_ok HD2.out HF2.out.size 3 2 4 2 8 0 small13_fits
  refine H19.mono ?_
  rintro e w3 ⟨B, hB, rfl, hS, F3⟩
  have HF3 := hid (HF2.out.trans F3 (fun _ _ h => h))
  have HB := hid hB.1
  have HS := hid hS
  have h0 : openX small13 0 (Dev.fresh 60 96) = openX small13 0 (Dev.fresh 60 96) := rfl
  clear hB hS F3 H19 h0
  -- the first page
  obtain ⟨w4, hw4⟩ : ∃ w4, w3.alloc (.cells #[.int .u8 97] 5 (1, 2)) = w4 := ⟨_, rfl⟩
  have F4 : Fr (fun _ => False) w3 w4 := by rw [← hw4]; exact (Fr.refl _ _).alloc _
  have hin := inp_one w3 B 97
  rw [hw4] at hin
  have hbase : B.base = w.heap.size := HB.out
  have H22 := hid (new_room (HS.out.fr0 F4) (HT.out.fr (HF3.out.trans F4 (fun _ _ h => h)) (fun h => h)) (by omega) hin (show 1 ≤ 77 by omega) (j := 0) (show 0 < 48 by omega) rfl ⟨[], (fun k hk => by cases hk), (show 0 < 8 by omega)⟩)
  have HBase := hid hbase
  have HW4 := hid hw4
  have HF4 := hid (HF3.out.trans F4 (fun _ _ h => h))
  clear hw4 F4 hin hbase
  go_wp2_with fail
  rw [HW4.out]
  refine H22.out.mono ?_
  rintro e w5 ⟨n, p1, hn, he, hS, hp, F5⟩
  obtain rfl : n = 0 := take_first hn (k := 0) (Nat.le_refl _) (show 0 < 48 by omega) rfl (fun j h1 h2 => by omega)
  have he' : e = .returned (.tuple #[.agg #[.int .i64 0, .int .i64 1], .int .i64 0]) := he
  clear he
  subst he'
  obtain ⟨x1, hx1⟩ : ∃ x1, ({ tk (openX small13 0 (Dev.fresh 60 96)) 0 with mem := updM (openX small13 0 (Dev.fresh 60 96)).mem (0 : Nat) (some p1) } : Sto) = x1 := ⟨_, rfl⟩
  rw [hx1] at hS
  have f1 : x1.pages = 48 ∧ x1.room = 77 ∧ x1.gen = 1 ∧ x1.hand = 1 ∧ x1.places = 8 ∧ x1.taken 0 = true ∧ (∀ i, 1 ≤ i → x1.taken i = false) ∧ x1.fresh 0 = true ∧ x1.mem 0 = some p1 ∧ (∀ k, k ≠ 0 → x1.mem k = none) ∧ (∀ k, x1.dead k = false) ∧ (∀ k, x1.dying k = false) := by
    rw [← hx1]
    refine ⟨rfl, rfl, rfl, rfl, rfl, rfl, fun i hi => ?_, rfl, rfl, fun k hk => ?_, fun _ => rfl, fun _ => rfl⟩
    · have : ¬ i = 0 := by omega
      simp [tk, upd, openX, this]
    · simp [updM, openX, hk]
  have HX1 := hid f1
  have HS1 := hid hS
  have HF5 := hid F5
  clear hx1 hS F5 hp hn f1
  go_wp2_with fail
  -- another load
  obtain ⟨w6, hw6⟩ : ∃ w6, w5.alloc (.cells #[.int .i64 0, .int .i64 1] 35) = w6 := ⟨_, rfl⟩
  have F6 : Fr (fun _ => False) w5 w6 := by rw [← hw6]; exact (Fr.refl _ _).alloc _
  have ba : w6.heap[w5.heap.size]? = some (.cells #[.int .i64 0, .int .i64 1] 35) := by rw [← hw6]; exact heap_alloc_new _ _
  have hs6 : w6.heap.size = w5.heap.size + 1 := by rw [← hw6]; simp
  obtain ⟨w7, hw7⟩ : ∃ w7, w6.alloc (.cells #[.int .u8 98] 5 (1, 2)) = w7 := ⟨_, rfl⟩
  have F7 : Fr (fun _ => False) w6 w7 := by rw [← hw7]; exact (Fr.refl _ _).alloc _
  have hin := inp_one w6 B 98
  rw [hw7, hs6] at hin
  have G5 := hid ((FrB.none (B := B) HF4.out).trans HF5.out)
  have H26 : Calls Tryz.prog 26 #[B.ptr, .agg #[.int .i64 0, .int .i64 1], .slice (some ⟨w5.heap.size + 1, 0, none⟩) 1 1] w7 (WFreshR B x1 0 [98] w7) :=
    wfresh_room (HS1.out.fr0 (F6.trans F7 (fun _ _ h => h))) 0 1 hin (by rw [HX1.out.2.1]; omega) (by rw [HX1.out.1]; omega) HX1.out.2.2.2.2.2.1 HX1.out.2.2.2.2.2.2.2.1 (.inl (by rw [show x1.mem ((0 : Nat) : Int) = some p1 from HX1.out.2.2.2.2.2.2.2.2.1]; rfl))
  have HW67 := hid (And.intro hw6 hw7)
  have HBA := hid (F7.heap ba (fun h => h))
  have HF7 := hid (F6.trans F7 (fun _ _ h => h))
  have HH26 := hid H26
  clear hw6 hw7 F6 F7 ba hs6 hin H26
  rw [HW67.out.1, HW67.out.2]
  refine HH26.out.mono ?_
  rintro e w8 ⟨p2, he, hS, hp, F8⟩
  have he' : e = .returned (.tuple #[.agg #[.int .i64 0, .int .i64 1], .int .i64 0]) := by rw [he, HX1.out.2.2.1]; rfl
  clear he
  subst he'
  obtain ⟨x2, hx2⟩ : ∃ x2, ({ x1 with mem := updM x1.mem (0 : Nat) (some p2) } : Sto) = x2 := ⟨_, rfl⟩
  rw [hx2] at hS
  have f2 : x2.pages = 48 ∧ x2.room = 77 ∧ x2.gen = 1 ∧ x2.hand = 1 ∧ x2.places = 8 ∧ x2.taken 0 = true ∧ (∀ i, 1 ≤ i → x2.taken i = false) ∧ (∀ k, k ≠ 0 → x2.mem k = none) ∧ (∀ k, x2.dead k = false) ∧ (∀ k, x2.dying k = false) := by
    obtain ⟨a1, a2, a3, a4, a5, a6, a7, a8, a9, a10, a11, a12⟩ := HX1.out
    rw [← hx2]
    refine ⟨a1, a2, a3, a4, a5, a6, a7, fun k hk => ?_, a11, a12⟩
    simp [updM, hk, a10]
  have HX2 := hid f2
  have HS2 := hid hS
  have HBA8 := hid (F8.heap HBA.out (by decide))
  have G8 := hid ((G5.out.trans (FrB.none HF7.out)).trans F8)
  clear hx2 hS F8 hp f2
  go_wp2_with fail
  -- the commit
  obtain ⟨w9, hw9⟩ : ∃ w9, w8.alloc (.cells #[.int .i64 0, .int .i64 1] 35) = w9 := ⟨_, rfl⟩
  have F9 : Fr (fun _ => False) w8 w9 := by rw [← hw9]; exact (Fr.refl _ _).alloc _
  have bb : w9.heap[w8.heap.size]? = some (.cells #[.int .i64 0, .int .i64 1] 35) := by rw [← hw9]; exact heap_alloc_new _ _
  have H37 := hid (commit_at (HS2.out.fr0 F9) (fun k hk => by rw [HX2.out.2.2.2.2.2.2.2.2.1] at hk; cases hk) (by rw [HX2.out.2.2.1]; omega))
  have HW9 := hid hw9
  have HBA9 := hid (F9.heap HBA8.out (fun h => h))
  have HBB9 := hid bb
  have G9 := hid (G8.out.trans (FrB.none F9))
  clear hw9 F9 bb
  rw [HW9.out]
  refine H37.out.mono ?_
  rintro e w10 ⟨nn, rfl, hS, F10, hnn⟩
  have HBA10 := hid (F10.heap HBA9.out (by decide))
  have HBB10 := hid (F10.heap HBB9.out (by decide))
  have G10 := hid (G9.out.trans F10)
  obtain ⟨B2, hB2⟩ : ∃ B2, Blk.next B nn = B2 := ⟨_, rfl⟩
  have hB2b : B2.base = B.base ∧ B2.ptr = B.ptr := by rw [← hB2]; exact ⟨rfl, rfl⟩
  obtain ⟨x3, hx3⟩ : ∃ x3, commitX x2 = x3 := ⟨_, rfl⟩
  rw [hx3, hB2] at hS
  have f3 : x3.pages = 48 ∧ x3.room = 77 ∧ x3.gen = 2 ∧ x3.hand = 1 ∧ x3.places = 8 ∧ x3.taken 0 = true ∧ (∀ i, 1 ≤ i → x3.taken i = false) ∧ (∀ k, k ≠ 0 → x3.mem k = none) ∧ (∀ k, x3.fresh k = false) ∧ (∀ k, x3.dying k = false) := by
    obtain ⟨a1, a2, a3, a4, a5, a6, a7, a8, a9, a10⟩ := HX2.out
    rw [← hx3]
    refine ⟨a1, a2, by simp [commitX, a3], a4, a5, by simp [commitX, a6, a9], fun i hi => by simp [commitX, a7 i hi], fun k hk => by simp [commitX, a8 k hk], fun _ => rfl, fun _ => rfl⟩
  have HX3 := hid f3
  have HS3 := hid hS
  have HB2 := hid hB2b
  obtain ⟨k0, k1, kz, kl⟩ := cells2 HBB10.out
  clear hB2 hB2b hx3 hS F10 hnn f3
  go_wp2_with fail
  -- another page
  obtain ⟨w11, hw11⟩ : ∃ w11, w10.alloc (.cells #[.int .u8 99] 5 (1, 2)) = w11 := ⟨_, rfl⟩
  have F11 : Fr (fun _ => False) w10 w11 := by rw [← hw11]; exact (Fr.refl _ _).alloc _
  have hin := inp_one w10 B2 99
  rw [hw11] at hin
  have hb0 : 0 < B2.base := by rw [HB2.out.1, HBase.out]; omega
  have hTb : Tab w10 := by
    have G := G10.out.ge
    rw [HBase.out] at G
    exact HT.out.fr G (fun h => absurd h (by omega))
  have H26b : Calls Tryz.prog 26 #[B.ptr, .agg #[.int .i64 0, .int .i64 1], .slice (some ⟨w10.heap.size, 0, none⟩) 1 1] w11 (WNewR B2 x3 0 [99] w11) := by
    rw [← HB2.out.2]
    exact wnew_room (HS3.out.fr0 F11) (hTb.fr F11 (fun h => h)) hb0 0 1 hin (by rw [HX3.out.2.1]; omega) (by rw [HX3.out.1]; omega) HX3.out.2.2.2.2.2.1 (HX3.out.2.2.2.2.2.2.2.2.1 0) (j := 1) (by rw [HX3.out.1]; omega) (HX3.out.2.2.2.2.2.2.1 1 (by omega))
      ⟨[0], (fun k hk => by
        by_cases h : k = 0
        · simp [h]
        · rw [HX3.out.2.2.2.2.2.2.2.1 k h] at hk; cases hk), (by rw [HX3.out.2.2.2.2.1]; simp)⟩
  have HW11 := hid hw11
  have HH26b := hid H26b
  have HTb := hid hTb
  have HF11 := hid F11
  clear hw11 F11 hin H26b hTb hb0
  rw [HW11.out]
  refine HH26b.out.mono ?_
  rintro e w12 ⟨m, p4, hm, he, hS, hp, F12⟩
  obtain rfl : m = 1 := by
    obtain ⟨a1, a2, a3, a4, a5, a6, a7, _⟩ := HX3.out
    exact take_first hm (k := 1) (by omega) (by omega) (a7 1 (by omega)) (fun j h1 h2 => by omega)
  have he' : e = .returned (.tuple #[.agg #[.int .i64 1, .int .i64 2], .int .i64 0]) := by rw [he, HX3.out.2.2.1]; rfl
  clear he
  subst he'
  obtain ⟨x4, hx4⟩ : ∃ x4, ({ tk x3 1 with mem := updM x3.mem (1 : Nat) (some p4), dying := updI x3.dying (0 : Nat) true } : Sto) = x4 := ⟨_, rfl⟩
  rw [hx4] at hS
  have f4 : x4.pages = 48 ∧ x4.mem 1 = some p4 ∧ (∀ k, x4.dying k = true ↔ k = 0) := by
    rw [← hx4]
    refine ⟨HX3.out.1, rfl, fun k => ?_⟩
    simp only [updI]
    split
    · rename_i h; simp at h; simp [h]
    · rename_i h; simp at h; simp [h, HX3.out.2.2.2.2.2.2.2.2.2]
  have HX4 := hid f4
  have HS4 := hid hS
  have HP4 := hid hp
  have F12' := F12.ge
  rw [HB2.out.1] at F12'
  have HBA12 := hid (F12.heap ((FrB.none (B := B) HF11.out).heap HBA10.out (by decide)) (by decide))
  have HBB12 := hid (F12.heap ((FrB.none (B := B) HF11.out).heap HBB10.out (by decide)) (by decide))
  have G12 := hid ((G10.out.ge.trans HF11.out (fun _ _ h => h.elim)).trans F12' (fun _ _ h => h))
  clear hx4 hS F12 F12' hp hm f4 k0 k1 kz kl
  go_wp2_with fail
  -- it is read
  obtain ⟨w13, hw13⟩ : ∃ w13, w12.alloc (.cells #[.int .i64 1, .int .i64 2] 35) = w13 := ⟨_, rfl⟩
  have F13 : Fr (fun _ => False) w12 w13 := by rw [← hw13]; exact (Fr.refl _ _).alloc _
  have bc : w13.heap[w12.heap.size]? = some (.cells #[.int .i64 1, .int .i64 2] 35) := by rw [← hw13]; exact heap_alloc_new _ _
  have H24 : Calls Tryz.prog 24 #[B.ptr, .agg #[.int .i64 1, .int .i64 2]] w13 (ReadPost B2 x4 p4 2 [99] w13) := by
    rw [← HB2.out.2]
    exact read_hit (HS4.out.fr0 F13) 1 2 (by omega) (by rw [HX4.out.1]; omega) HX4.out.2.1 (HP4.out.2.2.frB (B := B) (FrB.none F13))
  have HW13 := hid hw13
  have HH24 := hid H24
  have HBC13 := hid bc
  have HBA13 := hid (F13.heap HBA12.out (fun h => h))
  have HBB13 := hid (F13.heap HBB12.out (fun h => h))
  have G13 := hid (G12.out.trans F13 (fun _ _ h => h.elim))
  clear hw13 F13 bc H24
  rw [HW13.out]
  refine HH24.out.mono ?_
  rintro e w14 ⟨he, hS, F14⟩
  have hst : p4.stamp = 2 := by rw [HP4.out.1, HX3.out.2.2.1]; rfl
  rw [if_pos hst] at he
  obtain ⟨xa, xc, rfl, hxb⟩ := he
  have F14' := F14.ge
  rw [HB2.out.1] at F14'
  have HXB := hid hxb
  have HS14 := hid hS
  have HBA14 := hid (F14.heap HBA13.out (by decide))
  have HBB14 := hid (F14.heap HBB13.out (by decide))
  have HBC14 := hid (F14.heap HBC13.out (by decide))
  have G14 := hid (G13.out.trans F14' (fun _ _ h => h))
  have hTc : Tab w14 := by
    have G := G14.out
    rw [HBase.out] at G
    exact HT.out.fr G (fun h => absurd h (by omega))
  have H32 : Calls Tryz.prog 32 #[B.ptr] w14 (PartsPost x4 w14) := by
    rw [← HB2.out.2]
    exact parts_at HS14.out hTc
  have HH32 := hid H32
  clear hxb hS F14 F14' hst hTc H32
  go_wp2_with fail
  refine HH32.out.mono ?_
  rintro e w15 ⟨v0, v1, v2, v3, L1, L2, L3, rfl, hI0, hI1, hI2, hI3, hR, F15⟩
  obtain rfl := row_one hR.2.1 0 HX4.out.2.2
  obtain ⟨a0, c0, rfl, -⟩ := hI0
  obtain ⟨a1, c1, rfl, -⟩ := hI1
  obtain ⟨a2, c2, rfl, hi2⟩ := hI2
  obtain ⟨a3, c3, rfl, -⟩ := hI3
  obtain ⟨g, rfl, hg, hgc⟩ := hi2 0 0 rfl
  obtain ⟨w16, hw16⟩ : ∃ w16, w15.alloc (.cells #[.slice a0 (tu x4.taken x4.pages).length c0, .slice a1 L1.length c1, .slice (some ⟨g, 0, none⟩) 1 c2, .slice a3 L3.length c3] 54) = w16 := ⟨_, rfl⟩
  have F16 : Fr (fun _ => False) w15 w16 := by rw [← hw16]; exact (Fr.refl _ _).alloc _
  have bp : w16.heap[w15.heap.size]? = some (.cells #[.slice a0 (tu x4.taken x4.pages).length c0, .slice a1 L1.length c1, .slice (some ⟨g, 0, none⟩) 1 c2, .slice a3 L3.length c3] 54) := by rw [← hw16]; exact heap_alloc_new _ _
  have FA := F15.trans F16 (fun _ _ h => h)
  have G16 := hid (G14.out.trans FA (fun _ _ h => h.elim))
  obtain ⟨ka0, ka1, _, _⟩ := cells2 (FA.heap HBA14.out (fun h => h))
  obtain ⟨kb0, kb1, _, _⟩ := cells2 (FA.heap HBB14.out (fun h => h))
  obtain ⟨kc0, kc1, _, _⟩ := cells2 (FA.heap HBC14.out (fun h => h))
  have kp2 := cell_of_heap bp 2
  simp at kp2
  have kg := (F16.cell (p := ⟨g, 0, none⟩) hg (fun h => h)).trans hgc
  have hstr : (convert 22 9 (.slice xa 1 xc)).run Tryz.prog w16 = .ok (.string ⟨#[99]⟩) w16 := str_at ((HXB.out.frB (B := B) (FrB.none FA)).slb) 9 Tryz.underlying9
  have e1 := eql35_01
  have e2 := eql35_12
  have HW16 := hw16
  clear F15 F16 FA hi2 hgc hR bp hg
  go_wp2
  go_ret
  have G := G16.out
  rw [HBase.out] at G
  exact ⟨rfl, (Fr.refl (fun _ => False) w).trans G (fun b hb h => absurd h (by omega))⟩
end Go.Proofs.YtgdhaaokolfdoaaGreatDoor

/- Laws on append: a slice of bytes that may be nil is put behind one's own; rows of references. Conditions: the slices lie in the world. -/
namespace Go.Proofs.YtgdhaaokolfdoaaGreatDoor
open Go.RowKit Go.Sg
theorem own_litB (W : World) (B : Nat) (hB : B ≤ W.heap.size) (e : TypeId) (size : Nat) (v : Value) (h : v = .slice (some ⟨W.heap.size, 0, none⟩) 0 0) : (W.alloc (.cells #[] e)).ownsRow B e size v 0 [] := by
  subst h
  exact World.ownsRow_lit W #[] 0 hB (Nat.zero_le _) (by simp)
theorem slb_news {w : World} {ad : Addr} {n c : Nat} {bs : List Int} (h : SlB w (some ad) n c bs) : ∀ (j : Nat) (u : Value), (bs.map (Value.int .u8))[j]? = some u → w.cell? (ad.add j) = some u := fun j u hu => by
  rw [List.getElem?_map] at hu
  cases hx : bs[j]? with
  | none => rw [hx] at hu; cases hu
  | some x =>
    rw [hx] at hu
    cases hu
    obtain ⟨b', off', e, hb, hc⟩ := h.by_.at_ j x hx
    cases e
    rw [addr_add]
    exact hc
/-- 'append(s, x...)' of bytes, x nil or not. -/
theorem wpList_append_byts {P : Program} {w : World} {ops : Array Oper} {rest : List Oper} {o : Oper} {a : Act} {Q : Exit → Act → World → Prop} (hgd : o.guard = none) (s x : Operand) (t : TypeId)
    (ho : o.op = .call { callee := .builtin .append, args := #[s, x], argTypes := #[t, t] }) (base : Nat) (e : TypeId) (i : TypeInfo) (z : Value) (ht : P.underlying t = some (.slice e)) (hi : P.info? e = some i) (hz : i.zero = some z)
    (hsize : i.size = 1) (hby : i.bytes = 1) (hzs : z.cells.size = 1) (v : Value) (n : Nat) (xs : List Value) (hs : a.eval s = v) (hown : w.ownsRow base e 1 v n xs)
    (a' : Option Addr) (m c : Nat) (bs : List Int) (hx : a.eval x = .slice a' m c) (hsl : SlB w a' m c bs) (h6 : n + m ≤ 100000) (hbase : base ≤ w.heap.size)
    (h : ∀ v' w', w'.ownsRow base e 1 v' (n + m) (xs ++ bs.map (Value.int .u8)) → w.grownBy w' v.ownBlock → (v ≠ .slice none 0 0 → v' ≠ .slice none 0 0) → wpList P ops Q rest (a.put o.dst v') w') : wpList P ops Q (o :: rest) a w := by
  rcases hsl.at_ with ⟨rfl, rfl, rfl⟩ | ⟨ad, rfl⟩
  · have hb : bs = [] := List.eq_nil_of_length_eq_zero hsl.by_.len
    subst hb
    exact wpList_append_own_none hgd s x t ho base e i 1 ht hi v n xs hs hown hx (h v w (by simpa using hown) ⟨rfl, rfl, rfl, Nat.le_refl _, fun _ _ _ => rfl⟩ id)
  · refine wpList_append_own_at _ hgd s x t ho base e i z 1 1 ht hi hz hsize hby hzs (by decide) v n xs hs hown ad m c (bs.map (Value.int .u8)) hx (by have := hsl.by_.len; simpa using this) (slb_news hsl) (fun u hu => by obtain ⟨y, _, rfl⟩ := List.mem_map.1 hu; rfl) (by simp [maxLen]; omega) (by omega) hbase fun v' w' h1 h2 h3 _ => h v' w' h1 h2 fun hv e => hv (h3.1 e).1
theorem own_ne_nil {w : World} {base e size n : Nat} {v : Value} {xs : List Value} (h : w.ownsRow base e size v n xs) (hn : 0 < n) : v ≠ .slice none 0 0 := by
  rintro rfl
  obtain ⟨_, ⟨_, h0⟩ | ⟨g, cap, cur, e, _⟩⟩ := h
  · omega
  · cases e
/-- Bytes of one's own that are not nil are bytes that are kept. -/
theorem byv_of_own {w : World} {base n : Nat} {v : Value} {bs : List Int} (h : w.ownsRow base 5 1 v n (bs.map (Value.int .u8))) : ∃ a c, v = .slice a n c ∧ ByV w a n c bs := by
  by_cases hv : v = .slice none 0 0
  · obtain ⟨hl, ⟨_, rfl⟩ | ⟨g, cap, cur, e, _⟩⟩ := h
    · have : bs = [] := by simpa using hl
      subst this
      exact ⟨none, 0, hv, ByV.nil w⟩
    · rw [hv] at e; cases e
  · obtain ⟨g, cap, c, e, hg, hb⟩ := byts_of_own h hv
    exact ⟨_, _, e, hb, .inr ⟨g, 0, c, rfl, hg⟩⟩
end Go.Proofs.YtgdhaaokolfdoaaGreatDoor
