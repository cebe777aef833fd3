/- A pack of texts: SO, PA. Conditions: those that each text names. -/
import Derived.Test.YtgdhaaokolfdoaaGreatDoorLAJ
import Derived.Test.YtgdhaaokolfdoaaGreatDoorLAF
import Derived.Outline
import Derived.Deep.Cut
import Derived.Test.YtgdhaaokolfdoaaGreatDoorLAB
import Derived.Shelf.SlIterI.Nil
import Derived.Shelf.SortM.Plain
import Derived.Shelf.SortM.SortNone
import Derived.Ground.GgzProg
import Derived.Ground.SlgmProg
import Derived.Test.YtgdhaaokolfdoaaGreatDoorLAA
import Derived.RangeFuncBox
import Derived.Test.YtgdhaaokolfdoaaGreatDoorLAC
import Derived.Test.YtgdhaaokolfdoaaGreatDoorLAH
import Derived.Maps.RangeWalk
set_option linter.unusedVariables false
set_option linter.unusedSimpArgs false
set_option linter.unnecessarySimpa false
namespace Go.Proofs.YtgdhaaokolfdoaaGreatDoor
open Go.RowKit Go.Sg Go.Sg.Bits Go.Sg.Clk CP
theorem fits_facts {p : Plan8} (h : fitsM p = true) : (0 ≤ (layM p).page ∧ 1 ≤ (layM p).pages ∧ (layM p).pages ≤ 16384 ∧ (layM p).page + (layM p).pages = p.sectors) ∧ 8 ≤ p.memory ∧ p.memory ≤ 256 := by
  rw [fitsM, Bool.and_eq_true] at h
  obtain ⟨h1, h2⟩ := h
  obtain ⟨a1, a2, a3, a4, a5, a6, a7⟩ := of_decide_eq_true h1
  obtain ⟨b1, b2⟩ := of_decide_eq_true h2
  obtain ⟨m0, m1⟩ := mul_bd (show 0 ≤ p.regions by omega) a3.2 (show 0 ≤ p.rsectors by omega) a4.2
  have hm : (1 : Int) ≤ 2 ^ p.depth.toNat := Int.pow_pos (by omega)
  simp only [layM] at b2 ⊢
  generalize (2 : Int) ^ p.depth.toNat = many at *
  have u0 : 0 ≤ (many + (p.size - 19) / 12 - 1) / ((p.size - 19) / 12) := Int.ediv_nonneg (by omega) (by omega)
  generalize (many + (p.size - 19) / 12 - 1) / ((p.size - 19) / 12) = q at *
  generalize p.regions * p.rsectors = r at *
  omega
namespace SF
def openX (p : Plan8) (gen : Nat) (D : Dev) : Sto :=
  ⟨p, (layM p).page, (layM p).pages.toNat, D.size - 19, gen + 1, 0, fun _ => false, fun _ => false, fun _ => false, fun _ => false, fun _ => none, p.memory.toNat, D⟩
def OpenPost (base d bf bq : Nat) (p : Plan8) (gen : Nat) (D : Dev) (w : World) (e : Ending) (w' : World) : Prop :=
  ∃ B : Blk, (B.base = base ∧ B.d = d ∧ B.bf = bf ∧ B.bq = bq) ∧ e = .returned (.tuple #[B.ptr, .int .i64 0]) ∧ StoreAt w' B (openX p gen D) ∧ Fr (fun _ => False) w w'
set_option maxHeartbeats 4000000 in
set_option maxRecDepth 100000 in
theorem open_ok {w : World} {base d bf bq : Nat} {D : Dev} (h : DevAt w base d bf bq D) (hb : base ≤ w.heap.size) (c dd f dp hh s : Int) (gen : Nat) (hg : gen ≤ 1099511627776) (hfit : fitsM ⟨D.sectors, D.size, c, dd, f, dp, hh, s⟩ = true) :
    Calls Tryz.prog 30 #[.pointer (some ⟨d, 0, none⟩), (Plan8.mk D.sectors D.size c dd f dp hh s).val, .int .i64 gen] w (OpenPost base d bf bq ⟨D.sectors, D.size, c, dd, f, dp, hh, s⟩ gen D w) := by
  have HFit := hid (fun W => fit_ok ⟨D.sectors, D.size, c, dd, f, dp, hh, s⟩ W)
  rw [hfit] at HFit
  obtain ⟨lv, hd, hlo⟩ := h.dc
  have e0 := cell_of_heap hd 0
  have e1 := cell_of_heap hd 1
  simp at e0 e1
  have ld := lt_of_heap hd
  have hs1 := h.rg.2.1
  have hs2 := h.rg.2.2
  obtain ⟨w1, hw1⟩ : ∃ w1, w.alloc (.cells #[.int .i64 D.sectors, .int .i64 D.size, .int .i64 c, .int .i64 dd, .int .i64 f, .int .i64 dp, .int .i64 hh, .int .u64 s] 31) = w1 := ⟨_, rfl⟩
  have F1 : Fr (fun _ => False) w w1 := by rw [← hw1]; exact (Fr.refl _ _).alloc _
  have b1 : w1.heap[w.heap.size]? = some (.cells #[.int .i64 D.sectors, .int .i64 D.size, .int .i64 c, .int .i64 dd, .int .i64 f, .int .i64 dp, .int .i64 hh, .int .u64 s] 31) := by rw [← hw1]; exact heap_alloc_new _ _
  have lb1 := lt_of_heap b1
  have j0 := cell_of_heap b1 0
  have j1 := cell_of_heap b1 1
  have j2 := cell_of_heap b1 2
  have j3 := cell_of_heap b1 3
  have j4 := cell_of_heap b1 4
  have j5 := cell_of_heap b1 5
  have j6 := cell_of_heap b1 6
  have j7 := cell_of_heap b1 7
  simp at j0 j1 j2 j3 j4 j5 j6 j7
  have H := hid h
  have HD := hid hd
  have HLO := hid hlo
  have HW := hid hw1
  have HF1 := hid F1
  have HB1 := hid b1
  have HFT := hid hfit
  clear h hd hlo hw1 F1 b1 hfit
  go_enter Tryz.func30, Tryz.ntmps30
  go_wp2_with fail
  rw [HW.out]
  refine (HFit.out _).mono ?_
  rintro e w2 ⟨rfl, F2⟩
  have FF := hid (HF1.out.trans F2 (fun _ _ h => h))
  have b2 := hid (F2.heap HB1.out (fun h => h))
  have k0 := cell_of_heap b2.out 0
  have k1 := cell_of_heap b2.out 1
  have k2 := cell_of_heap b2.out 2
  have k3 := cell_of_heap b2.out 3
  have k4 := cell_of_heap b2.out 4
  have k5 := cell_of_heap b2.out 5
  have k6 := cell_of_heap b2.out 6
  have k7 := cell_of_heap b2.out 7
  simp at k0 k1 k2 k3 k4 k5 k6 k7
  have lb2 := lt_of_heap b2.out
  have g0 := (FF.out.cell (p := ⟨d, 0, none⟩) ld (fun h => h)).trans e0
  have g1 := (FF.out.cell (p := ⟨d, 1, none⟩) ld (fun h => h)).trans e1
  have ld2 := Nat.lt_of_lt_of_le ld FF.out.size
  clear F2 j0 j1 j2 j3 j4 j5 j6 j7 e0 e1
  have hff := fits_facts HFT.out
  simp only at hff
  generalize hlay : layM ⟨D.sectors, D.size, c, dd, f, dp, hh, s⟩ = y at hff
  obtain ⟨ya, yb, yc, yd, ye, yf, yg⟩ := y
  simp only at hff
  obtain ⟨⟨q1, q2, q3, q4⟩, q5, q6⟩ := hff
  obtain ⟨pn, rfl⟩ := Int.eq_ofNat_of_zero_le (show 0 ≤ yc by omega)
  obtain ⟨mn, rfl⟩ := Int.eq_ofNat_of_zero_le (show 0 ≤ hh by omega)
  have HQ := hid q4
  have HY := hid hlay
  clear hlay q4
  simp only [if_true, Lay.val]
  go_wp2
  obtain ⟨w3, hw3⟩ : ∃ w3, w2.alloc (.cells #[.int .i64 2, .int .i64 ya, .int .i64 yb, .int .i64 pn, .int .i64 yd, .int .i64 ye, .int .i64 yf, .int .i64 yg] 169) = w3 := ⟨_, rfl⟩
  have F23 : Fr (fun _ => False) w2 w3 := by rw [← hw3]; exact (Fr.refl _ _).alloc _
  have b3 : w3.heap[w2.heap.size]? = some (.cells #[.int .i64 2, .int .i64 ya, .int .i64 yb, .int .i64 pn, .int .i64 yd, .int .i64 ye, .int .i64 yf, .int .i64 yg] 169) := by rw [← hw3]; exact heap_alloc_new _ _
  rw [hw3]
  have m0 := (F23.cell (p := ⟨w.heap.size, 0, none⟩) lb2 (fun h => h)).trans k0
  have m1 := (F23.cell (p := ⟨w.heap.size, 1, none⟩) lb2 (fun h => h)).trans k1
  have m2 := (F23.cell (p := ⟨w.heap.size, 2, none⟩) lb2 (fun h => h)).trans k2
  have m3 := (F23.cell (p := ⟨w.heap.size, 3, none⟩) lb2 (fun h => h)).trans k3
  have m4 := (F23.cell (p := ⟨w.heap.size, 4, none⟩) lb2 (fun h => h)).trans k4
  have m5 := (F23.cell (p := ⟨w.heap.size, 5, none⟩) lb2 (fun h => h)).trans k5
  have m6 := (F23.cell (p := ⟨w.heap.size, 6, none⟩) lb2 (fun h => h)).trans k6
  have m7 := (F23.cell (p := ⟨w.heap.size, 7, none⟩) lb2 (fun h => h)).trans k7
  have x2 := cell_of_heap b3 2
  have x3 := cell_of_heap b3 3
  simp at x2 x3
  have h0 := (F23.cell (p := ⟨d, 0, none⟩) ld2 (fun h => h)).trans g0
  have h1 := (F23.cell (p := ⟨d, 1, none⟩) ld2 (fun h => h)).trans g1
  have HS := hid (fun (n : Nat) => sectors_at (w := w3.drewN n) h0)
  have HZ := hid (fun (n : Nat) => size_at (w := w3.drewN n) h1)
  have G3 := hid (FF.out.trans F23 (fun _ _ h => h))
  have lw3 := lt_of_heap b3
  have lb3 : w.heap.size < w3.heap.size := by omega
  have HB3 := hid b3
  clear k0 k1 k2 k3 k4 k5 k6 k7 g0 g1 h0 h1 F23 hw3 b3 ld2
  go_quiet (first | (go_at_call 92; exact quiet_left (HS.out _)) | (go_at_call 93; exact quiet_left (HZ.out _)))
  go_wp2
  have hwr : IntKind.i64.wrap ((gen : Int) + 1) = (gen : Int) + 1 := by rw [IntKind.wrap_i64]; omega
  have hz1 : (96 : Int) ≤ D.size := by omega
  have hz2 : (D.size : Int) ≤ 512 := by omega
  go_region_held3 (fun W => W.cell? ⟨w.heap.size, 0, none⟩ = some (.int .i64 D.sectors) ∧ W.cell? ⟨w.heap.size, 1, none⟩ = some (.int .i64 D.size) ∧ W.cell? ⟨w.heap.size, 2, none⟩ = some (.int .i64 c) ∧ W.cell? ⟨w.heap.size, 3, none⟩ = some (.int .i64 dd) ∧ W.cell? ⟨w.heap.size, 4, none⟩ = some (.int .i64 f) ∧ W.cell? ⟨w.heap.size, 5, none⟩ = some (.int .i64 dp) ∧ W.cell? ⟨w.heap.size, 6, none⟩ = some (.int .i64 mn) ∧ W.cell? ⟨w.heap.size, 7, none⟩ = some (.int .u64 s) ∧ W.cell? ⟨w2.heap.size, 2, none⟩ = some (.int .i64 yb) ∧ W.cell? ⟨w2.heap.size, 3, none⟩ = some (.int .i64 pn))
    (go_keep)
    ((go_at_call 94; refine (room_ok _ hz1 hz2 _).mono ?_; rintro e w5 ⟨rfl, rfl⟩))
  clear hwr
  go_wp2_with fail
  obtain ⟨w6, hw6⟩ : ∃ w6, (w3.drewN (nq + 1)).alloc (.cells #[.pointer (some ⟨d, 0, none⟩), .int .i64 D.sectors, .int .i64 D.size, .int .i64 c, .int .i64 dd, .int .i64 f, .int .i64 dp, .int .i64 mn, .int .u64 s, .int .i64 yb, .int .i64 pn, .int .i64 (D.size - 19), .int .i64 (gen + 1), .pointer none, .map none, .map none, .map none, .pointer none] 156) = w6 := ⟨_, rfl⟩
  have F36 : Fr (fun _ => False) w3 w6 := by rw [← hw6]; exact ((Fr.refl _ _).drewN _).alloc _
  have s6 : w6.heap[w3.heap.size]? = some (.cells #[.pointer (some ⟨d, 0, none⟩), .int .i64 D.sectors, .int .i64 D.size, .int .i64 c, .int .i64 dd, .int .i64 f, .int .i64 dp, .int .i64 mn, .int .u64 s, .int .i64 yb, .int .i64 pn, .int .i64 (D.size - 19), .int .i64 (gen + 1), .pointer none, .map none, .map none, .map none, .pointer none] 156) := by
    rw [← hw6]; exact heap_alloc_new (w3.drewN (nq + 1)) _
  rw [hw6]
  refine (newbits_ok pn (by omega) (by omega) _).mono ?_
  rintro e w7 ⟨bs, bw, rfl, hbits, hbs, hbw, F7⟩
  have l6 := lt_of_heap s6
  have s7 := F7.heap s6 (fun h => h)
  have c13 := cell_of_heap s7 13
  simp at c13
  have cz7 : ∀ o, w7.frozen? ⟨w3.heap.size, o, none⟩ = false := fun o => frozen_of_heap s7 o
  have l7 := lt_of_heap s7
  have p6 := ((F36.trans F7 (fun _ _ h => h)).cell (p := ⟨w.heap.size, 6, none⟩) lb3 (fun h => h)).trans m6
  have n63 : ¬ w3.heap.size = w.heap.size := by omega
  have G7 := hid (G3.out.trans (F36.trans F7 (fun _ _ h => h)) (fun _ _ h => h))
  have HBI := hid hbits
  have HS7 := hid s7
  have HN := hid (And.intro hbs hbw)
  have HF7s := F7.size
  have HL6 := hid l6
  clear hw6 F36 s6 hbits F7 s7 m0 m1 m2 m3 m4 m5 m6 m7 x2 x3 hbs hbw HF7s
  go_wp2_with fail
  obtain ⟨w8, hw8⟩ : ∃ w8, w7.setCell ⟨w3.heap.size, 13, none⟩ (.pointer (some ⟨bs, 0, none⟩)) = w8 := ⟨_, rfl⟩
  have F78 : Fr (fun b => b = w3.heap.size) w7 w8 := by rw [← hw8]; exact (Fr.refl (fun b => b = w3.heap.size) _).setCell (a := ⟨w3.heap.size, 13, none⟩) (fun _ => rfl) _
  have s8 : w8.heap[w3.heap.size]? = some (.cells #[.pointer (some ⟨d, 0, none⟩), .int .i64 D.sectors, .int .i64 D.size, .int .i64 c, .int .i64 dd, .int .i64 f, .int .i64 dp, .int .i64 mn, .int .u64 s, .int .i64 yb, .int .i64 pn, .int .i64 (D.size - 19), .int .i64 (gen + 1), .pointer (some ⟨bs, 0, none⟩), .map none, .map none, .map none, .pointer none] 156) := by
    rw [← hw8, heap_setCell_cells _ _ _ _ HS7.out]; simp
  rw [hw8]
  refine (newmem_ok mn (by omega) (by omega) _).mono ?_
  rintro e w9 ⟨rfl, hmem, F9⟩
  have HL8 := hid (lt_of_heap s8)
  have s9 := F9.heap s8 (fun h => h)
  have c14 := cell_of_heap s9 14
  have c15 := cell_of_heap s9 15
  have c16 := cell_of_heap s9 16
  have c17 := cell_of_heap s9 17
  simp at c14 c15 c16 c17
  have cz9 : ∀ o, w9.frozen? ⟨w3.heap.size, o, none⟩ = false := fun o => frozen_of_heap s9 o
  have l9 := lt_of_heap s9
  have HM := hid hmem
  have HS9 := hid s9
  have H89 := hid (And.intro F78 F9)
  have hmm := fun (t : TypeId) (W : World) => run_makeMap (P := Tryz.prog) t W
  clear hw8 F78 s8 hmem s9 F9 c13 cz7 p6
  go_upto_region 11 with (fail)
  obtain ⟨w10, hw10⟩ : ∃ w10, w9.setCell ⟨w3.heap.size, 17, none⟩ (.pointer (some ⟨w8.heap.size + 2, 0, none⟩)) = w10 := ⟨_, rfl⟩
  have F910 : Fr (fun b => b = w3.heap.size) w9 w10 := by rw [← hw10]; exact (Fr.refl (fun b => b = w3.heap.size) _).setCell (a := ⟨w3.heap.size, 17, none⟩) (fun _ => rfl) _
  have s10 : w10.heap[w3.heap.size]? = some (.cells #[.pointer (some ⟨d, 0, none⟩), .int .i64 D.sectors, .int .i64 D.size, .int .i64 c, .int .i64 dd, .int .i64 f, .int .i64 dp, .int .i64 mn, .int .u64 s, .int .i64 yb, .int .i64 pn, .int .i64 (D.size - 19), .int .i64 (gen + 1), .pointer (some ⟨bs, 0, none⟩), .map none, .map none, .map none, .pointer (some ⟨w8.heap.size + 2, 0, none⟩)] 156) := by
    rw [← hw10, heap_setCell_cells _ _ _ _ HS9.out]; simp
  rw [hw10]
  have d14 := cell_of_heap s10 14
  have d15 := cell_of_heap s10 15
  have d16 := cell_of_heap s10 16
  simp at d14 d15 d16
  have cz10 : ∀ o, w10.frozen? ⟨w3.heap.size, o, none⟩ = false := fun o => frozen_of_heap s10 o
  have l10 := lt_of_heap s10
  have HS10 := hid s10
  have HF910 := hid F910
  have HSZ := hid (show w10.heap.size = w9.heap.size by rw [← hw10]; simp)
  have lw3' : w2.heap.size < w3.heap.size := lw3
  clear hw10 F910 s10 c14 c15 c16 c17 cz9 l9 l7 l6 lb1 lb2 lb3 lw3 n63
  have HL3 := hid lw3'
  generalize w3.heap.size = S at *
  obtain ⟨w11, ha⟩ : ∃ w11, ((w10.alloc (.map #[] 0)).alloc (.map #[] 0)).alloc (.map #[] 0) = w11 := ⟨_, rfl⟩
  obtain ⟨z1, z2, z3, F1011⟩ := heap_three ha
  have HZ1 := hid (And.intro z1 (And.intro z2 z3))
  have s11 := F1011.heap HS10.out (fun h => h)
  have k14 := cell_of_heap s11 14
  have k15 := cell_of_heap s11 15
  have k16 := cell_of_heap s11 16
  simp at k14 k15 k16
  have cz11 : ∀ o, w11.frozen? ⟨S, o, none⟩ = false := fun o => frozen_of_heap s11 o
  have HS11 := hid s11
  have HF11 := hid F1011
  clear z1 z2 z3 s11 F1011 d14 d15 d16 cz10
  go_wp2
  go_ret2
  have hS := HS11.out
  have s12 := heap_setCell_cells _ S 16 (.map (some (w10.heap.size + 2))) (heap_setCell_cells _ S 15 (.map (some (w10.heap.size + 1))) (heap_setCell_cells _ S 14 (.map (some w10.heap.size)) hS))
  have F1112 : Fr (fun b => b = S) w11 (((w11.setCell ⟨S, 14, none⟩ (.map (some w10.heap.size))).setCell ⟨S, 15, none⟩ (.map (some (w10.heap.size + 1)))).setCell ⟨S, 16, none⟩ (.map (some (w10.heap.size + 2)))) :=
    (((Fr.refl (fun b => b = S) _).setCell (a := ⟨S, 14, none⟩) (fun _ => rfl) _).setCell (a := ⟨S, 15, none⟩) (fun _ => rfl) _).setCell (a := ⟨S, 16, none⟩) (fun _ => rfl) _
  show OpenPost base d bf bq _ gen D w _ (((w11.setCell ⟨S, 14, none⟩ (.map (some w10.heap.size))).setCell ⟨S, 15, none⟩ (.map (some (w10.heap.size + 1)))).setCell ⟨S, 16, none⟩ (.map (some (w10.heap.size + 2))))
  generalize (((w11.setCell ⟨S, 14, none⟩ (.map (some w10.heap.size))).setCell ⟨S, 15, none⟩ (.map (some (w10.heap.size + 1)))).setCell ⟨S, 16, none⟩ (.map (some (w10.heap.size + 2)))) = W at *
  obtain ⟨z1, z2, z3⟩ := HZ1.out
  have hl3 := HL3.out
  have hl6 := HL6.out
  have hl8 := HL8.out
  have hff := FF.out.size
  have hsz := HSZ.out
  have hml := HM.out.lts
  have hbb := HN.out
  obtain ⟨dl1, dl2, dl3⟩ := H.out.lts
  have dne := H.out.ne
  have dge := H.out.ge
  have F9W : Fr (fun b => b = S) w9 W := (HF910.out.trans HF11.out (fun _ _ h => h.elim)).trans F1112 (fun _ _ h => h)
  have F7W : Fr (fun b => b = S) w7 W := (H89.out.1.trans H89.out.2 (fun _ _ h => h.elim)).trans F9W (fun _ _ h => h)
  have ex : openX ⟨D.sectors, D.size, c, dd, f, dp, mn, s⟩ gen D = ⟨⟨D.sectors, D.size, c, dd, f, dp, mn, s⟩, yb, pn, D.size - 19, gen + 1, 0, fun _ => false, fun _ => false, fun _ => false, fun _ => false, fun _ => none, mn, D⟩ := by
    simp [openX, HY.out]
  have e11 : ((D.size : Int) - 19) = ((D.size - 19 : Nat) : Int) := by omega
  refine ⟨⟨base, S, d, bf, bq, bs, bw, w10.heap.size, w10.heap.size + 1, w10.heap.size + 2, w8.heap.size + 2, w8.heap.size, w8.heap.size + 1⟩, ⟨rfl, rfl, rfl, rfl⟩, rfl, ?_, ?_⟩
  · rw [ex]
    refine ⟨?_, (H.out.fr G7.out (fun h => h) (fun h => h) (fun h => h) (fun _ _ _ _ _ h => h)).fr F7W (by omega) (by omega) (by omega) ?_, HBI.out.fr F7W (by omega) (by omega), SetAt.made (F1112.heap z1 (show ¬ w10.heap.size = S by omega)), SetAt.made (F1112.heap z2 (show ¬ w10.heap.size + 1 = S by omega)), SetAt.made (F1112.heap z3 (show ¬ w10.heap.size + 1 + 1 = S by omega)), HM.out.fr F9W (by omega) (by omega) (by omega), (fun k p hp => by cases hp), ?_, ?_, ?_, ?_⟩
    · simpa [e11] using s12
    · intro g c' t ht hg e
      rw [e, HS7.out] at hg
      cases hg
      rcases ht with h | h | h <;> cases h
    · simp only [Blk.maps, List.nodup_cons, List.mem_cons, not_or, List.not_mem_nil, not_false_eq_true, List.nodup_nil, and_true]
      omega
    · simp only
      omega
    · have := HQ.out
      simp only at *
      omega
    · exact ⟨(fun k hk => by cases hk), (fun k hk => by cases hk), (fun k hk => by cases hk)⟩
  · exact G7.out.trans F7W (fun b hb h => by omega)
end SF
end Go.Proofs.YtgdhaaokolfdoaaGreatDoor

namespace Go.Proofs.YtgdhaaokolfdoaaGreatDoor
open Go.Proofs Go.RowKit Go.Maps Go.Sort Go.Shelf Go.Sg
end Go.Proofs.YtgdhaaokolfdoaaGreatDoor
namespace Go.Sg.Bits
open Go.RowKit
end Go.Sg.Bits
namespace Go.Proofs.YtgdhaaokolfdoaaGreatDoor
open Go.RowKit Go.Sg Go.Sg.Bits Go.Shelf
attribute [local go_sem] Oper.semAt_some
abbrev encT (x : Int) : Array Value := #[.int .i64 x]
end Go.Proofs.YtgdhaaokolfdoaaGreatDoor

namespace Go.Proofs.YtgdhaaokolfdoaaGreatDoor
open Go.RowKit Go.Sg Go.Sg.Bits Go.Shelf
attribute [local go_sem] Oper.semAt_some
theorem Tryz.info3 : (Tryz.prog.info? 3).map (fun i => (i.zero, i.size, i.bytes)) = some (some (.int .i64 0), 1, 8) := by kernel_rfl
end Go.Proofs.YtgdhaaokolfdoaaGreatDoor

namespace Go.Proofs.YtgdhaaokolfdoaaGreatDoor
open Go.RowKit Go.Sg Go.Sg.Bits Go.Sg.Clk CP
namespace SF
theorem _root_.Go.Proofs.YtgdhaaokolfdoaaGreatDoor.StoreAt.frK {w w' : World} {B : Blk} {x : Sto} (h : StoreAt w B x) {k : Nat} (F : Fr (fun b => b = k) w w') (h1 : ∀ r, ¬ B.at_ r = k) (hk : ∀ c t, w.heap[k]? ≠ some (.cells c t)) : StoreAt w' B x := by
  have h4 : ∀ (g : Nat) (c' : Array Value) (t' : TypeId), w.heap[g]? = some (.cells c' t') → ¬ g = k := fun g c' t' hg e => by
    rw [e] at hg; exact hk _ _ hg
  refine ⟨F.heap h.s (h1 .s), h.dev.fr F (h1 .d) (h1 .bf) (h1 .bq) fun g c' t' h5 hg => h4 g c' t' hg, h.bits.fr F (h1 .bs) (h1 .bw), h.fr.fr F (h1 .fr), h.dy.fr F (h1 .dy), h.de.fr F (h1 .de), h.mem.fr F (h1 .bc) (h1 .bp) (h1 .bm), fun k p hp => ?_, h.ne, h.ge, h.rg, h.inr⟩
  obtain ⟨bs, hb, hl⟩ := h.load k p hp
  exact ⟨bs, hb.fr F fun b c hc => h4 b c 5 hc, hl⟩
end SF
end Go.Proofs.YtgdhaaokolfdoaaGreatDoor
