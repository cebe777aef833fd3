/- A pack of texts: SO, PA, BA, BB, SC. Conditions: those that each text names. -/
import Derived.Test.YtgdhaaokolfdoaaGreatDoorWAO
import Derived.Test.YtgdhaaokolfdoaaGreatDoorWAH
import Derived.Outline
import Derived.Deep.Cut
import Derived.Test.YtgdhaaokolfdoaaGreatDoorWAB
import Derived.Test.YtgdhaaokolfdoaaGreatDoorWAC
import Derived.Shelf.SlIterI.Nil
import Derived.Shelf.SortM.Plain
import Derived.Shelf.SortM.SortNone
import Derived.Ground.GgzProg
import Derived.Ground.SlgmProg
import Derived.Test.YtgdhaaokolfdoaaGreatDoorWAA
import Derived.RangeFuncBox
import Derived.Test.YtgdhaaokolfdoaaGreatDoorWAD
import Derived.Test.YtgdhaaokolfdoaaGreatDoorWAK
import Derived.Maps.RangeWalk
set_option linter.unusedVariables false
set_option linter.unusedSimpArgs false
set_option linter.unnecessarySimpa false
/- The store: Open. Conditions: the device lies in the world as DevAt says. -/
namespace Go.Proofs.YtgdhaaokolfdoaaGreatDoor
open Go.RowKit Go.Sg Go.Sg.Bits Go.Sg.Clk CP
theorem fits_facts {p : Plan8} (h : fitsM p = true) : (0 ≤ (layM p).page ∧ 1 ≤ (layM p).pages ∧ (layM p).pages ≤ 16384 ∧ (layM p).page + (layM p).pages = p.sectors) ∧ 8 ≤ p.memory ∧ p.memory ≤ 256 := by
  rw [fitsM, Bool.and_eq_true] at h
  obtain ⟨h1, h2⟩ := h
  obtain ⟨a1, a2, a3, a4, a5, a6, a7⟩ := of_decide_eq_true h1
  obtain ⟨b1, b2⟩ := of_decide_eq_true h2
  obtain ⟨m0, m1⟩ := mul_bd (show 0 ≤ p.regions by omega) a3.2 (show 0 ≤ p.rsectors by omega) a4.2
  have hm : (1 : Int) ≤ 2 ^ p.depth.toNat := Int.pow_pos (by omega)
  simp only [layM] at b2 ⊢
  generalize (2 : Int) ^ p.depth.toNat = many at *
  have u0 : 0 ≤ (many + (p.size - 19) / 12 - 1) / ((p.size - 19) / 12) := Int.ediv_nonneg (by omega) (by omega)
  generalize (many + (p.size - 19) / 12 - 1) / ((p.size - 19) / 12) = q at *
  generalize p.regions * p.rsectors = r at *
  omega
namespace SF
/-- A store that is opened. -/
def openX (p : Plan8) (gen : Nat) (D : Dev) : Sto :=
  ⟨p, (layM p).page, (layM p).pages.toNat, D.size - 19, gen + 1, 0, fun _ => false, fun _ => false, fun _ => false, fun _ => false, fun _ => none, p.memory.toNat, D⟩
def OpenPost (base d bf bq : Nat) (p : Plan8) (gen : Nat) (D : Dev) (w : World) (e : Ending) (w' : World) : Prop :=
  ∃ B : Blk, (B.base = base ∧ B.d = d ∧ B.bf = bf ∧ B.bq = bq) ∧ e = .returned (.tuple #[B.ptr, .int .i64 0]) ∧ StoreAt w' B (openX p gen D) ∧ Fr (fun _ => False) w w'
set_option maxHeartbeats 4000000 in
set_option maxRecDepth 100000 in
theorem open_ok {w : World} {base d bf bq : Nat} {D : Dev} (h : DevAt w base d bf bq D) (hb : base ≤ w.heap.size) (c dd f dp hh s : Int) (gen : Nat) (hg : gen ≤ 1099511627776) (hfit : fitsM ⟨D.sectors, D.size, c, dd, f, dp, hh, s⟩ = true) :
    Calls Tryz.prog 30 #[.pointer (some ⟨d, 0, none⟩), (Plan8.mk D.sectors D.size c dd f dp hh s).val, .int .i64 gen] w (OpenPost base d bf bq ⟨D.sectors, D.size, c, dd, f, dp, hh, s⟩ gen D w) := by
  have HFit := hid (fun W => fit_ok ⟨D.sectors, D.size, c, dd, f, dp, hh, s⟩ W)
  rw [hfit] at HFit
  obtain ⟨lv, hd, hlo⟩ := h.dc
  have e0 := cell_of_heap hd 0
  have e1 := cell_of_heap hd 1
  simp at e0 e1
  have ld := lt_of_heap hd
  have hs1 := h.rg.2.1
  have hs2 := h.rg.2.2
  obtain ⟨w1, hw1⟩ : ∃ w1, w.alloc (.cells #[.int .i64 D.sectors, .int .i64 D.size, .int .i64 c, .int .i64 dd, .int .i64 f, .int .i64 dp, .int .i64 hh, .int .u64 s] 31) = w1 := ⟨_, rfl⟩
  have F1 : Fr (fun _ => False) w w1 := by rw [← hw1]; exact (Fr.refl _ _).alloc _
  have b1 : w1.heap[w.heap.size]? = some (.cells #[.int .i64 D.sectors, .int .i64 D.size, .int .i64 c, .int .i64 dd, .int .i64 f, .int .i64 dp, .int .i64 hh, .int .u64 s] 31) := by rw [← hw1]; exact heap_alloc_new _ _
  have lb1 := lt_of_heap b1
  have j0 := cell_of_heap b1 0
  have j1 := cell_of_heap b1 1
  have j2 := cell_of_heap b1 2
  have j3 := cell_of_heap b1 3
  have j4 := cell_of_heap b1 4
  have j5 := cell_of_heap b1 5
  have j6 := cell_of_heap b1 6
  have j7 := cell_of_heap b1 7
  simp at j0 j1 j2 j3 j4 j5 j6 j7
  have H := hid h
  have HD := hid hd
  have HLO := hid hlo
  have HW := hid hw1
  have HF1 := hid F1
  have HB1 := hid b1
  have HFT := hid hfit
  clear h hd hlo hw1 F1 b1 hfit
  go_enter Tryz.func30, Tryz.ntmps30
  go_wp2_with fail
  rw [HW.out]
  refine (HFit.out _).mono ?_
  rintro e w2 ⟨rfl, F2⟩
  have FF := hid (HF1.out.trans F2 (fun _ _ h => h))
  have b2 := hid (F2.heap HB1.out (fun h => h))
  have k0 := cell_of_heap b2.out 0
  have k1 := cell_of_heap b2.out 1
  have k2 := cell_of_heap b2.out 2
  have k3 := cell_of_heap b2.out 3
  have k4 := cell_of_heap b2.out 4
  have k5 := cell_of_heap b2.out 5
  have k6 := cell_of_heap b2.out 6
  have k7 := cell_of_heap b2.out 7
  simp at k0 k1 k2 k3 k4 k5 k6 k7
  have lb2 := lt_of_heap b2.out
  have g0 := (FF.out.cell (p := ⟨d, 0, none⟩) ld (fun h => h)).trans e0
  have g1 := (FF.out.cell (p := ⟨d, 1, none⟩) ld (fun h => h)).trans e1
  have ld2 := Nat.lt_of_lt_of_le ld FF.out.size
  clear F2 j0 j1 j2 j3 j4 j5 j6 j7 e0 e1
  have hff := fits_facts HFT.out
  simp only at hff
  generalize hlay : layM ⟨D.sectors, D.size, c, dd, f, dp, hh, s⟩ = y at hff
  obtain ⟨ya, yb, yc, yd, ye, yf, yg⟩ := y
  simp only at hff
  obtain ⟨⟨q1, q2, q3, q4⟩, q5, q6⟩ := hff
  obtain ⟨pn, rfl⟩ := Int.eq_ofNat_of_zero_le (show 0 ≤ yc by omega)
  obtain ⟨mn, rfl⟩ := Int.eq_ofNat_of_zero_le (show 0 ≤ hh by omega)
  have HQ := hid q4
  have HY := hid hlay
  clear hlay q4
  simp only [if_true, Lay.val]
  go_wp2
  obtain ⟨w3, hw3⟩ : ∃ w3, w2.alloc (.cells #[.int .i64 2, .int .i64 ya, .int .i64 yb, .int .i64 pn, .int .i64 yd, .int .i64 ye, .int .i64 yf, .int .i64 yg] 169) = w3 := ⟨_, rfl⟩
  have F23 : Fr (fun _ => False) w2 w3 := by rw [← hw3]; exact (Fr.refl _ _).alloc _
  have b3 : w3.heap[w2.heap.size]? = some (.cells #[.int .i64 2, .int .i64 ya, .int .i64 yb, .int .i64 pn, .int .i64 yd, .int .i64 ye, .int .i64 yf, .int .i64 yg] 169) := by rw [← hw3]; exact heap_alloc_new _ _
  rw [hw3]
  have m0 := (F23.cell (p := ⟨w.heap.size, 0, none⟩) lb2 (fun h => h)).trans k0
  have m1 := (F23.cell (p := ⟨w.heap.size, 1, none⟩) lb2 (fun h => h)).trans k1
  have m2 := (F23.cell (p := ⟨w.heap.size, 2, none⟩) lb2 (fun h => h)).trans k2
  have m3 := (F23.cell (p := ⟨w.heap.size, 3, none⟩) lb2 (fun h => h)).trans k3
  have m4 := (F23.cell (p := ⟨w.heap.size, 4, none⟩) lb2 (fun h => h)).trans k4
  have m5 := (F23.cell (p := ⟨w.heap.size, 5, none⟩) lb2 (fun h => h)).trans k5
  have m6 := (F23.cell (p := ⟨w.heap.size, 6, none⟩) lb2 (fun h => h)).trans k6
  have m7 := (F23.cell (p := ⟨w.heap.size, 7, none⟩) lb2 (fun h => h)).trans k7
  have x2 := cell_of_heap b3 2
  have x3 := cell_of_heap b3 3
  simp at x2 x3
  have h0 := (F23.cell (p := ⟨d, 0, none⟩) ld2 (fun h => h)).trans g0
  have h1 := (F23.cell (p := ⟨d, 1, none⟩) ld2 (fun h => h)).trans g1
  have HS := hid (fun (n : Nat) => sectors_at (w := w3.drewN n) h0)
  have HZ := hid (fun (n : Nat) => size_at (w := w3.drewN n) h1)
  have G3 := hid (FF.out.trans F23 (fun _ _ h => h))
  have lw3 := lt_of_heap b3
  have lb3 : w.heap.size < w3.heap.size := by omega
  have HB3 := hid b3
  clear k0 k1 k2 k3 k4 k5 k6 k7 g0 g1 h0 h1 F23 hw3 b3 ld2
  go_quiet (first | (go_at_call 92; exact quiet_left (HS.out _)) | (go_at_call 93; exact quiet_left (HZ.out _)))
  go_wp2
  have hwr : IntKind.i64.wrap ((gen : Int) + 1) = (gen : Int) + 1 := by rw [IntKind.wrap_i64]; omega
  have hz1 : (96 : Int) ≤ D.size := by omega
  have hz2 : (D.size : Int) ≤ 512 := by omega
  go_region_held3 (fun W => W.cell? ⟨w.heap.size, 0, none⟩ = some (.int .i64 D.sectors) ∧ W.cell? ⟨w.heap.size, 1, none⟩ = some (.int .i64 D.size) ∧ W.cell? ⟨w.heap.size, 2, none⟩ = some (.int .i64 c) ∧ W.cell? ⟨w.heap.size, 3, none⟩ = some (.int .i64 dd) ∧ W.cell? ⟨w.heap.size, 4, none⟩ = some (.int .i64 f) ∧ W.cell? ⟨w.heap.size, 5, none⟩ = some (.int .i64 dp) ∧ W.cell? ⟨w.heap.size, 6, none⟩ = some (.int .i64 mn) ∧ W.cell? ⟨w.heap.size, 7, none⟩ = some (.int .u64 s) ∧ W.cell? ⟨w2.heap.size, 2, none⟩ = some (.int .i64 yb) ∧ W.cell? ⟨w2.heap.size, 3, none⟩ = some (.int .i64 pn))
    (go_keep)
    ((go_at_call 94; refine (room_ok _ hz1 hz2 _).mono ?_; rintro e w5 ⟨rfl, rfl⟩))
  clear hwr
  go_wp2_with fail
  obtain ⟨w6, hw6⟩ : ∃ w6, (w3.drewN (nq + 1)).alloc (.cells #[.pointer (some ⟨d, 0, none⟩), .int .i64 D.sectors, .int .i64 D.size, .int .i64 c, .int .i64 dd, .int .i64 f, .int .i64 dp, .int .i64 mn, .int .u64 s, .int .i64 yb, .int .i64 pn, .int .i64 (D.size - 19), .int .i64 (gen + 1), .pointer none, .map none, .map none, .map none, .pointer none] 156) = w6 := ⟨_, rfl⟩
  have F36 : Fr (fun _ => False) w3 w6 := by rw [← hw6]; exact ((Fr.refl _ _).drewN _).alloc _
  have s6 : w6.heap[w3.heap.size]? = some (.cells #[.pointer (some ⟨d, 0, none⟩), .int .i64 D.sectors, .int .i64 D.size, .int .i64 c, .int .i64 dd, .int .i64 f, .int .i64 dp, .int .i64 mn, .int .u64 s, .int .i64 yb, .int .i64 pn, .int .i64 (D.size - 19), .int .i64 (gen + 1), .pointer none, .map none, .map none, .map none, .pointer none] 156) := by
    rw [← hw6]; exact heap_alloc_new (w3.drewN (nq + 1)) _
  rw [hw6]
  refine (newbits_ok pn (by omega) (by omega) _).mono ?_
  rintro e w7 ⟨bs, bw, rfl, hbits, hbs, hbw, F7⟩
  have l6 := lt_of_heap s6
  have s7 := F7.heap s6 (fun h => h)
  have c13 := cell_of_heap s7 13
  simp at c13
  have cz7 : ∀ o, w7.frozen? ⟨w3.heap.size, o, none⟩ = false := fun o => frozen_of_heap s7 o
  have l7 := lt_of_heap s7
  have p6 := ((F36.trans F7 (fun _ _ h => h)).cell (p := ⟨w.heap.size, 6, none⟩) lb3 (fun h => h)).trans m6
  have n63 : ¬ w3.heap.size = w.heap.size := by omega
  have G7 := hid (G3.out.trans (F36.trans F7 (fun _ _ h => h)) (fun _ _ h => h))
  have HBI := hid hbits
  have HS7 := hid s7
  have HN := hid (And.intro hbs hbw)
  have HF7s := F7.size
  have HL6 := hid l6
  clear hw6 F36 s6 hbits F7 s7 m0 m1 m2 m3 m4 m5 m6 m7 x2 x3 hbs hbw HF7s
  go_wp2_with fail
  obtain ⟨w8, hw8⟩ : ∃ w8, w7.setCell ⟨w3.heap.size, 13, none⟩ (.pointer (some ⟨bs, 0, none⟩)) = w8 := ⟨_, rfl⟩
  have F78 : Fr (fun b => b = w3.heap.size) w7 w8 := by rw [← hw8]; exact (Fr.refl (fun b => b = w3.heap.size) _).setCell (a := ⟨w3.heap.size, 13, none⟩) (fun _ => rfl) _
  have s8 : w8.heap[w3.heap.size]? = some (.cells #[.pointer (some ⟨d, 0, none⟩), .int .i64 D.sectors, .int .i64 D.size, .int .i64 c, .int .i64 dd, .int .i64 f, .int .i64 dp, .int .i64 mn, .int .u64 s, .int .i64 yb, .int .i64 pn, .int .i64 (D.size - 19), .int .i64 (gen + 1), .pointer (some ⟨bs, 0, none⟩), .map none, .map none, .map none, .pointer none] 156) := by
    rw [← hw8, heap_setCell_cells _ _ _ _ HS7.out]; simp
  rw [hw8]
  refine (newmem_ok mn (by omega) (by omega) _).mono ?_
  rintro e w9 ⟨rfl, hmem, F9⟩
  have HL8 := hid (lt_of_heap s8)
  have s9 := F9.heap s8 (fun h => h)
  have c14 := cell_of_heap s9 14
  have c15 := cell_of_heap s9 15
  have c16 := cell_of_heap s9 16
  have c17 := cell_of_heap s9 17
  simp at c14 c15 c16 c17
  have cz9 : ∀ o, w9.frozen? ⟨w3.heap.size, o, none⟩ = false := fun o => frozen_of_heap s9 o
  have l9 := lt_of_heap s9
  have HM := hid hmem
  have HS9 := hid s9
  have H89 := hid (And.intro F78 F9)
  have hmm := fun (t : TypeId) (W : World) => run_makeMap (P := Tryz.prog) t W
  clear hw8 F78 s8 hmem s9 F9 c13 cz7 p6
  go_upto_region 11 with (fail)
  obtain ⟨w10, hw10⟩ : ∃ w10, w9.setCell ⟨w3.heap.size, 17, none⟩ (.pointer (some ⟨w8.heap.size + 2, 0, none⟩)) = w10 := ⟨_, rfl⟩
  have F910 : Fr (fun b => b = w3.heap.size) w9 w10 := by rw [← hw10]; exact (Fr.refl (fun b => b = w3.heap.size) _).setCell (a := ⟨w3.heap.size, 17, none⟩) (fun _ => rfl) _
  have s10 : w10.heap[w3.heap.size]? = some (.cells #[.pointer (some ⟨d, 0, none⟩), .int .i64 D.sectors, .int .i64 D.size, .int .i64 c, .int .i64 dd, .int .i64 f, .int .i64 dp, .int .i64 mn, .int .u64 s, .int .i64 yb, .int .i64 pn, .int .i64 (D.size - 19), .int .i64 (gen + 1), .pointer (some ⟨bs, 0, none⟩), .map none, .map none, .map none, .pointer (some ⟨w8.heap.size + 2, 0, none⟩)] 156) := by
    rw [← hw10, heap_setCell_cells _ _ _ _ HS9.out]; simp
  rw [hw10]
  have d14 := cell_of_heap s10 14
  have d15 := cell_of_heap s10 15
  have d16 := cell_of_heap s10 16
  simp at d14 d15 d16
  have cz10 : ∀ o, w10.frozen? ⟨w3.heap.size, o, none⟩ = false := fun o => frozen_of_heap s10 o
  have l10 := lt_of_heap s10
  have HS10 := hid s10
  have HF910 := hid F910
  have HSZ := hid (show w10.heap.size = w9.heap.size by rw [← hw10]; simp)
  have lw3' : w2.heap.size < w3.heap.size := lw3
  clear hw10 F910 s10 c14 c15 c16 c17 cz9 l9 l7 l6 lb1 lb2 lb3 lw3 n63
  have HL3 := hid lw3'
  generalize w3.heap.size = S at *
  obtain ⟨w11, ha⟩ : ∃ w11, ((w10.alloc (.map #[] 0)).alloc (.map #[] 0)).alloc (.map #[] 0) = w11 := ⟨_, rfl⟩
  obtain ⟨z1, z2, z3, F1011⟩ := heap_three ha
  have HZ1 := hid (And.intro z1 (And.intro z2 z3))
  have s11 := F1011.heap HS10.out (fun h => h)
  have k14 := cell_of_heap s11 14
  have k15 := cell_of_heap s11 15
  have k16 := cell_of_heap s11 16
  simp at k14 k15 k16
  have cz11 : ∀ o, w11.frozen? ⟨S, o, none⟩ = false := fun o => frozen_of_heap s11 o
  have HS11 := hid s11
  have HF11 := hid F1011
  clear z1 z2 z3 s11 F1011 d14 d15 d16 cz10
  go_wp2
  go_ret2
  have hS := HS11.out
  have s12 := heap_setCell_cells _ S 16 (.map (some (w10.heap.size + 2))) (heap_setCell_cells _ S 15 (.map (some (w10.heap.size + 1))) (heap_setCell_cells _ S 14 (.map (some w10.heap.size)) hS))
  have F1112 : Fr (fun b => b = S) w11 (((w11.setCell ⟨S, 14, none⟩ (.map (some w10.heap.size))).setCell ⟨S, 15, none⟩ (.map (some (w10.heap.size + 1)))).setCell ⟨S, 16, none⟩ (.map (some (w10.heap.size + 2)))) :=
    (((Fr.refl (fun b => b = S) _).setCell (a := ⟨S, 14, none⟩) (fun _ => rfl) _).setCell (a := ⟨S, 15, none⟩) (fun _ => rfl) _).setCell (a := ⟨S, 16, none⟩) (fun _ => rfl) _
  show OpenPost base d bf bq _ gen D w _ (((w11.setCell ⟨S, 14, none⟩ (.map (some w10.heap.size))).setCell ⟨S, 15, none⟩ (.map (some (w10.heap.size + 1)))).setCell ⟨S, 16, none⟩ (.map (some (w10.heap.size + 2))))
  generalize (((w11.setCell ⟨S, 14, none⟩ (.map (some w10.heap.size))).setCell ⟨S, 15, none⟩ (.map (some (w10.heap.size + 1)))).setCell ⟨S, 16, none⟩ (.map (some (w10.heap.size + 2)))) = W at *
  obtain ⟨z1, z2, z3⟩ := HZ1.out
  have hl3 := HL3.out
  have hl6 := HL6.out
  have hl8 := HL8.out
  have hff := FF.out.size
  have hsz := HSZ.out
  have hml := HM.out.lts
  have hbb := HN.out
  obtain ⟨dl1, dl2, dl3⟩ := H.out.lts
  have dne := H.out.ne
  have dge := H.out.ge
  have F9W : Fr (fun b => b = S) w9 W := (HF910.out.trans HF11.out (fun _ _ h => h.elim)).trans F1112 (fun _ _ h => h)
  have F7W : Fr (fun b => b = S) w7 W := (H89.out.1.trans H89.out.2 (fun _ _ h => h.elim)).trans F9W (fun _ _ h => h)
  have ex : openX ⟨D.sectors, D.size, c, dd, f, dp, mn, s⟩ gen D = ⟨⟨D.sectors, D.size, c, dd, f, dp, mn, s⟩, yb, pn, D.size - 19, gen + 1, 0, fun _ => false, fun _ => false, fun _ => false, fun _ => false, fun _ => none, mn, D⟩ := by
    simp [openX, HY.out]
  have e11 : ((D.size : Int) - 19) = ((D.size - 19 : Nat) : Int) := by omega
  refine ⟨⟨base, S, d, bf, bq, bs, bw, w10.heap.size, w10.heap.size + 1, w10.heap.size + 2, w8.heap.size + 2, w8.heap.size, w8.heap.size + 1⟩, ⟨rfl, rfl, rfl, rfl⟩, rfl, ?_, ?_⟩
  · rw [ex]
    refine ⟨?_, (H.out.fr G7.out (fun h => h) (fun h => h) (fun h => h) (fun _ _ _ _ _ h => h)).fr F7W (by omega) (by omega) (by omega) ?_, HBI.out.fr F7W (by omega) (by omega), SetAt.made (F1112.heap z1 (show ¬ w10.heap.size = S by omega)), SetAt.made (F1112.heap z2 (show ¬ w10.heap.size + 1 = S by omega)), SetAt.made (F1112.heap z3 (show ¬ w10.heap.size + 1 + 1 = S by omega)), HM.out.fr F9W (by omega) (by omega) (by omega), (fun k p hp => by cases hp), ?_, ?_, ?_, ?_⟩
    · simpa [e11] using s12
    · intro g c' t ht hg e
      rw [e, HS7.out] at hg
      cases hg
      rcases ht with h | h | h <;> cases h
    · simp only [Blk.maps, List.nodup_cons, List.mem_cons, not_or, List.not_mem_nil, not_false_eq_true, List.nodup_nil, and_true]
      omega
    · simp only
      omega
    · have := HQ.out
      simp only at *
      omega
    · exact ⟨(fun k hk => by cases hk), (fun k hk => by cases hk), (fun k hk => by cases hk)⟩
  · exact G7.out.trans F7W (fun b hb h => by omega)
end SF
end Go.Proofs.YtgdhaaokolfdoaaGreatDoor

/- The store: the row of a set's numbers (Parts's own function). Conditions: the set lies in the world as SetAt says. -/
namespace Go.Proofs.YtgdhaaokolfdoaaGreatDoor
open Go.Proofs Go.RowKit Go.Maps Go.Sort Go.Shelf Go.Sg
theorem Tryz.sortsA (m : Nat) : AnyZI.SortsIn Tryz.prog Tryz.sortedA_ren Fence.wide m :=
  ⟨fun blk off cap ss W hH hblk hsz => callsIn_wide.2 (AnyM.slices_Sort_int Tryz.sortA blk off cap ss W hH hblk hsz),
   fun p cap W => callsIn_wide.2 (AnyM.slices_Sort_int_none Tryz.sortA p cap W)⟩
/-- The numbers of a set, in order. -/
def RowOf (f : Int → Bool) (L : List Int) : Prop := (∀ k, k ∈ L ↔ f k = true) ∧ L.Pairwise (· < ·)
set_option maxHeartbeats 1000000 in
set_option maxRecDepth 100000 in
theorem row_at {w : World} {b : Nat} {f : Int → Bool} {n : Nat} (h : SetAt w b f) (hn : n ≤ 65536) (hf : ∀ k, f k = true → 0 ≤ k ∧ k < n) :
    Calls Tryz.prog 97 #[.map (some b)] w fun e w' => ∃ v L, e = .returned v ∧ Ints w' v L ∧ RowOf f L ∧ Fr (fun _ => False) w w' := by
  obtain ⟨l, ck, hm, hs⟩ := h.ex
  have hl := hs.len hf
  have hown := set_owns (H := Unit) (P := Tryz.prog) (K := 3) (E := 4) Tryz.underlying3 Tryz.underlying4 hm hs (fun k hk => WalkArith.wf_i64 (by have := hf k hk; omega)) (by simp [maxLen]; omega)
  refine (callsIn_wide (n := 6)).1 ?_
  have hbl := hown.lt
  have hseq : SeqGives Fence.wide 2 Tryz.prog 161 #[.pointer (some ⟨w.heap.size, 0, none⟩)] encZ (fun ss => ss.Perm (intKeys (setD (H := Unit) l))) (Maps.size (setD (H := Unit) l)) (w.alloc (.cells #[.map (some b)] 153)) :=
    AnyZI.keys_gives (ρ := Tryz.keysA_ren) { Tryz.keysA with } Fence.wide _ trivial rfl (by omega) w.heap.size b l.length (setD (H := Unit) l) _ (by simp) (by simp) (by
      obtain ⟨es, clock, hb, Ft, hs, hD⟩ := hown
      exact ⟨es, clock, (Below.heap_alloc _ _ b hbl).trans hb, Ft, hs, hD⟩)
  have cK : ∀ mb W, CallsIn Fence.wide 5 Tryz.prog 99 #[.map mb] W fun e w' => e = .returned (.func (.func 161) #[] #[.pointer (some ⟨W.heap.size, 0, none⟩)]) ∧ w' = W.alloc (.cells #[.map mb] 153) := fun mb W => AnyZI.keys_in Tryz.keysA Fence.wide 5 trivial rfl mb W
  have cS := AnyZI.sorted_in Tryz.sortedA Fence.wide 5 trivial trivial trivial trivial rfl (by omega) (Tryz.sortsA _) (enters_of Tryz.func141 (by kernel_rfl) rfl) 161 #[.pointer (some ⟨w.heap.size, 0, none⟩)] trivial (enters_of Tryz.func161 (by kernel_rfl) rfl) _ _ (by rw [setD_size]; simp [maxLen]; omega) (by rw [setD_size]; omega) _ hseq
  change CallsIn _ _ Tryz.prog 98 _ _ _ at cS
  have hfK : Fence.wide.fn 99 := trivial
  have hfS : Fence.wide.fn 98 := trivial
  have HS := hid hs
  clear hown hbl hm hseq hs
  refine callsIn_of_wp Tryz.func97 rfl trivial ?_ rfl
  simp only [Tryz.ntmps97, List.size_toArray, List.length_cons, List.length_nil, Nat.reduceAdd, Nat.reduceSub, Array.replicate_succ, Array.replicate_zero, List.push_toArray, List.append_toArray, List.nil_append, List.cons_append]
  gi_wp2_with (first
    | (gi_at_call 99; refine (cK _ _).mono ?_; rintro e w' ⟨rfl, rfl⟩)
    | (gi_at_call 98; refine cS.mono ?_; rintro e w' ⟨v, ss, rfl, hS, hrow, hnil, hb⟩))
  go_ret
  have hp : (ss.mergeSort (fun x y => decide (x ≤ y))).Perm (keys l) := (List.mergeSort_perm _ _).trans (hS.trans (setD_keys l))
  refine ⟨v, ss.mergeSort (fun x y => decide (x ≤ y)), rfl, ints_of_own (base := (w.alloc (.cells #[.map (some b)] 153)).heap.size) (e := 3) (by rw [List.length_mergeSort]; exact hrow), ⟨fun k => ?_, ?_⟩, ((Fr.refl _ _).alloc _).trans (Fr.of_below hb) (fun _ _ h => h)⟩
  · rw [hp.mem_iff]
    have e := HS.out.at_ k
    cases hk : f k with
    | true =>
      rw [hk] at e
      simp only [if_true] at e
      constructor
      · intro _; rfl
      · intro _
        refine Classical.byContradiction fun hc => ?_
        rw [(look_none l k).2 hc] at e
        cases e
    | false =>
      rw [hk] at e
      simp only [Bool.false_eq_true, if_false] at e
      constructor
      · intro hc; exact absurd hc ((look_none l k).1 e)
      · intro hc; cases hc
  · have h1 : (ss.mergeSort (fun x y => decide (x ≤ y))).Pairwise (fun a b => decide (a ≤ b) = true) := List.pairwise_mergeSort (fun a b c h1 h2 => by simp at *; omega) (fun a b => by simp; omega) ss
    have h2 : (ss.mergeSort (fun x y => decide (x ≤ y))).Nodup := hp.symm.nodup HS.out.nd
    refine (List.Pairwise.and h1 h2).imp ?_
    rintro a c ⟨h3, h4⟩
    simp at h3
    omega
end Go.Proofs.YtgdhaaokolfdoaaGreatDoor

/- The set of bits: All. Conditions: the set lies in the world as BitsAt says, the library's table as its text lays it. -/
namespace Go.Sg.Bits
open Go.RowKit
/-- The numbers below m that are taken. -/
def tu (t : Nat → Bool) (m : Nat) : List Int := ((List.range m).filter t).map Int.ofNat
theorem tu_len (t : Nat → Bool) (m : Nat) : (tu t m).length ≤ m := by
  simp only [tu, List.length_map]
  exact Nat.le_trans (List.length_filter_le _ _) (by simp)
theorem tu_succ (t : Nat → Bool) (m : Nat) : tu t (m + 1) = if t m then tu t m ++ [(m : Int)] else tu t m := by
  simp only [tu, List.range_succ, List.filter_append, List.map_append]
  cases h : t m <;> simp [h]
theorem tu_skip (t : Nat → Bool) (a : Nat) : ∀ d, (∀ i, a ≤ i → i < a + d → t i = false) → tu t (a + d) = tu t a := by
  intro d
  induction d with
  | zero => intro _; rfl
  | succ d ih =>
    intro h
    rw [← Nat.add_assoc, tu_succ, h (a + d) (by omega) (by omega)]
    simp only [Bool.false_eq_true, if_false]
    exact ih fun i h1 h2 => h i h1 (by omega)
theorem tu_next {t : Nat → Bool} {a b : Nat} (hab : a ≤ b) (h : ∀ i, a ≤ i → i < b → t i = false) (hb : t b = true) : tu t (b + 1) = tu t a ++ [(b : Int)] := by
  obtain ⟨d, rfl⟩ : ∃ d, b = a + d := ⟨b - a, by omega⟩
  rw [tu_succ, if_pos hb, tu_skip t a d h]
theorem tu_prefix (t : Nat → Bool) {a b : Nat} (h : a ≤ b) : tu t a <+: tu t b := by
  induction b with
  | zero => obtain rfl : a = 0 := by omega
            exact List.prefix_rfl
  | succ b ih =>
    by_cases hk : a = b + 1
    · subst hk; exact List.prefix_rfl
    · have := ih (by omega)
      rw [tu_succ]
      split
      · exact this.trans (List.prefix_append _ _)
      · exact this
end Go.Sg.Bits
namespace Go.Proofs.YtgdhaaokolfdoaaGreatDoor
open Go.RowKit Go.Sg Go.Sg.Bits Go.Shelf
attribute [local go_sem] Oper.semAt_some
theorem taken_any (a : Option Addr) (w : World) :
    Calls Tryz.prog 162 #[.pointer a] w fun e w' => e = .returned (.func (.func 224) #[] #[.pointer (some ⟨w.heap.size, 0, none⟩)]) ∧ w.alloc (.cells #[.pointer a] 152) = w' := by
  go_enter Tryz.func162, Tryz.ntmps162
  go_wp2
  go_ret
  exact ⟨rfl, rfl⟩
abbrev encT (x : Int) : Array Value := #[.int .i64 x]
set_option maxRecDepth 100000 in
set_option maxHeartbeats 4000000 in
theorem takenf_stops {w : World} {bs bw n hand bx : Nat} {ws : List Nat} (h : BRaw w bs bw n hand ws) (hT : Tab w) (hx : w.cell? ⟨bx, 0, none⟩ = some (.pointer (some ⟨bs, 0, none⟩))) :
    SeqStopsK Fence.wide 9 Tryz.prog 224 #[.pointer (some ⟨bx, 0, none⟩)] encT (fun W W' => W'.heap[bw]? = W.heap[bw]? ∧ W'.heap[0]? = W.heap[0]?) (fun xs => xs = tu (bit ws) (64 * ws.length)) (fun pre => pre <+: tu (bit ws) (64 * ws.length)) (64 * ws.length) w := fun l J Jx W hW hJ _ hY h0 => by
  have hr := h.room
  have hl := h.len
  have hwf := h.wf
  have hx' := (hW.cell (p := ⟨bx, 0, none⟩) (World.block_lt_of_cell? _ _ hx)).trans hx
  have hc2 := (hW.cell (p := ⟨bs, 2, none⟩) (lt_of_heap h.s)).trans (cell_of_heap h.s 2)
  simp at hc2
  have hp := (hW.block bw (lt_of_heap h.w_)).trans h.w_
  have ht : Tab W := hT.fr (Fr.of_below hW) (S := fun _ => False) (fun h => h)
  have HWF := hid hwf
  have hl2 : ws.length ≤ 1024 := by omega
  have HT := hid ht
  clear hx hW h hT hwf ht hl
  refine callsIn_of_wp Tryz.func224 rfl trivial ?_ rfl
  simp only [Tryz.ntmps224, List.size_toArray, List.length_cons, List.length_nil, Nat.reduceAdd, Nat.reduceSub, Array.replicate_succ, Array.replicate_zero, List.push_toArray, List.append_toArray, List.nil_append, List.cons_append]
  gi_wp2
  gi_loopw [10] (fun i wr => ∃ k : Nat, k ≤ ws.length ∧ i = .int .i64 k ∧ J (tu (bit ws) (64 * k)) wr ∧ wr.heap[bw]? = some (.cells (wcells ws) 29) ∧ wr.heap[0]? = W.heap[0]?) (fun i _ => ws.length - (intOf i).toNat)
  case atStart => exact ⟨0, Nat.zero_le _, rfl, h0, hp, rfl⟩
  case round =>
    obtain ⟨k, hk, rfl, hJs, hps, ht0⟩ := hrel
    by_cases hlt : k < ws.length
    · obtain ⟨x, hx⟩ : ∃ x, ws[k]? = some x := ⟨_, List.getElem?_eq_getElem hlt⟩
      have cw : wr.cell? ⟨bw, k, none⟩ = some (.int .u64 x) := by rw [cell_of_heap hps]; simp [wcells, hx]
      have hxl := HWF.out x (List.mem_of_getElem? hx)
      have hbk : ∀ m, m < 64 → bit ws (64 * k + m) = x.testBit m := fun m hm => by
        rw [bit, show (64 * k + m) / 64 = k by omega, show (64 * k + m) % 64 = m by omega]
        simp [List.getD, hx]
      have HBK := hid hbk
      have HX := hid hx
      have HPS := hid hps
      have HT0 := hid ht0
      clear hbk hx hps ht0
      have hkd : decide (k < ws.length) = true := by simpa using hlt
      have hkd2 : decide ((k : Int) < (ws.length : Int)) = true := by simpa using hlt
      gi_wp2
      gi_loopw [4] (fun v wr => ∃ (lft low : Nat), v = .int .u64 lft ∧ lft < 18446744073709551616 ∧ low ≤ 64 ∧ (∀ m, m < 64 → lft.testBit m = (decide (low ≤ m) && x.testBit m)) ∧ J (tu (bit ws) (64 * k + low)) wr ∧ wr.heap[bw]? = some (.cells (wcells ws) 29) ∧ wr.heap[0]? = W.heap[0]?) (fun v _ => (intOf v).toNat)
      case atStart => exact ⟨x, 0, rfl, hxl, by omega, fun m hm => by simp, hJs, HPS.out, HT0.out⟩
      case round =>

        obtain ⟨lft, low, rfl, hll, hlow, hb, hJ2, hps2, ht2⟩ := hrel
        have HBb := hid hb
        have HPS2 := hid hps2
        have HT2 := hid ht2
        have HJ2 := hid hJ2
        clear hb hps2 ht2 hJ2
        by_cases hz : lft = 0
        · subst hz
          gi_wp2
          go_roundw
          case rel =>
            refine ⟨k + 1, by omega, by simp, ?_, HPS2.out, HT2.out⟩
            have e : tu (bit ws) (64 * (k + 1)) = tu (bit ws) (64 * k + low) := by
              have := tu_skip (bit ws) (64 * k + low) (64 - low) (fun i h1 h2 => by
                have hm := HBb.out (i - 64 * k) (by omega)
                have hb := HBK.out (i - 64 * k) (by omega)
                rw [show 64 * k + (i - 64 * k) = i by omega] at hb
                rw [hb]
                have hd : decide (low ≤ i - 64 * k) = true := by simp; omega
                rw [hd] at hm
                simpa using hm.symm)
              rw [← this]; congr 1; omega
            rw [e]; exact HJ2.out
          case measure => simp [intOf]; omega
        · obtain ⟨hc1, hc2, hc3⟩ := ctz_bit hz hll
          have hd := and_pred hz hll
          have hdl := drop_low hz hll
          have htz := hid (fun W' (h : W'.heap[0]? = W.heap[0]?) => tz_at lft hll W' (fun j hj => (World.cell?_of_block (a := ⟨0, j, none⟩) h).trans (HT.out j hj)))
          have hne : ((lft : Int) != 0) = true := by simp; omega
          have hlt2 : lft &&& (lft - 1) < lft := by
            rcases Nat.lt_or_ge (lft &&& (lft - 1)) lft with h | h
            · exact h
            · have h2 := Nat.and_le_right (n := lft) (m := lft - 1)
              omega
          generalize Lib.ctz 64 lft = m0 at *
          have hx0 : low ≤ m0 ∧ x.testBit m0 = true := by
            have := HBb.out m0 hc1
            rw [hc2] at this
            simpa using this.symm
          have hnx : tu (bit ws) (64 * k + m0 + 1) = tu (bit ws) (64 * k + low) ++ [(k : Int) * 64 + m0] := by
            have := tu_next (t := bit ws) (a := 64 * k + low) (b := 64 * k + m0) (by omega) (fun i h1 h2 => by
              have hm := HBb.out (i - 64 * k) (by omega)
              have hb := HBK.out (i - 64 * k) (by omega)
              rw [show 64 * k + (i - 64 * k) = i by omega] at hb
              rw [hb]
              have hd : decide (low ≤ i - 64 * k) = true := by simp; omega
              rw [hd, hc3 _ (by omega)] at hm
              simpa using hm.symm) (by rw [HBK.out m0 hc1]; exact hx0.2)
            rw [this]
            congr 2
            have : ((64 * k + m0 : Nat) : Int) = (k : Int) * 64 + m0 := by omega
            exact this
          obtain ⟨fn, tmps, assign, body, hy, hR⟩ := hY _ ((k : Int) * 64 + m0) wr HJ2.out (by have := tu_len (bit ws) (64 * k + low); omega)
          dsimp only [encT] at hy
          have HD := hid hd
          have HX0 := hid hx0
          have HNX := hid hnx
          have HC := hid (And.intro hc2 (And.intro hc3 hdl))
          have hlm := hx0.1
          clear hd hx0 hnx hc2 hc3 hdl
          gi_wp2_with (gi_at_call 214; refine (callsIn_wide.2 (htz.out _ HT2.out)).mono ?_; rintro e w' ⟨rfl, rfl⟩)
          refine hR.mono ?_
          rintro e W3 (⟨rfl, hJ3, hk3⟩ | ⟨rfl, hJx3⟩)
          · have HJ3 := hid hJ3
            have HK3 := hid hk3
            clear hJ3 hk3
            gi_wp2
            rw [HD.out]
            go_roundw
            case rel =>
              refine ⟨lft &&& (lft - 1), m0 + 1, rfl, by omega, by omega, fun m hm => ?_, ?_, HK3.out.1.trans HPS2.out, HK3.out.2.trans HT2.out⟩
              · obtain ⟨hc2, hc3, hdl⟩ := HC.out
                rw [hdl]
                by_cases he : m = m0
                · rw [if_pos he]; simp; omega
                · rw [if_neg he, HBb.out m hm]
                  by_cases hlm' : m0 + 1 ≤ m
                  · have : low ≤ m := by omega
                    simp [hlm', this]
                  · have h3 := hc3 m (by omega)
                    rw [HBb.out m hm] at h3
                    simp [hlm']
                    simpa using h3
              · rw [show 64 * k + (m0 + 1) = 64 * k + m0 + 1 by omega, HNX.out]; exact HJ3.out
            case measure => simp [intOf]; omega
          · have HJX := hid hJx3
            clear hJx3
            gi_wp2
            refine bodyPost_ret (results_none rfl _ _ _) rfl ?_
            exact ⟨⟨_, rfl⟩, .inr ⟨_, (by have := tu_prefix (bit ws) (a := 64 * k + m0 + 1) (b := 64 * ws.length) (by omega); rw [HNX.out] at this; exact this), HJX.out⟩⟩
    · obtain rfl : k = ws.length := by omega
      gi_wp2
      go_end0
      exact ⟨⟨_, rfl⟩, .inl ⟨_, rfl, hJs⟩⟩
end Go.Proofs.YtgdhaaokolfdoaaGreatDoor

/- The set of bits: All, whole. Conditions: the set lies in the world as BitsAt says, the library's table as its text lays it. -/
namespace Go.Proofs.YtgdhaaokolfdoaaGreatDoor
open Go.RowKit Go.Sg Go.Sg.Bits Go.Shelf
attribute [local go_sem] Oper.semAt_some
theorem Tryz.info3 : (Tryz.prog.info? 3).map (fun i => (i.zero, i.size, i.bytes)) = some (some (.int .i64 0), 1, 8) := by kernel_rfl
def HoldsT (w : World) (pre : List Int) (W : World) : Prop :=
  ∃ v, Boxed W w.heap.size 52 v ∧ W.ownsRow w.heap.size 3 1 v pre.length (pre.map (fun x => Value.int .i64 x)) ∧ True
set_option maxRecDepth 100000 in
set_option maxHeartbeats 2000000 in
theorem all_raw {w : World} {bs bw n hand : Nat} {ws : List Nat} (h : BRaw w bs bw n hand ws) (hT : Tab w) :
    Calls Tryz.prog 100 #[.pointer (some ⟨bs, 0, none⟩)] w fun e w' => ∃ v, e = .returned v ∧ Ints w' v (tu (bit ws) (64 * ws.length)) ∧ Fr (fun _ => False) w w' := by
  obtain ⟨i0, hi0, hz0, hz1, hz2⟩ := info_parts Tryz.info3
  refine (callsIn_wide (n := 10)).1 ?_
  have hr := h.room
  have hl := h.len
  have F := hid (taken_any (some ⟨bs, 0, none⟩) (w.alloc (.cells #[.slice none 0 0] 52)))
  refine callsIn_of_wp_marks Tryz.func100 rfl trivial ?_ rfl
  simp only [Tryz.ntmps100, List.size_toArray, List.length_cons, List.length_nil, Nat.reduceAdd, Nat.reduceSub, Array.replicate_succ, Array.replicate_zero, List.push_toArray, List.append_toArray, List.nil_append, List.cons_append]
  gi_wp2_with (gi_at_call 162; refine (callsIn_wide.2 F.out).mono ?_; rintro e w' ⟨rfl, rfl⟩)
  obtain ⟨W0, hW0⟩ : ∃ W0, (w.alloc (.cells #[.slice none 0 0] 52)).alloc (.cells #[.pointer (some ⟨bs, 0, none⟩)] 152) = W0 := ⟨_, rfl⟩
  have hF0 : Fr (fun _ => False) w W0 := by rw [← hW0]; exact ((Fr.refl _ w).alloc _).alloc _
  have hsz : W0.heap.size = w.heap.size + 1 + 1 := by rw [← hW0]; simp
  have hnx : W0.heap[w.heap.size]? = some (.cells #[.slice none 0 0] 52) := by rw [← hW0]; exact (heap_alloc_lt _ _ _ (by simp)).trans (heap_alloc_new _ _)
  have hbx : W0.cell? ⟨w.heap.size + 1, 0, none⟩ = some (.pointer (some ⟨bs, 0, none⟩)) := by rw [← hW0]; simp [go_sem]
  have h0 := h.fr hF0 (fun h => h) (fun h => h)
  have hT0 := hT.fr hF0 (fun h => h)
  have hbp := lt_of_heap h0.w_
  have hl0 := hT0.lt
  have hlT := hT.lt
  have hlw := lt_of_heap h.w_
  simp only [hW0]
  refine wpIn_rangeFunc_ownG (F := Fence.wide) rfl (by omega) (gf := 224) (lb := #[.pointer (some ⟨w.heap.size + 1, 0, none⟩)]) rfl trivial (enters_of Tryz.func224 (by kernel_rfl) rfl)
    (takenf_stops h0 hT0 hbx) (fun h k => ⟨k.1.trans h.1, k.2.trans h.2⟩) (fun W l o o' hl _ _ _ => ⟨heap_putObj_ne _ _ _ _ (by omega), heap_putObj_ne _ _ _ _ (by omega)⟩) (Below.refl _ _) (fun _ => rfl)
    (fun pre W => HoldsT w pre W ∧ Fr (fun _ => False) w W)
    (fun _ _ _ => False)
    (own_and ((holdsRow_own w.heap.size w.heap.size 52 3 1 (fun pre : List Int => pre.length) (fun pre => pre.map (fun x => Value.int .i64 x)) (fun _ _ => True)).from _) (own_fr (by omega)))
    (fun _ _ _ _ _ h => h.elim)
    ⟨⟨_, hnx, World.ownsRow_nil _ _ _ _, trivial⟩, hF0⟩
    (fun x => { tmps := #[.pointer (some ⟨bs, 0, none⟩), undef, .slice none 0 0, .pointer (some ⟨w.heap.size, 0, none⟩), .int .i64 x, .pointer (some ⟨bs, 0, none⟩), .bool false, .pointer (some ⟨bs, 0, none⟩), .func (.func 224) #[] #[.pointer (some ⟨w.heap.size + 1, 0, none⟩)], .int .i64 x, undef, undef, undef, undef, undef], defers := [] }) ?assign ?body ?done ?stop
  case assign =>
    intro l x W K hK
    gi_wp2
    exact hK
  case body =>
    rintro l pre x W ⟨⟨v, hv, hown, -⟩, hF⟩ hlen
    have e0 := hv.cell
    have e1 := hv.frozen
    have l1 := hv.lt
    have hsW := hF.size
    have HV := hid hv
    have HO := hid hown
    clear hv hown h0 hnx hbx
    gi_wp2_with (gi_at_builtin; refine wpListIn_append_own _ rfl (.tmp 10) (.tmp 12) 52 rfl w.heap.size 3 i0 _ 1 8 Tryz.underlying52 hi0 hz0 hz1 hz2 rfl (by decide) _ _ _ rfl (HO.out.alloc _) ⟨W.heap.size, 0, none⟩ 1 1 [.int .i64 x] rfl rfl (cell_one_new _ _ _) (by simp [Value.oneCell']) ?c3 ?c4 ?c5 ?_)
    case c3 => simp [maxLen]; omega
    case c4 => omega
    case c5 => simp; omega
    intro v1 w2 hown2 hgrow hnil
    obtain ⟨g, cap, rfl⟩ := ownsRow_succ hown2
    obtain ⟨d1, d2, d3, d4, d5⟩ := HV.out.appended (by decide) HO.out hsW (Nat.le_refl _) hown2 hgrow
    have f0 := d1.cell
    have f1 := d1.frozen
    have D2 := hid d2
    have D3 := hid d3
    clear hown2 hgrow hnil d1 d2 d3
    gi_wp2
    refine ⟨d4.from _, ⟨d5.block _ (by omega), d5.block _ (by omega)⟩, ⟨_, D2.out, by simpa using D3.out, trivial⟩, ?_⟩
    exact ⟨d5.os.trans hF.os, d5.tape.trans hF.tape, d5.output.trans hF.output, Nat.le_trans hF.size d5.size, fun b hb hn => (d5.block b hb).trans (hF.block b hb hn)⟩
  case done =>
    rintro D ys W hD rfl ⟨⟨v, hv, hown, -⟩, hF⟩ hK
    have e0 := hv.cell
    have HO := hid hown
    clear hown hv h0 hnx hbx
    gi_wp2
    have hI := ownsRow_putObj HO.out (.deferred none) hK rfl
    refine marks_ret1 (t := 2) rfl hK ⟨v, rfl, ints_of_own (base := w.heap.size) (e := 3) (by simpa [Function.comp_def] using hI), hF.putObj (fun hh => by omega) _⟩
  case stop => exact fun _ _ _ _ _ _ h => h.elim
theorem all_at {w : World} {bs bw n hand : Nat} {t : Nat → Bool} (h : BitsAt w bs bw n hand t) (hT : Tab w) :
    Calls Tryz.prog 100 #[.pointer (some ⟨bs, 0, none⟩)] w fun e w' => ∃ v, e = .returned v ∧ Ints w' v (tu t n) ∧ Fr (fun _ => False) w w' := by
  obtain ⟨ws, h, ht⟩ := h
  have e1 : bit ws = t := funext ht
  have hl := h.len
  have e2 : tu t (64 * ws.length) = tu t n := by
    have := tu_skip t n (64 * ws.length - n) (fun i h1 h2 => by rw [← ht]; exact h.pad i h1)
    rw [← this]; congr 1; omega
  refine (all_raw h hT).mono fun e w' ⟨v, he, hI, hF⟩ => ⟨v, he, ?_, hF⟩
  rw [e1, e2] at hI
  exact hI
end Go.Proofs.YtgdhaaokolfdoaaGreatDoor

/- The store: Commit. Conditions: the store lies in the world as StoreAt says. -/
namespace Go.Proofs.YtgdhaaokolfdoaaGreatDoor
open Go.RowKit Go.Sg Go.Sg.Bits Go.Sg.Clk CP
namespace SF
/-- A store behind a commit. -/
def commitX (x : Sto) : Sto :=
  { x with gen := x.gen + 1, taken := fun i => x.taken i && !x.dead i, mem := fun k => if x.dead k then none else x.mem k, fresh := fun _ => false, dying := fun _ => false, dead := x.dying }
/-- Where a store's blocks lie behind a commit. -/
def Blk.next (B : Blk) (n : Nat) : Blk := { B with de := B.dy, dy := n, fr := n + 1 }
/-- A store while a commit goes through what is dead. -/
def midX (x : Sto) (f : Int → Bool) : Sto := { x with taken := fun i => x.taken i && !f i, mem := fun k => if f k then none else x.mem k }
theorem _root_.Go.Proofs.YtgdhaaokolfdoaaGreatDoor.StoreAt.frK {w w' : World} {B : Blk} {x : Sto} (h : StoreAt w B x) {k : Nat} (F : Fr (fun b => b = k) w w') (h1 : ∀ r, ¬ B.at_ r = k) (hk : ∀ c t, w.heap[k]? ≠ some (.cells c t)) : StoreAt w' B x := by
  have h4 : ∀ (g : Nat) (c' : Array Value) (t' : TypeId), w.heap[g]? = some (.cells c' t') → ¬ g = k := fun g c' t' hg e => by
    rw [e] at hg; exact hk _ _ hg
  refine ⟨F.heap h.s (h1 .s), h.dev.fr F (h1 .d) (h1 .bf) (h1 .bq) fun g c' t' h5 hg => h4 g c' t' hg, h.bits.fr F (h1 .bs) (h1 .bw), h.fr.fr F (h1 .fr), h.dy.fr F (h1 .dy), h.de.fr F (h1 .de), h.mem.fr F (h1 .bc) (h1 .bp) (h1 .bm), fun k p hp => ?_, h.ne, h.ge, h.rg, h.inr⟩
  obtain ⟨bs, hb, hl⟩ := h.load k p hp
  exact ⟨bs, hb.fr F fun b c hc => h4 b c 5 hc, hl⟩
theorem ranges_fr {H : Type} {P : Program} {K : TypeId} {R : Value → Option (DataW H × List MemPlace)} {S : Nat → Prop} {w w' : World} {b r n : Nat} {D : DataW H} {left : Lit → Bool} {cnt : Nat} (h : w.ranges P K R b r n D left cnt) (F : Fr S w w') (h1 : ¬ S b) (h2 : ¬ S r) : w'.ranges P K R b r n D left cnt := by
  obtain ⟨es, clock, since, seen, c0, hb, Ft, hs, hD, hr, rest⟩ := h
  exact ⟨es, clock, since, seen, c0, F.heap hb h1, Ft, hs, hD, F.heap hr h2, rest⟩
theorem plainElem_bool_inv {H : Type} {P : Program} {e : TypeId} (h4 : P.underlying e = some .bool) {v : Value} {y : DataW H × List MemPlace} (h : plainElem (H := H) P e v = some y) : ∃ c, v = .bool c ∧ y.1 = .lit (.bool c) := by
  unfold plainElem at h
  rw [h4] at h
  cases v with
  | bool c =>
    simp only [Option.some.injEq] at h
    exact ⟨c, rfl, by rw [← h]⟩
  | _ => simp at h
theorem setD_at {H : Type} (l : List Ent) (k : Lit) (z : DataW H) : (setD l).atKey k z = z ∨ (setD l).atKey k z = boolD := by
  rw [setD, DataW.atKey]
  split
  · rename_i p hp
    right
    have := List.mem_of_find?_eq_some hp
    obtain ⟨e, _, rfl⟩ := List.mem_map.1 ((foldr_perm _).mem_iff.1 this)
    rfl
  · exact .inl rfl
/-- The step of a range over a set of numbers. -/
theorem wpList_next_set {w : World} {ops : Array Oper} {rest : List Oper} {o : Oper} {a : Act} {Q : Exit → Act → World → Prop} (hg : o.guard = none) (it : Operand) (hop : o.op = Op.next it false) (b r n : Nat) (l : List Ent) (left : Lit → Bool) (cnt : Nat)
    (hit : a.eval it = .pointer (some ⟨r, 0, none⟩)) (h : w.ranges Tryz.prog 3 (plainElem (H := Unit) Tryz.prog 4) b r n (setD l) left cnt)
    (hDone : cnt = 0 → (∀ kl, left kl = false) → wpList Tryz.prog ops Q rest (a.put o.dst (.tuple #[.bool false])) w)
    (hMore : ∀ (x : Int) (w' : World) (cnt' : Nat), left (.int .i64 x) = true → w'.ranges Tryz.prog 3 (plainElem (H := Unit) Tryz.prog 4) b r n (setD l) (fun z => left z && !z.sameKey (.int .i64 x)) cnt' → cnt' < cnt →
      w.grownBy w' (some r) → w'.heap.size = w.heap.size → (Instr.entry (.pointer (some ⟨r, 0, none⟩))).run Tryz.prog w' = .ok (.tuple #[.int .i64 x, .bool true]) w' → wpList Tryz.prog ops Q rest (a.put o.dst (.tuple #[.bool true, .int .i64 x, .bool true])) w') :
    wpList Tryz.prog ops Q (o :: rest) a w := by
  refine wpList_next_ranges w hg it hop 3 (Maps.int_keyed Tryz.underlying3) (plainElem (H := Unit) Tryz.prog 4) (Value.int .i64) Value.bool (fun key kl hkey => by obtain ⟨z, rfl, _⟩ := Maps.keyOf_int_inv Tryz.underlying3 hkey; exact ⟨z, rfl⟩) (fun v y hv => by obtain ⟨c, rfl, _⟩ := plainElem_bool_inv Tryz.underlying4 hv; exact ⟨c, rfl⟩) b r n _ left cnt hit h hDone ?_
  intro x c kl y w' cnt' hkey hlk hv hat hrg hlt hgr hsz hen
  obtain ⟨x', ex, rfl, hwx⟩ := Maps.keyOf_int_inv Tryz.underlying3 hkey
  cases ex
  obtain ⟨c', ec, hy⟩ := plainElem_bool_inv Tryz.underlying4 hv
  cases ec
  have hc : c = true := by
    have h1 := hat .nil
    rw [hy] at h1
    rcases setD_at (H := Unit) l (.int .i64 x) .nil with h2 | h2
    · rw [h2] at h1; cases h1
    · rw [h2] at h1; simp [boolD] at h1; exact h1
  subst hc
  exact hMore x w' cnt' hlk hrg hlt hgr hsz hen
theorem ranges_iter {H : Type} {P : Program} {K : TypeId} {R : Value → Option (DataW H × List MemPlace)} {w : World} {b r n : Nat} {D : DataW H} {left : Lit → Bool} {cnt : Nat} (h : w.ranges P K R b r n D left cnt) (c : Array Value) (t : TypeId) : w.heap[r]? ≠ some (.cells c t) := by
  obtain ⟨es, clock, since, seen, c0, hb, Ft, hs, hD, hr, rest⟩ := h
  rw [hr]; simp
set_option maxHeartbeats 2000000 in
theorem commit_at {w : World} {B : Blk} {x : Sto} (h : StoreAt w B x) (hd : ∀ k, x.dead k = true → x.taken k.toNat = true) (hg : x.gen < 2199023255552) :
    Calls Tryz.prog 37 #[B.ptr] w fun e w' => ∃ n, e = .returned (.tuple #[]) ∧ StoreAt w' (Blk.next B n) (commitX x) ∧ FrB B w w' ∧ w.heap.size ≤ n := by
  have c16 := h.sc.c16
  have ls := h.sc.lt
  obtain ⟨ld, cd, hdm, hds⟩ := h.de.ex
  have hown := set_owns (H := Unit) (P := Tryz.prog) (K := 3) (E := 4) Tryz.underlying3 Tryz.underlying4 hdm hds (fun k hk => by
    have := h.inr.2.2 k hk
    have := h.bits.room
    exact WalkArith.wf_i64 (by omega)) (by
    have := hds.len h.inr.2.2
    have := h.bits.room
    simp [maxLen]; omega)
  have HS := hid hds
  have H := hid h
  have HO := hid hown
  have HM := hid hdm
  clear hds hown hdm h
  go_enter Tryz.func37, Tryz.ntmps37
  go_wp2_with (first | (at_range; refine wpList_range_own _ rfl _ 153 rfl 3 4 (Maps.int_keyed Tryz.underlying3) Tryz.underlying153 _ B.de ld.length (setD ld) rfl HO.out ?_; intro w0 hrg0 hg0 hs0))
  go_frame
  have hlt : ∀ r, B.at_ r < w.heap.size := fun r => (H.out.heaps r).2.2.1
  have HLT := hid hlt
  have HD := hid hd
  have F00 : Fr (fun _ => False) w w0 := ⟨hg0.os, hg0.tape, hg0.output, hg0.size, fun b hb _ => hg0.block b hb (by simp)⟩
  have hS0 : StoreAt w0 B (midX x (fun k => x.dead k && !(Maps.has (setD (H := Unit) ld) (.int .i64 k)))) := by
    have e : midX x (fun k => x.dead k && !(Maps.has (setD (H := Unit) ld) (.int .i64 k))) = x := by
      have e1 : ∀ k, (x.dead k && !(Maps.has (setD (H := Unit) ld) (.int .i64 k))) = false := fun k => by
        rw [setD_has]
        cases hk : x.dead k with
        | false => rfl
        | true =>
          have : k ∈ keys ld := by
            refine Classical.byContradiction fun hn => ?_
            have := (look_none ld k).2 hn
            rw [HS.out.at_, hk] at this
            simp at this
          simp [this]
      simp [midX, e1]
    rw [e]; exact H.out.fr0 F00
  have HF00 := hid F00
  have HS0 := hid hS0
  have HR0 := hid hrg0
  clear F00 hS0 hrg0 hg0 hlt hd c16
  go_loopw [2] (fun _ wr => ∃ (left : Lit → Bool) (cnt : Nat), wr.ranges Tryz.prog 3 (plainElem (H := Unit) Tryz.prog 4) B.de w.heap.size ld.length (setD ld) left cnt ∧ (∀ k, left (.int .i64 k) = true → x.dead k = true) ∧
    StoreAt wr B (midX x (fun k => x.dead k && !left (.int .i64 k))) ∧ FrR B [.bs, .bw, .bp, .bm] w wr) (fun _ wr => wr.rangeLeft B.de w.heap.size)
  case atStart =>
    refine ⟨_, _, HR0.out, fun k hk => ?_, HS0.out, HF00.out.mono (fun _ _ h => h.elim)⟩
    rw [setD_has] at hk
    have hk' : k ∈ keys ld := by simpa using hk
    have : Sg.look ld k ≠ none := fun e => (look_none ld k).1 e hk'
    rw [HS.out.at_] at this
    cases hx : x.dead k with
    | true => rfl
    | false => rw [hx] at this; simp at this
  case round =>
    obtain ⟨left, cnt, hrg, hlf, hS, hF⟩ := hrel
    have HRG := hid hrg
    have HLF := hid hlf
    have HSr := hid hS
    have HFr := hid hF
    clear hrg hlf hS hF
    go_wp2_with (at_next; refine wpList_next_set rfl _ rfl B.de w.heap.size ld.length ld left cnt rfl HRG.out ?_ ?_)
    · intro hc0 hl0
      have hSd : StoreAt wr B (midX x x.dead) := by
        have e : (fun k => x.dead k && !left (.int .i64 k)) = x.dead := by funext k; rw [hl0]; simp
        have := HSr.out
        rw [e] at this
        exact this
      have HSd := hid hSd
      have c15 := hSd.sc.c15
      have c12 : wr.cell? ⟨B.s, 12, none⟩ = some (.int .i64 x.gen) := hSd.sc.c12
      have c14 := hSd.sc.c14
      have c16 := hSd.sc.c16
      have cz := hSd.sc.z
      have lsr := hSd.sc.lt
      have hmm := fun (t : TypeId) (W : World) => run_makeMap (P := Tryz.prog) t W
      clear hc0 hl0 hSd
      go_wp2
      go_end0
      have HF := HFr.out
      have hs := HSd.out.s
      obtain ⟨W, hW⟩ : ∃ W, ((((wr.setCell ⟨B.s, 16, none⟩ (.map (some B.dy))).setCell ⟨B.s, 15, none⟩ (.map (some wr.heap.size))).setCell ⟨B.s, 14, none⟩ (.map (some (wr.heap.size + 1)))).setCell ⟨B.s, 12, none⟩ (.int .i64 (x.gen + 1))) = W := ⟨_, rfl⟩
      have hWs : W.heap.size = wr.heap.size := by rw [← hW]; simp
      have FW : FrR B [.s] wr W := by
        rw [← hW]
        exact ((((Fr.refl _ _).setCell (a := ⟨B.s, 16, none⟩) (fun _ => ⟨.s, by simp, rfl⟩) _).setCell (a := ⟨B.s, 15, none⟩) (fun _ => ⟨.s, by simp, rfl⟩) _).setCell (a := ⟨B.s, 14, none⟩) (fun _ => ⟨.s, by simp, rfl⟩) _).setCell (a := ⟨B.s, 12, none⟩) (fun _ => ⟨.s, by simp, rfl⟩) _
      have hsW := heap_setCell_cells _ B.s 12 (.int .i64 (x.gen + 1)) (heap_setCell_cells _ B.s 14 (.map (some (wr.heap.size + 1))) (heap_setCell_cells _ B.s 15 (.map (some wr.heap.size)) (heap_setCell_cells _ B.s 16 (.map (some B.dy)) hs)))
      rw [hW] at hsW
      simp only [hW]
      have F2 : Fr (fun _ => False) W ((W.alloc (.map #[] 0)).alloc (.map #[] 0)) := ((Fr.refl _ _).alloc _).alloc _
      have hm1 : ((W.alloc (.map #[] 0)).alloc (.map #[] 0)).heap[wr.heap.size]? = some (.map #[] 0) := by
        rw [heap_alloc_lt _ _ _ (by simp; omega), ← hWs]; exact heap_alloc_new _ _
      have hm2 : ((W.alloc (.map #[] 0)).alloc (.map #[] 0)).heap[wr.heap.size + 1]? = some (.map #[] 0) := by
        have := heap_alloc_new (W.alloc (.map #[] 0)) (.map #[] 0)
        rw [World.size_alloc, hWs] at this
        exact this
      have FA : FrR B [.s] wr ((W.alloc (.map #[] 0)).alloc (.map #[] 0)) := Fr.alloc (Fr.alloc FW _) _
      have S := HSd.out.stays FA
      have hlw := HFr.out.size
      have hn := H.out.ne
      have hlt : ∀ r, B.at_ r < wr.heap.size := fun r => Nat.lt_of_lt_of_le (HLT.out r) hlw
      refine ⟨wr.heap.size, trivial, ⟨?_, S.dev (by decide) (by decide) (by decide), S.bits (by decide) (by decide), SetAt.made hm2, SetAt.made hm1, S.dy (by decide), S.mem (by decide) (by decide) (by decide), S.load, ?_, ?_, ?_, ?_⟩, ?_, hlw⟩
      · have := F2.heap hsW (fun h => h)
        simpa [commitX, Blk.next, midX] using this
      · simp only [Blk.maps, List.nodup_cons, List.mem_cons, not_or, List.not_mem_nil, not_false_eq_true, List.nodup_nil, and_true] at hn ⊢
        have e1 := hlt .bf
        have e2 := hlt .bq
        have e3 := hlt .dy
        have e4 := hlt .bm
        simp only [Blk.at_] at e1 e2 e3 e4
        obtain ⟨⟨a1, a2, a3, a4, a5⟩, ⟨b1, b2, b3, b4⟩, ⟨c1, c2, c3⟩, ⟨d1, d2⟩, e1'⟩ := hn
        refine ⟨⟨a1, ?_, ?_, a3, a5⟩, ⟨?_, ?_, b2, b4⟩, ⟨?_, ?_, ?_⟩, ⟨?_, ?_⟩, d2⟩ <;> simp only [Blk.next] <;> omega
      · have := H.out.ge
        have := H.out.dev.ge
        have := hlt .d
        simp only [Blk.at_, Blk.next] at *
        omega
      · have := H.out.rg
        simp only [commitX] at *
        omega
      · exact ⟨(fun k hk => by cases hk), (fun k hk => by cases hk), H.out.inr.2.1⟩
      · exact ((H.out.frB HF).trans (HSd.out.frB FA))
    · intro x' w1 cnt1 hlk hrg1 hlt1 hg1 hs1 hen
      have hdx := HLF.out _ hlk
      obtain ⟨hx0, hx1⟩ := H.out.inr.2.2 _ hdx
      obtain ⟨n, rfl⟩ := Int.eq_ofNat_of_zero_le hx0
      have F1 : Fr (fun b => b = w.heap.size) wr w1 := ⟨hg1.os, hg1.tape, hg1.output, hg1.size, fun b hb hn => hg1.block b hb (fun e => hn (by cases e; rfl))⟩
      have hS1 := HSr.out.frK F1 (fun r => Nat.ne_of_lt (HLT.out r)) (ranges_iter HRG.out)
      have g13 := hS1.sc.c13
      have ht : (midX x (fun k => x.dead k && !left (.int .i64 k))).taken n = true := by
        have := HD.out _ hdx
        simp [midX, hlk] at this ⊢
        exact this
      have HC := hid (clear_there hS1.bits n (by simpa [midX] using hx1) ht)
      have HS1 := hid hS1
      have HF1 := hid F1
      have HRG1 := hid hrg1
      have HLK := hid hlk
      have HDX := hid hdx
      clear hS1 F1 hrg1 hg1 hs1 hlk ht hdx
      go_wp2_with fail
      refine HC.out.mono ?_
      rintro e w2 ⟨rfl, hB2, F2⟩
      have FB2 : FrR B [.bw] w1 w2 := F2.mono (fun b _ h => ⟨.bw, by simp, h⟩)
      have S2 := HS1.out.stays FB2
      have s2 := S2.s (by decide)
      have g17 : w2.cell? ⟨B.s, 17, none⟩ = some (.pointer (some ⟨B.bc, 0, none⟩)) := by simpa using cell_of_heap s2 17
      have HDr := hid (dropmem_at (S2.mem (by decide) (by decide) (by decide)) n)
      have HB2 := hid hB2
      have HF2 := hid F2
      have HFB2 := hid FB2
      clear hB2 F2 FB2 S2 s2
      go_wp2_with fail
      refine HDr.out.mono ?_
      rintro e w3 ⟨rfl, hM3, F3⟩
      have HM3 := hid hM3
      have HF3 := hid F3
      clear hM3 F3
      go_wp2
      go_roundw
      case rel =>
        have nbw : ∀ r, B.at_ r ≠ w.heap.size := fun r => Nat.ne_of_lt (HLT.out r)
        have R2 := ranges_fr HRG1.out HF2.out (fun e => H.out.ner (r := .de) (r' := .bw) (by decide) e) (fun e => nbw .bw e.symm)
        have R3 := ranges_fr R2 HF3.out (fun e => by
          rcases e with e | e
          · exact H.out.ner (r := .de) (r' := .bp) (by decide) e
          · exact H.out.ner (r := .de) (r' := .bm) (by decide) e) (fun e => by
          rcases e with e | e
          · exact nbw .bp e.symm
          · exact nbw .bm e.symm)
        have F13 : FrR B [.bs, .bw, .bp, .bm] w1 w3 := (HFB2.out.mono (fun b _ ⟨r, hr, e⟩ => ⟨r, by simp at hr ⊢; simp [hr], e⟩)).trans HF3.out (fun b _ h => by
          rcases h with h | h
          · exact ⟨.bp, by simp, h⟩
          · exact ⟨.bm, by simp, h⟩)
        refine ⟨_, _, R3, fun k hk => HLF.out k (by simp at hk; exact hk.1), ?_, ?_⟩
        · have S3 := HS1.out.stays F13
          have eb : BitsAt w3 B.bs B.bw x.pages x.hand (upd (midX x (fun k => x.dead k && !left (.int .i64 k))).taken n false) := HB2.out.fr HF3.out (fun h => by
            rcases h with h | h
            · exact H.out.ner (r := .bs) (r' := .bp) (by decide) h
            · exact H.out.ner (r := .bs) (r' := .bm) (by decide) h) (fun h => by
            rcases h with h | h
            · exact H.out.ner (r := .bw) (r' := .bp) (by decide) h
            · exact H.out.ner (r := .bw) (r' := .bm) (by decide) h)
          have ef : ∀ k : Int, (x.dead k && !(left (.int .i64 k) && !(Lit.int .i64 k).sameKey (.int .i64 n))) = if k = n then true else (x.dead k && !left (.int .i64 k)) := fun k => by
            by_cases hk : k = n
            · subst hk; simp [Lit.sameKey, HDX.out]
            · simp [Lit.sameKey, hk]
          have e1 : upd (midX x (fun k => x.dead k && !left (.int .i64 k))).taken n false = (midX x (fun k => x.dead k && !(left (.int .i64 k) && !(Lit.int .i64 k).sameKey (.int .i64 n)))).taken := by
            funext i
            simp only [upd, midX, ef]
            by_cases hi : i = n
            · subst hi; simp
            · have : ¬ (i : Int) = n := by omega
              simp [hi, this]
          have e2 : updM (midX x (fun k => x.dead k && !left (.int .i64 k))).mem n none = (midX x (fun k => x.dead k && !(left (.int .i64 k) && !(Lit.int .i64 k).sameKey (.int .i64 n)))).mem := by
            funext k
            simp only [updM, midX, ef]
            by_cases hk : k = n
            · subst hk; simp
            · simp [hk]
          refine ⟨S3.s (by decide), S3.dev (by decide) (by decide) (by decide), by rw [← e1]; exact eb, S3.fr (by decide), S3.dy (by decide), S3.de (by decide), by rw [← e2]; exact HM3.out, fun k p hp => ?_, H.out.ne, H.out.ge, H.out.rg, H.out.inr⟩
          rw [← e2] at hp
          simp only [updM] at hp
          split at hp
          · cases hp
          · exact S3.load k p hp
        · exact (HFr.out.trans HF1.out (fun b hb h => by omega)).trans F13 (fun b _ h => h)
      case measure =>
        have nbw : ∀ r, B.at_ r ≠ w.heap.size := fun r => Nat.ne_of_lt (HLT.out r)
        have R2 := ranges_fr HRG1.out HF2.out (fun e => H.out.ner (r := .de) (r' := .bw) (by decide) e) (fun e => nbw .bw e.symm)
        have R3 := ranges_fr R2 HF3.out (fun e => by
          rcases e with e | e
          · exact H.out.ner (r := .de) (r' := .bp) (by decide) e
          · exact H.out.ner (r := .de) (r' := .bm) (by decide) e) (fun e => by
          rcases e with e | e
          · exact nbw .bp e.symm
          · exact nbw .bm e.symm)
        rw [R3.left_eq, HRG.out.left_eq]; omega
end SF
end Go.Proofs.YtgdhaaokolfdoaaGreatDoor
