/- A pack of texts: DPL. Conditions: those that each text names. -/
import Derived.Test.YtgdhaaokolfdoaaGreatDoorKBM
import Derived.Deep.CutBlock
import Derived.Test.YtgdhaaokolfdoaaGreatDoorKBJ
set_option linter.unusedVariables false
set_option linter.unusedSimpArgs false
set_option linter.unnecessarySimpa false
/- DirPlays: the walk. Conditions: the table of the bits lies in the world. -/
namespace Go.Proofs.YtgdhaaokolfdoaaGreatDoor
open Go.RowKit Go.Sg Go.Sg.Bits Go.Sg.Clk CP SF
/-- Between two rounds of the law. -/
def PlAt (w1 : World) (s0 d0 k : Nat) (bd : Nat) (rv : Value) (wr : World) : Prop :=
  ∃ B y x tops slots, (B.s = s0 ∧ B.d = d0) ∧ DirS wr w1.heap.size bd B y x tops slots False (2 + 130 * k) ∧ (∃ a c, rv = .slice a slots.length c ∧ Row8 wr (.slice a slots.length c) slots) ∧ Fr (fun _ => False) w1 wr
/-- Behind a row's call of the act. -/
def PlMid (w1 : World) (s0 d0 k : Nat) (v8 v10 v13 v14 : Value) (wr : World) : Prop :=
  ∃ (bd : Nat) (err : Int) (B : Blk) (y : Cs) (x : DirD) (tops slots : List Rf), v8 = dptr bd ∧ v13 = .int .i64 err ∧ v14 = .int .i64 err ∧ (B.s = s0 ∧ B.d = d0) ∧ DirS wr w1.heap.size bd B y x tops slots False (2 + 130 * k + 120) ∧ (∃ a c, v10 = .slice a slots.length c ∧ Row8 wr (.slice a slots.length c) slots) ∧ Fr (fun _ => False) w1 wr
theorem row8_lit (W : World) (p s : Int) : Row8 (W.alloc (.cells #[.int .i64 p, .int .i64 s] 88)) (.slice (some ⟨W.heap.size, 0, none⟩) 1 1) [(p, s)] :=
  World.ownsRow_lit W #[.int .i64 p, .int .i64 s] 1 (Nat.zero_le _) (by simp [maxLen]) (by simp)
theorem row8_D {base : Nat} {w w' : World} {v : Value} {l : List Rf} (h : Row8 w v l) (F : FrD base w w') : Row8 w' v l := FrD.own h (by decide) F
theorem cells4 {w : World} {b : Nat} {x0 x1 x2 x3 : Value} {t : TypeId} (h : w.heap[b]? = some (.cells #[x0, x1, x2, x3] t)) :
    w.cell? ⟨b, 0, none⟩ = some x0 ∧ w.cell? ⟨b, 1, none⟩ = some x1 ∧ w.cell? ⟨b, 2, none⟩ = some x2 ∧ w.cell? ⟨b, 3, none⟩ = some x3 ∧ (∀ o, w.frozen? ⟨b, o, none⟩ = false) ∧ b < w.heap.size :=
  ⟨by simpa using cell_of_heap h 0, by simpa using cell_of_heap h 1, by simpa using cell_of_heap h 2, by simpa using cell_of_heap h 3, fun o => frozen_of_heap h o, lt_of_heap h⟩
theorem slots32 {x : DirD} (h : x.per = 6 ∧ x.most = 5) (hd : x.depth ≤ x.most) : x.depth < x.most ↔ x.slots < 32 := by
  have h5 : x.depth ≤ 5 := by omega
  unfold DirD.slots
  constructor
  · intro hlt
    have h1 : 2 ^ x.depth ≤ 2 ^ 4 := Nat.pow_le_pow_right (by decide) (by omega)
    omega
  · intro hlt
    have hne : x.depth ≠ 5 := by
      intro e
      rw [e] at hlt
      exact absurd hlt (by decide)
    omega
set_option maxHeartbeats 16000000 in
set_option maxRecDepth 100000 in
theorem dirPlays_in {a : Option Addr} {n c : Nat} {l : List ActD} (hn : l.length = n) (fp fs : Int) (hfs : fs < 9223372036854775808) (w : World) (hT : Tab w) (hA : ActDR w a l) :
    Calls Tryz.prog 12 #[ref2 fp fs, .slice a n c] w fun e w' => e = .returned (.bool true) ∧ Fr (fun _ => False) w w' := by
  have hT0 := hT.lt
  obtain ⟨w1, hw1⟩ : ∃ w1, w.alloc (.cells #[.int .i64 fp, .int .i64 fs] 88) = w1 := ⟨_, rfl⟩
  have b1 : w1.heap[w.heap.size]? = some (.cells #[.int .i64 fp, .int .i64 fs] 88) := by rw [← hw1]; exact heap_alloc_new _ _
  have F01 : Fr (fun _ => False) w w1 := by rw [← hw1]; exact (Fr.refl _ _).alloc _
  have hT1 : 0 < w1.heap.size := Nat.lt_of_lt_of_le hT0 F01.size
  have HT := hid (hT.fr F01 (fun h => h))
  have HA := hid (hA.fr F01)
  have HF01 := hid F01
  have HN := hid hn
  have H20 := hid (flashnew_ok 200 96 (by omega) (by omega) w1)
  have HBx := hid (fun W (F : Fr (fun _ => False) w1 W) => cells2 (F.heap b1 (fun h => h)))
  have HW1 := hid hw1
  clear hT hA hn F01 hw1 b1
  go_enter Tryz.func12, Tryz.ntmps12
  go_upto_region 1 with fail
  rw [HW1.out]
  go_wp2_with (go_at_call 45; refine (lightd_ok HA.out n HN.out).mono ?_)
  rintro e _ ⟨⟨b, rfl, hb⟩, rfl⟩
  cases b with
  | false =>
    go_wp2_with fail
    go_ret
    exact ⟨rfl, HF01.out⟩
  | true =>
    obtain ⟨hn60, hsl⟩ := hb rfl
    have HSL := hid hsl
    clear hb hsl
    go_wp2_with fail
    refine H20.out.mono ?_
    rintro e w2 ⟨rfl, hD, F2⟩
    have HD := hid hD
    have HF2 := hid F2
    clear hD F2
    go_wp2_with fail
    refine (small15_ok _).mono ?_
    rintro e w3 ⟨rfl, F3⟩
    have HF3 := hid (HF2.out.trans F3 (fun _ _ h => h))
    have HD3 := hid (HD.out.fr F3 (fun h => h) (fun h => h) (fun h => h) (fun _ _ _ _ _ h => h))
    clear F3
    go_wp2_with fail
    have H19 := format_c HD3.out HF3.out.size (HT.out.fr HF3.out (fun h => h)) hT1 3 2 4 5 8 0 small15_fits
    refine H19.mono ?_
    rintro e w4 ⟨B0, hB, rfl, hS, F4⟩
    have HF4 := hid (HF3.out.trans F4 (fun _ _ h => h))
    have HB := hid hB
    have HS := hid hS
    obtain ⟨x0, x1, xz, xl⟩ := HBx.out _ HF4.out
    clear hB hS F4 H19 HD HD3 H20 HF3 HF2
    go_wp2_with fail
    refine (ref15_ok fp fs _).mono ?_
    rintro e w5 ⟨rfl, F5⟩
    have HF5 := hid (HF4.out.trans F5 (fun _ _ h => h))
    have HS5 := hid (HS.out.fr0 F5)
    clear F5 x0 x1 xz xl
    by_cases hr : rightM fp fs = false
    · go_wp2_with fail
      refine (make_wrong B0 fp fs hr _).mono ?_
      rintro e w6 ⟨rfl, F6⟩
      have HF6 := hid (HF5.out.trans F6 (fun _ _ h => h))
      obtain ⟨x0, x1, xz, xl⟩ := HBx.out _ HF6.out
      clear F6
      go_wp2_with fail
      refine (right15_ok fp fs _).mono ?_
      rintro e w7 ⟨rfl, F7⟩
      rw [hr]
      have HF7 := hid (HF6.out.trans F7 (fun _ _ h => h))
      have HAw := hid (awake15_ok w7 (HT.out.fr HF7.out (fun h => h)))
      clear F7 hr
      go_wp2_with fail
      refine HAw.out.mono ?_
      rintro e w8 ⟨rfl, F8⟩
      go_wp2_with fail
      go_ret
      exact ⟨rfl, HF01.out.trans (HF7.out.trans F8 (fun _ _ h => h)) (fun _ _ h => h)⟩
    · have hr' : rightM fp fs = true := by simpa using hr
      have hrr : rightR (fp, fs) := by
        simp [rightM] at hr'
        exact ⟨hr'.1.1, hr'.1.2, hr'.2, by simp only; omega⟩
      have HM := hid (made15 (K := False) HS5.out (by rw [HB.out.1]; exact HF5.out.size) (fp, fs) hrr)
      have HRr := hid hr'
      clear hr hr' hrr
      go_wp2_with fail
      refine HM.out.mono ?_
      rintro e w6 ⟨bd, y, x, tops, rfl, F6, hd6, hx6⟩
      rw [HB.out.1] at F6 hd6
      have HF6 := hid (frD_all HF5.out (Nat.le_refl _) F6)
      have HD6 := hid hd6
      obtain ⟨x0, x1, xz, xl⟩ := HBx.out _ HF6.out
      clear F6 hd6 hx6 HM
      go_wp2_with fail
      refine (right15_ok fp fs _).mono ?_
      rintro e w7 ⟨rfl, F7⟩
      rw [HRr.out]
      have HF7 := hid (HF6.out.trans F7 (fun _ _ h => h))
      have HD7 := hid (HD6.out.fr0 F7)
      clear F7 x0 x1 xz xl
      obtain ⟨x0, x1, xz, xl⟩ := HBx.out _ HF7.out
      go_upto_region 11 with fail
      obtain ⟨w8, hw8⟩ : ∃ w8, w7.alloc (.cells #[.int .i64 fp, .int .i64 fs] 88) = w8 := ⟨_, rfl⟩
      rw [hw8]
      have F8 : Fr (fun _ => False) w7 w8 := by rw [← hw8]; exact (Fr.refl _ _).alloc _
      have H8 := hid (show PlAt w1 B0.s B0.d 0 bd (.slice (some ⟨w7.heap.size, 0, none⟩) 1 1) w8 from ⟨B0, y, x, tops, [(fp, fs)], ⟨rfl, rfl⟩, HD7.out.fr0 F8, ⟨_, _, rfl, by rw [← hw8]; exact row8_lit w7 fp fs⟩, HF7.out.trans F8 (fun _ _ h => h)⟩)
      have HW8 := hid hw8
      clear F8 x0 x1 xz xl hw8
      rw [show B0.d = w1.heap.size + 2 from HB.out.2.1] at H8
      clear HS5 HS HD6 HD7
      go_wp2_with fail
      go_loopw [8, 10, 11] (fun dv rv i wr => ∃ k bd : Nat, k ≤ n ∧ i = .int .i64 k ∧ dv = dptr bd ∧ PlAt w1 B0.s (w1.heap.size + 2) k bd rv wr) (fun _ _ i _ => n - (intOf i).toNat)
      case atStart => exact ⟨0, bd, Nat.zero_le _, rfl, rfl, H8.out⟩
      case round =>
        obtain ⟨k, bd, hk, rfl, rfl, B, y, x, tops, slots, hBB, hd, ⟨ra, rc, rfl, hrow⟩, hF⟩ := hrel
        by_cases hlt : k < n
        · have hdl : decide ((k : Int) < (n : Int)) = true := by simp; omega
          have hki : (k : Int) < (n : Int) := by omega
          have hx : l[k]? = some (l[k]'(by rw [HN.out]; exact hlt)) := List.getElem?_eq_getElem _
          generalize l[k]'(by rw [HN.out]; exact hlt) = ac at hx
          have h40 : ac.sn ≤ 40 := HSL.out ac (List.mem_of_getElem? hx)
          obtain ⟨bA, off, rfl, hbA, q0, q1, q2, q3, hok⟩ := (HA.out.fr hF).at_ k ac hx
          have hok1 : ActDOk w1 ac := by obtain ⟨_, _, _, _, _, _, _, _, h⟩ := HA.out.at_ k ac hx; exact h
          obtain ⟨w0k, hw0k⟩ : ∃ z, (wrap64 (ac.kind.tmod 7 + 7)).tmod 7 = z := ⟨_, rfl⟩
          obtain ⟨m, hm⟩ : ∃ m, slots.length = m := ⟨_, rfl⟩
          have hm32 : m ≤ 32 := by rw [← hm, hd.c.slen]; exact hd.small.2
          have hm0 : 0 < m := by
            rw [← hm, hd.c.slen]; exact Nat.pow_pos (by decide)
          rw [hm]
          obtain ⟨W, hW⟩ : ∃ W, wr.alloc (.cells #[.int .i64 ac.kind, .slice ac.sa ac.sn ac.sc, .int .i64 ac.rp, .int .i64 ac.rs] 90) = W := ⟨_, rfl⟩
          have bW : W.heap[wr.heap.size]? = some (.cells #[.int .i64 ac.kind, .slice ac.sa ac.sn ac.sc, .int .i64 ac.rp, .int .i64 ac.rs] 90) := by rw [← hW]; exact heap_alloc_new _ _
          have FW : Fr (fun _ => False) wr W := by rw [← hW]; exact (Fr.refl _ _).alloc _
          have HX := hid (fun V (F : Fr (fun _ => False) W V) => cells4 (F.heap bW (fun h => h)))
          have HXD := hid (fun V (F : FrD w1.heap.size W V) => cells4 (F.heap bW (by decide)))
          have HD := hid (hd.fr0 FW)
          have HRow := hid (show Row8 W (.slice ra m rc) slots by rw [← hm]; exact own_none hrow FW)
          have HF := hid (hF.trans FW (fun _ _ h => h))
          have HOK := hid (hok.fr FW)
          have HBB := hid hBB
          have HW := hid hW
          have HM := hid hm
          have HSLI := hid (fun V (F : Fr (fun _ => False) w1 V) => show SlI V ac.sa ac.sn ac.sc ac.sl from hok1.sli.fr0 F)
          clear hx hd hrow hF hok hok1 hBB hW bW FW hm
          go_upto_region 16 with fail
          rw [HW.out]
          obtain ⟨y0, y1, y2, y3, yz, yl⟩ := HX.out _ (Fr.refl _ _)
          clear q0 q1 q2 q3
          go_upto_block 2 with fail
          go_cut [8, 10, 13, 14] from 73 to 175 (fun v8 v10 v13 v14 wx => PlMid w1 B0.s (w1.heap.size + 2) k v8 v10 v13 v14 wx)
          case first =>
            by_cases h3 : w0k = 3
            · have hd3 : (w0k == 3) = true := by simp [h3]
              clear h3
              by_cases hdm : x.depth < x.most
              · have hs32 := (slots32 HD.out.per HD.out.c.z.most.1).1 hdm
                have hm31 : m < 32 := by rw [← HM.out, HD.out.c.slen]; exact hs32
                have HDb := hid (HD.out.double hdm (by omega))
                clear hs32 hdm
                go_wp2_with fail
                refine HDb.out.mono ?_
                rintro e W5 ⟨rfl, F5, y5, x5, t5, hd5, hx5⟩
                have HR5 := hid (rdbl15_ok (row8_D HRow.out F5) (by rw [HM.out]; omega))
                have H5 := hid (And.intro hd5 F5)
                clear F5 hd5 hx5 HDb
                go_wp2_with fail
                refine HR5.out.mono ?_
                rintro e W6 ⟨F6, ⟨h32, rfl⟩ | ⟨h32, v', rfl, hrow6⟩⟩
                · rw [HM.out] at h32; omega
                · obtain ⟨va, vc, rfl, -, -, -, -⟩ := own_slice hrow6
                  have HQ := hid (show PlMid w1 B0.s (w1.heap.size + 2) k (dptr bd) (.slice va (dblM slots).length vc) (.int .i64 0) (.int .i64 0) W6 from ⟨bd, 0, B, y5, x5, t5, dblM slots, rfl, rfl, rfl, HBB.out, (H5.out.1.fr0 F6).mono (by omega) (by omega), ⟨_, _, rfl, hrow6⟩, (frD_all HF.out (Nat.le_refl _) H5.out.2).trans F6 (fun _ _ h => h)⟩)
                  clear F6 hrow6 h32
                  go_wp2_with fail
                  go_meet
                  exact HQ.out
              · have hs32 : 32 ≤ m := by
                  have := (not_congr (slots32 HD.out.per HD.out.c.z.most.1)).1 hdm
                  rw [← HM.out, HD.out.c.slen]; omega
                have HDb := hid (double_full HD.out.dir (by omega))
                clear hdm
                go_wp2_with fail
                refine HDb.out.mono ?_
                rintro e W5 ⟨rfl, F5⟩
                have HR5 := hid (rdbl15_ok (own_none HRow.out F5) (by rw [HM.out]; omega))
                have HF5 := hid F5
                clear F5 HDb
                go_wp2_with fail
                refine HR5.out.mono ?_
                rintro e W6 ⟨F6, ⟨h32, rfl⟩ | ⟨h32, v', rfl, hrow6⟩⟩
                · have F06 := HF5.out.trans F6 (fun _ _ h => h)
                  have HQ := hid (show PlMid w1 B0.s (w1.heap.size + 2) k (dptr bd) (.slice ra m rc) (.int .i64 6) (.int .i64 6) W6 from ⟨bd, 6, B, y, x, tops, slots, rfl, rfl, rfl, HBB.out, (HD.out.fr0 F06).mono (by omega) (by omega), ⟨ra, rc, by rw [HM.out], by rw [HM.out]; have := own_none HRow.out F06; exact this⟩, HF.out.trans F06 (fun _ _ h => h)⟩)
                  clear F6 F06 h32
                  go_wp2_with fail
                  go_meet
                  exact HQ.out
                · rw [HM.out] at h32; omega
            · have hd3 : (w0k == 3) = false := by simp [h3]
              by_cases h4 : w0k = 4
              · have hd4 : (w0k == 4) = true := by simp [h4]
                clear h3 h4
                by_cases hsn : 0 < ac.sn
                · have hdn : decide ((0 : Int) < (ac.sn : Int)) = true := by simp; omega
                  have hsni : (0 : Int) < (ac.sn : Int) := by omega
                  obtain ⟨z, hz⟩ : ∃ z, ac.sl[0]? = some z := ⟨_, List.getElem?_eq_getElem (by rw [HOK.out.sli.len]; exact hsn)⟩
                  obtain ⟨bs, os, hsa, hbs, hcs⟩ := (HSLI.out W HF.out).at_ 0 z hz
                  have HCs := hid (fun V (F : Fr (fun _ => False) w1 V) => show V.cell? ⟨bs, os, none⟩ = some (.int .i64 z) ∧ bs < V.heap.size by
                    obtain ⟨bs', os', e', h1, h2⟩ := (HSLI.out V F).at_ 0 z hz
                    rw [hsa] at e'; cases e'
                    exact ⟨by simpa using h2, h1⟩)
                  have HSA := hid hsa
                  have HXs := hid (fun V (F : FrD w1.heap.size W V) => show V.cell? ⟨wr.heap.size, 1, none⟩ = some (.slice (some ⟨bs, os, none⟩) ac.sn ac.sc) ∧ wr.heap.size < V.heap.size by
                    obtain ⟨y0', y1', y2', y3', yz', yl'⟩ := HXD.out V F
                    rw [hsa] at y1'
                    exact ⟨y1', yl'⟩)
                  rw [hsa] at y1
                  simp only [Nat.add_zero] at hcs
                  clear hsa hz
                  by_cases hzr : 0 ≤ z ∧ z < (m : Int)
                  · obtain ⟨zn, rfl⟩ := Int.eq_ofNat_of_zero_le hzr.1
                    have hznm : zn < m := by omega
                    have hzi : (zn : Int) < (m : Int) := hzr.2
                    have hd0 : decide ((zn : Int) < 0) = false := by simp
                    have hdm : decide ((m : Int) ≤ (zn : Int)) = false := by simp; omega
                    obtain ⟨⟨p, s⟩, hr⟩ : ∃ r, slots[zn]? = some r := ⟨_, List.getElem?_eq_getElem (by rw [HM.out]; exact hznm)⟩
                    have HG := hid (HD.out.get zn p s hr (by omega))
                    have HRk := hid hr
                    clear hr hzr
                    go_wp2_with fail
                    refine HG.out.mono ?_
                    rintro e W5 ⟨rfl, F5, hd5'⟩
                    have HF5 := hid F5
                    have HD5 := hid hd5'
                    clear F5 hd5' HG y0 y1 y2 y3 yz yl hcs hbs
                    go_upto_region 25 with fail
                    obtain ⟨W6, hW6⟩ : ∃ W6, W5.alloc (.cells #[.int .i64 p, .int .i64 s] 35) = W6 := ⟨_, rfl⟩
                    rw [hW6]
                    have b6 : W6.heap[W5.heap.size]? = some (.cells #[.int .i64 p, .int .i64 s] 35) := by rw [← hW6]; exact heap_alloc_new _ _
                    have HF6 := hid (show Fr (fun _ => False) W5 W6 by rw [← hW6]; exact (Fr.refl _ _).alloc _)
                    have HW6 := hid hW6
                    have HC := hid (fun V (F : Fr (fun _ => False) W6 V) => show ∃ g8 : Nat, ra = some ⟨g8, 0, none⟩ ∧ (V.cell? ⟨W5.heap.size, 0, none⟩ = some (.int .i64 p) ∧ V.cell? ⟨W5.heap.size, 1, none⟩ = some (.int .i64 s)) ∧ (V.cell? ⟨g8, zn * 2, none⟩ = some (.int .i64 p) ∧ V.cell? ⟨g8, zn * 2 + 1, none⟩ = some (.int .i64 s)) ∧ V.cell? ⟨wr.heap.size, 1, none⟩ = some (.slice (some ⟨bs, os, none⟩) ac.sn ac.sc) ∧ V.cell? ⟨bs, os, none⟩ = some (.int .i64 zn) ∧ W5.heap.size < V.heap.size ∧ g8 < V.heap.size ∧ wr.heap.size < V.heap.size ∧ bs < V.heap.size by
                      have F5V : Fr (fun _ => False) W5 V := HF6.out.trans F (fun _ _ h => h)
                      have FWV : FrD w1.heap.size W V := FrD.trans HF5.out (FrD.none F5V)
                      obtain ⟨g8, e8, h8, x0, x1⟩ := row8_at (show V.ownsRow 0 88 2 (.slice ra slots.length rc) slots.length (slots.flatMap refC) by have h := row8_D HRow.out FWV; rw [← HM.out] at h; exact h) HRk.out
                      obtain ⟨t0, t1, tz, tl⟩ := cells2 (F.heap b6 (fun h => h))
                      obtain ⟨y1', yl'⟩ := HXs.out V FWV
                      obtain ⟨hcs', hbs'⟩ := HCs.out V (frD_all HF.out (Nat.le_refl _) FWV)
                      exact ⟨g8, e8, ⟨t0, t1⟩, ⟨x0, x1⟩, y1', hcs', tl, h8, yl', hbs'⟩)
                    obtain ⟨g8, rfl, ⟨t0, t1⟩, ⟨u0, u1⟩, t2, t3, tl1, tl2, tl3, tl4⟩ := HC.out _ (Fr.refl _ _)
                    have HC2 := hid (fun V (F : Fr (fun _ => False) W6 V) => show (V.cell? ⟨W5.heap.size, 0, none⟩ = some (.int .i64 p) ∧ V.cell? ⟨W5.heap.size, 1, none⟩ = some (.int .i64 s)) ∧ (V.cell? ⟨g8, zn * 2, none⟩ = some (.int .i64 p) ∧ V.cell? ⟨g8, zn * 2 + 1, none⟩ = some (.int .i64 s)) ∧ V.cell? ⟨wr.heap.size, 1, none⟩ = some (.slice (some ⟨bs, os, none⟩) ac.sn ac.sc) ∧ V.cell? ⟨bs, os, none⟩ = some (.int .i64 zn) by
                      obtain ⟨g8', e8, r1, r2, r3, r4, -⟩ := HC.out V F
                      cases e8
                      exact ⟨r1, r2, r3, r4⟩)
                    have hn35 : ∀ W, (binOp .neq 35 (ref2 p s) (ref2 p s)).run Tryz.prog W = .ok (.bool false) W := fun W => by rw [neq35]; simp
                    clear b6 hW6
                    go_upto_region 28 with fail
                    have FG : Fr (fun _ => False) W6 W6.drew := (Fr.refl _ _).drew
                    go_region_held3 (fun V => (V.cell? ⟨W5.heap.size, 0, none⟩ = some (.int .i64 p) ∧ V.cell? ⟨W5.heap.size, 1, none⟩ = some (.int .i64 s)) ∧ (V.cell? ⟨g8, zn * 2, none⟩ = some (.int .i64 p) ∧ V.cell? ⟨g8, zn * 2 + 1, none⟩ = some (.int .i64 s)) ∧ V.cell? ⟨wr.heap.size, 1, none⟩ = some (.slice (some ⟨bs, os, none⟩) ac.sn ac.sc) ∧ V.cell? ⟨bs, os, none⟩ = some (.int .i64 zn)) (go_keep) (first
                      | (go_at_call 51; refine (ref15_ok p s _).mono ?_; rintro _ V1 ⟨rfl, G1⟩; have FG := FG.trans G1 (fun _ _ h => h); obtain ⟨⟨t0, t1⟩, ⟨u0, u1⟩, t2, t3⟩ := HC2.out _ FG; clear G1))
                    have F6V : Fr (fun _ => False) W5 V1 := HF6.out.trans FG (fun _ _ h => h)
                    have FWV : FrD w1.heap.size W V1 := FrD.trans HF5.out (FrD.none F6V)
                    have HQ := hid (show PlMid w1 B0.s (w1.heap.size + 2) k (dptr bd) (.slice (some ⟨g8, 0, none⟩) m rc) (.int .i64 0) (.int .i64 0) V1 from ⟨bd, 0, B, y, x, tops, slots, rfl, rfl, rfl, HBB.out, (HD5.out.fr0 F6V).mono (by omega) (by omega), ⟨_, rc, by rw [HM.out], by rw [HM.out]; have := row8_D HRow.out FWV; exact this⟩, frD_all HF.out (Nat.le_refl _) FWV⟩)
                    clear F6V FWV FG
                    go_wp2_with fail
                    go_meet
                    exact HQ.out
                  · have HG := hid (HD.out.none_get z (by rw [HM.out]; omega))
                    have hn35 : ∀ W, (binOp .neq 35 (ref2 0 0) (ref2 0 0)).run Tryz.prog W = .ok (.bool false) W := fun W => by rw [neq35]; simp
                    have hzz : (decide (z < 0) = true) ∨ (decide (z < 0) = false ∧ decide ((m : Int) ≤ z) = true) := by
                      by_cases h0 : z < 0
                      · exact .inl (by simp [h0])
                      · exact .inr ⟨by simp [h0], by simp; omega⟩
                    clear hzr
                    go_wp2_with fail
                    refine HG.out.mono ?_
                    rintro e W5 ⟨rfl, F5⟩
                    have HF5 := hid F5
                    obtain ⟨y1', yl'⟩ := HXs.out W5 (FrD.none F5)
                    obtain ⟨hcs', hbs'⟩ := HCs.out W5 (HF.out.trans F5 (fun _ _ h => h))
                    have HQ0 := hid (fun V (F : Fr (fun _ => False) W5 V) => show PlMid w1 B0.s (w1.heap.size + 2) k (dptr bd) (.slice ra m rc) (.int .i64 0) (.int .i64 0) V from ⟨bd, 0, B, y, x, tops, slots, rfl, rfl, rfl, HBB.out, (HD.out.fr0 (HF5.out.trans F (fun _ _ h => h))).mono (by omega) (by omega), ⟨ra, rc, by rw [HM.out], by rw [HM.out]; have := own_none HRow.out (HF5.out.trans F (fun _ _ h => h)); exact this⟩, HF.out.trans (HF5.out.trans F (fun _ _ h => h)) (fun _ _ h => h)⟩)
                    clear F5 HG y0 y1 y2 y3 yz yl hcs hbs
                    rcases hzz with hz0 | ⟨hz0, hzm⟩
                    all_goals
                      go_wp2_with fail
                      go_meet
                      exact HQ0.out _ ((Fr.refl _ _).alloc _)
                · have hdn : decide ((0 : Int) < (ac.sn : Int)) = false := by simp; omega
                  have HQ := hid (show PlMid w1 B0.s (w1.heap.size + 2) k (dptr bd) (.slice ra m rc) (.int .i64 0) (.int .i64 0) W from ⟨bd, 0, B, y, x, tops, slots, rfl, rfl, rfl, HBB.out, HD.out.mono (by omega) (by omega), ⟨ra, rc, by rw [HM.out], by rw [HM.out]; exact HRow.out⟩, HF.out⟩)
                  go_wp2_with fail
                  go_meet
                  exact HQ.out
              · have hd4 : (w0k == 4) = false := by simp [h4]
                by_cases h5 : w0k = 5
                · have hd5 : (w0k == 5) = true := by simp [h5]
                  clear h3 h4 h5
                  have HFl := hid (show Calls Tryz.prog 39 #[.pointer (some ⟨B0.s, 0, none⟩)] W (StepL 1 w1.heap.size bd B y x tops slots False (2 + 130 * k + 8) W) by rw [← HBB.out.1]; exact HD.out.flush (by omega))
                  go_wp2_with fail
                  refine HFl.out.mono ?_
                  rintro e W5 ⟨rfl, F5, hL5⟩
                  have HSy := hid (show Calls Tryz.prog 41 #[.pointer (some ⟨w1.heap.size + 2, 0, none⟩)] W5 (StepL 2 w1.heap.size bd B y x tops slots False (2 + 130 * k + 8 + 1) W5) by rw [← HBB.out.2]; exact hL5.sync (by omega))
                  have HF5 := hid F5
                  clear F5 hL5 HFl
                  go_wp2_with fail
                  refine HSy.out.mono ?_
                  rintro e W6 ⟨rfl, F6, hL6⟩
                  have HCm := hid (show Calls Tryz.prog 37 #[.pointer (some ⟨B0.s, 0, none⟩)] W6 (StepCm w1.heap.size bd B x tops slots (2 + 130 * k + 8 + 1 + 1) W6) by rw [← HBB.out.1]; exact hL6.s.commit (by omega))
                  have HF6 := hid (HF5.out.trans F6)
                  clear F6 hL6 HSy
                  go_wp2_with fail
                  refine HCm.out.mono ?_
                  rintro e W7 ⟨rfl, F7, B7, y7, hB7, hd7⟩
                  have F07 := HF6.out.trans F7
                  have HQ := hid (show PlMid w1 B0.s (w1.heap.size + 2) k (dptr bd) (.slice ra m rc) (.int .i64 0) (.int .i64 0) W7 from ⟨bd, 0, B7, y7, x, tops, slots, rfl, rfl, rfl, ⟨hB7.1.trans HBB.out.1, hB7.2.trans HBB.out.2⟩, hd7.mono (by omega) (by omega), ⟨ra, rc, by rw [HM.out], by rw [HM.out]; have := row8_D HRow.out F07; exact this⟩, frD_all HF.out (Nat.le_refl _) F07⟩)
                  clear F7 F07 hB7 hd7 HCm
                  go_wp2_with fail
                  go_meet
                  exact HQ.out
                · have hd5 : (w0k == 5) = false := by simp [h5]
                  by_cases h6 : w0k = 6
                  · have hd6 : (w0k == 6) = true := by simp [h6]
                    clear h3 h4 h5 h6
                    have HDp := hid (depth_ok HD.out.dir)
                    have HRt := hid (root_ok HD.out.dir)
                    have HOp := hid (fun V (F : Fr (fun _ => False) W V) => show Calls Tryz.prog 53 #[.pointer (some ⟨B0.s, 0, none⟩), .int .i64 x.depth, ref2 x.rp x.rs] V (StepO w1.heap.size B y x tops slots (2 + 130 * k) V) by rw [← HBB.out.1]; exact (HD.out.fr0 F).opened)
                    go_wp2_with fail
                    refine HDp.out.mono ?_
                    rintro e _ ⟨rfl, rfl⟩
                    go_wp2_with fail
                    refine HRt.out.mono ?_
                    rintro e W5 ⟨rfl, F5⟩
                    have HF5 := hid F5
                    clear F5
                    go_wp2_with fail
                    refine (HOp.out _ HF5.out).mono ?_
                    rintro e W6 ⟨bd', rfl, F6, hd6'⟩
                    have F06 : FrD w1.heap.size W W6 := FrD.trans (FrD.none HF5.out) F6
                    have HQ := hid (show PlMid w1 B0.s (w1.heap.size + 2) k (dptr bd') (.slice ra m rc) (.int .i64 0) (.int .i64 0) W6 from ⟨bd', 0, B, y, x, tops, slots, rfl, rfl, rfl, HBB.out, hd6'.mono (by omega) (by omega), ⟨ra, rc, by rw [HM.out], by rw [HM.out]; have := row8_D HRow.out F06; exact this⟩, frD_all HF.out (Nat.le_refl _) F06⟩)
                    clear F6 F06 hd6' HOp HRt HDp
                    go_wp2_with fail
                    go_meet
                    exact HQ.out
                  · have hd6 : (w0k == 6) = false := by simp [h6]
                    clear h3 h4 h5 h6
                    obtain ⟨j0, hj0, hjz0, hjz1, hjz2⟩ := info_parts Tryz.info3d
                    have HSet := hid (fun V (F : Fr (fun _ => False) W V) (a4 : Option Addr) (c4 : Nat) (ho : V.ownsRow W.heap.size 3 1 (.slice a4 ac.sn c4) ac.sn (ac.sl.map (Value.int .i64))) => show Calls Tryz.prog 50 #[dptr bd, .slice a4 ac.sn c4, ref2 ac.rp ac.rs] V (StepD w1.heap.size bd B x.depth (setR slots ac.sl ac.rp ac.rs) False (2 + 130 * k + 100) (setE slots.length ac.sl ac.rp ac.rs) V) from (HD.out.fr0 F).set_any (l := ac.sl) ac.rp ac.rs (wf_hi HOK.out.ws) (sli_of_own ho HOK.out.sli.len) (fun W' G => sli_of_own (own_frB ho (by decide) G) HOK.out.sli.len) h40 (by omega))
                    obtain ⟨er, her⟩ : ∃ er, setE slots.length ac.sl ac.rp ac.rs = er := ⟨_, rfl⟩
                    rw [her] at HSet
                    have HE := hid her
                    have HN63 := hid (show 0 + ac.sn ≤ maxLen by unfold maxLen; omega)
                    have HNb := hid (show (0 + ac.sn) * 8 ≤ 140737488355328 by omega)
                    have FG : Fr (fun _ => False) W W.drew := (Fr.refl _ _).drew
                    clear her
                    go_wp2_with fail
                    refine wp_region_noPanic ?_
                    refine region_plan (fun V => FrD w1.heap.size W V) (.rd 0 (.rd 2 (.rd 3 (.rd 5 (.rd 6 (.op 1 (.op 4 (.op 7 (.op 8 (.rd 9 .done)))))))))) (by kernel_rfl) (by kernel_rfl) (by kernel_rfl) (fun _ _ _ _ _ h => h) (FrD.none FG) ?_
                    try simp only [Act.put, List.setIfInBounds_toArray, List.set_cons_zero, List.set_cons_succ]
                    refine plan_rd _ ?_ (by simp only [List.getElem?_toArray, List.getElem?_cons_zero, List.getElem?_cons_succ]; rfl) (by rfl) ?_ ?_
                    rotate_left
                    · intro V hV
                      obtain ⟨y0, y1, y2, y3, yz, yl⟩ := HXD.out V hV
                      go_simp
                      try with_reducible rfl
                    try simp only [Act.put, List.setIfInBounds_toArray, List.set_cons_zero, List.set_cons_succ]
                    refine plan_rd _ ?_ (by simp only [List.getElem?_toArray, List.getElem?_cons_zero, List.getElem?_cons_succ]; rfl) (by rfl) ?_ ?_
                    rotate_left
                    · intro V hV
                      obtain ⟨y0, y1, y2, y3, yz, yl⟩ := HXD.out V hV
                      go_simp
                      try with_reducible rfl
                    try simp only [Act.put, List.setIfInBounds_toArray, List.set_cons_zero, List.set_cons_succ]
                    refine plan_rd _ ?_ (by simp only [List.getElem?_toArray, List.getElem?_cons_zero, List.getElem?_cons_succ]; rfl) (by rfl) ?_ ?_
                    rotate_left
                    · intro V hV
                      obtain ⟨y0, y1, y2, y3, yz, yl⟩ := HXD.out V hV
                      go_simp
                      try with_reducible rfl
                    try simp only [Act.put, List.setIfInBounds_toArray, List.set_cons_zero, List.set_cons_succ]
                    refine plan_rd _ ?_ (by simp only [List.getElem?_toArray, List.getElem?_cons_zero, List.getElem?_cons_succ]; rfl) (by rfl) ?_ ?_
                    rotate_left
                    · intro V hV
                      obtain ⟨y0, y1, y2, y3, yz, yl⟩ := HXD.out V hV
                      go_simp
                      try with_reducible rfl
                    try simp only [Act.put, List.setIfInBounds_toArray, List.set_cons_zero, List.set_cons_succ]
                    refine plan_rd _ ?_ (by simp only [List.getElem?_toArray, List.getElem?_cons_zero, List.getElem?_cons_succ]; rfl) (by rfl) ?_ ?_
                    rotate_left
                    · intro V hV
                      obtain ⟨y0, y1, y2, y3, yz, yl⟩ := HXD.out V hV
                      go_simp
                      try with_reducible rfl
                    try simp only [Act.put, List.setIfInBounds_toArray, List.set_cons_zero, List.set_cons_succ]
                    refine plan_op _ (by simp only [List.getElem?_toArray, List.getElem?_cons_zero, List.getElem?_cons_succ]; rfl) (by rfl) (fun K hK => ?_)
                    go_simp
                    have hO := own_litB (W.drew) (W.drew).heap.size (Nat.le_refl _) 3 1 (.slice (some ⟨(W.drew).heap.size, 0, none⟩) 0 0) rfl
                    have hBs := FG.size
                    have FG := FG.alloc (.cells #[] 3)
                    refine hK _ _ (FrD.none FG) ?_
                    clear hK K
                    try simp only [Act.put, List.setIfInBounds_toArray, List.set_cons_zero, List.set_cons_succ]
                    refine plan_op _ (by simp only [List.getElem?_toArray, List.getElem?_cons_zero, List.getElem?_cons_succ]; rfl) (by rfl) (fun K hK => ?_)
                    refine wp_app_src rfl (.tmp 74) (.tmp 76) 52 rfl W.heap.size 3 j0 _ 1 8 Tryz.underlying52 hj0 hjz0 hjz1 hjz2 rfl (Nat.succ_pos 0) _ 0 [] rfl (own_mono hO hBs) _ ac.sn _ rfl (sli_src (HSLI.out _ (HF.out.trans FG (fun _ _ h => h)))) (sli_len HOK.out.sli) (i64_one _) HN63.out HNb.out FG.size ?_
                    intro v4 W4 hown4 hg4
                    simp only [List.nil_append, Nat.zero_add] at hown4
                    have FG := app_fr FG hg4 (own_blk (own_mono hO hBs))
                    refine hK _ _ (FrD.none FG) ?_
                    clear hK K
                    try simp only [Act.put, List.setIfInBounds_toArray, List.set_cons_zero, List.set_cons_succ]
                    refine plan_op _ (by simp only [List.getElem?_toArray, List.getElem?_cons_zero, List.getElem?_cons_succ]; rfl) (by rfl) (fun K hK => ?_)
                    go_simp
                    refine (ref15_ok ac.rp ac.rs _).mono ?_
                    rintro _ VB ⟨rfl, GB⟩
                    have hown4 := own_none hown4 GB
                    have FG := FG.trans GB (fun _ _ h => h)
                    try go_simp
                    refine hK _ _ (FrD.none FG) ?_
                    clear hK K
                    try simp only [Act.put, List.setIfInBounds_toArray, List.set_cons_zero, List.set_cons_succ]
                    refine plan_op _ (by simp only [List.getElem?_toArray, List.getElem?_cons_zero, List.getElem?_cons_succ]; rfl) (by rfl) (fun K hK => ?_)
                    obtain ⟨a4, c4, rfl, -, -, -, -⟩ := own_slice hown4
                    go_simp
                    refine (HSet.out _ FG a4 c4 hown4).mono ?_
                    rintro _ W5 ⟨rfl, F5, y5, x5, t5, hd5, hx5⟩
                    have F05 : FrD w1.heap.size W W5 := FrD.trans (FrD.none FG) F5
                    have H5 := hid (And.intro hd5 F05)
                    try go_simp
                    refine hK _ _ F05 ?_
                    clear hK K hd5 F5 hx5
                    try simp only [Act.put, List.setIfInBounds_toArray, List.set_cons_zero, List.set_cons_succ]
                    refine plan_rd _ ?_ (by simp only [List.getElem?_toArray, List.getElem?_cons_zero, List.getElem?_cons_succ]; rfl) (by rfl) ?_ ?_
                    rotate_left
                    · intro V hV
                      go_simp
                      try with_reducible rfl
                    try simp only [Act.put, List.setIfInBounds_toArray, List.set_cons_zero, List.set_cons_succ]
                    refine plan_done ?_
                    refine NoPanic.normal ?_
                    obtain ⟨y0, y1, y2, y3, yz, yl⟩ := HXD.out _ H5.out.2
                    have HR60 := hid (rset15_ok (row8_D HRow.out H5.out.2) (by rw [HM.out]; omega) (by rw [HM.out]; exact hm0) (HSLI.out _ (frD_all HF.out (Nat.le_refl _) H5.out.2)) (by omega) ac.rp ac.rs)
                    clear FG F05
                    go_wp2_with fail
                    refine HR60.out.mono ?_
                    rintro e W6 ⟨F6, v', rfl, hrow6⟩
                    rw [HE.out]
                    obtain ⟨va, vc, rfl, -, -, -, -⟩ := own_slice hrow6
                    have HQ := hid (show PlMid w1 B0.s (w1.heap.size + 2) k (dptr bd) (.slice va (setR slots ac.sl ac.rp ac.rs).length vc) (.int .i64 er) (.int .i64 er) W6 from ⟨bd, er, B, y5, x5, t5, setR slots ac.sl ac.rp ac.rs, rfl, rfl, rfl, HBB.out, (H5.out.1.fr0 F6).mono (by omega) (by omega), ⟨_, _, rfl, hrow6⟩, (frD_all HF.out (Nat.le_refl _) H5.out.2).trans F6 (fun _ _ h => h)⟩)
                    clear F6 hrow6 HR60
                    go_wp2_with fail
                    go_meet
                    exact HQ.out

          case rest =>
            obtain ⟨bd2, err, B2, y2', x2, t2, slots2, rfl, rfl, rfl, hB2, hd2, ⟨ra2, rc2, rfl, hrow2⟩, hF2⟩ := hcut
            obtain ⟨dp, hdp⟩ : ∃ dp, x2.depth = dp := ⟨_, rfl⟩
            obtain ⟨m2, hm2⟩ : ∃ m2, slots2.length = m2 := ⟨_, rfl⟩
            have hpw : wrap64 ((2 : Int) ^ dp) = (m2 : Int) := by
              rw [← hdp, ← hm2, hd2.c.slen, wrap_pow (by have := hd2.c.z.most; have := hd2.per; omega)]; rfl
            have hdp20 : dp ≤ 20 := by rw [← hdp]; have := hd2.c.z.most; have := hd2.per; omega
            have hmin : min dp 64 = dp := by omega
            have HDp := hid (show Calls Tryz.prog 56 #[dptr bd2] wc (IntP dp wc) by rw [← hdp]; exact depth_ok hd2.dir)
            have HHe := hid (show Calls Tryz.prog 23 #[.pointer (some ⟨B0.s, 0, none⟩)] wc _ by rw [← hB2.1]; exact held_c hd2.st)
            rw [hm2]
            have hpl2 := hd2.places
            have H2 := hid (And.intro hB2 (And.intro hd2 (And.intro hrow2 (And.intro hF2 hm2))))
            clear hB2 hd2 hrow2 hF2 hm2 hdp
            go_wp2_with fail
            refine HDp.out.mono ?_
            rintro e _ ⟨rfl, rfl⟩
            go_wp2_with fail
            refine HHe.out.mono ?_
            rintro e _ ⟨cn, rfl, hcn, rfl⟩
            have hd8 : decide ((8 : Int) < (cn : Int)) = false := by simp; omega
            clear hcn
            go_wp2_with fail
            go_roundw
            case rel =>
              obtain ⟨hB2, hd2, hrow2, hF2, hm2⟩ := H2.out
              exact ⟨k + 1, bd2, hlt, by go_num, rfl, B2, y2', x2, t2, slots2, hB2, hd2.mono (by omega) (by omega), ⟨ra2, rc2, by rw [hm2], hrow2⟩, hF2⟩
            case measure => simp [intOf]; omega
        · obtain rfl : k = n := by omega
          have hdl : decide ((k : Int) < (k : Int)) = false := by simp
          have HD := hid (told15_ok hd hrow (by omega))
          have HF := hid hF
          clear hd hF hrow
          go_wp2_with fail
          refine HD.out.mono ?_
          rintro e W2 ⟨rfl, F2⟩
          have HF2 := hid (frD_all HF.out (Nat.le_refl _) F2)
          have HAw := hid (awake15_ok W2 (HT.out.fr HF2.out (fun h => h)))
          clear F2
          go_wp2_with fail
          refine HAw.out.mono ?_
          rintro e W3 ⟨rfl, F3⟩
          go_wp2_with fail
          go_ret
          exact ⟨rfl, HF01.out.trans (HF2.out.trans F3 (fun _ _ h => h)) (fun _ _ h => h)⟩
end Go.Proofs.YtgdhaaokolfdoaaGreatDoor
