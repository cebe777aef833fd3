/- A pack of texts: WH, OB, OA, OW. Conditions: those that each text names. -/
import Derived.Test.YtgdhaaokolfdoaaGreatDoorWBL
import Derived.Test.YtgdhaaokolfdoaaGreatDoorWBM
import Derived.Deep.CutBlock
import Derived.Test.YtgdhaaokolfdoaaGreatDoorWAB
import Derived.ChangeSlices
import Derived.OpenShut
import Derived.WideShapes
import Derived.Test.YtgdhaaokolfdoaaGreatDoorWAW
import Derived.Test.YtgdhaaokolfdoaaGreatDoorWAD
import Derived.Test.YtgdhaaokolfdoaaGreatDoorWBI
import Derived.Lib.SmallJoins
set_option linter.unusedVariables false
set_option linter.unusedSimpArgs false
set_option linter.unnecessarySimpa false
/- StoreWhole: what the law computes. Conditions: the table of the bits lies in the world. -/
namespace Go.Proofs.YtgdhaaokolfdoaaGreatDoor
open Go.RowKit Go.Sg Go.Sg.Bits Go.Sg.Clk CP SF
section
variable {W1 wc W6 : World} {L : Loc} {b6 m : Nat} {u7 u8 u9 v0 v1 v2 v3 v4 v5 v6 : Value} {err : Int} {last ahead : List RPg} {c6 : Array Value}
theorem whcut_a (hO : DOut L (18 * (m + 1)) (m + 2) last ahead v0 v1 v2 v3 v4 v5 v6 err W6) (F : FrT L.base wc W6) (q6 : wc.heap[b6]? = some (.cells c6 64)) (hc6 : c6.size = 7) (hKV : KeptV last ahead (m + 1) u7 u8 u9 wc) (hF : Fr (fun _ => False) W1 wc) (hb : W1.heap.size ≤ L.base) :
    WhCut W1 L b6 m u7 u8 u9 (.pointer (some ⟨W6.heap.size, 0, none⟩)) (.int .i64 err) (.bool true) (W6.alloc (.cells #[v0, v1, v2, v3, v4, v5, v6] 64)) := by
  have FA : Fr (fun _ => False) W6 (W6.alloc (.cells #[v0, v1, v2, v3, v4, v5, v6] 64)) := (Fr.refl _ _).alloc _
  have q6' := FrT.heap F q6 (by decide)
  exact ⟨W6.heap.size, v0, v1, v2, v3, v4, v5, v6, err, last, ahead, c6, rfl, rfl, rfl, (by have := lt_of_heap q6'; omega), heap_alloc_new _ _, FA.heap q6' (fun h => h), hc6, hO.fr0 FA, (hKV.frT F).frT (base := L.base) (FA.mono fun _ _ h => h.elim), (fr_frT hb hF F).trans FA (fun _ _ h => h)⟩
theorem whcut_b {b : Nat} {z : Array Value} (hO : DOut L (18 * (m + 1)) (m + 2) last ahead v0 v1 v2 v3 v4 v5 v6 err W6) (F : FrT L.base wc W6) (q6 : wc.heap[b6]? = some (.cells c6 64)) (hc6 : c6.size = 7) (hKV : KeptV last ahead (m + 1) u7 u8 u9 wc) (hF : Fr (fun _ => False) W1 wc) (hb : W1.heap.size ≤ L.base)
    (hbw : wc.heap.size ≤ b) (q9 : W6.heap[b]? = some (.cells z 64)) (hz : z.size = 7) :
    WhCut W1 L b6 m u7 u8 u9 (.pointer (some ⟨b, 0, none⟩)) (.int .i64 err) (.bool true) (((((((W6.setCell ⟨b, 0, none⟩ v0).setCell ⟨b, 1, none⟩ v1).setCell ⟨b, 2, none⟩ v2).setCell ⟨b, 3, none⟩ v3).setCell ⟨b, 4, none⟩ v4).setCell ⟨b, 5, none⟩ v5).setCell ⟨b, 6, none⟩ v6) := by
  have FX : Fr (fun x => x = b) W6 (((((((W6.setCell ⟨b, 0, none⟩ v0).setCell ⟨b, 1, none⟩ v1).setCell ⟨b, 2, none⟩ v2).setCell ⟨b, 3, none⟩ v3).setCell ⟨b, 4, none⟩ v4).setCell ⟨b, 5, none⟩ v5).setCell ⟨b, 6, none⟩ v6) := by
    with_reducible (repeat (first | exact Fr.refl _ _ | refine Fr.setCell ?_ (fun _ => by simp) _))
  have h6 := lt_of_heap q6
  have hne : b ≠ b6 := by omega
  have q6' := FX.heap (FrT.heap F q6 (by decide)) (fun e => hne e.symm)
  have h1 := hF.size
  exact ⟨b, v0, v1, v2, v3, v4, v5, v6, err, last, ahead, c6, rfl, rfl, rfl, hne, box7_set q9 hz, q6', hc6, hO.box FX q9 (by omega), (hKV.frT F).box FX q9, (fr_frT hb hF F).trans FX (fun x hx e => by omega)⟩
theorem wat_next {B' : Blk} {y' : Cs} {r' : R13} {P' : Prot} {ta' la' fa' ya' da' : Option Addr} {tc' lc' fc' yc' dc' : Nat} (hS : S13W wc L B' y' r' P' (18 * (m + 1)) (m + 2) last ahead) (hR : RefAt wc r' (.slice ta' r'.taken.length tc') (.slice la' r'.live.length lc') (.slice fa' r'.fresh.length fc') (.slice ya' r'.dying.length yc') (.slice da' r'.dead.length dc')) (q6 : wc.heap[b6]? = some (.cells c6 64)) (hc6 : c6.size = 7) (hKV : KeptV last ahead (m + 1) u7 u8 u9 wc) (hF : Fr (fun _ => False) W1 wc) (h0 : 0 < b6) (hb : W1.heap.size ≤ b6) :
    WAt W1 L b6 (m + 1) u7 u8 u9 (((((((wc.setCell ⟨b6, 0, none⟩ (.slice ta' r'.taken.length tc')).setCell ⟨b6, 1, none⟩ (.int .i64 r'.hand)).setCell ⟨b6, 2, none⟩ (.int .i64 r'.gen)).setCell ⟨b6, 3, none⟩ (.slice la' r'.live.length lc')).setCell ⟨b6, 4, none⟩ (.slice fa' r'.fresh.length fc')).setCell ⟨b6, 5, none⟩ (.slice ya' r'.dying.length yc')).setCell ⟨b6, 6, none⟩ (.slice da' r'.dead.length dc')) := by
  obtain ⟨W8, hW8⟩ : ∃ W8, (((((((wc.setCell ⟨b6, 0, none⟩ (.slice ta' r'.taken.length tc')).setCell ⟨b6, 1, none⟩ (.int .i64 r'.hand)).setCell ⟨b6, 2, none⟩ (.int .i64 r'.gen)).setCell ⟨b6, 3, none⟩ (.slice la' r'.live.length lc')).setCell ⟨b6, 4, none⟩ (.slice fa' r'.fresh.length fc')).setCell ⟨b6, 5, none⟩ (.slice ya' r'.dying.length yc')).setCell ⟨b6, 6, none⟩ (.slice da' r'.dead.length dc')) = W8 := ⟨_, rfl⟩
  rw [hW8]
  have FX : Fr (fun x => x = b6) wc W8 := by
    rw [← hW8]; with_reducible (repeat (first | exact Fr.refl _ _ | refine Fr.setCell ?_ (fun _ => by simp) _))
  have e6 : W8.heap[b6]? = some (.cells #[.slice ta' r'.taken.length tc', .int .i64 r'.hand, .int .i64 r'.gen, .slice la' r'.live.length lc', .slice fa' r'.fresh.length fc', .slice ya' r'.dying.length yc', .slice da' r'.dead.length dc'] 64) := by rw [← hW8]; exact box7_set q6 hc6
  exact ⟨B', y', r', P', ta', tc', la', lc', fa', fc', ya', yc', da', dc', last, ahead, { hS with st := hS.st.box FX q6 h0 }, ref_64 hR FX (fun x hx => by subst hx; exact ⟨_, q6⟩), e6, hKV.box FX q6, hF.trans FX (fun x hx e => by subst e; exact absurd hx (Nat.not_lt.2 hb))⟩
theorem meas_w {n m : Nat} (h : m < n) (hw : wrap64 ((m : Int) + 1) = ((m + 1 : Nat) : Int)) : n - (intOf (.int .i64 (wrap64 ((m : Int) + 1)))).toNat < n - (intOf (.int .i64 (m : Int))).toNat := by
  rw [hw]
  show n - ((m + 1 : Nat) : Int).toNat < n - (m : Int).toNat
  rw [Int.toNat_natCast, Int.toNat_natCast]; omega
end
set_option maxHeartbeats 16000000 in
set_option maxRecDepth 100000 in
theorem whole_in {a fa : Option Addr} {n c fn fc : Nat} {l : List ActV} {kd : Int} {fl : List Int} (hn : l.length = n) (w : World) (hT : Tab w) (hA : ActR w a l) (hkd : kd ≤ 9223372036854775807) (hfs : SlI w fa fn fc fl) (hfr : ∀ z ∈ fl, -9223372036854775808 ≤ z ∧ z < 9223372036854775808) :
    Calls Tryz.prog 8 #[.agg #[.slice a n c, .int .i64 kd, .slice fa fn fc]] w fun e w' => e = .returned (.bool true) ∧ Fr (fun _ => False) w w' := by
  have hT0 := hT.lt
  obtain ⟨b1, hb1⟩ : ∃ b1, w.heap.size = b1 := ⟨_, rfl⟩
  obtain ⟨W1, hW1⟩ : ∃ W1, w.alloc (.cells #[.slice a n c, .int .i64 kd, .slice fa fn fc] 76) = W1 := ⟨_, rfl⟩
  have F01 : Fr (fun _ => False) w W1 := by rw [← hW1]; exact (Fr.refl _ _).alloc _
  have h1 : W1.heap[b1]? = some (.cells #[.slice a n c, .int .i64 kd, .slice fa fn fc] 76) := by rw [← hW1, ← hb1]; exact heap_alloc_new _ _
  have HW1 := hid hW1
  have HB1 := hid hb1
  have HT := hid (hT.fr F01 (fun h => h))
  have HA := hid (hA.fr F01)
  have HN := hid hn
  have HFS := hid (And.intro (hfs.fr F01 (fun _ _ _ _ _ h => h)) (And.intro hfr hfs))
  have H20 := hid (flashnew_ok 60 96 (by omega) (by omega) W1)
  have H1 := hid (And.intro h1 F01)
  have hT1 : 0 < W1.heap.size := Nat.lt_of_lt_of_le hT0 F01.size
  obtain ⟨x0, x1, x2, xz, xl⟩ := cells3 h1
  clear hT hA hn hW1 hb1 hfs hfr F01 h1
  go_enter Tryz.func8, Tryz.ntmps8
  go_upto_region 1 with fail
  rw [HW1.out, HB1.out]
  go_wp2_with fail
  (with_reducible refine (light_ok HA.out n HN.out).mono ?_)
  rintro e _ ⟨⟨b, rfl, hb⟩, rfl⟩
  cases b with
  | false =>
    go_wp2_with fail
    go_ret
    exact ⟨rfl, H1.out.2⟩
  | true =>
    obtain ⟨hn100, -⟩ := hb rfl
    clear hb
    by_cases hf60 : 60 < fn
    · have hdf : decide ((60 : Int) < (fn : Int)) = true := by simp; omega
      go_wp2_with fail
      go_ret
      exact ⟨rfl, H1.out.2⟩
    have hdf : decide ((60 : Int) < (fn : Int)) = false := by simp; omega
    go_wp2_with fail
    refine H20.out.mono ?_
    rintro e w1 ⟨rfl, hD, F1⟩
    have HD := hid hD
    have HF1 := hid F1
    clear hD F1
    go_wp2_with fail
    (with_reducible refine (small13_ok _).mono ?_)
    rintro e w2 ⟨rfl, F2⟩
    have HF2 := hid (HF1.out.trans F2 (fun _ _ h => h))
    have HD2 := hid (HD.out.fr F2 (fun h => h) (fun h => h) (fun h => h) (fun _ _ _ _ _ h => h))
    clear F2
    go_wp2_with fail
    have H19 := format_c HD2.out HF2.out.size (HT.out.fr HF2.out (fun h => h)) hT1 3 2 4 2 8 0 small13_fits
    refine H19.mono ?_
    rintro e w3 ⟨B, hB, rfl, hS, F3⟩
    have HF3 := hid (HF2.out.trans F3 (fun _ _ h => h))
    obtain ⟨s, hs⟩ : ∃ s, B.s = s := ⟨_, rfl⟩
    obtain ⟨dp, hdp⟩ : ∃ dp, W1.heap.size + 2 = dp := ⟨_, rfl⟩
    have hBp : B.ptr = .pointer (some ⟨s, 0, none⟩) := by rw [← hs]
    rw [hBp]
    simp only [hdp]
    rw [hdp] at hB
    have HDP := hid hdp
    have HB := hid hB
    have HS := hid hS
    have HARM := hid (show Calls Tryz.prog 40 #[.pointer (some ⟨dp, 0, none⟩), .int .i64 kd] w3 _ from by
      have := arm_c hS kd hkd
      rw [hB.2.1] at this
      exact this)
    obtain ⟨L, hL⟩ : ∃ L : Loc, L = ⟨W1.heap.size, dp, W1.heap.size, W1.heap.size + 1, s⟩ := ⟨_, rfl⟩
    have HL := hid (show B.base = L.base ∧ B.d = L.d ∧ B.bf = L.bf ∧ B.bq = L.bq ∧ B.s = L.s from by rw [hL]; exact ⟨hB.1, hB.2.1, hB.2.2.1, hB.2.2.2, hs⟩)
    have HLL := hid (show L.base = W1.heap.size ∧ L.d = dp ∧ L.s = s ∧ L.bf = W1.heap.size ∧ L.bq = W1.heap.size + 1 from by rw [hL]; exact ⟨rfl, rfl, rfl, rfl, rfl⟩)
    clear hB hS F3 H19 HD HD2 H20 HF2 HF1 hs hdp hBp hL
    have j0 := cell_of_heap (HF3.out.heap H1.out.1 (fun h => h)) 1
    simp at j0
    go_wp2_with fail
    refine HARM.out.mono ?_
    rintro e w4 ⟨rfl, F4, hS4⟩
    have F04 : Fr (fun _ => False) W1 w4 := HF3.out.trans F4 (fun b hb hs => by have := HL.out.1; have := HLL.out.1; have := hs.1; omega)
    have HS4 := hid hS4
    have HF4 := hid F04
    clear F4 F04 hS4 HARM HS HF3
    go_wp2_with (go_at_call 35; refine (rnew13_ok 48 (by decide) _).mono ?_)
    rintro e w5 ⟨F5, v, rfl, hv⟩
    obtain ⟨ta, tc, la, lc, fa', fc', ya, yc, da, dc, rfl, hv2⟩ := hv.slices
    have HS5 := hid (HS4.out.fr0 F5)
    have HF5 := hid (HF4.out.trans F5 (fun _ _ h => h))
    have HV := hid hv2
    clear hv hv2 F5 HS4 HF4
    obtain ⟨b6, hb6⟩ : ∃ b6, w5.heap.size = b6 := ⟨_, rfl⟩
    have h0 : WAt W1 L b6 0 (.slice none 0 0) (.slice none 0 0) (.int .i64 0) (w5.alloc (.cells #[.slice ta (R13.new 48).taken.length tc, .int .i64 (R13.new 48).hand, .int .i64 (R13.new 48).gen, .slice la (R13.new 48).live.length lc, .slice fa' (R13.new 48).fresh.length fc', .slice ya (R13.new 48).dying.length yc, .slice da (R13.new 48).dead.length dc] 64)) := by
      have FA : Fr (fun _ => False) w5 (w5.alloc (.cells #[.slice ta (R13.new 48).taken.length tc, .int .i64 (R13.new 48).hand, .int .i64 (R13.new 48).gen, .slice la (R13.new 48).live.length lc, .slice fa' (R13.new 48).fresh.length fc', .slice ya (R13.new 48).dying.length yc, .slice da (R13.new 48).dead.length dc] 64)) := (Fr.refl _ _).alloc _
      refine ⟨B, _, R13.new 48, _, ta, tc, la, lc, fa', fc', ya, yc, da, dc, [], [], ⟨HS5.out.fr0 FA, rel_new _ _, HL.out, by decide +kernel, rfl, rfl, by decide +kernel, ⟨rfl, rfl⟩, by decide, ⟨fun p hp => (by cases hp), List.nodup_nil⟩, ⟨fun p hp => (by cases hp), List.nodup_nil⟩, fun p hp => by cases hp⟩, HV.out.fr FA, by rw [← hb6]; exact heap_alloc_new _ _, ⟨none, 0, none, 0, 0, rfl, rfl, rfl, by omega, World.ownsRow_nil _ _ _ _, World.ownsRow_nil _ _ _ _⟩, HF5.out.trans FA (fun _ _ h => h)⟩
    have H0 := hid h0
    have HB6 := hid (show W1.heap.size ≤ b6 by rw [← hb6]; exact HF5.out.size)
    clear h0 HS5 HF5 HV
    go_upto_block 0 with fail
    try rw [hb6]
    clear hb6
    obtain ⟨eb, ed, es, ebf, ebq⟩ := HLL.out
    go_cut [7, 8, 9] from 10 to 84 (fun v7 v8 v9 wx => EndX W1 L v7 v8 v9 wx)
    case first =>
      go_wp2_with fail
      go_loopw [7, 8, 9, 10] (fun v7 v8 v9 iv wr => ∃ m : Nat, m ≤ n ∧ iv = .int .i64 m ∧ WAt W1 L b6 m v7 v8 v9 wr) (fun _ _ _ iv _ => n - (intOf iv).toNat)
      case atStart => exact ⟨0, Nat.zero_le _, rfl, H0.out⟩
      case round =>
        obtain ⟨m, hm, rfl, hW⟩ := hrel
        obtain ⟨B, y, r, P, ta, tc, la, lc, fa', fc', ya, yc, da, dc, last, ahead, hS, hR, q6, hKV, hF⟩ := hW
        have HP := hid (And.intro hS (And.intro hR (And.intro q6 (And.intro hKV hF))))
        obtain ⟨x0, x1, x2, xz, xl⟩ := cells3 (hF.heap H1.out.1 (fun h => h))
        by_cases hlt : m < n
        · have hd : decide ((m : Int) < (n : Int)) = true := dec_lt hlt
          have hmw : wrap64 ((m : Int) + 1) = ((m + 1 : Nat) : Int) := wrap_succ (Nat.lt_of_lt_of_le hlt (Nat.le_trans hn100 (by decide)))
          have hmi : (m : Int) < (n : Int) := int_lt hlt
          have hx : l[m]? = some (l[m]'(by rw [HN.out]; exact hlt)) := List.getElem?_eq_getElem _
          generalize l[m]'(by rw [HN.out]; exact hlt) = x at hx
          obtain ⟨bA, off, rfl, hbA, a0, a1, a2, -⟩ := (HA.out.fr hF).at_ m x hx
          obtain ⟨_, _, -, -, -, -, -, hok⟩ := HA.out.at_ m x hx
          have HOK := hid hok
          have HXX := hid hx
          have HNum := nums hlt hn100
          clear hx hok hS hR q6 hKV hF
          go_upto_if 54 with fail
          go_cut [7, 8, 9] from 45 to 68 (fun v7 v8 v9 wx => WMid W1 L b6 m x v7 v8 v9 wx)
          case first =>
            by_cases hc : isCommit x
            · have hcb : ((wrap64 (x.kind.tmod 9 + 9)).tmod 9 == 8) = true := by simpa using hc
              have HFl := hid (show Calls Tryz.prog 39 #[.pointer (some ⟨s, 0, none⟩)] wr (FlushY B y P true (18 * m) wr) from by
                have := flush_c HP.out.1.st (by rw [HP.out.1.places]; exact HNum.a)
                rw [show B.ptr = .pointer (some ⟨s, 0, none⟩) by show Value.pointer (some ⟨B.s, 0, none⟩) = _; rw [HP.out.1.at_.2.2.2.2, es]] at this
                exact this)
              clear a0 a1 a2 x0 x1 x2 xz xl
              go_wp2_with fail
              refine HFl.out.mono ?_
              rintro _ w7 ⟨err, rfl, F7, ⟨rfl, hL1⟩ | ⟨rfl, _, hD⟩⟩
              · have HS7 := hid (show S13W w7 L B y r P (18 * m + 8) (m + 1) last ahead from { HP.out.1 with st := by have := hL1.c; rw [HP.out.1.places] at this; exact this })
                have hR7 := HP.out.2.1.frB F7
                have q7 := F7.heap HP.out.2.2.1 (by decide)
                have hKV7 := HP.out.2.2.2.1.frT (by have := frB_frT F7; rw [HP.out.1.at_.1] at this; exact this)
                have hF7 : Fr (fun _ => False) W1 w7 := HP.out.2.2.2.2.trans F7 (fun b hb hs => by have := hs.1; rw [HP.out.1.at_.1, eb] at this; exact absurd hb (Nat.not_lt.2 this))
                have HSy := hid (show Calls Tryz.prog 41 #[.pointer (some ⟨dp, 0, none⟩)] w7 (SyncY 2 B y P true (18 * m + 8) w7) from by
                  have := sync_c hL1 (by rw [HP.out.1.places]; exact HNum.b)
                  rw [HP.out.1.places, HP.out.1.at_.2.1, ed] at this
                  exact this)
                have H7 := hid (And.intro hR7 (And.intro q7 (And.intro hKV7 hF7)))
                clear hR7 q7 hKV7 hF7 F7 hL1 HFl
                go_wp2_with fail
                refine HSy.out.mono ?_
                rintro _ w8 ⟨F8, ⟨rfl, hL2⟩ | ⟨rfl, _, hD⟩⟩
                · have HL2 := hid hL2
                  have hR8 := H7.out.1.frB F8
                  have q8 := F8.heap H7.out.2.1 (by decide)
                  have hKV8 := H7.out.2.2.1.frT (by have := frB_frT F8; rw [HP.out.1.at_.1] at this; exact this)
                  have hF8 : Fr (fun _ => False) W1 w8 := H7.out.2.2.2.trans F8 (fun b hb hs => by have := hs.1; rw [HP.out.1.at_.1, eb] at this; exact absurd hb (Nat.not_lt.2 this))
                  obtain ⟨c0, c1, c2, c3, c4, c5, c6, cz, cl⟩ := cells7 q8
                  have H8 := hid (And.intro hR8 (And.intro q8 (And.intro hKV8 hF8)))
                  clear hL2 hR8 q8 hKV8 hF8 F8 HSy
                  go_wp2_with fail
                  go_quiet (fail)
                  go_wp2_with fail
                  go_meet
                  case rel =>
                    have FQ := fun k => (Fr.refl (fun _ => False) w8).drewN k
                    refine ⟨r, ta, tc, la, lc, fa', fc', ya, yc, da, dc, r.live, last, (FQ _).heap H8.out.2.1 (fun h => h), ?_, H8.out.2.2.2.trans (FQ _) (fun _ _ h => h), fun W F => ?_⟩
                    · obtain ⟨a7, c7, a8, c8, g, h7, h8, h9, hg, k7, k8⟩ := H8.out.2.2.1
                      exact ⟨la, lc, a7, c7, y.gen, rfl, h7, by rw [HP.out.1.rel.gen], Nat.le_trans HP.out.1.gen (Nat.le_succ _), own_none H8.out.1.live (FQ _), own_none k7 (FQ _)⟩
                    · have F' := (FQ _).trans F (fun _ _ h => h)
                      have h13 : S13W W L B y r P (18 * m + 8 + 1) (m + 1) last ahead := { HP.out.1 with st := HL2.out.c.fr0 F' }
                      exact (did_wc h13 (HL2.out.fr0 F') (H8.out.1.fr F') HOK.out (H8.out.2.2.2.trans F' (fun _ _ h => h)) (Nat.le_of_eq eb.symm) HNum.c HNum.h hc).mono fun e w' h => (didX_of h).mono HNum.g HNum.f HNum.o
                · have hE := hD.over HS7.out.at_ HS7.out.secs HS7.out.last_ HS7.out.ahead_
                  have hKV8 := H7.out.2.2.1.frT (by have := frB_frT F8; rw [HP.out.1.at_.1] at this; exact this)
                  have hF8 : Fr (fun _ => False) W1 w8 := H7.out.2.2.2.trans F8 (fun b hb hs => by have := hs.1; rw [HP.out.1.at_.1, eb] at this; exact absurd hb (Nat.not_lt.2 this))
                  have HX := hid (show EndX W1 L u7 u8 u9 w8 from ⟨last, ahead, hE.mono HNum.j, hKV8.mono (Nat.le_trans (Nat.le_succ _) HNum.l), hF8⟩)
                  clear hE hKV8 hF8 hD F8
                  go_wp2_with fail
                  go_meet
                  case rel => exact HX.out
              · have hE := hD.over HP.out.1.at_ HP.out.1.secs HP.out.1.last_ HP.out.1.ahead_
                rw [HP.out.1.places] at hE
                have hKV7 := HP.out.2.2.2.1.frT (by have := frB_frT F7; rw [HP.out.1.at_.1] at this; exact this)
                have hF7 : Fr (fun _ => False) W1 w7 := HP.out.2.2.2.2.trans F7 (fun b hb hs => by have := hs.1; rw [HP.out.1.at_.1, eb] at this; exact absurd hb (Nat.not_lt.2 this))
                have HX := hid (show EndX W1 L u7 u8 u9 w7 from ⟨last, ahead, hE.mono HNum.i, hKV7.mono (Nat.le_trans (Nat.le_succ _) HNum.l), hF7⟩)
                clear hE hKV7 hF7 hD F7
                go_wp2_with fail
                go_meet
                case rel => exact HX.out
            · have hcb : ((wrap64 (x.kind.tmod 9 + 9)).tmod 9 == 8) = false := by simpa using hc
              clear a0 a1 a2 x0 x1 x2 xz xl
              go_wp2_with fail
              go_meet
              case rel =>
                refine ⟨r, ta, tc, la, lc, fa', fc', ya, yc, da, dc, last, ahead, HP.out.2.2.1, HP.out.2.2.2.1.mono (Nat.le_succ _), HP.out.2.2.2.2, fun W F => ?_⟩
                exact (did_w (HP.out.1.fr0 F) (HP.out.2.1.fr F) HOK.out (HP.out.2.2.2.2.trans F (fun _ _ h => h)) (Nat.le_of_eq eb.symm) HNum.d hc).mono fun e w' h => (didX_of h).mono HNum.e HNum.f (Nat.le_succ _)
          case rest =>
            obtain ⟨r, ta, tc, la, lc, fa', fc', ya, yc, da, dc, last, ahead, q6, hKV, hF, hDid⟩ := hcut
            have hxa := HA.out.fr hF
            obtain ⟨x0, x1, x2, xz, xl⟩ := cells3 (hF.heap H1.out.1 (fun h => h))
            obtain ⟨bA', off', e0, hbA, a0, a1, a2⟩ : ∃ b off', some (⟨bA, off, none⟩ : Addr) = some ⟨b, off', none⟩ ∧ b < wc.heap.size ∧ wc.cell? ⟨b, off' + m * 3, none⟩ = some (.int .i64 x.kind) ∧ wc.cell? ⟨b, off' + m * 3 + 1, none⟩ = some (.int .i64 x.n) ∧ wc.cell? ⟨b, off' + m * 3 + 2, none⟩ = some (.slice x.la x.ll x.lc) := by
              obtain ⟨b, o, h1, h2, h3, h4, h5, -⟩ := hxa.at_ m x HXX.out
              exact ⟨b, o, h1, h2, h3, h4, h5⟩
            cases e0
            obtain ⟨c0, c1, c2, c3, c4, c5, c6, cz, cl⟩ := cells7 q6
            have HP2 := hid (And.intro q6 (And.intro hKV (And.intro hF hDid)))
            rw [es] at hDid
            have HRa := hid (hDid wc.drew ((Fr.refl _ _).drew))
            have HRb := hid (fun o => hDid (wc.alloc o).drew (((Fr.refl _ _).alloc _).drew))
            clear q6 hKV hF hDid hxa
            go_upto_region 17 with fail
            go_cut [11, 12, 13] from 68 to 79 (fun v11 v12 v13 wx => WhCut W1 L b6 m u7 u8 u9 v11 v12 v13 wx)
            case first =>
              go_region_law (first
                | (go_simp; go_at_call 36; refine (HRa.out).mono ?_; rintro _ W6 ⟨t7, l7, f7, y7, d7, j0, j1, j2, j3, j4, j5, j6, j7, j8, j9, xh, xg, err, rfl, F6, hO⟩; have F36 := frT_pre ((Fr.refl (fun _ => False) wc).drew) F6)
                | (go_simp; go_at_call 36; refine (HRb.out _).mono ?_; rintro _ W6 ⟨t7, l7, f7, y7, d7, j0, j1, j2, j3, j4, j5, j6, j7, j8, j9, xh, xg, err, rfl, F6, hO⟩; have F36 := frT_pre (((Fr.refl (fun _ => False) wc).alloc _).drew) F6; have q9 : W6.heap[wc.heap.size]? = some (.cells z64 64) := FrT.heap F6 (hp1d wc _) (by decide); obtain ⟨f0, f1, f2, f3, f4, f5, f6, fz, fl⟩ := cells7 q9))
              all_goals (go_wp2_with fail)
              all_goals go_meet
              all_goals first
                | (with_reducible exact whcut_b hO F36 HP2.out.1 rfl HP2.out.2.1 HP2.out.2.2.1 (Nat.le_of_eq eb.symm) (Nat.le_refl _) q9 rfl)
                | (with_reducible exact whcut_a hO F36 HP2.out.1 rfl HP2.out.2.1 HP2.out.2.2.1 (Nat.le_of_eq eb.symm))
            case rest =>
              obtain ⟨b11, v0, v1, v2, v3, v4, v5, v6, err, last', ahead', ⟨l6⟩, rfl, rfl, rfl, hne, q11, q6, hc6, hO, hKV, hF⟩ := hcut
              clear HP2 HRa HRb x0 x1 x2 xz xl a0 a1 a2 c0 c1 c2 c3 c4 c5 c6 cz cl hbA
              rcases hO with ⟨rfl, B', y', r', P', ta', tc', la', lc', fa', fc', ya', yc', da', dc', ⟨rfl, rfl, rfl, rfl, rfl, rfl, rfl⟩, hS, hR⟩ | ⟨rfl, hE⟩
              · match l6, hc6 with
                | [z0, z1, z2, z3, z4, z5, z6], _ =>
                  have ne1 : ¬ b6 = b11 := fun e => hne e.symm
                  have ne2 : ¬ b11 = b6 := hne
                  obtain ⟨c0, c1, c2, c3, c4, c5, c6, cz, cl⟩ := cells7 q6
                  obtain ⟨d0, d1, d2, d3, d4, d5, d6, dz, dl⟩ := cells7 q11
                  have H3 := hid (And.intro hS (And.intro hR (And.intro q6 (And.intro hKV hF))))
                  clear hS hR q6 hKV hF q11
                  go_upto_region 13 with fail
                  have h8 := wat_next H3.out.1 H3.out.2.1 H3.out.2.2.1 rfl H3.out.2.2.2.1 H3.out.2.2.2.2 (Nat.lt_of_lt_of_le hT1 HB6.out) HB6.out
                  obtain ⟨W8, hW8⟩ : ∃ W8, (((((((wc.setCell ⟨b6, 0, none⟩ (.slice ta' r'.taken.length tc')).setCell ⟨b6, 1, none⟩ (.int .i64 r'.hand)).setCell ⟨b6, 2, none⟩ (.int .i64 r'.gen)).setCell ⟨b6, 3, none⟩ (.slice la' r'.live.length lc')).setCell ⟨b6, 4, none⟩ (.slice fa' r'.fresh.length fc')).setCell ⟨b6, 5, none⟩ (.slice ya' r'.dying.length yc')).setCell ⟨b6, 6, none⟩ (.slice da' r'.dead.length dc')) = W8 := ⟨_, rfl⟩
                  rw [hW8] at h8 ⊢
                  have H8 := hid h8
                  clear hW8 h8 c0 c1 c2 c3 c4 c5 c6 cz cl d0 d1 d2 d3 d4 d5 d6 dz dl H3
                  go_wp2_with fail
                  go_roundw
                  case rel => exact ⟨m + 1, hlt, congrArg (Value.int .i64) hmw, H8.out⟩
                  case measure => exact meas_w hlt hmw
              · have HX := hid (show EndX W1 L u7 u8 u9 wc from ⟨last', ahead', hE.mono HNum.k, hKV.mono HNum.l, hF⟩)
                clear hE hKV hF q11 q6
                go_wp2_with fail
                go_meet
                case rel => exact HX.out
        · obtain rfl : m = n := by omega
          have hd : decide ((m : Int) < (m : Int)) = false := by simp
          clear hS hR q6 hKV hF
          go_wp2_with fail
          go_meet
          case rel => exact ⟨last, ahead, HP.out.1.over.mono (by omega), HP.out.2.2.2.1.mono (by omega), HP.out.2.2.2.2⟩
    case rest =>
      subst ed
      obtain ⟨last, ahead, ⟨D, P, hD, hd, hsec, hsz, hK1, hK2⟩, ⟨a7, c7, a8, c8, g, rfl, rfl, rfl, hg, k7, k8⟩, hF⟩ := hcut
      obtain ⟨x0, x1, x2, xz, xl⟩ := cells3 (hF.heap H1.out.1 (fun h => h))
      have HCr := hid (crash_ok hD hd.len (Nat.le_trans hd.many (by decide)) (HFS.out.1.fr hF (fun _ _ _ _ _ h => h)) (Nat.le_trans (Nat.le_of_not_lt hf60) (by decide)) HFS.out.2.1 (fun b off e hne => by
        obtain ⟨z, zs, hz⟩ := List.exists_cons_of_ne_nil hne
        obtain ⟨b', off', e', hb', -⟩ := HFS.out.1.at_ 0 z (by rw [hz]; rfl)
        rw [e] at e'
        cases e'
        exact Nat.ne_of_lt (by rw [ebf]; exact hb')))
      have HD := hid (And.intro hD (And.intro hd (And.intro hsec (And.intro hsz (And.intro hK1 hK2)))))
      have HK := hid (And.intro hg (And.intro k7 (And.intro k8 hF)))
      clear hD hd hsec hsz hK1 hK2 hg k7 k8 hF H0
      go_wp2_with fail
      refine HCr.out.mono ?_
      rintro _ wA ⟨rfl, D', hD', hC, FA⟩
      have HA2 := hid (And.intro hD' (And.intro hC (HD.out.2.1.crash hC)))
      have hFA : Fr (fun _ => False) W1 wA := HK.out.2.2.2.trans FA (fun b hb hs => by
        rcases hs with e | e
        · rw [e, ← HDP.out] at hb; exact absurd hb (Nat.not_lt.2 (Nat.le_add_right _ _))
        · rw [e, ebf] at hb; exact absurd hb (Nat.lt_irrefl _))
      have HKA := hid (And.intro (HK.out.2.1.crash HD.out.1 FA) (And.intro (HK.out.2.2.1.crash HD.out.1 FA) hFA))
      have HFo := hid (foul_ok hD' hC.down hC.loose HA2.out.2.2.byt.2 (Nat.le_trans HA2.out.2.2.acts (by decide)))
      clear hD' hC FA hFA HCr
      go_wp2_with fail
      refine HFo.out.mono ?_
      rintro _ wB ⟨bb, rfl, FB⟩
      have HB2 := hid (And.intro (own_none HKA.out.1 FB) (And.intro (own_none HKA.out.2.1 FB) (And.intro (HKA.out.2.2.trans FB (fun _ _ h => h)) (HA2.out.1.fr FB (fun h => h) (fun h => h) (fun h => h) (fun _ _ _ _ _ h => h)))))
      clear FB HFo
      cases bb with
      | true =>
        go_wp2_with fail
        refine (awake13_ok _ (HT.out.fr HB2.out.2.2.1 (fun h => h))).mono ?_
        rintro _ wC ⟨rfl, FC⟩
        have HFC := hid (H1.out.2.trans (HB2.out.2.2.1.trans FC (fun _ _ h => h)) (fun _ _ h => h))
        clear FC
        go_wp2_with fail
        go_ret
        exact ⟨rfl, HFC.out⟩
      | false =>
        have hbB : L.base ≤ wB.heap.size := by rw [eb]; exact HB2.out.2.2.1.size
        have hz' : D'.sectors = 60 ∧ D'.size = 96 := ⟨HA2.out.2.1.sectors.trans HD.out.2.2.1, HA2.out.2.1.size.trans HD.out.2.2.2.1⟩
        have hb0 : 0 < L.base := by rw [eb]; exact hT1
        have hg6 : g ≤ 1000000 := Nat.le_trans HK.out.1 (by decide)
        have l1 : last.length ≤ 65535 := Nat.le_trans (kept_len HD.out.2.2.2.2.1) (by decide)
        have l2 : ahead.length ≤ 65535 := Nat.le_trans (kept_len HD.out.2.2.2.2.2) (by decide)
        have HT1 := there_ok HB2.out.2.2.2 hbB hb0 (HT.out.fr HB2.out.2.2.1 (fun h => h)) HA2.out.2.2 HA2.out.2.1.down hz' HA2.out.2.1.loose (by decide) HD.out.2.2.2.2.1 rfl l1 HB2.out.1 hg6
        have HT2 := hid (fun W (hDW : DevAt W L.base L.d L.bf L.bq D') (F : FrT L.base wB W) => there_ok hDW (Nat.le_trans hbB F.size) hb0 ((HT.out.fr HB2.out.2.2.1 (fun h => h)).fr F (fun h => absurd h.1 (Nat.not_le.2 hb0))) HA2.out.2.2 HA2.out.2.1.down hz' HA2.out.2.1.loose (by decide) HD.out.2.2.2.2.2 rfl l2 (FrT.own HB2.out.2.1 (by decide) F) hg6)
        have HT1' := hid HT1
        clear HT1 hbB hz' hg6 l1 l2
        go_wp2_with fail
        refine HT1'.out.mono ?_
        rintro _ wC ⟨rfl, hDC, FC⟩
        have HC2 := hid (And.intro FC (HT2.out wC hDC FC))
        clear hDC FC HT1'
        go_wp2_with fail
        refine HC2.out.2.mono ?_
        rintro _ wD ⟨rfl, hDD, FD⟩
        have FBD := frT_trans HC2.out.1 FD
        have hFD : Fr (fun _ => False) W1 wD := fr_frT (Nat.le_of_eq eb.symm) HB2.out.2.2.1 FBD
        have HFD := hid hFD
        clear hDD FD FBD hFD
        go_wp2_with fail
        refine (awake13_ok _ (HT.out.fr HFD.out (fun h => h))).mono ?_
        rintro _ wE ⟨rfl, FE⟩
        have HFE := hid (H1.out.2.trans (HFD.out.trans FE (fun _ _ h => h)) (fun _ _ h => h))
        clear FE
        go_wp2_with fail
        go_ret
        exact ⟨rfl, HFE.out⟩
end Go.Proofs.YtgdhaaokolfdoaaGreatDoor

/- An argument that is a slice of bytes, opened. Conditions: none. -/
namespace Go.Proofs.YtgdhaaokolfdoaaGreatDoor
open Go.ChangeShapes Go.WideShapes Go.RowKit Go.Sg
theorem cells5 : Tryz.prog.cellsOf 5 = 1 := by kernel_rfl
end Go.Proofs.YtgdhaaokolfdoaaGreatDoor

/- An argument that is a slice of chapter 13's acts, opened. Conditions: none. -/
namespace Go.Proofs.YtgdhaaokolfdoaaGreatDoor
open Go.ChangeShapes Go.WideShapes Go.RowKit Go.Sg Go.Deep
section
variable {H : Type} {enc : TypeId × Value → H} {W : World}
theorem byts_of_trod {fuel : Nat} {cs : List Value} {x : DataW H × List MemPlace} (h : DataW.trod enc Tryz.prog W 0 (fun _ => true) true fuel 22 cs = some x) :
    ∃ (a : Option Addr) (n c : Nat) (bs : List Int), cs = [.slice a n c] ∧ SlB W a n c bs ∧ (∀ x ∈ bs, 0 ≤ x ∧ x < 256) ∧ ∀ b off, a = some ⟨b, off, none⟩ → n = 0 ∨ b < W.heap.size := by
  rcases open_ints Tryz.underlying22 Tryz.underlying5 cells5 h with ⟨hcs, hx⟩ | ⟨a', len, cap, zs, hcs, _, hl, hm, hz, hx, hcell, hwz⟩
  · exact ⟨none, 0, 0, [], hcs, (ByV.nil W).slb, (fun x hx => by cases hx), fun b off e => by cases e⟩
  · simp only [if_true] at hz
    have hat : ∀ i, i < len → a' = ⟨a'.block, a'.off, none⟩ ∧ a'.block < W.heap.size ∧ W.cell? ⟨a'.block, a'.off + i, none⟩ = some (.int .u8 (zs.getD i 0)) := fun i hi => by
      have h0 := hcell 0 (by omega)
      have hs0 : a'.add 0 = a' := by cases a' with | mk b o s => cases s <;> simp [Addr.add]
      rw [hs0] at h0
      have hs := spot_none h0
      have hi' := hcell i (by omega)
      rw [hs, Sg.add_plain] at hi'
      exact ⟨hs, World.block_lt_of_cell? _ _ h0, hi'⟩
    refine ⟨some a', len, cap, zs.take len, hcs, ⟨⟨by rw [List.length_take]; omega, fun i x hx => ?_⟩, .inr ⟨_, rfl⟩⟩, fun x hx => ?_, fun b off e => ?_⟩
    · rw [List.getElem?_take] at hx
      split at hx
      · rename_i hi
        obtain ⟨h1, h2, h3⟩ := hat i hi
        refine ⟨a'.block, a'.off, by rw [← h1], h2, ?_⟩
        rw [h3, List.getD_eq_getElem?_getD, hx]; rfl
      · cases hx
    · have := hwz x (List.mem_of_mem_take hx)
      simp [Lit.wf, IntKind.min, IntKind.max, IntKind.bits, IntKind.signed] at this
      omega
    · by_cases hl0 : len = 0
      · exact .inl hl0
      · have := (hat 0 (by omega)).2.1
        cases e
        exact .inr this
instance : Inhabited ActV := ⟨⟨0, 0, none, 0, 0, []⟩⟩
theorem cells69 : Tryz.prog.cellsOf 69 = 3 := by kernel_rfl
theorem act_fields : ∃ f0 f1 f2 : Field, Tryz.prog.underlying 69 = some (.struct #[f0, f1, f2]) ∧ (f0.offset = 0 ∧ f0.type = 3) ∧ (f1.offset = 1 ∧ f1.type = 3) ∧ (f2.offset = 2 ∧ f2.type = 22) := ⟨_, _, _, Tryz.underlying69, ⟨rfl, rfl⟩, ⟨rfl, rfl⟩, ⟨rfl, rfl⟩⟩
theorem cells3_ : Tryz.prog.cellsOf 3 = 1 := by kernel_rfl
set_option maxRecDepth 100000 in
theorem acts_of_trod {fuel : Nat} {cs : List Value} {x : DataW H × List MemPlace} (hf : DataW.trod enc Tryz.prog W 0 (fun _ => true) true fuel 57 cs = some x) :
    ∃ (a : Option Addr) (n c : Nat) (l : List ActV), cs = [.slice a n c] ∧ l.length = n ∧ ActR W a l := by
  obtain ⟨f0, f1, f2, he, h0, h1, h2⟩ := act_fields
  rcases open_slice Tryz.underlying57 hf with ⟨rfl, _⟩ | ⟨a', len, cap, m, n, D, Pl, rfl, _, hl, hm, hmm, _, hx⟩
  · exact ⟨none, 0, 0, [], rfl, rfl, ⟨fun i x hx => by simp at hx⟩⟩
  · simp at hmm
    subst hmm
    have key : ∀ i, i < len → ∃ x : ActV, W.cell? (a'.add (i * 3)) = some (.int .i64 x.kind) ∧ W.cell? ((a'.add (i * 3)).add 1) = some (.int .i64 x.n) ∧ W.cell? ((a'.add (i * 3)).add 2) = some (.slice x.la x.ll x.lc) ∧ ActOk W x := by
      intro i hil
      obtain ⟨cs', hc, ht'⟩ := hx i (by omega)
      rw [cells69] at hc
      obtain ⟨_, hcl, hat⟩ := World.cells?_some hc
      obtain ⟨ys, n', _, _, _, hyl, hg⟩ := DataW.trod_struct he ht'
      have one : ∀ (j : Nat) (f : Field), (#[f0, f1, f2] : Array Field)[j]? = some f → f.offset = j → f.type = 3 → j < 3 → ∃ z, cs'[j]? = some (.int .i64 z) ∧ (Lit.int .i64 z).wf = true := by
        intro j f hj ho hty hj3
        have h3 := hg j f hj
        have hys : ys[j]? = some (ys[j]'(by rw [hyl]; exact hj3)) := List.getElem?_eq_getElem _
        rw [hys, hty] at h3
        obtain ⟨z, hz, _, hw⟩ := DataW.trod_int Tryz.underlying3 h3
        refine ⟨z, ?_, hw⟩
        have h4 : ((cs'.drop f.offset).take (Tryz.prog.cellsOf 3))[0]? = some (.int .i64 z) := by rw [hz]; rfl
        rw [List.getElem?_take] at h4
        split at h4
        · simpa [ho] using h4
        · cases h4
      obtain ⟨z0, e0, w0⟩ := one 0 f0 rfl h0.1 h0.2 (by omega)
      obtain ⟨z1, e1, w1⟩ := one 1 f1 rfl h1.1 h1.2 (by omega)
      obtain ⟨la, ll, lc, bs, hb, hsl, hby, hlt⟩ : ∃ (a : Option Addr) (n c : Nat) (bs : List Int), cs'[2]? = some (.slice a n c) ∧ SlB W a n c bs ∧ (∀ x ∈ bs, 0 ≤ x ∧ x < 256) ∧ ∀ b off, a = some ⟨b, off, none⟩ → n = 0 ∨ b < W.heap.size := by
        have h3 := hg 2 f2 rfl
        have hys : ys[2]? = some (ys[2]'(by rw [hyl]; exact (show 2 < 3 by decide))) := List.getElem?_eq_getElem _
        rw [hys, h2.2] at h3
        obtain ⟨a, n, c, bs, hz, k1, k2, k3⟩ := byts_of_trod h3
        refine ⟨a, n, c, bs, ?_, k1, k2, k3⟩
        have h4 : ((cs'.drop f2.offset).take (Tryz.prog.cellsOf 22))[0]? = some (.slice a n c) := by rw [hz]; rfl
        rw [List.getElem?_take] at h4
        split at h4
        · simpa [h2.1] using h4
        · cases h4
      have q0 := (hat 0 (by omega)).trans e0
      have q1 := (hat 1 (by omega)).trans e1
      have q2 := (hat 2 (by omega)).trans hb
      exact ⟨⟨z0, z1, la, ll, lc, bs⟩, by simpa [Addr.add] using q0, q1, q2, ⟨w0, w1, hsl, hby, hlt⟩⟩
    obtain ⟨V, hV⟩ := choose_lt (α := ActV) key
    refine ⟨_, len, _, (List.range len).map V, rfl, by simp, ⟨fun i x hx => ?_⟩⟩
    have hil : i < len := by
      have := (List.getElem?_eq_some_iff.1 hx).1
      simpa using this
    simp [hil] at hx
    subst hx
    obtain ⟨k0, k1, k2, kw⟩ := hV i hil
    have hs0 := (hV 0 (by omega)).1
    simp [Addr.add] at hs0
    have hs := spot_none hs0
    obtain ⟨b, off, hab⟩ : ∃ b off, a' = ⟨b, off, none⟩ := ⟨_, _, hs⟩
    subst hab
    rw [Sg.add_plain] at k0 k1 k2
    rw [Sg.add_plain] at k1 k2
    exact ⟨b, off, rfl, World.block_lt_of_cell? _ _ k0, k0, k1, k2, kw⟩
end
end Go.Proofs.YtgdhaaokolfdoaaGreatDoor

/- An argument that is chapter 13's storm, opened. Conditions: none. -/
namespace Go.Proofs.YtgdhaaokolfdoaaGreatDoor
open Go.ChangeShapes Go.WideShapes Go.RowKit Go.Sg Go.Deep Go.Joins
section
variable {H : Type} {enc : TypeId × Value → H} {W : World}
theorem ints_of_trod {fuel : Nat} {cs : List Value} {x : DataW H × List MemPlace} (h : DataW.trod enc Tryz.prog W 0 (fun _ => true) true fuel 52 cs = some x) :
    ∃ (a : Option Addr) (n c : Nat) (l : List Int), cs = [.slice a n c] ∧ SlI W a n c l ∧ ∀ x ∈ l, -9223372036854775808 ≤ x ∧ x < 9223372036854775808 := by
  rcases open_ints Tryz.underlying52 Tryz.underlying3 cells3_ h with ⟨hcs, hx⟩ | ⟨a', len, cap, zs, hcs, _, hl, hm, hz, hx, hcell, hwz⟩
  · exact ⟨none, 0, 0, [], hcs, ⟨rfl, fun i k h => (by simp at h), fun _ => ⟨rfl, rfl⟩⟩, fun x hx => by cases hx⟩
  · simp only [if_true] at hz
    have hat : ∀ i, i < len → a' = ⟨a'.block, a'.off, none⟩ ∧ a'.block < W.heap.size ∧ W.cell? ⟨a'.block, a'.off + i, none⟩ = some (.int .i64 (zs.getD i 0)) := fun i hi => by
      have h0 := hcell 0 (by omega)
      have hs0 : a'.add 0 = a' := by cases a' with | mk b o s => cases s <;> simp [Addr.add]
      rw [hs0] at h0
      have hs := spot_none h0
      have hi' := hcell i (by omega)
      rw [hs, Sg.add_plain] at hi'
      exact ⟨hs, World.block_lt_of_cell? _ _ h0, hi'⟩
    refine ⟨some a', len, cap, zs.take len, hcs, ⟨by rw [List.length_take]; omega, fun i x hx => ?_, fun h => by cases h⟩, fun x hx => ?_⟩
    · rw [List.getElem?_take] at hx
      split at hx
      · rename_i hi
        obtain ⟨h1, h2, h3⟩ := hat i hi
        refine ⟨a'.block, a'.off, by rw [← h1], h2, ?_⟩
        rw [h3, List.getD_eq_getElem?_getD, hx]; rfl
      · cases hx
    · have := hwz x (List.mem_of_mem_take hx)
      simp [Lit.wf, IntKind.min, IntKind.max, IntKind.bits, IntKind.signed] at this
      omega
theorem storm_fields : ∃ f0 f1 f2 : Field, Tryz.prog.underlying 76 = some (.struct #[f0, f1, f2]) ∧ f0.type = 57 ∧ f1.type = 3 ∧ f2.type = 52 ∧ oneCellFields Tryz.prog #[f0, f1, f2] = true := ⟨_, _, _, Tryz.underlying76, rfl, rfl, rfl, by kernel_rfl⟩
theorem cells76 : Tryz.prog.cellsOf 76 = 3 := by kernel_rfl
set_option maxRecDepth 100000 in
theorem open_storm {base : Nat} {v : Value} {d : DataW H} {p : List MemPlace} (hv : Value.okWide Tryz.prog W .any base 76 v) (h : DataW.Trod enc Tryz.prog W 0 (fun _ => true) true 76 v d p) :
    ∃ (a : Option Addr) (n c : Nat) (l : List ActV) (k : Int) (fa : Option Addr) (fn fc : Nat) (fl : List Int), v = .agg #[.slice a n c, .int .i64 k, .slice fa fn fc] ∧ l.length = n ∧ ActR W a l ∧ k ≤ 9223372036854775807 ∧ SlI W fa fn fc fl ∧ ∀ x ∈ fl, -9223372036854775808 ≤ x ∧ x < 9223372036854775808 := by
  obtain ⟨f0, f1, f2, he, t0, t1, t2, hone⟩ := storm_fields
  obtain ⟨v0, v1, v2, y0, y1, y2, n, rfl, -, -, h0, h1, h2⟩ := open_agg3 he hone cells76 hv h
  rw [t0] at h0
  rw [t1] at h1
  rw [t2] at h2
  obtain ⟨a, m, c, l, e0, hl, hA⟩ := acts_of_trod h0
  obtain ⟨k, e1, -, hw⟩ := DataW.trod_int Tryz.underlying3 h1
  obtain ⟨fa, fn, fc, fl, e2, hf, hr⟩ := ints_of_trod h2
  cases e0
  cases e1
  cases e2
  refine ⟨a, m, c, l, k, fa, fn, fc, fl, rfl, hl, hA, ?_, hf, hr⟩
  simp [Lit.wf, IntKind.min, IntKind.max, IntKind.bits, IntKind.signed] at hw
  omega
end
end Go.Proofs.YtgdhaaokolfdoaaGreatDoor
