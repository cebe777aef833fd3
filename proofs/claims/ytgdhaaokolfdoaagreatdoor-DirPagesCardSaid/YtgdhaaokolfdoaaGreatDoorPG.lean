/- DirPages: the walk. Conditions: the table of the bits lies in the world. -/
import Derived.Test.YtgdhaaokolfdoaaGreatDoorKBM
import Derived.Deep.CutBlock
set_option linter.unusedVariables false
set_option linter.unusedSimpArgs false
set_option linter.unnecessarySimpa false
namespace Go.Proofs.YtgdhaaokolfdoaaGreatDoor
open Go.RowKit Go.Sg Go.Sg.Bits Go.Sg.Clk CP SF
/-- Between two rounds of the law. -/
def PgAt (w : World) (B : Blk) (bd k : Nat) (wr : World) : Prop := ∃ y x tops slots, DirS wr w.heap.size bd B y x tops slots True (2 + 101 * k) ∧ (∀ k, y.dead k = false) ∧ Fr (fun _ => False) w wr
/-- Behind a row's call of the act. -/
def PgMid (w : World) (B : Blk) (bd k : Nat) (wr : World) : Prop := ∃ y x tops slots, DirS wr w.heap.size bd B y x tops slots True (2 + 101 * k + 100) ∧ (∀ k, y.dead k = false) ∧ Fr (fun _ => False) w wr
theorem leaves_fact {x : DirD} (h : x.per = 6 ∧ x.most = 5) (hd : x.depth ≤ x.most) : ∃ D L : Nat, 2 ^ x.depth = D ∧ x.leaves = L ∧ D ≤ 32 ∧ L ≤ 6 ∧ ((D : Int) + 5).tdiv 6 = (L : Int) ∧ ((D : Int) + 5) / 6 = (L : Int) ∧ wrap64 ((D : Int) + 5) = (D : Int) + 5 ∧ wrap64 (L : Int) = (L : Int) ∧ wrap64 (1 + (L : Int)) = ((1 + L : Nat) : Int) ∧ x.depth ≤ 5 := by
  have h1 := leaves6 h hd
  refine ⟨2 ^ x.depth, x.leaves, rfl, rfl, h1.2, h1.1, ?_, ?_, ?_, ?_, ?_, by omega⟩
  · unfold DirD.leaves DirD.slots
    rw [h.1]
    generalize 2 ^ x.depth = z
    rw [Int.tdiv_eq_ediv_of_nonneg (by omega)]
    omega
  · unfold DirD.leaves DirD.slots
    rw [h.1]
    generalize 2 ^ x.depth = z
    omega
  · have := h1.2
    unfold DirD.slots at this
    generalize 2 ^ x.depth = z at *
    simp only [wrap64]; omega
  · have := h1.1
    generalize x.leaves = z at *
    simp only [wrap64]; omega
  · have := h1.1
    generalize x.leaves = z at *
    simp only [wrap64]; omega
theorem wrap_facts {z L m : Nat} (hz : z ≤ 32) (hL : L ≤ 6) (hm : 1 + L = m) : IntKind.i64.wrap ((z : Int) + 5) = (z : Int) + 5 ∧ IntKind.i64.wrap (L : Int) = (L : Int) ∧ IntKind.i64.wrap (1 + (L : Int)) = (m : Int) ∧ (0 : Int) < (m : Int) ∧ m ≤ 7 :=
  ⟨IntWalk.i64_in _ (by omega), IntWalk.i64_in _ (by omega), by rw [IntWalk.i64_in _ (by omega)]; omega, by omega, by omega⟩
theorem lt_true {j L : Nat} (h : j < L) : decide ((j : Int) < (L : Int)) = true := by simp; omega
theorem lt_int {j L : Nat} (h : j < L) : (j : Int) < (L : Int) := by omega
theorem meas {L q : Nat} (h : q < L) : L - (intOf (.int .i64 ((q : Int) + 1))).toNat < L - (intOf (.int .i64 (q : Int))).toNat := by simp [intOf]; omega
theorem nfact {k n : Nat} (hk : k < n) (hn : n ≤ 60) : 2 + 101 * k + 100 + 1 ≤ 2 + 101 * (k + 1) ∧ 2 + 101 * (k + 1) ≤ 90000 := by omega
theorem wrap_next {j L : Nat} (h : j < L) (hL : L ≤ 7) : wrap64 ((j : Int) + 1) = (j : Int) + 1 := IntWalk.wrap64_in _ (by omega)
theorem nat_pos {m : Nat} (h : (0 : Int) < (m : Int)) : 0 < m := by omega
theorem nat_ne {m : Nat} (h : 0 < m) : ¬ m = 0 := by omega
/-- Is a number among the first q? -/
def inB (TL : List Int) (pg : Int) (q : Nat) : Bool := decide (pg ∈ TL.take q)
theorem inB_zero (TL : List Int) (pg : Int) : inB TL pg 0 = false := by simp [inB]
theorem inB_succ {TL : List Int} {pg tv : Int} {q : Nat} (h : TL[q]? = some tv) : inB TL pg (q + 1) = (inB TL pg q || decide (tv = pg)) := by
  unfold inB
  rw [List.take_add_one, h]
  by_cases h1 : pg ∈ TL.take q
  · simp [h1]
  · by_cases h2 : tv = pg
    · simp [h2]
    · have h3 : ¬ pg = tv := fun e => h2 e.symm
      simp [h1, h2, h3]
theorem inB_all {TL : List Int} {pg : Int} {m : Nat} (h : pg ∈ TL) (hl : TL.length = m) : inB TL pg m = true := by
  unfold inB
  rw [List.take_of_length_le (by omega)]
  simp [h]
def InvB (V1 : World) (TL : List Int) (pg : Int) (q : Nat) (inv : Value) (wr : World) : Prop := inv = .bool (inB TL pg q) ∧ Fr (fun _ => False) V1 wr
theorem pos_fact (L : Nat) : (0 : Int) < ((1 + L : Nat) : Int) := by omega
theorem pow_step {q d z : Nat} (hz : z = 2 ^ q) (hq : q < d) (hd : d ≤ 5) : z ≤ 16 ∧ z * 2 = 2 ^ (q + 1) ∧ wrap64 ((z : Int) * 2) = ((z * 2 : Nat) : Int) := by
  have h1 : 2 ^ q ≤ 2 ^ 4 := Nat.pow_le_pow_right (by decide) (by omega)
  have h2 : z ≤ 16 := by rw [hz]; simpa using h1
  exact ⟨h2, by rw [hz, Nat.pow_succ], by simp only [wrap64]; omega⟩
set_option maxHeartbeats 16000000 in
set_option maxRecDepth 100000 in
theorem dirPages_in {a : Option Addr} {n c : Nat} {l : List ActD} (hn : l.length = n) (w : World) (hT : Tab w) (hA : ActDR w a l) :
    Calls Tryz.prog 11 #[.slice a n c] w fun e w' => e = .returned (.bool true) ∧ Fr (fun _ => False) w w' := by
  have hT0 := hT.lt
  have HT := hid hT
  have HA := hid hA
  have HN := hid hn
  have H20 := hid (flashnew_ok 200 96 (by omega) (by omega) w)
  clear hT hA hn
  go_enter Tryz.func11, Tryz.ntmps11
  go_wp2_with (go_at_call 45; refine (lightd_ok HA.out n HN.out).mono ?_)
  rintro e _ ⟨⟨b, rfl, hb⟩, rfl⟩
  cases b with
  | false =>
    go_wp2_with fail
    go_ret
    exact ⟨rfl, Fr.refl _ _⟩
  | true =>
    obtain ⟨hn60, hsl⟩ := hb rfl
    have HSL := hid hsl
    clear hb hsl
    go_wp2_with fail
    refine H20.out.mono ?_
    rintro e w1 ⟨rfl, hD, F1⟩
    have HD := hid hD
    have HF1 := hid F1
    clear hD F1
    go_wp2_with fail
    refine (small15_ok _).mono ?_
    rintro e w2 ⟨rfl, F2⟩
    have HF2 := hid (HF1.out.trans F2 (fun _ _ h => h))
    have HD2 := hid (HD.out.fr F2 (fun h => h) (fun h => h) (fun h => h) (fun _ _ _ _ _ h => h))
    clear F2
    go_wp2_with fail
    have H19 := format_c HD2.out HF2.out.size (HT.out.fr HF2.out (fun h => h)) hT0 3 2 4 5 8 0 small15_fits
    refine H19.mono ?_
    rintro e w3 ⟨B, hB, rfl, hS, F3⟩
    have HF3 := hid (HF2.out.trans F3 (fun _ _ h => h))
    have hbase : B.base = w.heap.size := hB.1
    have HB := hid hbase
    have HM := hid (made15d hS (by rw [hbase]; exact HF3.out.size) (0, 0) ⟨by decide, by decide, by decide, by decide⟩)
    clear hB hS F3 H19 HD HD2 H20 HF2 HF1 hbase
    go_wp2_with fail
    refine HM.out.mono ?_
    rintro e w4 ⟨bd, y, x, tops, rfl, F4, hd4, hdd⟩
    rw [HB.out] at F4 hd4
    have H4 := hid (show PgAt w B bd 0 w4 from ⟨y, x, tops, _, hd4, hdd, frD_all HF3.out (Nat.le_refl _) F4⟩)
    clear F4 hd4 hdd HM
    go_wp2_with fail
    go_loopw [7] (fun i wr => ∃ k : Nat, k ≤ n ∧ i = .int .i64 k ∧ PgAt w B bd k wr) (fun i _ => n - (intOf i).toNat)
    case atStart => exact ⟨0, Nat.zero_le _, rfl, H4.out⟩
    case round =>
      obtain ⟨k, hk, rfl, y1, x1, t1, s1, hd1, hdd1, hF1⟩ := hrel
      by_cases hlt : k < n
      · have hd : decide ((k : Int) < (n : Int)) = true := by simp; omega
        have hx : l[k]? = some (l[k]'(by rw [HN.out]; exact hlt)) := List.getElem?_eq_getElem _
        generalize l[k]'(by rw [HN.out]; exact hlt) = ac at hx
        have HAW := hid (fun W (F : Fr (fun _ => False) w W) => (HA.out.fr F).at_ k ac hx)
        have h40 : ac.sn ≤ 40 := HSL.out ac (List.mem_of_getElem? hx)
        have HF1 := hid hF1
        have HSL0 := hid (HAW.out w (Fr.refl _ _) |>.elim fun _ h => h.elim fun _ h => h.2.2.2.2.2.2.sli)
        have HD1 := hid (And.intro hd1 hdd1)
        obtain ⟨w0k, hw0k⟩ : ∃ z, (wrap64 (ac.kind.tmod 7 + 7)).tmod 7 = z := ⟨_, rfl⟩
        obtain ⟨bA, off, rfl, hbA, q0, q1, q2, q3, hok⟩ := HAW.out wr hF1
        have HOK := hid hok
        have HQ := hid (fun W (F : Fr (fun _ => False) w W) => show W.cell? ⟨bA, off + k * 4, none⟩ = some (.int .i64 ac.kind) ∧ W.cell? ⟨bA, off + k * 4 + 1, none⟩ = some (.slice ac.sa ac.sn ac.sc) ∧ W.cell? ⟨bA, off + k * 4 + 2, none⟩ = some (.int .i64 ac.rp) ∧ W.cell? ⟨bA, off + k * 4 + 3, none⟩ = some (.int .i64 ac.rs) by
          obtain ⟨b', off', e, -, h0, h1, h2, h3, -⟩ := HAW.out W F
          cases e
          exact ⟨h0, h1, h2, h3⟩)
        have hki : (k : Int) < (n : Int) := by omega
        have HSet := hid (fun W (F : Fr (fun _ => False) wr W) => (HD1.out.1.fr0 F).set_p HD1.out.2 (l := ac.sl) ac.rp ac.rs (wf_hi HOK.out.ws) (HOK.out.sli.fr0 F) (sli_base (HSL0.out) (HF1.out.trans F (fun _ _ h => h)) (by rw [HB.out]; exact Nat.le_refl _)) h40 (by omega))
        have HDb := hid (HD1.out.1.double_p HD1.out.2 (by omega))
        have FG : Fr (fun _ => False) wr wr.drew := (Fr.refl _ _).drew
        clear hx hd1 hdd1 hF1 hok
        go_upto_if 51 with fail
        go_cut [] from 51 to 66 (fun wx => PgMid w B bd k wx)
        case first =>
          by_cases h3 : w0k = 3
          · have hd3 : (w0k == 3) = true := by simp [h3]
            clear h3
            go_wp2_with fail
            refine HDb.out.mono ?_
            rintro e w5 ⟨err, rfl, F5, y5, x5, t5, s5, hd5, hdd5⟩
            have HX := hid (show PgMid w B bd k w5 from ⟨y5, x5, t5, s5, hd5, hdd5, frD_all HF1.out (Nat.le_refl _) F5⟩)
            clear F5 hd5 hdd5
            go_wp2_with fail
            go_meet
            exact HX.out
          · have hd3 : (w0k == 3) = false := by simp [h3]
            go_wp2_with fail
            go_region_held3 (fun W => W.cell? ⟨bA, off + k * 4 + 1, none⟩ = some (.slice ac.sa ac.sn ac.sc) ∧ W.cell? ⟨bA, off + k * 4 + 2, none⟩ = some (.int .i64 ac.rp) ∧ W.cell? ⟨bA, off + k * 4 + 3, none⟩ = some (.int .i64 ac.rs)) (go_keep) (first
              | (go_at_call 51; refine (ref15_ok ac.rp ac.rs _).mono ?_; rintro _ V1 ⟨rfl, G1⟩; have FG := FG.trans G1 (fun _ _ h => h); obtain ⟨q0, q1, q2, q3⟩ := HQ.out _ (HF1.out.trans FG (fun _ _ h => h)); clear G1)
              | (go_at_call 50; refine (HSet.out _ FG).mono ?_; rintro _ w6 ⟨err, rfl, F6, y6, x6, t6, s6, hd6, hdd6⟩; have HX := hid (show PgMid w B bd k w6 from ⟨y6, x6, t6, s6, hd6, hdd6, frD_all (HF1.out.trans FG (fun _ _ h => h)) (Nat.le_refl _) F6⟩); obtain ⟨q0, q1, q2, q3⟩ := HQ.out _ (frD_all (HF1.out.trans FG (fun _ _ h => h)) (Nat.le_refl _) F6); clear F6 hd6 hdd6))
            go_wp2_with fail
            go_meet
            exact HX.out
        case rest =>
          obtain ⟨y5, x5, t5, s5, hd5, hdd5, hF5⟩ := hcut
          have HF5 := hid hF5
          have HPg := hid (hd5.pgs_ (by omega))
          clear hd5 hF5 q0 q1 q2 q3 HSet HDb FG HAW HQ HOK HD1 HSL0
          go_wp2_with fail
          refine HPg.out.mono ?_
          rintro e w6 ⟨a6, c6, rfl, hown6, F6, hd6⟩
          obtain ⟨D, L, hD, hL, hD32, hL6, f1, f2, f3, f4, f5, hdp5⟩ := leaves_fact hd6.per hd6.c.z.most.1
          have hl6 : ((x5.rp, x5.rs) :: t5).length = 1 + L := by rw [List.length_cons, hd6.c.tlen, hL]; omega
          obtain ⟨m, hm⟩ : ∃ m, 1 + L = m := ⟨_, rfl⟩
          rw [hm] at hl6
          rw [hl6]
          have HL6 := hid hl6
          obtain ⟨dp, hdp⟩ : ∃ dp, x5.depth = dp := ⟨_, rfl⟩
          have HDp := hid (show Calls Tryz.prog 56 #[dptr bd] w6 (IntP dp w6) by rw [← hdp]; exact depth_ok hd6.dir)
          have HF6 := hid (frD_all HF5.out (Nat.le_refl _) F6)
          have HD6 := hid hd6
          have HPt := hid (parts_c hd6.st)
          obtain ⟨hT1, hT2⟩ := hd6.taken hdd5
          rw [hL, hm] at hT1
          have HLL := hid hL
          have HT12 := hid (And.intro hT1 hT2)
          obtain ⟨TL, hTL⟩ : ∃ TL, tu y5.taken y5.pages = TL := ⟨_, rfl⟩
          have HTL := hid hTL
          have HTLen := hid (show TL.length = m by rw [← hTL]; exact hT1)
          clear hTL
          obtain ⟨g6, rfl, hg6, z0, z1⟩ := ownR_at hown6 (k := 0) (r := (x5.rp, x5.rs)) rfl
          have HO6 := hid hown6
          have HDD := hid hdd5
          rw [hdp] at hD hdp5
          have HDq := hid hD
          clear hd6 F6 hown6 hT1 hT2 hl6 hdp HPg hdd5 hL hD
          go_wp2_with fail
          go_loopw [10, 11] (fun mv i wr2 => ∃ q z : Nat, q ≤ dp ∧ z = 2 ^ q ∧ i = .int .i64 q ∧ mv = .int .i64 z ∧ wr2 = w6) (fun _ i _ => dp - (intOf i).toNat)
          case atStart => exact ⟨0, 1, Nat.zero_le _, rfl, rfl, rfl, rfl⟩
          case round =>
            obtain ⟨q, z, hq, hz, rfl, rfl, rfl⟩ := hrel
            have HZ := hid hz
            clear hz
            go_wp2_with fail
            refine HDp.out.mono ?_
            rintro e _ ⟨rfl, rfl⟩
            by_cases hq2 : q < dp
            · have hdq : decide ((q : Int) < (dp : Int)) = true := by simp; omega
              obtain ⟨hz16, hz2, hzw⟩ := pow_step HZ.out hq2 hdp5
              have HZ2 := hid hz2
              clear hz2
              go_wp2_with fail
              go_roundw
              case rel => exact ⟨q + 1, z * 2, hq2, HZ2.out, by go_num, by go_num, trivial⟩
              case measure => simp [intOf]; omega
            · obtain rfl : q = dp := by omega
              have hdq : decide ((q : Int) < (q : Int)) = false := by simp
              obtain rfl : z = D := by rw [HZ.out, HDq.out]
              have hfd : ∀ (v0 v1 v2 v3 : Value) W, (Instr.field 54 (.agg #[v0, v1, v2, v3]) 0).run Tryz.prog W = .ok v0 W := fun _ _ _ _ W => by kernel_rfl
              go_wp2_with fail
              refine HPt.out.mono ?_
              rintro _ w7 ⟨v0, v1, v2, v3, L1, L2, L3, rfl, i0, -, -, -, -, F7⟩
              obtain ⟨u0, x0, rfl, hI⟩ := i0
              have hlT := HT12.out.1
              rw [hlT]
              have HI := hid hI
              have HF67 := hid F7
              have HRt := hid (fun W (F : Fr (fun _ => False) w7 W) => show Calls Tryz.prog 57 #[dptr bd] W (RefP2 x5.rp x5.rs W) from root_ok (F.heap (F7.heap HD6.out.dir (fun h => h)) (fun h => h)))
              have HZc := hid (fun W (F : Fr (fun _ => False) w7 W) => show W.cell? ⟨g6, 0 * 2, none⟩ = some (.int .i64 x5.rp) ∧ W.cell? ⟨g6, 0 * 2 + 1, none⟩ = some (.int .i64 x5.rs) ∧ g6 < W.heap.size from
                ⟨(F.cell (p := ⟨g6, _, none⟩) (Nat.lt_of_lt_of_le hg6 F7.size) (fun h => h)).trans ((F7.cell (p := ⟨g6, _, none⟩) hg6 (fun h => h)).trans z0), (F.cell (p := ⟨g6, _, none⟩) (Nat.lt_of_lt_of_le hg6 F7.size) (fun h => h)).trans ((F7.cell (p := ⟨g6, _, none⟩) hg6 (fun h => h)).trans z1), Nat.lt_of_lt_of_le hg6 (Nat.le_trans F7.size F.size)⟩)
              have FG : Fr (fun _ => False) w7 w7.drew := (Fr.refl _ _).drew
              obtain ⟨y0, y1, yl⟩ := HZc.out _ (Fr.refl _ _)
              clear z0 z1 F7 hI hlT hg6
              simp only [Nat.zero_mul, Nat.zero_add] at y0 y1
              have hn35 : ∀ W, (binOp .neq 35 (ref2 x5.rp x5.rs) (ref2 x5.rp x5.rs)).run Tryz.prog W = .ok (.bool false) W := fun W => by rw [neq35]; simp
              obtain ⟨e1, e2, e3, e4, e5⟩ := wrap_facts hD32 hL6 hm
              have hm0 : 0 < m := nat_pos e4
              have hm1 : ¬ m = 0 := nat_ne hm0
              go_wp2_with fail
              go_region_held3 (fun W => W.cell? ⟨g6, 0, none⟩ = some (.int .i64 x5.rp) ∧ W.cell? ⟨g6, 1, none⟩ = some (.int .i64 x5.rs)) (go_keep) (first
                | (go_at_call 57; refine (HRt.out _ FG).mono ?_; rintro _ V1 ⟨rfl, G1⟩; have FG := FG.trans G1 (fun _ _ h => h); obtain ⟨y0, y1, yl⟩ := HZc.out _ FG; simp only [Nat.zero_mul, Nat.zero_add] at y0 y1; clear G1))
              have HK8 := hid FG
              clear FG
              obtain ⟨V8, hV8⟩ : ∃ V8, V1 = V8 := ⟨_, rfl⟩
              rw [hV8] at HK8
              have HR := hid (fun j (hj : j < m) => show ∃ pg : Int, pg ∈ TL ∧ ∀ W : World, Fr (fun _ => False) V8 W → W.cell? ⟨g6, j * 2, none⟩ = some (.int .i64 pg) ∧ g6 < W.heap.size by
                obtain ⟨r, hr⟩ : ∃ r, ((x5.rp, x5.rs) :: t5)[j]? = some r := ⟨_, List.getElem?_eq_getElem (by rw [HL6.out]; exact hj)⟩
                refine ⟨r.1, by rw [← HTL.out]; exact HT12.out.2 j r hr, fun W F => ?_⟩
                obtain ⟨g', e', hg', u0', u1'⟩ := ownR_at (ownsRow_fr HO6.out ((HF67.out.trans HK8.out (fun _ _ h => h)).trans F (fun _ _ h => h)) (fun _ _ _ h => h)) hr
                cases e'
                exact ⟨u0', hg'⟩)
              have HTI := hid (fun q (hq : q < m) => show ∃ (gt : Nat) (tv : Int), u0 = some ⟨gt, 0, none⟩ ∧ TL[q]? = some tv ∧ ∀ W : World, Fr (fun _ => False) V8 W → gt < W.heap.size ∧ W.cell? ⟨gt, q, none⟩ = some (.int .i64 tv) by
                obtain ⟨tv, htv⟩ : ∃ tv, TL[q]? = some tv := ⟨_, List.getElem?_eq_getElem (by rw [HTLen.out]; exact hq)⟩
                obtain ⟨gt, e, hg, hc⟩ := HI.out q tv (by rw [HTL.out]; exact htv)
                refine ⟨gt, tv, e, htv, fun W F => ?_⟩
                have G := HK8.out.trans F (fun _ _ h => h)
                exact ⟨Nat.lt_of_lt_of_le hg G.size, (G.cell (p := ⟨gt, q, none⟩) hg (fun h => h)).trans hc⟩)
              have HEnd := hid (fun (W : World) (F : Fr (fun _ => False) V8 W) => show PgAt w B bd (k + 1) W from ⟨_, _, _, _, (HD6.out.fr0 ((HF67.out.trans HK8.out (fun _ _ h => h)).trans F (fun _ _ h => h))).mono (nfact hlt hn60).1 (nfact hlt hn60).2, HDD.out, HF6.out.trans ((HF67.out.trans HK8.out (fun _ _ h => h)).trans F (fun _ _ h => h)) (fun _ _ h => h)⟩)
              clear y0 y1 yl e1 e2 e3 f1 f2 f3 f4 f5 hn35 hfd hm hm0 hm1 HD6 HF67 HF6 HDD HPt HT12 HTL HO6 HL6 HRt HZc HI HDp HDq HZ HLL HF5
              try clear hw0k
              subst hV8
              go_wp2_with fail
              go_loopw [13] (fun i wr2 => ∃ j : Nat, j ≤ m ∧ i = .int .i64 j ∧ Fr (fun _ => False) V1 wr2) (fun i _ => m - (intOf i).toNat)
              case atStart => exact ⟨0, Nat.zero_le _, rfl, Fr.refl _ _⟩
              case round =>
                obtain ⟨j, hj, rfl, hFj⟩ := hrel
                have HFj := hid hFj
                clear hFj
                by_cases hj2 : j < m
                · have hdj : decide ((j : Int) < (m : Int)) = true := lt_true hj2
                  have hjw := wrap_next hj2 e5
                  obtain ⟨pg, hmem, hpg⟩ := HR.out j hj2
                  have HMem := hid hmem
                  have HPg2 := hid hpg
                  clear hmem hpg
                  go_wp2_with fail
                  go_loopw [14, 15] (fun inv i wr3 => ∃ q : Nat, q ≤ m ∧ i = .int .i64 q ∧ InvB V1 TL pg q inv wr3) (fun _ i _ => m - (intOf i).toNat)
                  case atStart => exact ⟨0, Nat.zero_le _, rfl, by rw [inB_zero], HFj.out⟩
                  case round =>
                    obtain ⟨q, hq, rfl, rfl, hFq⟩ := hrel
                    have HFq := hid hFq
                    obtain ⟨hpc, hgl⟩ := HPg2.out _ hFq
                    clear hFq
                    by_cases hq2 : q < m
                    · have hdq : decide ((q : Int) < (m : Int)) = true := lt_true hq2
                      have hqi : (q : Int) < (m : Int) := lt_int hq2
                      have hqw := wrap_next hq2 e5
                      have hji : (j : Int) < (m : Int) := lt_int hj2
                      obtain ⟨gt, tv, rfl, htv, hti⟩ := HTI.out q hq2
                      obtain ⟨hgt, htc⟩ := hti _ HFq.out
                      have HIS := hid (inB_succ (pg := pg) htv)
                      obtain ⟨bq, hbq⟩ : ∃ b, inB TL pg q = b := ⟨_, rfl⟩
                      obtain ⟨bz, hbz⟩ : ∃ b, decide (tv = pg) = b := ⟨_, rfl⟩
                      have hbz2 : (tv == pg) = bz := by rw [← hbz]; rfl
                      have hb : inB TL pg (q + 1) = (bq || bz) := by rw [HIS.out, hbq, hbz]
                      have HBq := hid hb
                      rw [hbq]
                      clear htv hti hbq hb HIS
                      go_upto_block 7 with fail
                      go_cut [14] from 121 to 133 (fun v wx => InvB V1 TL pg (q + 1) v wx)
                      case first =>
                        cases bq
                        · cases bz
                          · go_wp2_with fail
                            go_quiet (fail)
                            go_wp2_with fail
                            go_meet
                            exact ⟨by rw [HBq.out]; rfl, HFq.out.drewN _⟩
                          · go_wp2_with fail
                            go_quiet (fail)
                            go_wp2_with fail
                            go_meet
                            exact ⟨by rw [HBq.out]; rfl, HFq.out.drewN _⟩
                        · go_wp2_with fail
                          go_quiet (fail)
                          go_wp2_with fail
                          go_meet
                          exact ⟨by rw [HBq.out]; rfl, HFq.out.drewN _⟩
                      case rest =>
                        obtain ⟨rfl, hFc⟩ := hcut
                        have HFc := hid hFc
                        clear hFc hpc hgl htc hgt hbz hbz2
                        go_wp2_with fail
                        go_roundw
                        case rel => exact ⟨q + 1, hq2, by go_num, rfl, HFc.out⟩
                        case measure => rw [hqw]; exact meas hq2
                    · obtain rfl : q = m := Nat.le_antisymm hq (Nat.not_lt.1 hq2)
                      have hdq : decide ((q : Int) < (q : Int)) = false := by simp
                      rw [inB_all HMem.out HTLen.out]
                      go_wp2_with fail
                      go_roundw
                      case rel => exact ⟨j + 1, hj2, by go_num, HFq.out⟩
                      case measure => exact meas hj2
                · obtain rfl : j = m := Nat.le_antisymm hj (Nat.not_lt.1 hj2)
                  have hdj : decide ((j : Int) < (j : Int)) = false := by simp
                  go_wp2_with fail
                  refine ⟨⟨k + 1, hlt, by go_num, HEnd.out _ HFj.out⟩, ?_⟩
                  exact meas hlt
      · obtain rfl : k = n := by omega
        have hd : decide ((k : Int) < (k : Int)) = false := by simp
        have HAw := hid (awake15_ok wr (HT.out.fr hF1 (fun h => h)))
        have HF1 := hid hF1
        clear hd1 hF1
        go_wp2_with fail
        refine HAw.out.mono ?_
        rintro e w5 ⟨rfl, F5⟩
        go_wp2_with fail
        go_ret
        exact ⟨rfl, HF1.out.trans F5 (fun _ _ h => h)⟩
end Go.Proofs.YtgdhaaokolfdoaaGreatDoor
