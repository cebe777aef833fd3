/- A pack of texts: EF. Conditions: those that each text names. -/
import Derived.Test.YtgdhaaokolfdoaaGreatDoorWBA
set_option linter.unusedVariables false
set_option linter.unusedSimpArgs false
set_option linter.unnecessarySimpa false
/- Chapter 13's did: Write of a page of the last commit. Conditions: the store, the document's rows and the act lie in the world, and go together. -/
namespace Go.Proofs.YtgdhaaokolfdoaaGreatDoor
open Go.RowKit Go.Sg Go.Sg.Bits Go.Sg.Clk CP SF
theorem refV_agg (err n st : Int) : ∃ z0 z1 : Int, SF.refV err n st = .agg #[.int .i64 z0, .int .i64 z1] := by
  unfold SF.refV; split <;> exact ⟨_, _, rfl⟩
set_option maxHeartbeats 4000000 in
set_option maxRecDepth 100000 in
theorem did_wnew {w w0 : World} {B : Blk} {y : Cs} {P : Prot} {a : Bool} {N : Nat} (h : StoreC w B y P a N) {r : R13} {t l f yy d : Value} (hr : RefAt w r t l f yy d) {x : ActV} (hx : ActOk w0 x) (hF0 : Fr (fun _ => False) w0 w) (hB0 : w0.heap.size ≤ B.base) (hR : Rel y r) (hN : N + 9 ≤ 90000) (hp0 : 0 < y.pages) (hp1 : y.pages ≤ 65535) (hroom : y.room = 77) (hl0 : 0 < r.live.length) (kd : Int) (hk3 : kd = 3 ∨ kd = 4) (hk : (wrap64 (x.kind.tmod 9 + 9)).tmod 9 = kd) (hll : x.ll ≤ 77) (hfr : ∀ (i n st : Nat) bs, r.live[i]? = some ⟨n, st, bs⟩ → wrap64 ((IntKind.u64.wrap x.n).tmod ↑r.live.length) = (i : Int) → y.fresh n = false) {j : Nat} (hj : j < y.pages) (hjf : y.taken j = false) :
    Calls Tryz.prog 36 #[B.ptr, refV r t l f yy d, x.val] w (DidP B y P a N w) := by
  have HL := hid (And.intro hR.lens hR.len)
  obtain ⟨ta, tc, rfl, -, -, -, -⟩ := own_slice hr.taken
  obtain ⟨la, lc, rfl, -, -, -, -⟩ := own_slice hr.live
  obtain ⟨fa, fc, rfl, -, -, -, -⟩ := own_slice hr.fresh
  obtain ⟨ya, yc, rfl, -, -, -, -⟩ := own_slice hr.dying
  obtain ⟨da, dc, rfl, -, -, -, -⟩ := own_slice hr.dead
  obtain ⟨i, hi, hat⟩ := at_ok (n := x.n) hl0 (by have := hR.lens.1; omega)
  obtain ⟨n, st, bs, hli, hnp, hnt, hny, hne, hc, hfg⟩ := rel_live hR hi
  have hli' : r.live[i] = ⟨n, st, bs⟩ := by rw [List.getElem?_eq_getElem hi] at hli; exact Option.some.inj hli
  obtain ⟨g, rfl, hgl, hcg0⟩ := own_cell hr.live (show (r.live.flatMap pgCells)[i * 3 + 0]? = some (.int .i64 n) by rw [pgs_get _ _ hi _ (by decide), hli']; simp [pgCells])
  obtain ⟨g', eg', _, hcg1⟩ := own_cell hr.live (show (r.live.flatMap pgCells)[i * 3 + 1]? = some (.int .i64 st) by rw [pgs_get _ _ hi _ (by decide), hli']; simp [pgCells])
  cases eg'
  obtain ⟨g', eg', _, hcg2⟩ := own_cell hr.live (show (r.live.flatMap pgCells)[i * 3 + 2]? = some (.string (strOfNums bs)) by rw [pgs_get _ _ hi _ (by decide), hli']; simp [pgCells])
  cases eg'
  obtain ⟨w1, hw1⟩ : ∃ w1, ((w.alloc (.cells #[.slice ta r.taken.length tc, .int .i64 r.hand, .int .i64 r.gen, .slice (some ⟨g, 0, none⟩) r.live.length lc, .slice fa r.fresh.length fc, .slice ya r.dying.length yc, .slice da r.dead.length dc] 64)).alloc (.cells #[.int .i64 x.kind, .int .i64 x.n, .slice x.la x.ll x.lc] 69)).alloc (.cells z64 64) = w1 := ⟨_, rfl⟩
  obtain ⟨b0, b1, b2, F1⟩ := heap_three hw1
  have k0 : w1.cell? ⟨g, i * 3, none⟩ = some (.int .i64 n) := (F1.cell (p := ⟨g, i * 3, none⟩) hgl (fun h => h)).trans hcg0
  have k1 : w1.cell? ⟨g, i * 3 + 1, none⟩ = some (.int .i64 st) := (F1.cell (p := ⟨g, i * 3 + 1, none⟩) hgl (fun h => h)).trans hcg1
  have k2 : w1.cell? ⟨g, i * 3 + 2, none⟩ = some (.string (strOfNums bs)) := (F1.cell (p := ⟨g, i * 3 + 2, none⟩) hgl (fun h => h)).trans hcg2
  have HW := hid hw1
  have H1 := hid (And.intro b0 (And.intro b1 (And.intro b2 F1)))
  have H0 := hid hr
  have HS := hid h
  have HX := hid hx
  have HR := hid hR
  unfold z64 at HW
  obtain ⟨c0, c1, c2, c3, c4, c5, c6, cz, cl⟩ := cells7 b0
  obtain ⟨x0, x1, x2, xz, xl⟩ := cells3 b1
  clear hw1 b0 b1 b2 F1 hr h hx hR
  have HF0 := hid hF0
  have hyf := hfr i n st bs hli hat
  obtain ⟨r2, q, hwr⟩ : ∃ r2 q, r.write i x.bs = some (r2, q) := by
    rcases hw : r.write i x.bs with _ | ⟨r2, q⟩
    · exfalso
      have hm : r.make x.bs = none := by
        rw [write_out hi (m := n) (by rw [hli']) (fun e => by have := (HR.out.fresh.1 _).1 e; rw [hyf] at this; cases this)] at hw
        cases hmk : r.make x.bs with
        | none => rfl
        | some p => rw [hmk] at hw; cases hw
      have := make_none_all HR.out hm j (Nat.zero_le _) hj hj
      rw [hjf] at this; cases this
    · exact ⟨_, _, rfl⟩
  have HWR := hid hwr
  have HR2 := hid hyf
  clear hfr hyf hwr
  have HLI := hid (And.intro hli (And.intro hli' (And.intro hnp (And.intro hnt (And.intro hny (And.intro hne (And.intro hc hfg)))))))
  clear hF0 hli hli' hnp hnt hny hne hc hfg hcg0 hcg1 hcg2
  have hd0 : decide ((0 : Int) < (r.live.length : Int)) = true := by simpa using hl0
  have hll6 : r.live.length ≤ 65535 := by have := HL.out.1.1; omega
  have hnd : decide ((77 : Int) < (x.ll : Int)) = false := by simp; omega
  have q1 : decide ((3 : Int) ≤ kd) = true := by simp; omega
  have q2 : decide (kd ≤ (4 : Int)) = true := by simp; omega
  have q3 : decide (kd ≤ (6 : Int)) = true := by simp; omega
  have hcv : (convert 22 9 (.slice x.la x.ll x.lc)).run Tryz.prog w1 = .ok (.string (strOfNums x.bs)) w1 := str_at ⟨HX.out.slb.by_.fr (HF0.out.trans H1.out.2.2.2 (fun _ _ h => h)) (fun _ _ _ _ h => h), HX.out.slb.at_⟩ 9 Tryz.underlying9
  have HM := hid (rwrite_ok (H0.out.fr H1.out.2.2.2) (by have := HL.out.2; omega) (by rw [HR.out.hand.1]; omega) (by rw [HR.out.hand.1, HR.out.len]; have := HR.out.hand.2; omega) (by have := HL.out.1.1; omega) (by have := HL.out.1.2.1; omega) (by have := HL.out.1.2.2.1; omega) i hi n (by rw [HLI.out.2.1]) (by rw [HL.out.2]; exact HLI.out.2.2.1) x.bs)
  go_enter Tryz.func36, Tryz.ntmps36
  go_upto_region 1 with fail
  rw [HW.out]
  go_upto_if 71 with fail
  go_cut [71] from 71 to 73 (fun v wx => v = .bool true ∧ wx = w1)
  case first =>
    rcases hk3 with rfl | rfl
    all_goals (go_wp2_with fail; go_meet)
    all_goals exact ⟨rfl, rfl⟩
  case rest =>
    obtain ⟨rfl, rfl⟩ := hcut
    go_upto_region 14 with (go_at_call 102; refine HM.out.mono ?_)
    rintro e W2 ⟨F2, hmk⟩
    have F02 : Fr (fun _ => False) w W2 := H1.out.2.2.2.trans F2 (fun _ _ h => h)
    have k0 := F2.heap H1.out.1 (fun h => h)
    have k1 := F2.heap H1.out.2.1 (fun h => h)
    have k2 := F2.heap H1.out.2.2.1 (fun h => h)
    have H2 := hid (And.intro F02 (And.intro k0 (And.intro k1 k2)))
    clear c0 c1 c2 c3 c4 c5 c6 cz cl x0 x1 x2 xz xl hcv F2 F02 k0 k1 k2
    rw [HWR.out] at hmk
    obtain ⟨v, rfl, hv⟩ := hmk
    obtain ⟨ta2, tc2, la2, lc2, fa2, fc2, ya2, yc2, da2, dc2, rfl, hv2⟩ := hv.slices
    have HV := hid hv2
    clear hv hv2
    go_upto_region 14 with fail
    obtain ⟨W3, hW3⟩ : ∃ W3, ((W2.alloc (.cells #[.slice ta2 r2.taken.length tc2, .int .i64 r2.hand, .int .i64 r2.gen, .slice la2 r2.live.length lc2, .slice fa2 r2.fresh.length fc2, .slice ya2 r2.dying.length yc2, .slice da2 r2.dead.length dc2] 64)).alloc (.cells #[.int .i64 q.page, .int .i64 q.stamp, .string (strOfNums q.load)] 71)) = W3 := ⟨_, rfl⟩
    rw [hW3]
    obtain ⟨j0, j1, F23⟩ := heap_two hW3
    have F03 := H2.out.1.trans F23 (fun _ _ h => h)
    have k0 := F23.heap H2.out.2.1 (fun h => h)
    have k1 := F23.heap H2.out.2.2.1 (fun h => h)
    have k2 := F23.heap H2.out.2.2.2 (fun h => h)
    have hr3 := H0.out.fr F03
    obtain ⟨g', eg', _, m0⟩ := own_cell hr3.live (show (r.live.flatMap pgCells)[i * 3 + 0]? = some (.int .i64 n) by rw [pgs_get _ _ hi _ (by decide), HLI.out.2.1]; simp [pgCells])
    cases eg'
    obtain ⟨g', eg', _, m1⟩ := own_cell hr3.live (show (r.live.flatMap pgCells)[i * 3 + 1]? = some (.int .i64 st) by rw [pgs_get _ _ hi _ (by decide), HLI.out.2.1]; simp [pgCells])
    cases eg'
    obtain ⟨g', eg', _, m2⟩ := own_cell hr3.live (show (r.live.flatMap pgCells)[i * 3 + 2]? = some (.string (strOfNums bs)) by rw [pgs_get _ _ hi _ (by decide), HLI.out.2.1]; simp [pgCells])
    cases eg'
    simp only [Nat.add_zero] at m0
    obtain ⟨-, -, -, d3, -, -, -, -, dl⟩ := cells7 k0
    obtain ⟨-, -, e2, -, el⟩ := cells3 k1
    have H3 := hid (And.intro F03 (And.intro k0 (And.intro k2 (And.intro j0 (And.intro j1 (And.intro (HV.out.fr F23) hr3))))))
    have HP := hid (And.intro k1 hW3)
    have HWr := hid (fun W (F : Fr (fun _ => False) W3 W) => wnew_c (HS.out.fr0 (H3.out.1.trans F (fun _ _ h => h))) n (st : Int) (HX.out.inp hB0 ((HF0.out.trans H3.out.1 (fun _ _ h => h)).trans F (fun _ _ h => h))) HX.out.by_ (by rw [hroom]; exact hll) HLI.out.2.2.1 HLI.out.2.2.2.1 HR2.out HLI.out.2.2.2.2.2.1 hj hjf (by omega))
    clear F23 F03 k0 k1 k2 hW3 j0 j1 hr3 q1 q2 q3 hd0 hnd
    go_cut [16, 17] from 84 to 96 (fun v16 v17 wx => WCut B W3 (fun (c0 c1 : Value) (err : Int) (wx : World) => ∃ m, (TakeIs y.taken y.pages y.hand m ∧ SF.refV err m y.gen = .agg #[c0, c1]) ∧ Went wx B y (y.moved n m x.bs) P a (N + 1) err) v16 v17 wx)
    case first =>
      have HQ : Hid (∀ c0 c1 err, Stable ((fun (c0 c1 : Value) (err : Int) (wx : World) => ∃ m, (TakeIs y.taken y.pages y.hand m ∧ SF.refV err m y.gen = .agg #[c0, c1]) ∧ Went wx B y (y.moved n m x.bs) P a (N + 1) err) c0 c1 err)) := hid (fun c0 c1 err => ⟨fun W W' h F => h.elim fun m h => ⟨m, h.1, h.2.fr0 F⟩, fun W W' k c t h hk ht h0 F => h.elim fun m h => ⟨m, h.1, h.2.frL F hk ht h0⟩⟩)
      have sw3 : 0 < W3.heap.size := by have := lt_of_heap H3.out.2.2.1; omega
      have HRa := hid (ref13_p ⟨n, st, bs⟩ W3.drew)
      have HRb := hid (fun o => ref13_p ⟨n, st, bs⟩ (W3.alloc o).drew)
      go_region_law (first
        | (go_simp; go_at_call 103; refine (HRa.out).mono ?_; rintro _ W5 ⟨rfl, F5⟩; have F35 : Fr (fun _ => False) W3 W5 := (Fr.refl _ _).drew.trans F5 (fun _ _ h => h); have h1 := F35.heap HP.out.1 (fun h => h); clear d3 e2 el dl m0 m1 m2; obtain ⟨-, -, e2, -, el⟩ := cells3 h1; clear h1)
        | (go_simp; go_at_call 103; refine (HRb.out _).mono ?_; rintro _ W5 ⟨rfl, F5⟩; have q9 := F5.heap (hp1d W3 _) (fun h => h); have F35 : Fr (fun _ => False) W3 W5 := ((Fr.refl _ _).alloc _).drew.trans F5 (fun _ _ h => h); have h1 := F35.heap HP.out.1 (fun h => h); clear d3 e2 el dl m0 m1 m2; obtain ⟨-, -, e2, -, el⟩ := cells3 h1; clear h1)
        | (go_simp; go_at_call 26; refine (Function.const _ (HWr.out W5 F35) q9).mono ?_; rintro _ W6 ⟨m, err, hm, rfl, hw, F6⟩; obtain ⟨z0, z1, hz⟩ := refV_agg err m y.gen; rw [hz]; have F36 := FrB.trans (FrB.none F35) F6; have q9 := F6.heap q9 (by decide); obtain ⟨f0, f1, fz, fl⟩ := cells2 q9)
        | (go_simp; go_at_call 26; refine (HWr.out W5 F35).mono ?_; rintro _ W6 ⟨m, err, hm, rfl, hw, F6⟩; obtain ⟨z0, z1, hz⟩ := refV_agg err m y.gen; rw [hz]; have F36 := FrB.trans (FrB.none F35) F6)
        | (go_simp; go_at_call 26; refine (HWr.out (W5.alloc _) (F35.alloc _)).mono ?_; rintro _ W6 ⟨m, err, hm, rfl, hw, F6⟩; obtain ⟨z0, z1, hz⟩ := refV_agg err m y.gen; rw [hz]; have F36 := FrB.trans (FrB.none (F35.alloc _)) F6; have q9 : W6.heap[W5.heap.size]? = some (.cells #[.int .i64 0, .int .i64 0] 35) := FrB.heap F6 (heap_alloc_new W5 _) (by decide); obtain ⟨f0, f1, fz, fl⟩ := cells2 q9))
      all_goals (go_wp2_with fail)
      all_goals go_meet
      all_goals have sz5 := F35.size
      all_goals first
        | (with_reducible exact wcut_b HQ.out F36 ⟨m, ⟨hm, hz⟩, hw⟩ (by omega) (by omega) q9)
        | (with_reducible exact wcut_a HQ.out F36 ⟨m, ⟨hm, hz⟩, hw⟩)
    case rest =>
      obtain ⟨bb, c0, c1, err, rfl, rfl, hbb, j9, Fc, hq⟩ := hcut
      obtain ⟨m, ⟨hm, hz⟩, hw⟩ := hq
      obtain ⟨r', hm', hR'⟩ := rel_wnew HR.out HLI.out.1 HR2.out hm x.bs hp0
      rw [HWR.out] at hm'
      obtain ⟨rfl, rfl⟩ : r2 = r' ∧ q = ⟨m, y.gen, x.bs⟩ := by cases hm'; exact ⟨rfl, rfl⟩
      have HR' := hid hR'
      have hcc : err = 0 → (Value.int .i64 m = c0 ∧ Value.int .i64 y.gen = c1) := fun e => by subst e; simpa [SF.refV] using hz
      clear hm hm' hR' hz
      have j2 := Fc.heap H3.out.2.2.1 (by decide)
      have j0 := Fc.heap H3.out.2.2.2.1 (by decide)
      have j1 := Fc.heap H3.out.2.2.2.2.1 (by decide)
      have H4 := hid (And.intro (FrB.trans (FrB.none H3.out.1) Fc) (And.intro j9 (And.intro j2 (And.intro j0 (And.intro j1 (H3.out.2.2.2.2.2.1.frB Fc))))))
      have sa := lt_of_heap H2.out.2.2.2
      have sb : W2.heap.size + 1 < W3.heap.size := lt_of_heap H3.out.2.2.2.2.1
      clear d3 dl e2 el m0 m1 m2
      obtain ⟨g0, g1, g2, g3, g4, g5, g6, gz, gl⟩ := cells7 j2
      obtain ⟨d0, d1, d2, d3, d4, d5, d6, dz, dl⟩ := cells7 j0
      obtain ⟨e0, e1, e2, ez, el⟩ := cells3 j1
      have n1 : ¬ w.heap.size + 1 + 1 = W2.heap.size := by omega
      have n2 : ¬ w.heap.size + 1 + 1 = W2.heap.size + 1 := by omega
      have n3 : ¬ w.heap.size + 1 + 1 = bb := by omega
      have n4 : ¬ W2.heap.size = w.heap.size + 1 + 1 := by omega
      have n5 : ¬ W2.heap.size + 1 = w.heap.size + 1 + 1 := by omega
      have n6 : ¬ bb = w.heap.size + 1 + 1 := by omega
      have n7 : ¬ w.heap.size + 1 = W2.heap.size := by omega
      have n8 : ¬ W2.heap.size = w.heap.size + 1 := by omega
      rcases hw with ⟨rfl, hS4⟩ | ⟨rfl, ha, hD4⟩
      · obtain ⟨rfl, rfl⟩ := hcc rfl
        obtain ⟨f0, f1, fz, fl⟩ := cells2 j9
        have HS4 := hid hS4
        clear hS4 hcc Fc j9 j2 j0 j1
        go_upto_region 17 with fail
        go_region_held3 (fun W => (W.cell? ⟨W2.heap.size, 0, none⟩ = some (.slice ta2 r2.taken.length tc2) ∧ W.cell? ⟨W2.heap.size, 1, none⟩ = some (.int .i64 r2.hand) ∧ W.cell? ⟨W2.heap.size, 2, none⟩ = some (.int .i64 r2.gen) ∧ W.cell? ⟨W2.heap.size, 3, none⟩ = some (.slice la2 r2.live.length lc2) ∧ W.cell? ⟨W2.heap.size, 4, none⟩ = some (.slice fa2 r2.fresh.length fc2) ∧ W.cell? ⟨W2.heap.size, 5, none⟩ = some (.slice ya2 r2.dying.length yc2) ∧ W.cell? ⟨W2.heap.size, 6, none⟩ = some (.slice da2 r2.dead.length dc2)) ∧ (W.cell? ⟨bb, 0, none⟩ = some (.int .i64 m) ∧ W.cell? ⟨bb, 1, none⟩ = some (.int .i64 y.gen)) ∧ (W.cell? ⟨W2.heap.size + 1, 0, none⟩ = some (.int .i64 m) ∧ W.cell? ⟨W2.heap.size + 1, 1, none⟩ = some (.int .i64 y.gen) ∧ W.cell? ⟨W2.heap.size + 1, 2, none⟩ = some (.string (strOfNums x.bs)))) (go_keep)
          ((go_at_call 103; refine (ref13_ok ⟨m, y.gen, x.bs⟩ _).mono ?_; rintro _ W6 ⟨rfl, F6⟩; have F56 : Fr (fun _ => False) wc W6 := Fr.trans (by with_reducible (repeat (first | exact Fr.refl _ _ | apply Fr.drew))) F6 (fun _ _ h => h); have h2 := F56.heap H4.out.2.2.1 (fun h => h); have h0 := F56.heap H4.out.2.2.2.1 (fun h => h); have h1 := F56.heap H4.out.2.2.2.2.1 (fun h => h); have h9 := F56.heap H4.out.2.1 (fun h => h); have H6 := hid (And.intro F56 h2); clear g0 g1 g2 g3 g4 g5 g6 gz gl d0 d1 d2 d3 d4 d5 d6 dz dl e0 e1 e2 ez el f0 f1 fz fl F6 F56; obtain ⟨g0, g1, g2, g3, g4, g5, g6, gz, gl⟩ := cells7 h2; obtain ⟨d0, d1, d2, d3, d4, d5, d6, dz, dl⟩ := cells7 h0; obtain ⟨e0, e1, e2, ez, el⟩ := cells3 h1; obtain ⟨f0, f1, fz, fl⟩ := cells2 h9; clear h2 h0 h1 h9))
        all_goals (go_wp2_with fail)
        all_goals refine bodyPost_ret (v := .tuple #[refV r2 (.slice ta2 r2.taken.length tc2) (.slice la2 r2.live.length lc2) (.slice fa2 r2.fresh.length fc2) (.slice ya2 r2.dying.length yc2) (.slice da2 r2.dead.length dc2), .int .i64 0, .bool true]) (by simp [results, go_sem, *]) rfl ?_
        all_goals (
          have F46 := H6.out.1
          refine did_end (y' := y.moved n m x.bs) (k := w.heap.size + 1 + 1) (by omega) (by omega) H6.out.2 (H4.out.1.trans' F46 (fun _ _ h => h)) ?_ ((HS4.out.fr0 F46).mono (by omega) hN) (H4.out.2.2.2.2.2.fr F46) HR'.out ⟨rfl, rfl, rfl, rfl, rfl, rfl, rfl⟩ rfl rfl
          with_reducible (repeat (first | exact Fr.refl _ _ | apply Fr.drew | apply Fr.alloc | refine Fr.setCell ?_ (fun _ => by simp) _)))
      · subst ha
        have HD4 := hid hD4
        clear hD4 hcc Fc j9 j2 j0 j1
        go_upto_region 17 with fail
        go_region
        all_goals (go_wp2_with fail)
        all_goals refine bodyPost_ret (v := .tuple #[refV r2 (.slice ta2 r2.taken.length tc2) (.slice la2 r2.live.length lc2) (.slice fa2 r2.fresh.length fc2) (.slice ya2 r2.dying.length yc2) (.slice da2 r2.dead.length dc2), .int .i64 4, .bool true]) (by simp [results, go_sem, *]) rfl ?_
        all_goals (
          refine did_down (r0 := r) (k := w.heap.size + 1 + 1) (by omega) H4.out.2.2.1 H4.out.1 ?_ (HD4.out.mono (by omega))
          with_reducible (repeat (first | exact Fr.refl _ _ | apply Fr.drew | apply Fr.alloc | refine Fr.setCell ?_ (fun _ => by simp) _)))
end Go.Proofs.YtgdhaaokolfdoaaGreatDoor
