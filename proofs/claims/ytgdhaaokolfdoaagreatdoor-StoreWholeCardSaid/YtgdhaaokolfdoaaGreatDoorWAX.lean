/- A pack of texts: EN. Conditions: those that each text names. -/
import Derived.Test.YtgdhaaokolfdoaaGreatDoorWAW
set_option linter.unusedVariables false
set_option linter.unusedSimpArgs false
set_option linter.unnecessarySimpa false
/- Chapter 13's did: New. Conditions: the store, the document's rows and the act lie in the world, and go together. -/
namespace Go.Proofs.YtgdhaaokolfdoaaGreatDoor
open Go.RowKit Go.Sg Go.Sg.Bits Go.Sg.Clk CP SF
set_option maxHeartbeats 4000000 in
set_option maxRecDepth 100000 in
theorem did_new {w w0 : World} {B : Blk} {y : Cs} {P : Prot} {a : Bool} {N : Nat} (h : StoreC w B y P a N) {r : R13} {t l f yy d : Value} (hr : RefAt w r t l f yy d) {x : ActV} (hx : ActOk w0 x) (hF0 : Fr (fun _ => False) w0 w) (hB0 : w0.heap.size ≤ B.base) (hR : Rel y r) (hN : N + 9 ≤ 90000) (hp0 : 0 < y.pages) (hp1 : y.pages ≤ 65535) (hroom : y.room = 77)
    (kd : Int) (hk3 : kd = 0 ∨ kd = 1 ∨ kd = 2) (hk : (wrap64 (x.kind.tmod 9 + 9)).tmod 9 = kd) (hll : x.ll ≤ 77) :
    Calls Tryz.prog 36 #[B.ptr, refV r t l f yy d, x.val] w (DidP B y P a N w) := by
  have HL := hid (And.intro hR.lens hR.len)
  have hnd : decide ((77 : Int) < (x.ll : Int)) = false := by simp; omega
  obtain ⟨ta, tc, rfl, -, -, -, -⟩ := own_slice hr.taken
  obtain ⟨la, lc, rfl, -, -, -, -⟩ := own_slice hr.live
  obtain ⟨fa, fc, rfl, -, -, -, -⟩ := own_slice hr.fresh
  obtain ⟨ya, yc, rfl, -, -, -, -⟩ := own_slice hr.dying
  obtain ⟨da, dc, rfl, -, -, -, -⟩ := own_slice hr.dead
  obtain ⟨w1, hw1⟩ : ∃ w1, ((w.alloc (.cells #[.slice ta r.taken.length tc, .int .i64 r.hand, .int .i64 r.gen, .slice la r.live.length lc, .slice fa r.fresh.length fc, .slice ya r.dying.length yc, .slice da r.dead.length dc] 64)).alloc (.cells #[.int .i64 x.kind, .int .i64 x.n, .slice x.la x.ll x.lc] 69)).alloc (.cells z64 64) = w1 := ⟨_, rfl⟩
  obtain ⟨b0, b1, b2, F1⟩ := heap_three hw1
  have HW := hid hw1
  have H1 := hid (And.intro b0 (And.intro b1 (And.intro b2 F1)))
  have H0 := hid hr
  have HS := hid h
  have HX := hid hx
  have HR := hid hR
  unfold z64 at HW
  obtain ⟨c0, c1, c2, c3, c4, c5, c6, cz, cl⟩ := cells7 b0
  obtain ⟨x0, x1, x2, xz, xl⟩ := cells3 b1
  clear hw1 b0 b1 b2 F1 hr h hx hR
  have HF0 := hid hF0
  clear hF0
  have hcv : (convert 22 9 (.slice x.la x.ll x.lc)).run Tryz.prog w1 = .ok (.string (strOfNums x.bs)) w1 := str_at ⟨HX.out.slb.by_.fr (HF0.out.trans H1.out.2.2.2 (fun _ _ h => h)) (fun _ _ _ _ h => h), HX.out.slb.at_⟩ 9 Tryz.underlying9
  go_enter Tryz.func36, Tryz.ntmps36
  go_upto_region 1 with fail
  rw [HW.out]
  have q1 : decide ((3 : Int) ≤ kd) = false := by simp; omega
  have q2 : decide (kd ≤ (4 : Int)) = true := by simp; omega
  have q3 : (kd == 3) = false := by simp; omega
  have q4 : (kd == 4) = false := by simp; omega
  have q5 : (kd == 5) = false := by simp; omega
  have q6 : (kd == 6) = false := by simp; omega
  have q7 : (kd == 7) = false := by simp; omega
  have q8 : (kd == 8) = false := by simp; omega
  have HM := hid (rmake_ok (H0.out.fr H1.out.2.2.2) (by have := HL.out.2; omega) (by rw [HR.out.hand.1]; omega) (by rw [HR.out.hand.1, HR.out.len]; have := HR.out.hand.2; omega) (by have := HL.out.1.1; omega) (by have := HL.out.1.2.1; omega) x.bs)
  have hll6 : r.live.length ≤ 65535 := by have := HL.out.1.1; omega
  have hdl : 0 < r.live.length ∧ decide ((0 : Int) < (r.live.length : Int)) = true ∨ ¬ 0 < r.live.length ∧ decide ((0 : Int) < (r.live.length : Int)) = false := by
    by_cases hl0 : 0 < r.live.length
    · exact .inl ⟨hl0, by simpa using hl0⟩
    · exact .inr ⟨hl0, by simpa using hl0⟩
  rcases hdl with ⟨hl0, hd0⟩ | ⟨hl0, hd0⟩
  all_goals
    go_upto_region 31 with (go_at_call 106; refine HM.out.mono ?_)
    rintro e W2 ⟨F2, hmk⟩
    have F02 : Fr (fun _ => False) w W2 := H1.out.2.2.2.trans F2 (fun _ _ h => h)
    have k0 := F2.heap H1.out.1 (fun h => h)
    have k1 := F2.heap H1.out.2.1 (fun h => h)
    have k2 := F2.heap H1.out.2.2.1 (fun h => h)
    obtain ⟨d0, d1, d2, d3, d4, d5, d6, dz, dl⟩ := cells7 k0
    obtain ⟨e0, e1, e2, ez, el⟩ := cells3 k1
    have H2 := hid (And.intro F02 (And.intro k0 (And.intro k1 k2)))
    clear c0 c1 c2 c3 c4 c5 c6 cz cl x0 x1 x2 xz xl hcv F2 F02 k0 k1 k2
    rcases hmake : r.make x.bs with _ | ⟨r2, q⟩
    · rw [hmake] at hmk
      obtain ⟨v, rfl, hv⟩ := hmk
      obtain ⟨ta2, tc2, la2, lc2, fa2, fc2, ya2, yc2, da2, dc2, rfl, -⟩ := hv.slices
      have HFull := hid (make_none_all HR.out hmake)
      clear hmake hv
      unfold pg0
      go_upto_region 31 with fail
      obtain ⟨W3, hW3⟩ : ∃ W3, ((W2.alloc (.cells #[.slice ta2 r.taken.length tc2, .int .i64 r.hand, .int .i64 r.gen, .slice la2 r.live.length lc2, .slice fa2 r.fresh.length fc2, .slice ya2 r.dying.length yc2, .slice da2 r.dead.length dc2] 64)).alloc (.cells #[.int .i64 0, .int .i64 0, .string ⟨#[]⟩] 71)) = W3 := ⟨_, rfl⟩
      rw [hW3]
      obtain ⟨_, _, F23⟩ := heap_two hW3
      have F03 := H2.out.1.trans F23 (fun _ _ h => h)
      have HN := hid (new_full_c (HS.out.fr0 F03) x.la x.ll x.lc (by rw [hroom]; exact hll) HFull.out)
      have k0 := F23.heap H2.out.2.1 (fun h => h)
      have k1 := F23.heap H2.out.2.2.1 (fun h => h)
      have k2 := F23.heap H2.out.2.2.2 (fun h => h)
      have H3 := hid (And.intro F03 (And.intro k0 k2))
      clear d0 d1 d2 d3 d4 d5 d6 dz dl e0 e1 e2 ez el F23 F03 k0 k2 hW3
      obtain ⟨e0, e1, e2, ez, el⟩ := cells3 k1
      clear k1
      go_wp2_with (go_at_call 22; refine HN.out.mono ?_)
      rintro _ W4 ⟨rfl, F4⟩
      have k0 := F4.heap H3.out.2.1 (fun h => h)
      have k2 := F4.heap H3.out.2.2 (fun h => h)
      have H4 := hid (And.intro (H3.out.1.trans F4 (fun _ _ h => h)) k2)
      clear e0 e1 e2 ez el F4
      obtain ⟨d0, d1, d2, d3, d4, d5, d6, dz, dl⟩ := cells7 k0
      obtain ⟨g0, g1, g2, g3, g4, g5, g6, gz, gl⟩ := cells7 k2
      clear k0 k2
      go_wp2_with fail
      refine bodyPost_ret (v := .tuple #[refV r (.slice ta r.taken.length tc) (.slice la r.live.length lc) (.slice fa r.fresh.length fc) (.slice ya r.dying.length yc) (.slice da r.dead.length dc), .int .i64 0, .bool true]) (by simp [results, go_sem, *]) rfl ?_
      refine did_end (k := w.heap.size + 1 + 1) (by omega) (by omega) H4.out.2 (FrB.none H4.out.1) ?_ ((HS.out.fr0 H4.out.1).mono (by omega) hN) (H0.out.fr H4.out.1) HR.out (Like.refl y) rfl rfl
      with_reducible (repeat (first | exact Fr.refl _ _ | apply Fr.drew | apply Fr.alloc | refine Fr.setCell ?_ (fun _ => by simp) _))
    · rw [hmake] at hmk
      obtain ⟨v, rfl, hv⟩ := hmk
      obtain ⟨ta2, tc2, la2, lc2, fa2, fc2, ya2, yc2, da2, dc2, rfl, hv2⟩ := hv.slices
      obtain ⟨j, hj, hjf⟩ := not_all (fun h => by rw [rel_full HR.out h x.bs] at hmake; cases hmake)
      have HV := hid (And.intro hmake hv2)
      clear hmake hv hv2
      go_upto_region 31 with fail
      obtain ⟨W3, hW3⟩ : ∃ W3, ((W2.alloc (.cells #[.slice ta2 r2.taken.length tc2, .int .i64 r2.hand, .int .i64 r2.gen, .slice la2 r2.live.length lc2, .slice fa2 r2.fresh.length fc2, .slice ya2 r2.dying.length yc2, .slice da2 r2.dead.length dc2] 64)).alloc (.cells #[.int .i64 q.page, .int .i64 q.stamp, .string (strOfNums q.load)] 71)) = W3 := ⟨_, rfl⟩
      rw [hW3]
      obtain ⟨j0, j1, F23⟩ := heap_two hW3
      have F03 := H2.out.1.trans F23 (fun _ _ h => h)
      have HN := hid (new_c (HS.out.fr0 F03) (HX.out.inp hB0 (HF0.out.trans F03 (fun _ _ h => h))) HX.out.by_ (by rw [hroom]; exact hll) hj hjf (by omega))
      have k1 := F23.heap H2.out.2.2.1 (fun h => h)
      have k2 := F23.heap H2.out.2.2.2 (fun h => h)
      have H3 := hid (And.intro F03 (And.intro k2 (And.intro j0 (And.intro j1 (HV.out.2.fr F23)))))
      clear d0 d1 d2 d3 d4 d5 d6 dz dl e0 e1 e2 ez el F23 F03 k2 hW3 j0 j1
      obtain ⟨e0, e1, e2, ez, el⟩ := cells3 k1
      clear k1
      go_wp2_with (go_at_call 22; refine HN.out.mono ?_)
      rintro _ W4 ⟨n, err, hn, rfl, hw, F4⟩
      obtain ⟨r', hm', hR', -⟩ := rel_make HR.out hn x.bs hp0
      rw [HV.out.1] at hm'
      obtain ⟨rfl, rfl⟩ : r2 = r' ∧ q = ⟨n, y.gen, x.bs⟩ := by cases hm'; exact ⟨rfl, rfl⟩
      have k2 := F4.heap H3.out.2.1 (by decide)
      have j0 := F4.heap H3.out.2.2.1 (by decide)
      have j1 := F4.heap H3.out.2.2.2.1 (by decide)
      have H4 := hid (And.intro (FrB.trans (FrB.none H3.out.1) F4) (And.intro k2 (And.intro (H3.out.2.2.2.2.frB F4) hR')))
      clear e0 e1 e2 ez el F4 hm' hn hR'
      have j0' := j0
      have j1' := j1
      obtain ⟨g0, g1, g2, g3, g4, g5, g6, gz, gl⟩ := cells7 k2
      obtain ⟨d0, d1, d2, d3, d4, d5, d6, dz, dl⟩ := cells7 j0
      obtain ⟨e0, e1, e2, ez, el⟩ := cells3 j1
      clear k2 j0 j1
      rcases hw with ⟨rfl, hS4⟩ | ⟨rfl, ha, hD4⟩
      · simp only [SF.refV, if_pos]
        have HS4 := hid hS4
        clear hS4
        go_upto_region 34 with fail
        obtain ⟨W5, hW5⟩ : ∃ W5, W4.alloc (.cells #[.int .i64 n, .int .i64 y.gen] 35) = W5 := ⟨_, rfl⟩
        rw [hW5]
        have F45 : Fr (fun _ => False) W4 W5 := by rw [← hW5]; exact (Fr.refl _ _).alloc _
        have j9 : W5.heap[W4.heap.size]? = some (.cells #[.int .i64 n, .int .i64 y.gen] 35) := by rw [← hW5]; exact heap_alloc_new _ _
        have j2 := F45.heap H4.out.2.1 (fun h => h)
        have j0 := F45.heap j0' (fun h => h)
        have j1 := F45.heap j1' (fun h => h)
        have H5 := hid (And.intro F45 (And.intro j9 (And.intro j2 (And.intro j0 j1))))
        clear F45 hW5 g0 g1 g2 g3 g4 g5 g6 gz gl d0 d1 d2 d3 d4 d5 d6 dz dl e0 e1 e2 ez el q1 q2 q3 q4 q5 q6 q7 q8 hd0 hnd j0' j1'
        obtain ⟨g0, g1, g2, g3, g4, g5, g6, gz, gl⟩ := cells7 j2
        obtain ⟨d0, d1, d2, d3, d4, d5, d6, dz, dl⟩ := cells7 j0
        obtain ⟨e0, e1, e2, ez, el⟩ := cells3 j1
        obtain ⟨f0, f1, fz, fl⟩ := cells2 j9
        clear j2 j0 j1 j9
        have sa := lt_of_heap H2.out.2.2.2
        have sb := lt_of_heap H4.out.2.1
        have n1 : ¬ w.heap.size + 1 + 1 = W2.heap.size := by omega
        have n2 : ¬ w.heap.size + 1 + 1 = W2.heap.size + 1 := by omega
        have n3 : ¬ w.heap.size + 1 + 1 = W4.heap.size := by omega
        have n4 : ¬ W2.heap.size = w.heap.size + 1 + 1 := by omega
        have n5 : ¬ W2.heap.size + 1 = w.heap.size + 1 + 1 := by omega
        have n6 : ¬ W4.heap.size = w.heap.size + 1 + 1 := by omega
        have n7 : ¬ w.heap.size + 1 = W2.heap.size := by omega
        have n8 : ¬ W2.heap.size = w.heap.size + 1 := by omega
        go_region_held3 (fun W => (W.cell? ⟨W2.heap.size, 0, none⟩ = some (.slice ta2 r2.taken.length tc2) ∧ W.cell? ⟨W2.heap.size, 1, none⟩ = some (.int .i64 r2.hand) ∧ W.cell? ⟨W2.heap.size, 2, none⟩ = some (.int .i64 r2.gen) ∧ W.cell? ⟨W2.heap.size, 3, none⟩ = some (.slice la2 r2.live.length lc2) ∧ W.cell? ⟨W2.heap.size, 4, none⟩ = some (.slice fa2 r2.fresh.length fc2) ∧ W.cell? ⟨W2.heap.size, 5, none⟩ = some (.slice ya2 r2.dying.length yc2) ∧ W.cell? ⟨W2.heap.size, 6, none⟩ = some (.slice da2 r2.dead.length dc2)) ∧ (W.cell? ⟨W4.heap.size, 0, none⟩ = some (.int .i64 n) ∧ W.cell? ⟨W4.heap.size, 1, none⟩ = some (.int .i64 y.gen)) ∧ (W.cell? ⟨W2.heap.size + 1, 0, none⟩ = some (.int .i64 n) ∧ W.cell? ⟨W2.heap.size + 1, 1, none⟩ = some (.int .i64 y.gen) ∧ W.cell? ⟨W2.heap.size + 1, 2, none⟩ = some (.string (strOfNums x.bs)))) (go_keep)
          ((go_at_call 103; refine (ref13_ok ⟨n, y.gen, x.bs⟩ _).mono ?_; rintro _ W6 ⟨rfl, F6⟩; have F56 : Fr (fun _ => False) W5 W6 := Fr.trans (by with_reducible (repeat (first | exact Fr.refl _ _ | apply Fr.drew))) F6 (fun _ _ h => h); have h2 := F56.heap H5.out.2.2.1 (fun h => h); have h0 := F56.heap H5.out.2.2.2.1 (fun h => h); have h1 := F56.heap H5.out.2.2.2.2 (fun h => h); have h9 := F56.heap H5.out.2.1 (fun h => h); have H6 := hid (And.intro F56 h2); clear g0 g1 g2 g3 g4 g5 g6 gz gl d0 d1 d2 d3 d4 d5 d6 dz dl e0 e1 e2 ez el f0 f1 fz fl F6 F56; obtain ⟨g0, g1, g2, g3, g4, g5, g6, gz, gl⟩ := cells7 h2; obtain ⟨d0, d1, d2, d3, d4, d5, d6, dz, dl⟩ := cells7 h0; obtain ⟨e0, e1, e2, ez, el⟩ := cells3 h1; obtain ⟨f0, f1, fz, fl⟩ := cells2 h9; clear h2 h0 h1 h9))
        all_goals (go_wp2_with fail)
        all_goals refine bodyPost_ret (v := .tuple #[refV r2 (.slice ta2 r2.taken.length tc2) (.slice la2 r2.live.length lc2) (.slice fa2 r2.fresh.length fc2) (.slice ya2 r2.dying.length yc2) (.slice da2 r2.dead.length dc2), .int .i64 0, .bool true]) (by simp [results, go_sem, *]) rfl ?_
        all_goals (
          have F46 := H5.out.1.trans H6.out.1 (fun _ _ h => h)
          refine did_end (k := w.heap.size + 1 + 1) (by omega) (by omega) H6.out.2 (H4.out.1.trans' F46 (fun _ _ h => h)) ?_ ((HS4.out.fr0 F46).mono (by omega) hN) (H4.out.2.2.1.fr F46) H4.out.2.2.2 ⟨rfl, rfl, rfl, rfl, rfl, rfl, rfl⟩ rfl rfl
          with_reducible (repeat (first | exact Fr.refl _ _ | apply Fr.drew | apply Fr.alloc | refine Fr.setCell ?_ (fun _ => by simp) _)))
      · subst ha
        simp only [SF.refV, if_neg (show ¬ (4 : Int) = 0 by decide)]
        have HD4 := hid hD4
        clear hD4
        go_upto_region 34 with fail
        obtain ⟨W5, hW5⟩ : ∃ W5, W4.alloc (.cells #[.int .i64 0, .int .i64 0] 35) = W5 := ⟨_, rfl⟩
        rw [hW5]
        have F45 : Fr (fun _ => False) W4 W5 := by rw [← hW5]; exact (Fr.refl _ _).alloc _
        have j2 := F45.heap H4.out.2.1 (fun h => h)
        have j0 := F45.heap j0' (fun h => h)
        have H5 := hid (And.intro F45 j2)
        clear F45 hW5 g0 g1 g2 g3 g4 g5 g6 gz gl d0 d1 d2 d3 d4 d5 d6 dz dl e0 e1 e2 ez el q1 q2 q3 q4 q5 q6 q7 q8 hd0 hnd j0' j1'
        obtain ⟨g0, g1, g2, g3, g4, g5, g6, gz, gl⟩ := cells7 j2
        obtain ⟨d0, d1, d2, d3, d4, d5, d6, dz, dl⟩ := cells7 j0
        clear j2 j0
        have sa := lt_of_heap H2.out.2.2.2
        have n1 : ¬ w.heap.size + 1 + 1 = W2.heap.size := by omega
        have n4 : ¬ W2.heap.size = w.heap.size + 1 + 1 := by omega
        go_region
        all_goals (go_wp2_with fail)
        all_goals refine bodyPost_ret (v := .tuple #[refV r2 (.slice ta2 r2.taken.length tc2) (.slice la2 r2.live.length lc2) (.slice fa2 r2.fresh.length fc2) (.slice ya2 r2.dying.length yc2) (.slice da2 r2.dead.length dc2), .int .i64 4, .bool true]) (by simp [results, go_sem, *]) rfl ?_
        all_goals (
          refine did_down (r0 := r) (k := w.heap.size + 1 + 1) (by omega) H5.out.2 (H4.out.1.trans' H5.out.1 (fun _ _ h => h)) ?_ ((HD4.out.fr0 H5.out.1).mono (by omega))
          with_reducible (repeat (first | exact Fr.refl _ _ | apply Fr.drew | apply Fr.alloc | refine Fr.setCell ?_ (fun _ => by simp) _)))
end Go.Proofs.YtgdhaaokolfdoaaGreatDoor
