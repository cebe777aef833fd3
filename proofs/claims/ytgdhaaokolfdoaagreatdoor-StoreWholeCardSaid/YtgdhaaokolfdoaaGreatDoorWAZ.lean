/- A pack of texts: EE. Conditions: those that each text names. -/
import Derived.Test.YtgdhaaokolfdoaaGreatDoorWAW
set_option linter.unusedVariables false
set_option linter.unusedSimpArgs false
set_option linter.unnecessarySimpa false
/- Chapter 13's did: Free, Read. Conditions: the store, the document's rows and the act lie in the world, and go together. -/
namespace Go.Proofs.YtgdhaaokolfdoaaGreatDoor
open Go.RowKit Go.Sg Go.Sg.Bits Go.Sg.Clk CP SF
/-- A world in which only the block k has turned. -/
def NearAt (W0 : World) (k : Nat) (W : World) : Prop := Fr (fun b => b = k) W0 W
theorem near_set (W0 W : World) (k o : Nat) (v : Value) : NearAt W0 k (W.setCell ⟨k, o, none⟩ v) = NearAt W0 k W :=
  propext ⟨fun h => ⟨h.os, h.tape, h.output, by simpa using h.size, fun b hb hn => (heap_setCell_ne W ⟨k, o, none⟩ v b (fun e => hn e.symm)).symm.trans (h.block b hb hn)⟩, fun h => Fr.setCell h (fun _ => rfl) v⟩
theorem near_drew (W0 W : World) (k : Nat) : NearAt W0 k W.drew = NearAt W0 k W :=
  propext ⟨fun h => ⟨h.os, h.tape, h.output, h.size, h.block⟩, fun h => Fr.drew h⟩
theorem gone_like (y : Cs) (n : Nat) : Like y (y.gone n) ∧ (y.gone n).dead = y.dead ∧ (y.gone n).gen = y.gen := by
  unfold Cs.gone
  split <;> exact ⟨⟨rfl, rfl, rfl, rfl, rfl, rfl, rfl⟩, rfl, rfl⟩
set_option maxHeartbeats 4000000 in
set_option maxRecDepth 100000 in
theorem did_free {w w0 : World} {B : Blk} {y : Cs} {P : Prot} {a : Bool} {N : Nat} (h : StoreC w B y P a N) {r : R13} {t l f yy d : Value} (hr : RefAt w r t l f yy d) {x : ActV} (hx : ActOk w0 x) (hF0 : Fr (fun _ => False) w0 w) (hB0 : w0.heap.size ≤ B.base) (hR : Rel y r) (hN : N + 9 ≤ 90000) (hp0 : 0 < y.pages) (hp1 : y.pages ≤ 65535) (hroom : y.room = 77) (hl0 : 0 < r.live.length) (hk : (wrap64 (x.kind.tmod 9 + 9)).tmod 9 = 5) :
    Calls Tryz.prog 36 #[B.ptr, refV r t l f yy d, x.val] w (DidP B y P a N w) := by
  have HL := hid (And.intro hR.lens hR.len)
  obtain ⟨ta, tc, rfl, -, -, -, -⟩ := own_slice hr.taken
  obtain ⟨la, lc, rfl, -, -, -, -⟩ := own_slice hr.live
  obtain ⟨fa, fc, rfl, -, -, -, -⟩ := own_slice hr.fresh
  obtain ⟨ya, yc, rfl, -, -, -, -⟩ := own_slice hr.dying
  obtain ⟨da, dc, rfl, -, -, -, -⟩ := own_slice hr.dead
  obtain ⟨i, hi, hat⟩ := at_ok (n := x.n) hl0 (by have := hR.lens.1; omega)
  obtain ⟨n, st, bs, hli, hnp, hnt, hny, hne, hc, hfg⟩ := rel_live hR hi
  have hli' : r.live[i] = ⟨n, st, bs⟩ := by rw [List.getElem?_eq_getElem hi] at hli; exact Option.some.inj hli
  obtain ⟨g, rfl, hgl, hcg0⟩ := own_cell hr.live (show (r.live.flatMap pgCells)[i * 3 + 0]? = some (.int .i64 n) by rw [pgs_get _ _ hi _ (by decide), hli']; simp [pgCells])
  obtain ⟨g', eg', _, hcg1⟩ := own_cell hr.live (show (r.live.flatMap pgCells)[i * 3 + 1]? = some (.int .i64 st) by rw [pgs_get _ _ hi _ (by decide), hli']; simp [pgCells])
  cases eg'
  obtain ⟨g', eg', _, hcg2⟩ := own_cell hr.live (show (r.live.flatMap pgCells)[i * 3 + 2]? = some (.string (strOfNums bs)) by rw [pgs_get _ _ hi _ (by decide), hli']; simp [pgCells])
  cases eg'
  obtain ⟨w1, hw1⟩ : ∃ w1, ((w.alloc (.cells #[.slice ta r.taken.length tc, .int .i64 r.hand, .int .i64 r.gen, .slice (some ⟨g, 0, none⟩) r.live.length lc, .slice fa r.fresh.length fc, .slice ya r.dying.length yc, .slice da r.dead.length dc] 64)).alloc (.cells #[.int .i64 x.kind, .int .i64 x.n, .slice x.la x.ll x.lc] 69)).alloc (.cells z64 64) = w1 := ⟨_, rfl⟩
  obtain ⟨b0, b1, b2, F1⟩ := heap_three hw1
  have k0 : w1.cell? ⟨g, i * 3, none⟩ = some (.int .i64 n) := (F1.cell (p := ⟨g, i * 3, none⟩) hgl (fun h => h)).trans hcg0
  have k1 : w1.cell? ⟨g, i * 3 + 1, none⟩ = some (.int .i64 st) := (F1.cell (p := ⟨g, i * 3 + 1, none⟩) hgl (fun h => h)).trans hcg1
  have k2 : w1.cell? ⟨g, i * 3 + 2, none⟩ = some (.string (strOfNums bs)) := (F1.cell (p := ⟨g, i * 3 + 2, none⟩) hgl (fun h => h)).trans hcg2
  have HW := hid hw1
  have H1 := hid (And.intro b0 (And.intro b1 (And.intro b2 F1)))
  have H0 := hid hr
  have HS := hid h
  have HX := hid hx
  have HR := hid hR
  unfold z64 at HW
  obtain ⟨c0, c1, c2, c3, c4, c5, c6, cz, cl⟩ := cells7 b0
  obtain ⟨x0, x1, x2, xz, xl⟩ := cells3 b1
  clear hw1 b0 b1 b2 F1 hr h hx hR
  have HF0 := hid hF0
  have HLI := hid (And.intro hli (And.intro hli' (And.intro hnp (And.intro hnt (And.intro hny (And.intro hne (And.intro hc hfg)))))))
  clear hF0 hli hli' hnp hnt hny hne hc hfg hcg0 hcg1 hcg2
  have hd0 : decide ((0 : Int) < (r.live.length : Int)) = true := by simpa using hl0
  have hll6 : r.live.length ≤ 65535 := by have := HL.out.1.1; omega
  go_enter Tryz.func36, Tryz.ntmps36
  go_upto_region 1 with fail
  rw [HW.out]
  go_wp2_with (go_at_call 103; refine (ref13_p ⟨n, st, bs⟩ _).mono ?_)
  rintro _ W2 ⟨rfl, F2⟩
  have F02 := H1.out.2.2.2.trans F2 (fun _ _ h => h)
  have HFr := hid (free_c (HS.out.fr0 F02) n (st : Int) HLI.out.2.2.1 HLI.out.2.2.2.1 HLI.out.2.2.2.2.1 HLI.out.2.2.2.2.2.1)
  go_wp2_with (go_at_call 27; refine HFr.out.mono ?_)
  rintro _ W3 ⟨rfl, hS3, F3⟩
  have F03 := FrB.trans (FrB.none (B := B) F02) F3
  have q0 := F3.heap (F2.heap H1.out.1 (fun h => h)) (by decide)
  have q2 := F3.heap (F2.heap H1.out.2.2.1 (fun h => h)) (by decide)
  have HD := hid (rfree_ok (H0.out.frB F03) (by have := HL.out.2; omega) (by have := HL.out.1.1; omega) (by have := HL.out.1.2.1; omega) (by have := HL.out.1.2.2.1; omega) i hi n (by rw [HLI.out.2.1]) (by rw [HL.out.2]; exact HLI.out.2.2.1))
  have H3 := hid (And.intro F03 (And.intro hS3 q2))
  clear c0 c1 c2 c3 c4 c5 c6 cz cl x0 x1 x2 xz xl k0 k1 k2 F2 F02 F3 F03 hS3 q2
  obtain ⟨c0, c1, c2, c3, c4, c5, c6, cz, cl⟩ := cells7 q0
  clear q0
  go_wp2_with (go_at_call 104; refine HD.out.mono ?_)
  rintro _ W4 ⟨F4, t5, l5, f5, y5, d5, rfl, hv, -⟩
  obtain ⟨ta2, tc2, rfl, -, -, -, -⟩ := own_slice hv.taken
  obtain ⟨la2, lc2, rfl, -, -, -, -⟩ := own_slice hv.live
  obtain ⟨fa2, fc2, rfl, -, -, -, -⟩ := own_slice hv.fresh
  obtain ⟨ya2, yc2, rfl, -, -, -, -⟩ := own_slice hv.dying
  obtain ⟨da2, dc2, rfl, -, -, -, -⟩ := own_slice hv.dead
  have q4 := F4.heap H3.out.2.2 (fun h => h)
  have H4 := hid (And.intro F4 (And.intro q4 hv))
  clear c0 c1 c2 c3 c4 c5 c6 cz cl F4 hv HD HFr
  obtain ⟨g0, g1, g2, g3, g4, g5, g6, gz, gl⟩ := cells7 q4
  clear q4
  generalize hrd : r.drop i = rd at *
  have HRD := hid hrd
  clear hrd
  go_wp2_with fail
  refine bodyPost_ret (v := .tuple #[refV rd (.slice ta2 rd.taken.length tc2) (.slice la2 rd.live.length lc2) (.slice fa2 rd.fresh.length fc2) (.slice ya2 rd.dying.length yc2) (.slice da2 rd.dead.length dc2), .int .i64 0, .bool true]) (by simp [results, go_sem, *]) rfl ?_
  refine did_end (y' := y.gone n) (k := w.heap.size + 1 + 1) (by omega) (by omega) H4.out.2.1 (H3.out.1.trans' H4.out.1 (fun _ _ h => h)) ?_ ((H3.out.2.1.fr0 H4.out.1).mono (by omega) hN) H4.out.2.2 (by rw [← HRD.out]; exact rel_gone HR.out HLI.out.1) (gone_like y n).1 (gone_like y n).2.1 (gone_like y n).2.2
  with_reducible (repeat (first | exact Fr.refl _ _ | apply Fr.drew | apply Fr.alloc | refine Fr.setCell ?_ (fun _ => by simp) _))
set_option maxHeartbeats 4000000 in
set_option maxRecDepth 100000 in
theorem did_read {w w0 : World} {B : Blk} {y : Cs} {P : Prot} {a : Bool} {N : Nat} (h : StoreC w B y P a N) {r : R13} {t l f yy d : Value} (hr : RefAt w r t l f yy d) {x : ActV} (hx : ActOk w0 x) (hF0 : Fr (fun _ => False) w0 w) (hB0 : w0.heap.size ≤ B.base) (hR : Rel y r) (hN : N + 9 ≤ 90000) (hp0 : 0 < y.pages) (hp1 : y.pages ≤ 65535) (hroom : y.room = 77) (hl0 : 0 < r.live.length) (hk : (wrap64 (x.kind.tmod 9 + 9)).tmod 9 = 6) :
    Calls Tryz.prog 36 #[B.ptr, refV r t l f yy d, x.val] w (DidP B y P a N w) := by
  have HL := hid (And.intro hR.lens hR.len)
  obtain ⟨ta, tc, rfl, -, -, -, -⟩ := own_slice hr.taken
  obtain ⟨la, lc, rfl, -, -, -, -⟩ := own_slice hr.live
  obtain ⟨fa, fc, rfl, -, -, -, -⟩ := own_slice hr.fresh
  obtain ⟨ya, yc, rfl, -, -, -, -⟩ := own_slice hr.dying
  obtain ⟨da, dc, rfl, -, -, -, -⟩ := own_slice hr.dead
  obtain ⟨i, hi, hat⟩ := at_ok (n := x.n) hl0 (by have := hR.lens.1; omega)
  obtain ⟨n, st, bs, hli, hnp, hnt, hny, hne, hc, hfg⟩ := rel_live hR hi
  have hli' : r.live[i] = ⟨n, st, bs⟩ := by rw [List.getElem?_eq_getElem hi] at hli; exact Option.some.inj hli
  obtain ⟨g, rfl, hgl, hcg0⟩ := own_cell hr.live (show (r.live.flatMap pgCells)[i * 3 + 0]? = some (.int .i64 n) by rw [pgs_get _ _ hi _ (by decide), hli']; simp [pgCells])
  obtain ⟨g', eg', _, hcg1⟩ := own_cell hr.live (show (r.live.flatMap pgCells)[i * 3 + 1]? = some (.int .i64 st) by rw [pgs_get _ _ hi _ (by decide), hli']; simp [pgCells])
  cases eg'
  obtain ⟨g', eg', _, hcg2⟩ := own_cell hr.live (show (r.live.flatMap pgCells)[i * 3 + 2]? = some (.string (strOfNums bs)) by rw [pgs_get _ _ hi _ (by decide), hli']; simp [pgCells])
  cases eg'
  obtain ⟨w1, hw1⟩ : ∃ w1, ((w.alloc (.cells #[.slice ta r.taken.length tc, .int .i64 r.hand, .int .i64 r.gen, .slice (some ⟨g, 0, none⟩) r.live.length lc, .slice fa r.fresh.length fc, .slice ya r.dying.length yc, .slice da r.dead.length dc] 64)).alloc (.cells #[.int .i64 x.kind, .int .i64 x.n, .slice x.la x.ll x.lc] 69)).alloc (.cells z64 64) = w1 := ⟨_, rfl⟩
  obtain ⟨b0, b1, b2, F1⟩ := heap_three hw1
  have k0 : w1.cell? ⟨g, i * 3, none⟩ = some (.int .i64 n) := (F1.cell (p := ⟨g, i * 3, none⟩) hgl (fun h => h)).trans hcg0
  have k1 : w1.cell? ⟨g, i * 3 + 1, none⟩ = some (.int .i64 st) := (F1.cell (p := ⟨g, i * 3 + 1, none⟩) hgl (fun h => h)).trans hcg1
  have k2 : w1.cell? ⟨g, i * 3 + 2, none⟩ = some (.string (strOfNums bs)) := (F1.cell (p := ⟨g, i * 3 + 2, none⟩) hgl (fun h => h)).trans hcg2
  have HW := hid hw1
  have H1 := hid (And.intro b0 (And.intro b1 (And.intro b2 F1)))
  have H0 := hid hr
  have HS := hid h
  have HX := hid hx
  have HR := hid hR
  unfold z64 at HW
  obtain ⟨c0, c1, c2, c3, c4, c5, c6, cz, cl⟩ := cells7 b0
  obtain ⟨x0, x1, x2, xz, xl⟩ := cells3 b1
  clear hw1 b0 b1 b2 F1 hr h hx hR
  have HF0 := hid hF0
  have HLI := hid (And.intro hli (And.intro hli' (And.intro hnp (And.intro hnt (And.intro hny (And.intro hne (And.intro hc hfg)))))))
  clear hF0 hli hli' hnp hnt hny hne hc hfg hcg0 hcg1 hcg2
  have hd0 : decide ((0 : Int) < (r.live.length : Int)) = true := by simpa using hl0
  have hll6 : r.live.length ≤ 65535 := by have := HL.out.1.1; omega
  go_enter Tryz.func36, Tryz.ntmps36
  go_upto_region 1 with fail
  rw [HW.out]
  go_wp2_with (go_at_call 103; refine (ref13_p ⟨n, st, bs⟩ _).mono ?_)
  rintro _ W2 ⟨rfl, F2⟩
  have F02 := H1.out.2.2.2.trans F2 (fun _ _ h => h)
  have HRd := hid (read_c (HS.out.fr0 F02) n (st : Int) HLI.out.2.2.2.2.2.2.1 (by omega))
  have H2 := hid (And.intro F02 (And.intro (F2.heap H1.out.1 (fun h => h)) (And.intro (F2.heap H1.out.2.2.1 (fun h => h)) (H0.out.fr F02))))
  clear c0 c1 c2 c3 c4 c5 c6 cz cl x0 x1 x2 xz xl k0 k1 k2 F2 F02
  go_wp2_with (go_at_call 24; refine HRd.out.mono ?_)
  rintro e W3 ⟨err, hw, F3, he1, -, he3⟩
  have q0 := F3.heap H2.out.2.1 (by decide)
  have q2 := F3.heap H2.out.2.2.1 (by decide)
  have hr3 := H2.out.2.2.2.frB F3
  have H3 := hid (And.intro (FrB.trans (FrB.none H2.out.1) F3) (And.intro q2 hr3))
  obtain ⟨c0, c1, c2, c3, c4, c5, c6, cz, cl⟩ := cells7 q0
  obtain ⟨g0, g1, g2, g3, g4, g5, g6, gz, gl⟩ := cells7 q2
  clear q0 q2 F3 HRd
  rcases hw with ⟨rfl, hS3⟩ | ⟨rfl, ha, hD3⟩
  · obtain ⟨xa, xc, rfl, hbv⟩ := he3 rfl rfl
    have hcv : ∀ W, NearAt W3 (w.heap.size + 1 + 1) W → (convert 22 9 (.slice xa bs.length xc)).run Tryz.prog W = .ok (.string (strOfNums bs)) W := fun W hW => str_at (hbv.fr hW (fun b c hb hk => by rw [hk, H3.out.2.1] at hb; cases hb)).slb 9 Tryz.underlying9
    have hK0 : NearAt W3 (w.heap.size + 1 + 1) W3 := Fr.refl _ _
    have hK1 : ∀ W o v, NearAt W3 (w.heap.size + 1 + 1) (W.setCell ⟨w.heap.size + 1 + 1, o, none⟩ v) = NearAt W3 (w.heap.size + 1 + 1) W := fun W o v => near_set W3 W _ o v
    have hK2 : ∀ W, NearAt W3 (w.heap.size + 1 + 1) W.drew = NearAt W3 (w.heap.size + 1 + 1) W := fun W => near_drew W3 W _
    obtain ⟨g', eg', _, k2⟩ := own_cell hr3.live (show (r.live.flatMap pgCells)[i * 3 + 2]? = some (.string (strOfNums bs)) by rw [pgs_get _ _ hi _ (by decide), HLI.out.2.1]; simp [pgCells])
    cases eg'
    have HS3 := hid hS3
    clear he1 he3 hbv hr3 hS3
    go_upto_region 23 with fail
    have gB : ¬ w.heap.size + 1 + 1 = g := by omega
    have gB' : ¬ g = w.heap.size + 1 + 1 := by omega
    have gB2 : ¬ w.heap.size + 1 + 1 = w.heap.size := by omega
    have gB3 : ¬ w.heap.size = w.heap.size + 1 + 1 := by omega
    go_region_held3 (fun W => (W.cell? ⟨w.heap.size, 0, none⟩ = some (.slice ta r.taken.length tc) ∧ W.cell? ⟨w.heap.size, 1, none⟩ = some (.int .i64 r.hand) ∧ W.cell? ⟨w.heap.size, 2, none⟩ = some (.int .i64 r.gen) ∧ W.cell? ⟨w.heap.size, 3, none⟩ = some (.slice (some ⟨g, 0, none⟩) r.live.length lc) ∧ W.cell? ⟨w.heap.size, 4, none⟩ = some (.slice fa r.fresh.length fc) ∧ W.cell? ⟨w.heap.size, 5, none⟩ = some (.slice ya r.dying.length yc) ∧ W.cell? ⟨w.heap.size, 6, none⟩ = some (.slice da r.dead.length dc)) ∧ W.cell? ⟨g, i * 3 + 2, none⟩ = some (.string (strOfNums bs)) ∧ NearAt W3 (w.heap.size + 1 + 1) W) (go_keep) (fail)
    all_goals clear hcv hK0 hK1 hK2 gB2 gB3
    all_goals (go_wp2_with fail)
    all_goals refine bodyPost_ret (v := .tuple #[refV r (.slice ta r.taken.length tc) (.slice (some ⟨g, 0, none⟩) r.live.length lc) (.slice fa r.fresh.length fc) (.slice ya r.dying.length yc) (.slice da r.dead.length dc), .int .i64 0, .bool true]) (by simp [results, go_sem, *]) rfl ?_
    all_goals (
      refine did_end (k := w.heap.size + 1 + 1) (by omega) (by omega) H3.out.2.1 H3.out.1 ?_ (HS3.out.mono (by omega) hN) H3.out.2.2 HR.out (Like.refl y) rfl rfl
      with_reducible (repeat (first | exact Fr.refl _ _ | apply Fr.drew | apply Fr.alloc | refine Fr.setCell ?_ (fun _ => by simp) _)))
  · subst ha
    obtain rfl := he1 (by decide)
    have HD3 := hid hD3
    clear he1 he3 hr3 hD3
    go_upto_region 23 with fail
    go_region
    all_goals (go_wp2_with fail)
    all_goals refine bodyPost_ret (v := .tuple #[refV r (.slice ta r.taken.length tc) (.slice (some ⟨g, 0, none⟩) r.live.length lc) (.slice fa r.fresh.length fc) (.slice ya r.dying.length yc) (.slice da r.dead.length dc), .int .i64 4, .bool true]) (by simp [results, go_sem, *]) rfl ?_
    all_goals (
      refine did_down (r0 := r) (k := w.heap.size + 1 + 1) (by omega) H3.out.2.1 H3.out.1 ?_ (HD3.out.mono (by omega))
      with_reducible (repeat (first | exact Fr.refl _ _ | apply Fr.drew | apply Fr.alloc | refine Fr.setCell ?_ (fun _ => by simp) _)))
end Go.Proofs.YtgdhaaokolfdoaaGreatDoor
