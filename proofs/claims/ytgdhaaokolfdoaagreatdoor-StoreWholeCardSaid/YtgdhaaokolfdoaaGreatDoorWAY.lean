/- A pack of texts: EC. Conditions: those that each text names. -/
import Derived.Test.YtgdhaaokolfdoaaGreatDoorWAW
set_option linter.unusedVariables false
set_option linter.unusedSimpArgs false
set_option linter.unnecessarySimpa false
/- Chapter 13's did: acts on nothing, long ones, Flush, Commit. Conditions: the store, the document's rows and the act lie in the world, and go together. -/
namespace Go.Proofs.YtgdhaaokolfdoaaGreatDoor
open Go.RowKit Go.Sg Go.Sg.Bits Go.Sg.Clk CP SF
set_option maxHeartbeats 4000000 in
set_option maxRecDepth 100000 in
theorem did_none {w w0 : World} {B : Blk} {y : Cs} {P : Prot} {a : Bool} {N : Nat} (h : StoreC w B y P a N) {r : R13} {t l f yy d : Value} (hr : RefAt w r t l f yy d) {x : ActV} (hx : ActOk w0 x) (hF0 : Fr (fun _ => False) w0 w) (hB0 : w0.heap.size ≤ B.base) (hR : Rel y r) (hN : N + 9 ≤ 90000) (hp0 : 0 < y.pages) (hp1 : y.pages ≤ 65535) (hroom : y.room = 77)
    (kd : Int) (hk3 : 3 ≤ kd ∧ kd ≤ 6) (hk : (wrap64 (x.kind.tmod 9 + 9)).tmod 9 = kd) (hl0 : r.live.length = 0) :
    Calls Tryz.prog 36 #[B.ptr, refV r t l f yy d, x.val] w (DidP B y P a N w) := by
  have HL := hid (And.intro hR.lens hR.len)
  obtain ⟨ta, tc, rfl, -, -, -, -⟩ := own_slice hr.taken
  obtain ⟨la, lc, rfl, -, -, -, -⟩ := own_slice hr.live
  obtain ⟨fa, fc, rfl, -, -, -, -⟩ := own_slice hr.fresh
  obtain ⟨ya, yc, rfl, -, -, -, -⟩ := own_slice hr.dying
  obtain ⟨da, dc, rfl, -, -, -, -⟩ := own_slice hr.dead
  obtain ⟨w1, hw1⟩ : ∃ w1, ((w.alloc (.cells #[.slice ta r.taken.length tc, .int .i64 r.hand, .int .i64 r.gen, .slice la r.live.length lc, .slice fa r.fresh.length fc, .slice ya r.dying.length yc, .slice da r.dead.length dc] 64)).alloc (.cells #[.int .i64 x.kind, .int .i64 x.n, .slice x.la x.ll x.lc] 69)).alloc (.cells z64 64) = w1 := ⟨_, rfl⟩
  obtain ⟨b0, b1, b2, F1⟩ := heap_three hw1
  have HW := hid hw1
  have H1 := hid (And.intro b0 (And.intro b1 (And.intro b2 F1)))
  have H0 := hid hr
  have HS := hid h
  have HX := hid hx
  have HR := hid hR
  unfold z64 at HW
  obtain ⟨c0, c1, c2, c3, c4, c5, c6, cz, cl⟩ := cells7 b0
  obtain ⟨x0, x1, x2, xz, xl⟩ := cells3 b1
  clear hw1 b0 b1 b2 F1 hr h hx hR
  have HF0 := hid hF0
  clear hF0
  have q1 : decide ((3 : Int) ≤ kd) = true := by simp; omega
  have q2 : decide (kd ≤ (6 : Int)) = true := by simp; omega
  have hd0 : decide ((0 : Int) < (r.live.length : Int)) = false := decide_eq_false (by omega)
  obtain ⟨g0, g1, g2, g3, g4, g5, g6, gz, gl⟩ := cells7 H1.out.2.2.1
  have hnl : ¬ 0 < r.live.length := by omega
  clear hl0
  go_enter Tryz.func36, Tryz.ntmps36
  go_upto_region 1 with fail
  rw [HW.out]
  go_wp2_with fail
  refine bodyPost_ret (v := .tuple #[refV r (.slice ta r.taken.length tc) (.slice la r.live.length lc) (.slice fa r.fresh.length fc) (.slice ya r.dying.length yc) (.slice da r.dead.length dc), .int .i64 0, .bool true]) (by simp [results, go_sem, *]) rfl ?_
  refine did_end (k := w.heap.size + 1 + 1) (by omega) (by omega) H1.out.2.2.1 (FrB.none H1.out.2.2.2) ?_ ((HS.out.fr0 H1.out.2.2.2).mono (by omega) hN) (H0.out.fr H1.out.2.2.2) HR.out (Like.refl y) rfl rfl
  with_reducible (repeat (first | exact Fr.refl _ _ | apply Fr.drew | apply Fr.alloc | refine Fr.setCell ?_ (fun _ => by simp) _))
set_option maxHeartbeats 4000000 in
set_option maxRecDepth 100000 in
theorem did_long {w w0 : World} {B : Blk} {y : Cs} {P : Prot} {a : Bool} {N : Nat} (h : StoreC w B y P a N) {r : R13} {t l f yy d : Value} (hr : RefAt w r t l f yy d) {x : ActV} (hx : ActOk w0 x) (hF0 : Fr (fun _ => False) w0 w) (hB0 : w0.heap.size ≤ B.base) (hR : Rel y r) (hN : N + 9 ≤ 90000) (hp0 : 0 < y.pages) (hp1 : y.pages ≤ 65535) (hroom : y.room = 77)
    (kd : Int) (hk3 : 0 ≤ kd ∧ kd ≤ 4) (hk : (wrap64 (x.kind.tmod 9 + 9)).tmod 9 = kd) (hl3 : 0 < r.live.length ∨ kd < 3) (hll : 77 < x.ll) :
    Calls Tryz.prog 36 #[B.ptr, refV r t l f yy d, x.val] w (DidP B y P a N w) := by
  have HL := hid (And.intro hR.lens hR.len)
  obtain ⟨ta, tc, rfl, -, -, -, -⟩ := own_slice hr.taken
  obtain ⟨la, lc, rfl, -, -, -, -⟩ := own_slice hr.live
  obtain ⟨fa, fc, rfl, -, -, -, -⟩ := own_slice hr.fresh
  obtain ⟨ya, yc, rfl, -, -, -, -⟩ := own_slice hr.dying
  obtain ⟨da, dc, rfl, -, -, -, -⟩ := own_slice hr.dead
  obtain ⟨w1, hw1⟩ : ∃ w1, ((w.alloc (.cells #[.slice ta r.taken.length tc, .int .i64 r.hand, .int .i64 r.gen, .slice la r.live.length lc, .slice fa r.fresh.length fc, .slice ya r.dying.length yc, .slice da r.dead.length dc] 64)).alloc (.cells #[.int .i64 x.kind, .int .i64 x.n, .slice x.la x.ll x.lc] 69)).alloc (.cells z64 64) = w1 := ⟨_, rfl⟩
  obtain ⟨b0, b1, b2, F1⟩ := heap_three hw1
  have HW := hid hw1
  have H1 := hid (And.intro b0 (And.intro b1 (And.intro b2 F1)))
  have H0 := hid hr
  have HS := hid h
  have HX := hid hx
  have HR := hid hR
  unfold z64 at HW
  obtain ⟨c0, c1, c2, c3, c4, c5, c6, cz, cl⟩ := cells7 b0
  obtain ⟨x0, x1, x2, xz, xl⟩ := cells3 b1
  clear hw1 b0 b1 b2 F1 hr h hx hR
  have HF0 := hid hF0
  clear hF0
  have hnd : decide ((77 : Int) < (x.ll : Int)) = true := by simp; omega
  have q2 : decide (kd ≤ (4 : Int)) = true := by simp; omega
  have hFw1 := H1.out.2.2.2
  have HN := hid (new_long_c (HS.out.fr0 hFw1) x.la x.ll x.lc (by rw [hroom]; exact hll))
  clear hFw1
  have hll6 : r.live.length ≤ 65535 := by have := HL.out.1.1; omega
  have hdl : 0 < r.live.length ∧ decide ((0 : Int) < (r.live.length : Int)) = true ∨ ¬ 0 < r.live.length ∧ decide ((0 : Int) < (r.live.length : Int)) = false ∧ decide ((3 : Int) ≤ kd) = false := by
    by_cases hl0 : 0 < r.live.length
    · exact .inl ⟨hl0, by simpa using hl0⟩
    · exact .inr ⟨hl0, by simpa using hl0, by simp; omega⟩
  go_enter Tryz.func36, Tryz.ntmps36
  go_upto_region 1 with fail
  rw [HW.out]
  rcases hdl with ⟨hl0, hd0⟩ | ⟨hl0, hd0, q3⟩
  all_goals
    go_wp2_with (go_at_call 22; refine HN.out.mono ?_)
    rintro _ W4 ⟨rfl, F4⟩
    have k0 := F4.heap H1.out.1 (fun h => h)
    have k2 := F4.heap H1.out.2.2.1 (fun h => h)
    have H4 := hid (And.intro (H1.out.2.2.2.trans F4 (fun _ _ h => h)) k2)
    clear x0 x1 x2 xz xl c0 c1 c2 c3 c4 c5 c6 cz cl F4
    obtain ⟨d0, d1, d2, d3, d4, d5, d6, dz, dl⟩ := cells7 k0
    obtain ⟨g0, g1, g2, g3, g4, g5, g6, gz, gl⟩ := cells7 k2
    clear k0 k2
    go_wp2_with fail
    refine bodyPost_ret (v := .tuple #[refV r (.slice ta r.taken.length tc) (.slice la r.live.length lc) (.slice fa r.fresh.length fc) (.slice ya r.dying.length yc) (.slice da r.dead.length dc), .int .i64 0, .bool true]) (by simp [results, go_sem, *]) rfl ?_
    refine did_end (k := w.heap.size + 1 + 1) (by omega) (by omega) H4.out.2 (FrB.none H4.out.1) ?_ ((HS.out.fr0 H4.out.1).mono (by omega) hN) (H0.out.fr H4.out.1) HR.out (Like.refl y) rfl rfl
    with_reducible (repeat (first | exact Fr.refl _ _ | apply Fr.drew | apply Fr.alloc | refine Fr.setCell ?_ (fun _ => by simp) _))
set_option maxHeartbeats 4000000 in
set_option maxRecDepth 100000 in
theorem did_flush {w w0 : World} {B : Blk} {y : Cs} {P : Prot} {a : Bool} {N : Nat} (h : StoreC w B y P a N) {r : R13} {t l f yy d : Value} (hr : RefAt w r t l f yy d) {x : ActV} (hx : ActOk w0 x) (hF0 : Fr (fun _ => False) w0 w) (hB0 : w0.heap.size ≤ B.base) (hR : Rel y r) (hN : N + 9 ≤ 90000) (hp0 : 0 < y.pages) (hp1 : y.pages ≤ 65535) (hroom : y.room = 77) (hpl : y.places ≤ 8)
    (hk : (wrap64 (x.kind.tmod 9 + 9)).tmod 9 = 7) :
    Calls Tryz.prog 36 #[B.ptr, refV r t l f yy d, x.val] w (DidP B y P a N w) := by
  have HL := hid (And.intro hR.lens hR.len)
  obtain ⟨ta, tc, rfl, -, -, -, -⟩ := own_slice hr.taken
  obtain ⟨la, lc, rfl, -, -, -, -⟩ := own_slice hr.live
  obtain ⟨fa, fc, rfl, -, -, -, -⟩ := own_slice hr.fresh
  obtain ⟨ya, yc, rfl, -, -, -, -⟩ := own_slice hr.dying
  obtain ⟨da, dc, rfl, -, -, -, -⟩ := own_slice hr.dead
  obtain ⟨w1, hw1⟩ : ∃ w1, ((w.alloc (.cells #[.slice ta r.taken.length tc, .int .i64 r.hand, .int .i64 r.gen, .slice la r.live.length lc, .slice fa r.fresh.length fc, .slice ya r.dying.length yc, .slice da r.dead.length dc] 64)).alloc (.cells #[.int .i64 x.kind, .int .i64 x.n, .slice x.la x.ll x.lc] 69)).alloc (.cells z64 64) = w1 := ⟨_, rfl⟩
  obtain ⟨b0, b1, b2, F1⟩ := heap_three hw1
  have HW := hid hw1
  have H1 := hid (And.intro b0 (And.intro b1 (And.intro b2 F1)))
  have H0 := hid hr
  have HS := hid h
  have HX := hid hx
  have HR := hid hR
  unfold z64 at HW
  obtain ⟨c0, c1, c2, c3, c4, c5, c6, cz, cl⟩ := cells7 b0
  obtain ⟨x0, x1, x2, xz, xl⟩ := cells3 b1
  clear hw1 b0 b1 b2 F1 hr h hx hR
  have HF0 := hid hF0
  clear hF0
  have hFw1 := H1.out.2.2.2
  have HN := hid (flush_c (HS.out.fr0 hFw1) (by omega))
  clear hFw1
  have hll6 : r.live.length ≤ 65535 := by have := HL.out.1.1; omega
  have hdl : 0 < r.live.length ∧ decide ((0 : Int) < (r.live.length : Int)) = true ∨ ¬ 0 < r.live.length ∧ decide ((0 : Int) < (r.live.length : Int)) = false := by
    by_cases hl0 : 0 < r.live.length
    · exact .inl ⟨hl0, by simpa using hl0⟩
    · exact .inr ⟨hl0, by simpa using hl0⟩
  go_enter Tryz.func36, Tryz.ntmps36
  go_upto_region 1 with fail
  rw [HW.out]
  rcases hdl with ⟨hl0, hd0⟩ | ⟨hl0, hd0⟩
  all_goals
    go_wp2_with (go_at_call 39; refine HN.out.mono ?_)
    rintro _ W4 ⟨err, rfl, F4, hw⟩
    have k0 := F4.heap H1.out.1 (by decide)
    have k2 := F4.heap H1.out.2.2.1 (by decide)
    have H4 := hid (And.intro (FrB.trans (FrB.none H1.out.2.2.2) F4) k2)
    clear x0 x1 x2 xz xl c0 c1 c2 c3 c4 c5 c6 cz cl F4
    obtain ⟨d0, d1, d2, d3, d4, d5, d6, dz, dl⟩ := cells7 k0
    obtain ⟨g0, g1, g2, g3, g4, g5, g6, gz, gl⟩ := cells7 k2
    clear k0 k2
    rcases hw with ⟨rfl, hS4⟩ | ⟨rfl, ha, hD4⟩
    · have HS4 := hid hS4
      clear hS4
      go_wp2_with fail
      refine bodyPost_ret (v := .tuple #[refV r (.slice ta r.taken.length tc) (.slice la r.live.length lc) (.slice fa r.fresh.length fc) (.slice ya r.dying.length yc) (.slice da r.dead.length dc), .int .i64 0, .bool true]) (by simp [results, go_sem, *]) rfl ?_
      refine did_end (k := w.heap.size + 1 + 1) (by omega) (by omega) H4.out.2 H4.out.1 ?_ (HS4.out.c.mono (by omega) hN) (H0.out.frB H4.out.1) HR.out (Like.refl y) rfl rfl
      with_reducible (repeat (first | exact Fr.refl _ _ | apply Fr.drew | apply Fr.alloc | refine Fr.setCell ?_ (fun _ => by simp) _))
    · subst ha
      have HD4 := hid hD4
      clear hD4
      go_wp2_with fail
      refine bodyPost_ret (v := .tuple #[refV r (.slice ta r.taken.length tc) (.slice la r.live.length lc) (.slice fa r.fresh.length fc) (.slice ya r.dying.length yc) (.slice da r.dead.length dc), .int .i64 4, .bool true]) (by simp [results, go_sem, *]) rfl ?_
      refine did_down (r0 := r) (k := w.heap.size + 1 + 1) (by omega) H4.out.2 H4.out.1 ?_ (HD4.out.mono (by omega))
      with_reducible (repeat (first | exact Fr.refl _ _ | apply Fr.drew | apply Fr.alloc | refine Fr.setCell ?_ (fun _ => by simp) _))
/-- A commit. -/
def DidC (B : Blk) (r : R13) (Q : World → Prop) (w : World) (e : Ending) (w' : World) : Prop :=
  ∃ v, e = .returned (.tuple #[v, .int .i64 0, .bool true]) ∧ FrB B w w' ∧ RefIs w' r.commit v ∧ Q w'
theorem didc_end {w W4 W' : World} {B : Blk} {r : R13} {Q : World → Prop} {t l f yy d : Value} {k : Nat} {c : Array Value} (hQ : ∀ W W' (k : Nat) (c : Array Value), Q W → W.heap[k]? = some (.cells c 64) → 0 < k → Fr (fun b => b = k) W W' → Q W')
    (hk : w.heap.size ≤ k) (hk0 : 0 < k) (k2 : W4.heap[k]? = some (.cells c 64)) (F4 : FrB B w W4) (F : Fr (fun b => b = k) W4 W') (hq : Q W4) (hr : RefAt W4 r.commit t l f yy d) : DidC B r Q w (.returned (.tuple #[refV r.commit t l f yy d, .int .i64 0, .bool true])) W' :=
  ⟨_, rfl, F4.trans' F (fun b hb e => by omega), ⟨_, _, _, _, _, rfl, ref_64 hr F (fun b hb => by subst hb; exact ⟨_, k2⟩)⟩, hQ _ _ _ _ hq k2 hk0 F⟩
set_option maxHeartbeats 4000000 in
set_option maxRecDepth 100000 in
theorem did_commit {w w0 : World} {B : Blk} {y : Cs} {P : Prot} {a : Bool} {N : Nat} (h : StoreC w B y P a N) {r : R13} {t l f yy d : Value} (hr : RefAt w r t l f yy d) {x : ActV} (hx : ActOk w0 x) (hF0 : Fr (fun _ => False) w0 w) (hB0 : w0.heap.size ≤ B.base) (hR : Rel y r) (hN : N + 9 ≤ 90000) (hp0 : 0 < y.pages) (hp1 : y.pages ≤ 65535) (hroom : y.room = 77) (hg : y.gen ≤ 1000000) (Q : World → Prop) (hQ0 : ∀ W W', Q W → Fr (fun _ => False) W W' → Q W') (hQ : ∀ W W' (k : Nat) (c : Array Value), Q W → W.heap[k]? = some (.cells c 64) → 0 < k → Fr (fun b => b = k) W W' → Q W')
    (hCm : ∀ W, Fr (fun _ => False) w W → Calls Tryz.prog 37 #[B.ptr] W (fun e w' => e = .returned (.tuple #[]) ∧ FrB B W w' ∧ Q w'))
    (hk : (wrap64 (x.kind.tmod 9 + 9)).tmod 9 = 8) :
    Calls Tryz.prog 36 #[B.ptr, refV r t l f yy d, x.val] w (DidC B r Q w) := by
  have HL := hid (And.intro hR.lens hR.len)
  obtain ⟨ta, tc, rfl, -, -, -, -⟩ := own_slice hr.taken
  obtain ⟨la, lc, rfl, -, -, -, -⟩ := own_slice hr.live
  obtain ⟨fa, fc, rfl, -, -, -, -⟩ := own_slice hr.fresh
  obtain ⟨ya, yc, rfl, -, -, -, -⟩ := own_slice hr.dying
  obtain ⟨da, dc, rfl, -, -, -, -⟩ := own_slice hr.dead
  obtain ⟨w1, hw1⟩ : ∃ w1, ((w.alloc (.cells #[.slice ta r.taken.length tc, .int .i64 r.hand, .int .i64 r.gen, .slice la r.live.length lc, .slice fa r.fresh.length fc, .slice ya r.dying.length yc, .slice da r.dead.length dc] 64)).alloc (.cells #[.int .i64 x.kind, .int .i64 x.n, .slice x.la x.ll x.lc] 69)).alloc (.cells z64 64) = w1 := ⟨_, rfl⟩
  obtain ⟨b0, b1, b2, F1⟩ := heap_three hw1
  have HW := hid hw1
  have H1 := hid (And.intro b0 (And.intro b1 (And.intro b2 F1)))
  have H0 := hid hr
  have HS := hid h
  have HX := hid hx
  have HR := hid hR
  unfold z64 at HW
  obtain ⟨c0, c1, c2, c3, c4, c5, c6, cz, cl⟩ := cells7 b0
  obtain ⟨x0, x1, x2, xz, xl⟩ := cells3 b1
  clear hw1 b0 b1 b2 F1 hr h hx hR
  have HF0 := hid hF0
  clear hF0
  have HN := hid (hCm _ H1.out.2.2.2)
  have HQ := hid (And.intro hQ0 hQ)
  clear hCm hQ0 hQ
  have hll6 : r.live.length ≤ 65535 := by have := HL.out.1.1; omega
  have hdl : 0 < r.live.length ∧ decide ((0 : Int) < (r.live.length : Int)) = true ∨ ¬ 0 < r.live.length ∧ decide ((0 : Int) < (r.live.length : Int)) = false := by
    by_cases hl0 : 0 < r.live.length
    · exact .inl ⟨hl0, by simpa using hl0⟩
    · exact .inr ⟨hl0, by simpa using hl0⟩
  go_enter Tryz.func36, Tryz.ntmps36
  go_upto_region 1 with fail
  rw [HW.out]
  rcases hdl with ⟨hl0, hd0⟩ | ⟨hl0, hd0⟩
  all_goals
    go_wp2_with (go_at_call 37; refine HN.out.mono ?_)
    rintro _ W4 ⟨rfl, F4, hq⟩
    have k0 := F4.heap H1.out.1 (by decide)
    have k2 := F4.heap H1.out.2.2.1 (by decide)
    have F04 := FrB.trans (FrB.none H1.out.2.2.2) F4
    have H4 := hid (And.intro F04 (And.intro k2 hq))
    have HC := hid (rcommit_ok (H0.out.frB F04) (by have := HL.out.2; omega) (by have := HL.out.1.2.2.2; omega) (by rw [HR.out.gen]; omega) (by rw [HR.out.gen]; omega) (fun z hz => by
      have := HR.out.inr.2.2 z ((HR.out.dead.1 z).1 hz)
      exact ⟨z.toNat, by omega, by rw [HL.out.2]; omega⟩))
    clear x0 x1 x2 xz xl c0 c1 c2 c3 c4 c5 c6 cz cl F4 hq F04
    obtain ⟨d0, d1, d2, d3, d4, d5, d6, dz, dl⟩ := cells7 k0
    clear k0
    go_wp2_with (go_at_call 105; refine HC.out.mono ?_)
    rintro _ W5 ⟨F5, v, rfl, hv⟩
    obtain ⟨ta2, tc2, la2, lc2, fa2, fc2, ya2, yc2, da2, dc2, rfl, hv2⟩ := hv.slices
    have k5 := F5.heap k2 (fun h => h)
    have H5 := hid (And.intro F5 (And.intro k5 hv2))
    clear d0 d1 d2 d3 d4 d5 d6 dz dl hv hv2 F5 k2
    obtain ⟨g0, g1, g2, g3, g4, g5, g6, gz, gl⟩ := cells7 k5
    clear k5
    go_wp2_with fail
    refine bodyPost_ret (v := .tuple #[refV r.commit (.slice ta2 r.commit.taken.length tc2) (.slice la2 r.commit.live.length lc2) (.slice fa2 r.commit.fresh.length fc2) (.slice ya2 r.commit.dying.length yc2) (.slice da2 r.commit.dead.length dc2), .int .i64 0, .bool true]) (by simp [results, go_sem, *]) rfl ?_
    refine didc_end HQ.out.2 (k := w.heap.size + 1 + 1) (by omega) (by omega) H5.out.2.1 (H4.out.1.trans' H5.out.1 (fun _ _ h => h)) ?_ (HQ.out.1 _ _ H4.out.2.2 H5.out.1) H5.out.2.2
    with_reducible (repeat (first | exact Fr.refl _ _ | apply Fr.drew | apply Fr.alloc | refine Fr.setCell ?_ (fun _ => by simp) _))
end Go.Proofs.YtgdhaaokolfdoaaGreatDoor
