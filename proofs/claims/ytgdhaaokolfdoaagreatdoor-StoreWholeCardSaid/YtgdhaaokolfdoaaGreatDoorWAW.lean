/- A pack of texts: R9, WF, EA, E0, EB. Conditions: those that each text names. -/
import Derived.Test.YtgdhaaokolfdoaaGreatDoorWAV
import Derived.Test.YtgdhaaokolfdoaaGreatDoorWAQ
import Derived.Test.YtgdhaaokolfdoaaGreatDoorWAR
set_option linter.unusedVariables false
set_option linter.unusedSimpArgs false
set_option linter.unnecessarySimpa false
/- The document's store (chapter 13): Write. Conditions: the rows lie in the world. -/
namespace Go.Proofs.YtgdhaaokolfdoaaGreatDoor
open Go.RowKit Go.Sg
def RWrite (r : R13) (i : Nat) (bs : List Int) (w : World) (e : Ending) (w' : World) : Prop :=
  Fr (fun _ => False) w w' ∧ match r.write i bs with
  | none => ∃ v, e = .returned (.tuple #[v, pg0, .bool false]) ∧ RefIs w' r v
  | some (r', p) => ∃ v, e = .returned (.tuple #[v, pgV p, .bool true]) ∧ RefIs w' r' v
theorem make_some {r r2 : R13} {q : RPg} {bs : List Int} (h : r.make bs = some (r2, q)) : ∃ n : Nat, r2 = { r with taken := r.taken.set n true, hand := (((n + 1) % r.taken.length : Nat) : Int), live := r.live ++ [⟨n, r.gen, bs⟩], fresh := withL r.fresh n } ∧ q = ⟨n, r.gen, bs⟩ := by
  unfold R13.make at h
  split at h
  · cases h
  · rename_i n _
    cases h
    exact ⟨n, rfl, rfl⟩
theorem withL_length (l : List Int) (n : Int) : (withL l n).length = l.length + 1 := by
  induction l with
  | nil => rfl
  | cons x l ih => unfold withL; split <;> simp [ih]
theorem write_out {r : R13} {i m : Nat} (hi : i < r.live.length) (hm : r.live[i].page = m) (h : ¬ (m : Int) ∈ r.fresh) (bs : List Int) : r.write i bs = match r.make bs with
    | none => none
    | some (next, q) => some (next.drop i, q) := by
  simp only [R13.write, drop_page hi hm, if_neg h]
  all_goals rfl
theorem size_drew (w : World) : w.drew.heap.size = w.heap.size := rfl
theorem write_end {w W5 W' : World} {B : Nat} {r rd : R13} {q : RPg} {i : Nat} {bs : List Int} {t l f y d : Value} {x0 x1 x2 : Array Value} (hw : r.write i bs = some (rd, q)) (F : Fr (fun _ => False) w W') (F5 : Fr (fun k => k = B + 1 ∨ k = B + 1 + 1) W5 W')
    (b0 : W5.heap[B]? = some (.cells x0 64)) (b1 : W5.heap[B + 1]? = some (.cells x1 64)) (b2 : W5.heap[B + 1 + 1]? = some (.cells x2 71)) (h : RefAt W5 rd t l f y d) (ho : W5.ownsRow (B + 3) 71 3 l rd.live.length (rd.live.flatMap pgCells)) :
    RWrite r i bs w (.returned (.tuple #[refV rd t l f y d, pgV q, .bool true])) W' := by
  refine ⟨F, ?_⟩
  rw [hw]
  exact ⟨_, rfl, _, _, _, _, _, rfl, ref_three (F5.mono fun k _ hk => .inr hk) b0 b1 b2 h.taken ho h.fresh h.dying h.dead⟩
theorem pgs_set (l : List RPg) (i : Nat) (hi : i < l.length) (bs : List Int) : (l.flatMap pgCells).set (i * 3 + 2) (.string (strOfNums bs)) = (l.set i { l[i] with load := bs }).flatMap pgCells := by
  induction l generalizing i with
  | nil => simp at hi
  | cons p l ih =>
    cases i with
    | zero => simp [pgCells]
    | succ i =>
      simp only [List.set_cons_succ, List.flatMap_cons, List.getElem_cons_succ]
      rw [← ih i (by simpa using hi)]
      rw [show (i + 1) * 3 + 2 = (pgCells p).length + (i * 3 + 2) by simp [pgCells]; omega, List.set_append_right _ _ (by omega)]
      congr 2
      omega
theorem write_in {r : R13} {i m : Nat} {st : Int} {ld : List Int} (hi : i < r.live.length) (hp : r.live[i] = ⟨m, st, ld⟩) (h : (m : Int) ∈ r.fresh) (bs : List Int) : r.write i bs = some ({ r with live := r.live.set i ⟨m, st, bs⟩ }, ⟨m, st, bs⟩) := by
  have hd : r.live.getD i ⟨0, 0, []⟩ = ⟨m, st, ld⟩ := by simp [List.getD, List.getElem?_eq_getElem hi, hp]
  simp only [R13.write, hd, if_pos h]
set_option maxHeartbeats 2000000 in
set_option maxRecDepth 100000 in
theorem rwrite_ok {w : World} {r : R13} {t l f y d : Value} (h : RefAt w r t l f y d) (ht : r.taken.length ≤ 65536) (hh : 0 ≤ r.hand) (hh' : r.hand < r.taken.length) (hl : r.live.length ≤ 65535) (hf : r.fresh.length ≤ 65535) (hy : r.dying.length ≤ 65535)
    (i : Nat) (hi : i < r.live.length) (m : Nat) (hm : r.live[i].page = m) (hmt : m < r.taken.length) (bs : List Int) :
    Calls Tryz.prog 102 #[refV r t l f y d, .int .i64 i, .string (strOfNums bs)] w (RWrite r i bs w) := by
  obtain ⟨ta, tc, rfl, -, -, -, -⟩ := own_slice h.taken
  obtain ⟨la, lc, rfl, -, -, -, -⟩ := own_slice h.live
  obtain ⟨fa, fc, rfl, -, -, -, -⟩ := own_slice h.fresh
  obtain ⟨ya, yc, rfl, -, -, -, -⟩ := own_slice h.dying
  obtain ⟨da, dc, rfl, -, -, -, -⟩ := own_slice h.dead
  obtain ⟨i0, hi0, hz0, hz1, hz2⟩ := info_parts Tryz.info71
  obtain ⟨g, rfl, hg, hcg0⟩ := own_cell h.live (show (r.live.flatMap pgCells)[i * 3 + 0]? = some (.int .i64 m) by rw [pgs_get _ _ hi _ (by decide)]; simp [pgCells, hm])
  obtain ⟨g', eg', _, hcg1⟩ := own_cell h.live (show (r.live.flatMap pgCells)[i * 3 + 1]? = some (.int .i64 r.live[i].stamp) by rw [pgs_get _ _ hi _ (by decide)]; simp [pgCells])
  cases eg'
  obtain ⟨g', eg', _, hcg2⟩ := own_cell h.live (show (r.live.flatMap pgCells)[i * 3 + 2]? = some (.string (strOfNums r.live[i].load)) by rw [pgs_get _ _ hi _ (by decide)]; simp [pgCells])
  cases eg'
  obtain ⟨w1, hw1⟩ : ∃ w1, ((w.alloc (.cells #[.slice ta r.taken.length tc, .int .i64 r.hand, .int .i64 r.gen, .slice (some ⟨g, 0, none⟩) r.live.length lc, .slice fa r.fresh.length fc, .slice ya r.dying.length yc, .slice da r.dead.length dc] 64)).alloc (.cells z64 64)).alloc (.cells #[.int .i64 0, .int .i64 0, .string ⟨#[]⟩] 71) = w1 := ⟨_, rfl⟩
  obtain ⟨b0, b1, b2, F1⟩ := heap_three hw1
  have k0 : w1.cell? ⟨g, i * 3, none⟩ = some (.int .i64 m) := (F1.cell (p := ⟨g, i * 3, none⟩) hg (fun h => h)).trans hcg0
  have k1 : w1.cell? ⟨g, i * 3 + 1, none⟩ = some (.int .i64 r.live[i].stamp) := (F1.cell (p := ⟨g, i * 3 + 1, none⟩) hg (fun h => h)).trans hcg1
  have k2 : w1.cell? ⟨g, i * 3 + 2, none⟩ = some (.string (strOfNums r.live[i].load)) := (F1.cell (p := ⟨g, i * 3 + 2, none⟩) hg (fun h => h)).trans hcg2
  have hgs : g < w1.heap.size := Nat.lt_of_lt_of_le hg F1.size
  have HW := hid hw1
  have H1 := hid (And.intro b0 (And.intro b1 (And.intro b2 F1)))
  have H0 := hid h
  have HR := hid (And.intro hm (And.intro hg (And.intro hh hh')))
  unfold z64 at HW
  obtain ⟨c0, c1, c2, c3, c4, c5, c6, cz, cl⟩ := cells7 b0
  clear hw1 b0 b1 b2 F1 h hm hg hh hh' hcg0 hcg1 hcg2
  generalize hst : r.live[i].stamp = st at k1
  generalize hld : r.live[i].load = ld at k2
  have HP := hid (And.intro hst hld)
  clear hst hld
  go_enter Tryz.func102, Tryz.ntmps102
  go_upto_region 1 with fail
  rw [HW.out]
  go_upto_region 2 with fail
  obtain ⟨W2, hW2⟩ : ∃ W2, w1.alloc (.cells #[.int .i64 m, .int .i64 st, .string (strOfNums ld)] 71) = W2 := ⟨_, rfl⟩
  rw [hW2]
  have F2 : Fr (fun _ => False) w1 W2 := by rw [← hW2]; exact (Fr.refl _ _).alloc _
  have e0 := F2.heap H1.out.1 (fun h => h)
  have e9 : W2.heap[w1.heap.size]? = some (.cells #[.int .i64 m, .int .i64 st, .string (strOfNums ld)] 71) := by rw [← hW2]; exact heap_alloc_new _ _
  have H2 := hid (And.intro e0 (And.intro (F2.heap H1.out.2.1 (fun h => h)) (And.intro (F2.heap H1.out.2.2.1 (fun h => h)) (And.intro e9 (H1.out.2.2.2.trans F2 (fun _ _ h => h))))))
  clear c0 c1 c2 c3 c4 c5 c6 cz cl k0 k1 k2 hgs F2 hW2
  obtain ⟨c0, c1, c2, c3, c4, c5, c6, cz, cl⟩ := cells7 e0
  obtain ⟨p0, p1, p2, pz, pl⟩ := cells3 e9
  clear e0 e9
  by_cases hin : (m : Int) ∈ r.fresh
  · have hdec : decide ((m : Int) ∈ r.fresh) = true := decide_eq_true hin
    have HIN := hid hin
    clear hin
    go_upto_region 3 with (go_at_call 163; refine (rin_ok (own_none H0.out.fresh H2.out.2.2.2.2) (Nat.le_succ_of_le hf) m).mono ?_; rintro _ _ ⟨rfl, rfl⟩)
    have HV := hid (own_none H0.out.live H2.out.2.2.2.2)
    have hm1 : 0 + r.live.length ≤ maxLen := by simp [maxLen]; omega
    have hm2 : (0 + r.live.length) * 32 ≤ 140737488355328 := by omega
    go_wp2_with (at_builtin; refine wpList_append_src rfl (.tmp 23) (.tmp 25) 62 rfl W2.heap.size 71 i0 _ 3 32 Tryz.underlying62 hi0 hz0 hz1 hz2 rfl (Nat.succ_pos 2) _ 0 [] rfl (own_at (Nat.le_refl _) (heap_alloc_new _ _)) _ r.live.length _ rfl (own_src (own_none HV.out ((Fr.refl _ _).alloc _))) (pgs_length _) (pgs_one _) hm1 hm2 (by simp) ?_)
    intro v3 W3 hown3 hg3 hne3
    try simp only [List.nil_append, Nat.zero_add] at hown3
    obtain ⟨g3, cap3, cur3, rfl, hgb3, hgc3⟩ := own_some hown3 (by first | exact hne3 | exact hne3 (by simp))
    have F23 : Fr (fun _ => False) W2 W3 := ((Fr.refl (fun _ => False) W2).alloc _).trans (S' := fun b => b = W2.heap.size) (Fr.of_grownBy hg3) (fun b hb h => by omega)
    have b0 := F23.heap H2.out.1 (fun h => h)
    have sz2 := lt_of_heap H2.out.2.2.1
    have ne1 : ¬ g3 = w.heap.size := by omega
    have ne2 : ¬ w.heap.size = g3 := by omega
    have z2 : W3.cell? ⟨g3, i * 3 + 2, none⟩ = some (.string (strOfNums ld)) := by
      rw [hown3.cellAt (i * 3 + 2) (by omega), pgs_get _ _ hi _ (by decide)]; simp [pgCells, HP.out.2]
    have zf := hown3.frozenAt (i * 3 + 2)
    have zl := lt_of_heap hgc3
    have H3 := hid (And.intro hown3 (And.intro F23 (And.intro b0 hgc3)))
    clear c0 c1 c2 c3 c4 c5 c6 cz cl p0 p1 p2 pz pl hg3 hne3 F23 hgc3 hown3 hm1 hm2
    obtain ⟨c0, c1, c2, c3, c4, c5, c6, cz, cl⟩ := cells7 b0
    clear b0
    go_upto_region 5 with fail
    obtain ⟨W4, hW4⟩ : ∃ W4, (W3.setCell ⟨w.heap.size, 3, none⟩ (.slice (some ⟨g3, 0, none⟩) r.live.length cap3)).setCell ⟨g3, i * 3 + 2, none⟩ (.string (strOfNums bs)) = W4 := ⟨_, rfl⟩
    rw [hW4]
    have e0 : W4.heap[w.heap.size]? = some (.cells #[.slice ta r.taken.length tc, .int .i64 r.hand, .int .i64 r.gen, .slice (some ⟨g3, 0, none⟩) r.live.length cap3, .slice fa r.fresh.length fc, .slice ya r.dying.length yc, .slice da r.dead.length dc] 64) := by
      rw [← hW4, heap_setCell_ne _ _ _ _ (by simpa using ne1), heap_setCell_cells _ _ _ _ H3.out.2.2.1]; simp
    have FB : Fr (fun b => b = w.heap.size) W3 (W3.setCell ⟨w.heap.size, 3, none⟩ (.slice (some ⟨g3, 0, none⟩) r.live.length cap3)) := (Fr.refl (fun b => b = w.heap.size) _).setCell (a := ⟨w.heap.size, 3, none⟩) (fun _ => rfl) _
    have F24 : Fr (fun b => b = w.heap.size) W2 W4 := by
      rw [← hW4]; exact ((H3.out.2.1.mono (S' := fun b => b = w.heap.size) fun _ _ h => h.elim).trans FB (fun _ _ h => h)).setCell (a := ⟨g3, i * 3 + 2, none⟩) (fun h => absurd h (by simp; omega)) _
    have F04 : Fr (fun _ => False) w W4 := H2.out.2.2.2.2.trans F24 (fun b hb h => by omega)
    have e1 := F24.heap H2.out.2.1 (by omega)
    have e2 := F24.heap H2.out.2.2.1 (by omega)
    have own4 : W4.ownsRow W2.heap.size 71 3 (.slice (some ⟨g3, 0, none⟩) r.live.length cap3) r.live.length ((r.live.set i ⟨m, st, bs⟩).flatMap pgCells) := by
      have h1 := ((own_cellK FB H3.out.1 H3.out.2.2.1 (by decide)).stored (i * 3 + 2) (.string (strOfNums bs))).1
      rw [pgs_set _ _ hi] at h1
      rw [← hW4]
      have hp : ({ r.live[i] with load := bs } : RPg) = ⟨m, st, bs⟩ := by
        have := HR.out.1; have := HP.out.1; cases hh : r.live[i]; simp_all
      rw [hp] at h1
      exact h1
    have hl4 : (r.live.set i ⟨m, st, bs⟩).length = r.live.length := List.length_set
    have hg4 : (r.live.set i (⟨m, st, bs⟩ : RPg))[i]'(by omega) = ⟨m, st, bs⟩ := by simp
    have k0 : W4.cell? ⟨g3, i * 3, none⟩ = some (.int .i64 m) := by
      have := own4.cellAt (i * 3 + 0) (by omega); rw [pgs_get _ _ (by omega) _ (by decide), hg4] at this; exact this
    have k1 : W4.cell? ⟨g3, i * 3 + 1, none⟩ = some (.int .i64 st) := by
      have := own4.cellAt (i * 3 + 1) (by omega); rw [pgs_get _ _ (by omega) _ (by decide), hg4] at this; exact this
    have k2 : W4.cell? ⟨g3, i * 3 + 2, none⟩ = some (.string (strOfNums bs)) := by
      have := own4.cellAt (i * 3 + 2) (by omega); rw [pgs_get _ _ (by omega) _ (by decide), hg4] at this; exact this
    have ne3 : ¬ w.heap.size + 1 = g3 := by omega
    have ne4 : ¬ g3 = w.heap.size + 1 := by omega
    have ne5 : ¬ w.heap.size + 1 + 1 = g3 := by omega
    have ne6 : ¬ g3 = w.heap.size + 1 + 1 := by omega
    have HWI := hid (write_in (m := m) (st := st) (ld := ld) hi (by have := HR.out.1; have := HP.out.1; have := HP.out.2; cases hh : r.live[i]; simp_all) HIN.out bs)
    have H4 := hid (And.intro F04 (And.intro own4 (And.intro e0 (And.intro e1 (And.intro e2 (H0.out.fr F04))))))
    clear c0 c1 c2 c3 c4 c5 c6 cz cl z2 zf zl hW4 FB F24 F04 own4 hl4 hg4 hdec
    obtain ⟨c0, c1, c2, c3, c4, c5, c6, cz, cl⟩ := cells7 e0
    obtain ⟨y0, y1, y2, y3, y4, y5, y6, yz, yl⟩ := cells7 e1
    obtain ⟨x0, x1, x2, xz, xl⟩ := cells3 e2
    clear e0 e1 e2
    go_region
    all_goals (go_wp2_with fail)
    all_goals refine bodyPost_ret (v := .tuple #[refV { r with live := r.live.set i ⟨m, st, bs⟩ } (.slice ta r.taken.length tc) (.slice (some ⟨g3, 0, none⟩) r.live.length cap3) (.slice fa r.fresh.length fc) (.slice ya r.dying.length yc) (.slice da r.dead.length dc), pgV ⟨m, st, bs⟩, .bool true]) (by simp [results, go_sem, *]) rfl ?_
    all_goals (
      have F04 := H4.out.1
      have sz2 := H2.out.2.2.2.2.size
      have hr := H4.out.2.2.2.2.2
      refine write_end (W5 := W4) (B := w.heap.size) HWI.out ?_ ?_ H4.out.2.2.1 H4.out.2.2.2.1 H4.out.2.2.2.2.1 ⟨hr.taken, ?_, hr.fresh, hr.dying, hr.dead⟩ ?_
      · with_reducible (repeat (first | exact F04 | apply Fr.drew | apply Fr.alloc | refine Fr.setNew ?_ (by omega) _))
      · with_reducible (repeat (first | exact Fr.refl _ _ | apply Fr.drew | apply Fr.alloc | refine Fr.setCell ?_ (fun _ => by simp) _))
      · show W4.ownsRow 0 71 3 _ (List.set _ _ _).length _
        rw [List.length_set]; exact own_base H4.out.2.1
      · show W4.ownsRow _ 71 3 _ (List.set _ _ _).length _
        rw [List.length_set]; exact own_le H4.out.2.1 (show w.heap.size + 3 ≤ W2.heap.size by have := lt_of_heap H2.out.2.2.1; omega))
  · have hdec : decide ((m : Int) ∈ r.fresh) = false := decide_eq_false hin
    have HIN := hid hin
    clear hin
    have hW := H0.out.fr H2.out.2.2.2.2
    go_upto_region 7 with (first
      | (go_at_call 163; refine (rin_ok (own_none H0.out.fresh H2.out.2.2.2.2) (Nat.le_succ_of_le hf) m).mono ?_; rintro _ _ ⟨rfl, rfl⟩)
      | (go_at_call 106; refine (rmake_ok hW ht HR.out.2.2.1 HR.out.2.2.2 (Nat.le_succ_of_le hl) (Nat.le_succ_of_le hf) bs).mono ?_))
    rintro e W3 ⟨F3, hmk⟩
    have b0 := F3.heap H2.out.1 (fun h => h)
    have b1 := F3.heap H2.out.2.1 (fun h => h)
    have b2 := F3.heap H2.out.2.2.1 (fun h => h)
    have F03 : Fr (fun _ => False) w W3 := H2.out.2.2.2.2.trans F3 (fun _ _ h => h)
    clear c0 c1 c2 c3 c4 c5 c6 cz cl p0 p1 p2 pz pl hW
    obtain ⟨c0, c1, c2, c3, c4, c5, c6, cz, cl⟩ := cells7 b0
    obtain ⟨y0, y1, y2, y3, y4, y5, y6, yz, yl⟩ := cells7 b1
    obtain ⟨x0, x1, x2, xz, xl⟩ := cells3 b2
    have H3 := hid (And.intro b0 (And.intro b1 (And.intro b2 F03)))
    clear b0 b1 b2 F3 F03
    have HWO := hid (write_out hi HR.out.1 HIN.out bs)
    rcases hmake : r.make bs with _ | ⟨r2, q⟩
    · rw [hmake] at hmk
      obtain ⟨v, rfl, hv⟩ := hmk
      obtain ⟨ta2, tc2, la2, lc2, fa2, fc2, ya2, yc2, da2, dc2, rfl, -⟩ := hv.slices
      have HMK := hid hmake
      clear hmake hv
      unfold pg0
      go_wp2_with fail
      refine bodyPost_ret (v := .tuple #[refV r (.slice ta r.taken.length tc) (.slice (some ⟨g, 0, none⟩) r.live.length lc) (.slice fa r.fresh.length fc) (.slice ya r.dying.length yc) (.slice da r.dead.length dc), pg0, .bool false]) (by simp [results, go_sem, pg0, *]) rfl ?_
      have FF : ∀ W, Fr (fun _ => False) w W → RWrite r i bs w (.returned (.tuple #[refV r (.slice ta r.taken.length tc) (.slice (some ⟨g, 0, none⟩) r.live.length lc) (.slice fa r.fresh.length fc) (.slice ya r.dying.length yc) (.slice da r.dead.length dc), pg0, .bool false])) W := fun W F => ⟨F, by
        rw [HWO.out, HMK.out]
        exact ⟨_, rfl, _, _, _, _, _, rfl, H0.out.fr F⟩⟩
      refine FF _ ?_
      have F03 : Fr (fun _ => False) w W3 := H3.out.2.2.2
      with_reducible (repeat (first | exact F03 | apply Fr.drew | apply Fr.alloc | refine Fr.setNew ?_ (by omega) _))
    · rw [hmake] at hmk
      obtain ⟨v, rfl, hv⟩ := hmk
      obtain ⟨ta2, tc2, la2, lc2, fa2, fc2, ya2, yc2, da2, dc2, rfl, hv2⟩ := hv.slices
      have HV := hid hv2
      have HMK := hid hmake
      clear hmake hv hv2
      go_upto_region 9 with fail
      obtain ⟨n, hr2, hq⟩ := make_some HMK.out
      have t2 : r2.taken.length = r.taken.length := by rw [hr2]; simp
      have l2 : r2.live.length = r.live.length + 1 := by rw [hr2]; simp
      have f2 : r2.fresh.length = r.fresh.length + 1 := by rw [hr2]; simp [withL_length]
      have y2 : r2.dying.length = r.dying.length := by rw [hr2]
      have hi2 : i < r2.live.length := by omega
      have hm2 : r2.live[i].page = m := by
        have : r2.live[i]? = r.live[i]? := by rw [hr2]; simp [List.getElem?_append_left hi]
        rw [List.getElem?_eq_getElem hi2, List.getElem?_eq_getElem hi] at this
        rw [Option.some.inj this]; exact HR.out.1
      have HS := hid (And.intro t2 (And.intro l2 (And.intro f2 (And.intro y2 hm2))))
      clear hr2 hq t2 l2 f2 y2 hm2
      obtain ⟨W4, hW4⟩ : ∃ W4, ((W3.alloc (.cells #[.slice ta2 r2.taken.length tc2, .int .i64 r2.hand, .int .i64 r2.gen, .slice la2 r2.live.length lc2, .slice fa2 r2.fresh.length fc2, .slice ya2 r2.dying.length yc2, .slice da2 r2.dead.length dc2] 64)).alloc (.cells #[.int .i64 q.page, .int .i64 q.stamp, .string (strOfNums q.load)] 71)) = W4 := ⟨_, rfl⟩
      rw [hW4]
      obtain ⟨z10, z11, F4⟩ := heap_two hW4
      have z1 := F4.heap H3.out.2.1 (fun h => h)
      have z2 := F4.heap H3.out.2.2.1 (fun h => h)
      have H4 := hid (And.intro z11 (And.intro z1 (And.intro z2 F4)))
      clear c0 c1 c2 c3 c4 c5 c6 cz cl y0 y1 y2 y3 y4 y5 y6 yz yl x0 x1 x2 xz xl hW4 F4
      obtain ⟨c0, c1, c2, c3, c4, c5, c6, cz, cl⟩ := cells7 z10
      obtain ⟨y0, y1, y2, y3, y4, y5, y6, yz, yl⟩ := cells7 z1
      obtain ⟨x0, x1, x2, xz, xl⟩ := cells3 z2
      obtain ⟨p0, p1, p2, pz, pl⟩ := cells3 z11
      clear z10 z11 z1 z2
      have hRD := (rdrop_ok ((HV.out.fr H4.out.2.2.2).fr ((Fr.refl _ _).drew)) (by have := HS.out.1; omega) (by have := HS.out.2.1; omega) (by have := HS.out.2.2.1; omega) (by have := HS.out.2.2.2.1; omega) i hi2 m HS.out.2.2.2.2 (by have := HS.out.1; omega))
      unfold RDrop at hRD
      generalize hrd : r2.drop i = rd at hRD
      have hz1 : w.heap.size + 1 + 1 < W3.heap.size := lt_of_heap H3.out.2.2.1
      have ne1 : ¬ w.heap.size = W3.heap.size := by omega
      have ne2 : ¬ W3.heap.size = w.heap.size := by omega
      have ne3 : ¬ w.heap.size + 1 = W3.heap.size := by omega
      have ne4 : ¬ W3.heap.size = w.heap.size + 1 := by omega
      have HRD := hid hRD
      have HDR := hid hrd
      clear hRD hrd
      have HK := hid (And.intro H3 (And.intro H2 (And.intro H1 (And.intro H0 (And.intro HR (And.intro HIN (And.intro HWO HMK)))))))
      clear H3 H2 H1 HW HP HIN HWO HMK HR H0
      go_region_law (go_simp; go_at_call 164; refine HRD.out.mono ?_; rintro _ W5 ⟨F5, t5', l5', f5', y5', d5', rfl, hv5, ho5⟩; obtain ⟨ta5, tc5, rfl, -, -, -, -⟩ := own_slice hv5.taken; obtain ⟨la5, lc5, rfl, -, -, -, -⟩ := own_slice hv5.live; obtain ⟨fa5, fc5, rfl, -, -, -, -⟩ := own_slice hv5.fresh; obtain ⟨ya5, yc5, rfl, -, -, -, -⟩ := own_slice hv5.dying; obtain ⟨da5, dc5, rfl, -, -, -, -⟩ := own_slice hv5.dead; have F5 := ((Fr.refl (fun _ => False) W4).drew).trans F5 (fun _ _ h => h); have q1 := F5.heap H4.out.2.1 (fun h => h); have q2 := F5.heap H4.out.2.2.1 (fun h => h); have q9 := F5.heap H4.out.1 (fun h => h); obtain ⟨r0, r1, r2', r3, r4, r5, r6, rz, rl⟩ := cells7 q1; obtain ⟨s0, s1, s2, sz, sl⟩ := cells3 q2; obtain ⟨t0, t1, t2, tz, tl⟩ := cells3 q9; have HV5 := hid (And.intro hv5 (And.intro F5 (And.intro ho5 (And.intro q1 q2)))); clear hv5 ho5 F5 q1 q2 q9 c0 c1 c2 c3 c4 c5 c6 cz cl y0 y1 y2 y3 y4 y5 y6 yz yl x0 x1 x2 xz xl p0 p1 p2 pz pl hdec)
      all_goals (go_wp2_with fail)
      all_goals refine bodyPost_ret (v := .tuple #[refV rd (.slice ta5 rd.taken.length tc5) (.slice la5 rd.live.length lc5) (.slice fa5 rd.fresh.length fc5) (.slice ya5 rd.dying.length yc5) (.slice da5 rd.dead.length dc5), pgV q, .bool true]) (by simp [results, go_sem, *]) rfl ?_
      all_goals (
        have F05 : Fr (fun _ => False) w W5 := (HK.out.1.out.2.2.2.trans H4.out.2.2.2 (fun _ _ h => h)).trans HV5.out.2.1 (fun _ _ h => h)
        have s3 := H4.out.2.2.2.size
        refine write_end (B := w.heap.size) (by rw [HK.out.2.2.2.2.2.2.1.out, HK.out.2.2.2.2.2.2.2.out, ← HDR.out]) ?_ ?_ (HV5.out.2.1.heap (H4.out.2.2.2.heap HK.out.1.out.1 (fun h => h)) (fun h => h)) HV5.out.2.2.2.1 HV5.out.2.2.2.2 HV5.out.1 (own_le HV5.out.2.2.1 (by simp only [size_drew]; omega))
        · with_reducible (repeat (first | exact F05 | apply Fr.drew | apply Fr.alloc | refine Fr.setNew ?_ (by omega) _))
        · with_reducible (repeat (first | exact Fr.refl _ _ | apply Fr.drew | apply Fr.alloc | refine Fr.setCell ?_ (fun _ => by simp) _)))
end Go.Proofs.YtgdhaaokolfdoaaGreatDoor

/- The store: Write where no page is left. Conditions: the store lies in the world as StoreAt says, the page is of the last commit, all are taken. -/
namespace Go.Proofs.YtgdhaaokolfdoaaGreatDoor
open Go.RowKit Go.Sg Go.Sg.Bits Go.Sg.Clk CP
namespace SF
set_option maxHeartbeats 2000000 in
theorem write_full {w : World} {B : Blk} {x : Sto} (h : StoreAt w B x) (hTb : Tab w) (n : Nat) (st : Int) (la : Option Addr) (ll lc : Nat) (hl : ll ≤ x.room) (hp : n < x.pages) (ht : x.taken n = true) (hf : x.fresh n = false) (hall : allTaken x.taken x.pages 0 x.pages) :
    Calls Tryz.prog 26 #[B.ptr, .agg #[.int .i64 n, .int .i64 st], .slice la ll lc] w fun e w' => e = .returned (.tuple #[.agg #[.int .i64 0, .int .i64 0], .int .i64 6]) ∧ Fr (fun _ => False) w w' := by
  obtain ⟨w1, hw1⟩ : ∃ w1, (w.alloc (.cells #[.int .i64 n, .int .i64 st] 35)).alloc (.cells #[.int .i64 0, .int .i64 0] 35) = w1 := ⟨_, rfl⟩
  obtain ⟨b0, b1, F1⟩ := heap_two hw1
  obtain ⟨d0, d1, dz, dl⟩ := cells2 b0
  have c11 := h.sc.c11
  have l := h.sc.lt
  have HI := hid (in_ok (h.fr0 F1) n st (by omega) (by omega))
  have H1 := hid (h.fr0 F1)
  have HTB := hid (hTb.fr F1 (fun h => h))
  have HT := hid ht
  have HF := hid hf
  have HW := hid hw1
  have HB0 := hid b0
  have HB1 := hid b1
  have HF1 := hid F1
  have HA := hid hall
  clear hw1 b0 b1 F1 h ht hf hall hTb
  go_enter Tryz.func26, Tryz.ntmps26
  go_wp2_with fail
  rw [HW.out]
  refine HI.out.mono ?_
  rintro e w2 ⟨rfl, F2⟩
  obtain ⟨e0, e1, ez, el⟩ := cells2 (F2.heap HB1.out (fun h => h))
  obtain ⟨f0, f1, fz, fl⟩ := cells2 (F2.heap HB0.out (fun h => h))
  have h2 := H1.out.fr0 F2
  have g13 := h2.sc.c13
  have g14 := h2.sc.c14
  have HH := hid (fun W (F : Fr (fun _ => False) w2 W) => (has_at (h2.bits.fr F (fun h => h) (fun h => h)) n hp))
  rw [HT.out] at HH
  obtain ⟨lf, cf, hfm, hfs⟩ := h2.fr.ex
  have hlk := fun (W : World) (hW : W.heap[B.fr]? = some (.map (ents lf) cf)) => run_lookup (P := Tryz.prog) (T := 153) false Tryz.underlying153 Tryz.underlying3 Tryz.zero4 hW n
  rw [hfs.at_, HF.out] at hlk
  simp only [Bool.false_eq_true, if_false, Option.getD_none] at hlk
  have HF2 := hid F2
  have H2 := hid h2
  have HTB2 := hid (HTB.out.fr F2 (fun h => h))
  clear F2 h2 hfs
  go_wp2
  go_quiet ((go_at_call 88; exact quiet_left (HH.out _ ((Fr.refl _ _).drewN _))))
  go_wp2
  go_quiet (fail)
  go_wp2_with fail
  have HBB := hid (And.intro (HF2.out.heap HB0.out (fun h => h)) (HF2.out.heap HB1.out (fun h => h)))
  have HNF := hid (fun W (F : Fr (fun _ => False) w2 W) => (new_full (H2.out.fr0 F) (HTB2.out.fr F (fun h => h)) la ll lc hl HA.out).mono (fun (e : Ending) W' ⟨he, hF⟩ => (⟨he, F.trans hF (fun _ _ h => h)⟩ : e = Ending.returned (.tuple #[.agg #[.int .i64 0, .int .i64 0], .int .i64 6]) ∧ Fr (fun _ => False) w2 W')))
  clear hlk hfm HB0 HB1 d0 d1 dz c11 g13 g14 fz
  refine (HNF.out _ (by first | exact (Fr.refl _ _).drewN _ | exact ((Fr.refl _ _).drewN _).drew)).mono ?_
  rintro e w5 ⟨rfl, F5⟩
  have hb5 := F5.heap HBB.out.2 (fun h => h)
  obtain ⟨k0, k1, kz, kl⟩ := cells2 hb5
  have HF5 := hid F5
  have ms5 : ¬ w5.heap.size = w.heap.size + 1 := by omega
  clear F5 hb5 e0 e1 ez el
  go_wp2
  refine bodyPost_ret (v := .tuple #[.agg #[.int .i64 0, .int .i64 0], .int .i64 6]) (by simp [results, go_sem, *]) rfl ⟨rfl, ?_⟩
  exact ((((HF1.out.trans HF2.out (fun _ _ h => h)).trans HF5.out (fun _ _ h => h)).setNew (b := w.heap.size + 1) (by omega) _).setNew (b := w.heap.size + 1) (by omega) _).alloc _
end SF
theorem wfull_c {w : World} {B : Blk} {y : Cs} {P : Prot} {a : Bool} {N : Nat} (h : StoreC w B y P a N) (n : Nat) (st : Int) (la : Option Addr) (ll lc : Nat) (hl : ll ≤ y.room) (hp : n < y.pages) (ht : y.taken n = true) (hf : y.fresh n = false) (hall : allTaken y.taken y.pages 0 y.pages) :
    Calls Tryz.prog 26 #[B.ptr, .agg #[.int .i64 n, .int .i64 st], .slice la ll lc] w fun e w' => e = .returned (.tuple #[.agg #[.int .i64 0, .int .i64 0], .int .i64 6]) ∧ Fr (fun _ => False) w w' := by
  obtain ⟨⟨x, c, hS, rfl, hi⟩, hT, hb⟩ := h
  exact SF.write_full hS hT n st la ll lc hl hp ht hf hall
end Go.Proofs.YtgdhaaokolfdoaaGreatDoor

/- Chapter 13's acts as they lie in a world; light, ref. Conditions: the acts lie in the world as ActR says. -/
namespace Go.Proofs.YtgdhaaokolfdoaaGreatDoor
open Go.RowKit Go.Sg CP SF
structure ActV where
  kind : Int
  n : Int
  la : Option Addr
  ll : Nat
  lc : Nat
  bs : List Int
/-- An act's values are in range, its bytes lie in the world. -/
structure ActOk (w : World) (x : ActV) : Prop where
  wk : (Lit.int .i64 x.kind).wf = true
  wn : (Lit.int .i64 x.n).wf = true
  slb : SlB w x.la x.ll x.lc x.bs
  by_ : ∀ b ∈ x.bs, 0 ≤ b ∧ b < 256
  lt : ∀ b off, x.la = some ⟨b, off, none⟩ → x.ll = 0 ∨ b < w.heap.size
theorem ActOk.fr {w w' : World} {x : ActV} (h : ActOk w x) (F : Fr (fun _ => False) w w') : ActOk w' x :=
  ⟨h.wk, h.wn, ⟨h.slb.by_.fr F (fun _ _ _ _ h => h), h.slb.at_⟩, h.by_, fun b off e => (h.lt b off e).imp id fun h => Nat.lt_of_lt_of_le h F.size⟩
theorem ActOk.inp {w w' : World} {B : Blk} {x : ActV} (h : ActOk w x) (hB : w.heap.size ≤ B.base) (F : Fr (fun _ => False) w w') : Inp w' B x.la x.ll x.lc x.bs :=
  ⟨⟨h.slb.by_.fr F (fun _ _ _ _ h => h), h.slb.at_⟩, fun b off e => (h.lt b off e).imp id fun h => .inl (Nat.lt_of_lt_of_le h hB)⟩
abbrev ActV.val (x : ActV) : Value := .agg #[.int .i64 x.kind, .int .i64 x.n, .slice x.la x.ll x.lc]
structure ActR (w : World) (a : Option Addr) (l : List ActV) : Prop where
  at_ : ∀ (i : Nat) (x : ActV), l[i]? = some x → ∃ b off, a = some ⟨b, off, none⟩ ∧ b < w.heap.size ∧ w.cell? ⟨b, off + i * 3, none⟩ = some (.int .i64 x.kind) ∧ w.cell? ⟨b, off + i * 3 + 1, none⟩ = some (.int .i64 x.n) ∧ w.cell? ⟨b, off + i * 3 + 2, none⟩ = some (.slice x.la x.ll x.lc) ∧ ActOk w x
theorem ActR.fr {w w' : World} {a : Option Addr} {l : List ActV} (h : ActR w a l) (F : Fr (fun _ => False) w w') : ActR w' a l :=
  ⟨fun i x hx => by
    obtain ⟨b, off, h1, h2, h3, h4, h5, h6⟩ := h.at_ i x hx
    exact ⟨b, off, h1, Nat.lt_of_lt_of_le h2 F.size, (F.cell (p := ⟨b, _, none⟩) h2 (fun h => h)).trans h3, (F.cell (p := ⟨b, _, none⟩) h2 (fun h => h)).trans h4, (F.cell (p := ⟨b, _, none⟩) h2 (fun h => h)).trans h5, h6.fr F⟩⟩
def LightP (n : Nat) (l : List ActV) (w : World) (e : Ending) (w' : World) : Prop := (∃ b, e = .returned (.bool b) ∧ (b = true → n ≤ 100 ∧ ∀ x ∈ l, x.ll ≤ 80)) ∧ w = w'
set_option maxHeartbeats 1000000 in
theorem light_ok {w : World} {a : Option Addr} {c : Nat} {l : List ActV} (h : ActR w a l) (n : Nat) (hn : l.length = n) :
    Calls Tryz.prog 34 #[.slice a n c] w (LightP n l w) := by
  have H := hid h
  have HN := hid hn
  clear h hn
  go_enter Tryz.func34, Tryz.ntmps34
  by_cases hle : n ≤ 100
  · have hd : decide ((100 : Int) < (n : Int)) = false := by simp; omega
    go_wp2_with fail
    go_loopw [3] (fun i wr => ∃ k : Nat, k ≤ n ∧ i = .int .i64 k ∧ wr = w ∧ ∀ (j : Nat) x, j < k → l[j]? = some x → x.ll ≤ 80) (fun i _ => n - (intOf i).toNat)
    case atStart => exact ⟨0, Nat.zero_le _, rfl, rfl, fun j x hj => by omega⟩
    case round =>
      obtain ⟨k, hk, rfl, rfl, hall⟩ := hrel
      have HA := hid hall
      clear hall
      by_cases hlt : k < n
      · have hx : l[k]? = some (l[k]'(by rw [HN.out]; exact hlt)) := List.getElem?_eq_getElem _
        generalize l[k]'(by rw [HN.out]; exact hlt) = x at hx
        obtain ⟨b, off, rfl, hb, h0, h1, h2, hok⟩ := H.out.at_ k x hx
        have hdl : decide ((k : Int) < (n : Int)) = true := by simp; omega
        have HX := hid (And.intro hx hok)
        clear hx hok h0 h1
        by_cases hll : x.ll ≤ 80
        · have hdx : decide ((80 : Int) < (x.ll : Int)) = false := by simp; omega
          go_wp2_with fail
          go_roundw
          case rel =>
            refine ⟨k + 1, by omega, by go_num, trivial, fun j y hj hy => ?_⟩
            by_cases hjk : j = k
            · subst hjk; rw [HX.out.1] at hy; cases hy; exact hll
            · exact HA.out j y (by omega) hy
          case measure => simp [intOf]; omega
        · have hdx : decide ((80 : Int) < (x.ll : Int)) = true := by simp; omega
          go_wp2_with fail
          go_ret
          exact ⟨⟨false, rfl, fun h => by cases h⟩, rfl⟩
      · obtain rfl : k = n := by omega
        go_wp2_with fail
        go_ret
        refine ⟨⟨true, rfl, fun _ => ⟨hle, fun x hx => ?_⟩⟩, rfl⟩
        obtain ⟨j, hj, rfl⟩ := List.mem_iff_getElem.1 hx
        exact HA.out j _ (by rw [HN.out] at hj; exact hj) (List.getElem?_eq_getElem hj)
  · have hd : decide ((100 : Int) < (n : Int)) = true := by simp; omega
    go_wp2_with fail
    go_ret
    exact ⟨⟨false, rfl, fun h => by cases h⟩, rfl⟩
theorem ref13_ok (p : RPg) (w : World) : Calls Tryz.prog 103 #[pgV p] w fun e w' => e = .returned (.agg #[.int .i64 p.page, .int .i64 p.stamp]) ∧ Fr (fun _ => False) w w' := by
  obtain ⟨w1, hw1⟩ : ∃ w1, ((w.alloc (.cells #[.int .i64 p.page, .int .i64 p.stamp, .string (strOfNums p.load)] 71)).alloc (.cells #[.int .i64 0, .int .i64 0] 35)) = w1 := ⟨_, rfl⟩
  obtain ⟨b0, b1, F1⟩ := heap_two hw1
  obtain ⟨c0, c1, c2, cz, cl⟩ := cells3 b0
  obtain ⟨d0, d1, dz, dl⟩ := cells2 b1
  have HW := hid hw1
  have HF := hid F1
  clear hw1 b0 b1 F1
  go_enter Tryz.func103, Tryz.ntmps103
  go_upto_region 1 with fail
  rw [HW.out]
  go_wp2_with fail
  refine bodyPost_ret (v := .agg #[.int .i64 p.page, .int .i64 p.stamp]) (by simp [results, go_sem, *]) rfl ⟨rfl, ?_⟩
  exact (HF.out.setNew (by omega) _).setNew (by omega) _
end Go.Proofs.YtgdhaaokolfdoaaGreatDoor

/- What no call of a store turns; a device that is down, and other blocks. Conditions: none. -/
namespace Go.Proofs.YtgdhaaokolfdoaaGreatDoor
open Go.RowKit Go.Sg Go.Sg.Bits Go.Sg.Clk CP SF
/-- What no call turns. -/
structure Like (y y' : Cs) : Prop where
  plan : y'.plan = y.plan
  first : y'.first = y.first
  pages : y'.pages = y.pages
  room : y'.room = y.room
  places : y'.places = y.places
  sectors : y'.sectors = y.sectors
  size : y'.size = y.size
theorem Like.refl (y : Cs) : Like y y := ⟨rfl, rfl, rfl, rfl, rfl, rfl, rfl⟩
theorem _root_.Go.Sg.FrB.trans' {S : Nat → Prop} {B : Blk} {w w1 w2 : World} (h : FrB B w w1) (k : Fr S w1 w2) (hs : ∀ b, b < w.heap.size → ¬ S b) : FrB B w w2 := Fr.trans h k fun b hb hb' => absurd hb' (hs b hb)
/-- The box of the result: where a store lies on. -/
theorem StoreC.box {w w' : World} {B : Blk} {y : Cs} {P : Prot} {a : Bool} {N : Nat} (h : StoreC w B y P a N) {k : Nat} (F : Fr (fun b => b = k) w w') {c : Array Value} (hk : w.heap[k]? = some (.cells c 64)) (h0 : 0 < k) : StoreC w' B y P a N :=
  h.frL F hk (by decide) h0
theorem DownC.mono {w : World} {B : Blk} {y : Cs} {P : Prot} {N N' : Nat} (h : DownC w B y P N) (hN : N ≤ N') : DownC w B y P N' := by
  obtain ⟨D, h1, h2, h3⟩ := h.ex
  exact ⟨D, h1, h2.mono hN, h3⟩
theorem DownC.frL {w w' : World} {B : Blk} {y : Cs} {P : Prot} {N : Nat} (h : DownC w B y P N) {k : Nat} (F : Fr (fun b => b = k) w w') {c : Array Value} {t : TypeId} (hk : w.heap[k]? = some (.cells c t)) (ht : t ∉ 5 :: mutT) : DownC w' B y P N := by
  obtain ⟨D, h1, h2, h3⟩ := h.ex
  have h1' := h1
  obtain ⟨lv, hd, _⟩ := h1.dc
  obtain ⟨l, ck, hf, _⟩ := h1.fast
  obtain ⟨l', ck', hq, _⟩ := h1.past
  refine ⟨D, h1'.fr F (fun e => ?_) (fun e => ?_) (fun e => ?_) (fun g c' t' ht' hg e => ?_), h2, h3⟩
  · rw [e, hk] at hd; cases hd; exact ht (by decide)
  · rw [e, hk] at hf; cases hf
  · rw [e, hk] at hq; cases hq
  · rw [e, hk] at hg; cases hg; rcases ht' with rfl | rfl | rfl <;> exact ht (by decide)
theorem DownC.fr0 {w w' : World} {B : Blk} {y : Cs} {P : Prot} {N : Nat} (h : DownC w B y P N) (F : Fr (fun _ => False) w w') : DownC w' B y P N := by
  obtain ⟨D, h1, h2, h3⟩ := h.ex
  exact ⟨D, h1.fr F (fun h => h) (fun h => h) (fun h => h) (fun _ _ _ _ _ h => h), h2, h3⟩
theorem not_all {t : Nat → Bool} {n : Nat} (h : ¬ allTaken t n 0 n) : ∃ j, j < n ∧ t j = false := by
  refine Classical.byContradiction fun hc => h fun i _ hi _ => ?_
  cases e : t i with
  | true => rfl
  | false => exact absurd ⟨i, hi, e⟩ hc
end Go.Proofs.YtgdhaaokolfdoaaGreatDoor

/- Chapter 13's did: an act goes to the store and to the document's. Conditions: the store, the document's rows and the act lie in the world, and go together. -/
namespace Go.Proofs.YtgdhaaokolfdoaaGreatDoor
open Go.RowKit Go.Sg Go.Sg.Bits Go.Sg.Clk CP SF
theorem len_nodup {l : List Int} {n : Nat} (h : l.Nodup) (hn : ∀ k ∈ l, 0 ≤ k ∧ k < n) : l.length ≤ n := by
  have h1 : (l.map Int.toNat).Nodup := by
    rw [List.Nodup, List.pairwise_map]
    refine List.Pairwise.imp_of_mem ?_ h
    intro a b ha hb hab
    have := hn a ha
    have := hn b hb
    omega
  have h2 : (l.map Int.toNat).length ≤ (List.range n).length := by
    refine List.Nodup.length_le_of_subset h1 ?_
    intro x hx
    obtain ⟨k, hk, rfl⟩ := List.mem_map.1 hx
    have := hn k hk
    simp; omega
  simpa using h2
theorem RowOf.nodup {f : Int → Bool} {L : List Int} (h : RowOf f L) : L.Nodup := h.2.imp (fun h => by omega)
theorem RowOf.len {f : Int → Bool} {L : List Int} (h : RowOf f L) {n : Nat} (hn : ∀ k, f k = true → 0 ≤ k ∧ k < n) : L.length ≤ n := len_nodup h.nodup fun k hk => hn k ((h.1 k).1 hk)
theorem Rel.lens {y : Cs} {r : R13} (h : Rel y r) : r.live.length ≤ y.pages ∧ r.fresh.length ≤ y.pages ∧ r.dying.length ≤ y.pages ∧ r.dead.length ≤ y.pages := by
  refine ⟨?_, h.fresh.len h.inr.1, h.dying.len h.inr.2.1, h.dead.len h.inr.2.2⟩
  have := len_nodup (n := y.pages) h.nodup (fun k hk => by
    obtain ⟨p, hp, rfl⟩ := List.mem_map.1 hk
    obtain ⟨m, st, e1, e2, e3, _⟩ := h.live p hp
    rw [e1]; omega)
  simpa using this
theorem make_none_all {y : Cs} {r : R13} (h : Rel y r) {bs : List Int} (hm : r.make bs = none) : allTaken y.taken y.pages 0 y.pages := by
  intro i _ hi _
  unfold R13.make at hm
  split at hm
  · rename_i ht
    unfold takeR at ht
    rw [List.find?_eq_none] at ht
    have hl := h.len
    have hhd : r.hand.toNat = y.hand := by rw [h.hand.1]; simp
    have hh := h.hand.2
    obtain ⟨k, hk, e⟩ : ∃ k, k < y.pages ∧ (y.hand + k) % y.pages = i := by
      by_cases c : y.hand ≤ i
      · exact ⟨i - y.hand, by omega, by rw [show y.hand + (i - y.hand) = i by omega]; exact Nat.mod_eq_of_lt hi⟩
      · exact ⟨i + y.pages - y.hand, by omega, by rw [show y.hand + (i + y.pages - y.hand) = i + y.pages by omega, Nat.add_mod_right]; exact Nat.mod_eq_of_lt hi⟩
    have := ht i (List.mem_map.2 ⟨k, by simpa [hl] using hk, by rw [hl, hhd]; exact e⟩)
    rw [getD_of (h.taken i hi)] at this
    simpa using this
  · cases hm
def RefP (p : RPg) (w : World) (e : Ending) (w' : World) : Prop := e = .returned (.agg #[.int .i64 p.page, .int .i64 p.stamp]) ∧ Fr (fun _ => False) w w'
theorem ref13_p (p : RPg) (w : World) : Calls Tryz.prog 103 #[pgV p] w (RefP p w) := ref13_ok p w
/-- A value that has the form of a document's store. -/
def Ref7 (v : Value) : Prop := ∃ (t l f y d : Option Addr) (a b c e g h i j k m : Nat) (x z : Int), v = .agg #[.slice t a b, .int .i64 x, .int .i64 z, .slice l c e, .slice f g h, .slice y i j, .slice d k m]
/-- What an act that is no commit does. -/
def DidP (B : Blk) (y : Cs) (P : Prot) (a : Bool) (N : Nat) (w : World) (e : Ending) (w' : World) : Prop :=
  ∃ y' r' v err, e = .returned (.tuple #[v, .int .i64 err, .bool true]) ∧ FrB B w w' ∧ Like y y' ∧ y'.dead = y.dead ∧ y'.gen = y.gen ∧
    ((err = 0 ∧ Rel y' r' ∧ RefIs w' r' v ∧ StoreC w' B y' P a (N + 9)) ∨ (err = 4 ∧ a = true ∧ Ref7 v ∧ DownC w' B y P (N + 9)))
/-- An act is over: its result lies in the box k. -/
theorem did_end {w W4 W' : World} {B : Blk} {y y' : Cs} {P : Prot} {a : Bool} {N : Nat} {r' : R13} {t l f yy d : Value} {k : Nat} {c : Array Value} (hk : w.heap.size ≤ k) (hk0 : 0 < k) (k2 : W4.heap[k]? = some (.cells c 64)) (F4 : FrB B w W4) (F : Fr (fun b => b = k) W4 W')
    (hS : StoreC W4 B y' P a (N + 9)) (hr : RefAt W4 r' t l f yy d) (hR : Rel y' r') (hl : Like y y') (hd : y'.dead = y.dead) (hg : y'.gen = y.gen) : DidP B y P a N w (.returned (.tuple #[refV r' t l f yy d, .int .i64 0, .bool true])) W' :=
  ⟨y', r', _, 0, rfl, F4.trans' F (fun b hb e => by omega), hl, hd, hg, .inl ⟨rfl, hR, ⟨_, _, _, _, _, rfl, ref_64 hr F (fun b hb => by subst hb; exact ⟨_, k2⟩)⟩, hS.box F k2 hk0⟩⟩
theorem did_down {w W4 W' : World} {B : Blk} {y : Cs} {P : Prot} {N : Nat} {v : Value} {k : Nat} {c : Array Value} {r0 : R13} (hk : w.heap.size ≤ k) (k2 : W4.heap[k]? = some (.cells c 64)) (F4 : FrB B w W4) (F : Fr (fun b => b = k) W4 W')
    (hD : DownC W4 B y P (N + 9)) (hcv : Ref7 v := by exact ⟨_, _, _, _, _, _, _, _, _, _, _, _, _, _, _, _, _, rfl⟩) : DidP B y P true N w (.returned (.tuple #[v, .int .i64 4, .bool true])) W' :=
  ⟨y, r0, v, 4, rfl, F4.trans' F (fun b hb e => by omega), Like.refl y, rfl, rfl, .inr ⟨rfl, rfl, hcv, hD.frL F k2 (by decide)⟩⟩
theorem at_ok {n : Int} {L : Nat} (hL : 0 < L) (hL' : L ≤ 65536) : ∃ i : Nat, i < L ∧ wrap64 ((IntKind.u64.wrap n).tmod (L : Int)) = (i : Int) := by
  have h0 : 0 ≤ IntKind.u64.wrap n := by
    simp only [IntKind.wrap, IntKind.signed, IntKind.bits]
    exact Int.emod_nonneg _ (by decide)
  obtain ⟨m, hm⟩ := Int.eq_ofNat_of_zero_le h0
  refine ⟨m % L, Nat.mod_lt _ hL, ?_⟩
  rw [hm, show ((m : Int)).tmod (L : Int) = ((m % L : Nat) : Int) from (Int.ofNat_tmod m L).symm]
  have := Nat.mod_lt m hL
  simp only [wrap64]
  omega
end Go.Proofs.YtgdhaaokolfdoaaGreatDoor
