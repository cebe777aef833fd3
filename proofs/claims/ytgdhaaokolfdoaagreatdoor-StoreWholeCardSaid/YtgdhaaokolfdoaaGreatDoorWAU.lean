/- A pack of texts: R5, R6. Conditions: those that each text names. -/
import Derived.Test.YtgdhaaokolfdoaaGreatDoorWAT
set_option linter.unusedVariables false
set_option linter.unusedSimpArgs false
set_option linter.unnecessarySimpa false
/- The document's store (chapter 13): drop. Conditions: the rows lie in the world. -/
namespace Go.Proofs.YtgdhaaokolfdoaaGreatDoor
open Go.RowKit Go.Sg
theorem pgs_take (l : List RPg) (k : Nat) : (l.flatMap pgCells).take (k * 3) = (l.take k).flatMap pgCells := by
  induction l generalizing k with
  | nil => simp
  | cons p l ih =>
    cases k with
    | zero => simp
    | succ k => rw [Nat.succ_mul, List.take_succ_cons, List.flatMap_cons, List.flatMap_cons, ← ih]; rfl
theorem pgs_drop (l : List RPg) (k : Nat) : (l.flatMap pgCells).drop (k * 3) = (l.drop k).flatMap pgCells := by
  induction l generalizing k with
  | nil => simp
  | cons p l ih =>
    cases k with
    | zero => simp
    | succ k => rw [Nat.succ_mul, List.drop_succ_cons, List.flatMap_cons, ← ih]; rfl
theorem pgs_get (l : List RPg) (i : Nat) (hi : i < l.length) (j : Nat) (hj : j < 3) : (l.flatMap pgCells)[i * 3 + j]? = (pgCells l[i])[j]? := by
  rw [← List.getElem?_drop, pgs_drop]
  rw [List.drop_eq_getElem_cons hi, List.flatMap_cons, List.getElem?_append_left (by simpa [pgCells] using hj)]
theorem erase_eq (l : List RPg) (i : Nat) : l.eraseIdx i = l.take i ++ l.drop (i + 1) := List.eraseIdx_eq_take_drop_succ l i
/-- Behind the row without the i-th page. -/
def MkD (w : World) (r : R13) (i : Nat) (T F Y D : Value) (wx : World) : Prop :=
  ∃ la lc, wx.ownsRow (w.heap.size + 2) 71 3 (.slice la (r.live.eraseIdx i).length lc) (r.live.eraseIdx i).length ((r.live.eraseIdx i).flatMap pgCells) ∧ Fr (fun _ => False) w wx ∧
    wx.heap[w.heap.size]? = some (.cells #[T, .int .i64 r.hand, .int .i64 r.gen, .slice la (r.live.eraseIdx i).length lc, F, Y, D] 64) ∧ wx.heap[w.heap.size + 1]? = some (.cells z64 64)
theorem mkD_mk {w w1 W5 : World} {r : R13} {i n lc lc5 : Nat} {la la5 : Option Addr} {T F Y D : Value} (hi : i < r.live.length) (hn : n = (r.live.eraseIdx i).length) (b0 : w1.heap[w.heap.size]? = some (.cells #[T, .int .i64 r.hand, .int .i64 r.gen, .slice la r.live.length lc, F, Y, D] 64)) (b1 : w1.heap[w.heap.size + 1]? = some (.cells z64 64)) (F1 : Fr (fun _ => False) w w1) (F5 : Fr (fun _ => False) w1 W5)
    (hown : W5.ownsRow w1.heap.size 71 3 (.slice la5 n lc5) n ((r.live.flatMap pgCells).take (i * 3) ++ (r.live.flatMap pgCells).drop ((i + 1) * 3))) :
    MkD w r i T F Y D (W5.setCell ⟨w.heap.size, 3, none⟩ (.slice la5 n lc5)) := by
  subst hn
  have q0 := F5.heap b0 (fun h => h)
  have FX : Fr (fun b => b = w.heap.size) W5 (W5.setCell ⟨w.heap.size, 3, none⟩ (.slice la5 (r.live.eraseIdx i).length lc5)) := (Fr.refl (fun b => b = w.heap.size) _).setCell (a := ⟨w.heap.size, 3, none⟩) (fun _ => rfl) _
  refine ⟨la5, lc5, ?_, (F1.trans F5 (fun _ _ h => h)).setNew (Nat.le_refl _) _, ?_, FX.heap (F5.heap b1 (fun h => h)) (by omega)⟩
  · have := own_cellK FX (own_le hown (show w.heap.size + 2 ≤ w1.heap.size by have := lt_of_heap b1; omega)) q0 (by decide)
    rw [pgs_take, pgs_drop, ← List.flatMap_append, ← erase_eq] at this
    exact this
  · rw [heap_setCell_cells _ _ _ _ q0]; simp
theorem ref_two {w w' : World} {B : Nat} {r : R13} {t l f y d : Value} {x0 x1 : Array Value} (F : Fr (fun k => k = B ∨ k = B + 1) w w') (b0 : w.heap[B]? = some (.cells x0 64)) (b1 : w.heap[B + 1]? = some (.cells x1 64))
    (ht : BoolR w t r.taken) (hl : PgR w l r.live) (hf : IntR w f r.fresh) (hy : IntR w y r.dying) (hd : IntR w d r.dead) : RefAt w' r t l f y d := by
  have key : ∀ {e size n : Nat} {v : Value} {xs : List Value}, e ≠ 64 → w.ownsRow 0 e size v n xs → w'.ownsRow 0 e size v n xs := by
    intro e size n v xs h1 h
    refine ownsRow_fr h F fun g c hg hs => ?_
    rcases hs with rfl | rfl
    · rw [b0] at hg; cases hg; exact h1 rfl
    · rw [b1] at hg; cases hg; exact h1 rfl
  exact ⟨key (by decide) ht, key (by decide) hl, key (by decide) hf, key (by decide) hy, key (by decide) hd⟩
theorem drop_page {r : R13} {i m : Nat} (hi : i < r.live.length) (hm : r.live[i].page = m) : (r.live.getD i ⟨0, 0, []⟩).page = m := by
  simp [List.getD, List.getElem?_eq_getElem hi, hm]
theorem drop_in {r : R13} {i m : Nat} (hi : i < r.live.length) (hm : r.live[i].page = m) (h : (m : Int) ∈ r.fresh) : r.drop i = { r with live := r.live.eraseIdx i, fresh := withoutL r.fresh m, taken := r.taken.set m false } := by
  simp only [R13.drop, drop_page hi hm, if_pos h, Int.toNat_natCast]
theorem drop_out {r : R13} {i m : Nat} (hi : i < r.live.length) (hm : r.live[i].page = m) (h : ¬ (m : Int) ∈ r.fresh) : r.drop i = { r with live := r.live.eraseIdx i, dying := withL r.dying m } := by
  simp only [R13.drop, drop_page hi hm, if_neg h]
def RDrop (r : R13) (i : Nat) (w : World) (e : Ending) (w' : World) : Prop := Fr (fun _ => False) w w' ∧ ∃ t l f y d, e = .returned (refV (r.drop i) t l f y d) ∧ RefAt w' (r.drop i) t l f y d ∧ w'.ownsRow w.heap.size 71 3 l (r.drop i).live.length ((r.drop i).live.flatMap pgCells)
set_option maxHeartbeats 4000000 in
set_option maxRecDepth 100000 in
theorem rdrop_ok {w : World} {r : R13} {t l f y d : Value} (h : RefAt w r t l f y d) (ht : r.taken.length ≤ 65536) (hl : r.live.length ≤ 65536) (hf : r.fresh.length ≤ 65536) (hy : r.dying.length ≤ 65536) (i : Nat) (hi : i < r.live.length) (m : Nat) (hm : r.live[i].page = m) (hmt : m < r.taken.length) :
    Calls Tryz.prog 164 #[refV r t l f y d, .int .i64 i] w (RDrop r i w) := by
  obtain ⟨ta, tc, rfl, -, -, -, -⟩ := own_slice h.taken
  obtain ⟨la, lc, rfl, -, -, -, -⟩ := own_slice h.live
  obtain ⟨fa, fc, rfl, -, -, -, -⟩ := own_slice h.fresh
  obtain ⟨ya, yc, rfl, -, -, -, -⟩ := own_slice h.dying
  obtain ⟨da, dc, rfl, -, -, -, -⟩ := own_slice h.dead
  obtain ⟨g, rfl, hg, hcg⟩ := own_cell h.live (show (r.live.flatMap pgCells)[i * 3 + 0]? = some (.int .i64 m) by rw [pgs_get _ _ hi _ (by decide)]; simp [pgCells, hm])
  obtain ⟨i0, hi0, hz0, hz1, hz2⟩ := info_parts Tryz.info71
  obtain ⟨w1, hw1⟩ : ∃ w1, ((w.alloc (.cells #[.slice ta r.taken.length tc, .int .i64 r.hand, .int .i64 r.gen, .slice (some ⟨g, 0, none⟩) r.live.length lc, .slice fa r.fresh.length fc, .slice ya r.dying.length yc, .slice da r.dead.length dc] 64)).alloc (.cells z64 64)) = w1 := ⟨_, rfl⟩
  obtain ⟨b0, b1, F1⟩ := heap_two hw1
  have hcg1 : w1.cell? ⟨g, i * 3, none⟩ = some (.int .i64 m) := (F1.cell (p := ⟨g, i * 3, none⟩) hg (fun h => h)).trans hcg
  have HW := hid hw1
  have H1 := hid (And.intro b0 (And.intro b1 F1))
  have H0 := hid h
  have HS0 := hid F1.size
  unfold z64 at HW
  obtain ⟨c0, c1, c2, c3, c4, c5, c6, cz, cl⟩ := cells7 b0
  have HM := hid (And.intro hm hg)
  clear hw1 b0 b1 F1 h hm hcg hg
  go_enter Tryz.func164, Tryz.ntmps164
  go_upto_region 1 with fail
  rw [HW.out]
  go_upto_region 2 with fail
  have hto : ∀ W, (Instr.slice 62 (.slice (some ⟨g, 0, none⟩) r.live.length lc) none (some (.int .i64 i)) none).run Tryz.prog W = .ok (.slice (some ⟨g, 0, none⟩) i lc) W := fun W => to62 _ _ lc i (by have := own_slice H0.out.live; obtain ⟨_, _, e, h1, _⟩ := this; cases e; omega) W
  obtain ⟨a2, hfrom, hF2⟩ : ∃ a2 : Option Addr, (∀ W, (Instr.slice 62 (.slice (some ⟨g, 0, none⟩) r.live.length lc) (some (.int .i64 ((i : Int) + 1))) none none).run Tryz.prog W = .ok (.slice a2 (r.live.length - (i + 1)) (lc - (i + 1))) W) ∧ ∀ W, Fr (fun _ => False) w W → SrcV W (.slice a2 (r.live.length - (i + 1)) (lc - (i + 1))) (r.live.length - (i + 1)) ((r.live.flatMap pgCells).drop ((i + 1) * 3)) :=
    ⟨_, fun W => by have := from62 (some ⟨g, 0, none⟩) r.live.length lc (i + 1) hi W; simpa only [Int.natCast_add, Int.natCast_one] using this, fun W F => own_src_from (own_none H0.out.live F) (i + 1) hi⟩
  have hwr : IntKind.i64.wrap ((i : Int) + 1) = (i : Int) + 1 := by rw [IntKind.wrap_i64]; omega
  have HFr := hid hF2
  have HT := hid (fun W (F : Fr (fun _ => False) w W) => own_src_to (own_none H0.out.live F) i (Nat.le_of_lt hi))
  have hl1 : ((r.live.flatMap pgCells).take (i * 3)).length = i * 3 := by rw [List.length_take, pgs_length]; omega
  have hl2 : ((r.live.flatMap pgCells).drop ((i + 1) * 3)).length = (r.live.length - (i + 1)) * 3 := by rw [List.length_drop, pgs_length]; omega
  have hm1 : 0 + i ≤ maxLen := by simp [maxLen]; omega
  have hm2 : (0 + i) * 32 ≤ 140737488355328 := by omega
  have hm3 : 0 + i + (r.live.length - (i + 1)) ≤ maxLen := by simp [maxLen]; omega
  have hm4 : (0 + i + (r.live.length - (i + 1))) * 32 ≤ 140737488355328 := by omega
  have HB := hid (And.intro hl1 (And.intro hl2 (And.intro hm1 (And.intro hm2 (And.intro hm3 hm4)))))
  clear hF2 hl1 hl2 hm1 hm2 hm3 hm4
  go_cut [5] from 14 to 26 (fun v wx => v = .int .i64 m ∧ MkD w r i (.slice ta r.taken.length tc) (.slice fa r.fresh.length fc) (.slice ya r.dying.length yc) (.slice da r.dead.length dc) wx)
  case first =>
    clear hcg1 c0 c1 c2 c4 c5 c6
    go_region_law (first
      | (
         refine step_append_src rfl (.tmp 14) (.tmp 18) 62 rfl w1.heap.size 71 i0 _ 3 32 Tryz.underlying62 hi0 hz0 hz1 hz2 rfl (Nat.succ_pos 2) _ 0 [] rfl (own_at ?_ ?_) _ i _ rfl (HT.out _ ?_) HB.out.1 (fun u hu => pgs_one _ u (List.mem_of_mem_take hu)) HB.out.2.2.1 HB.out.2.2.2.1 ?_ ?_
         · first | (simp; done) | (simp; omega)
         · (first | exact hp1 w1 _ | exact hp2 w1 _ _ | exact hp3 w1 _ _ | exact hp1d w1 _ | exact hp2d w1 _ _ | exact hp3d w1 _ _)
         · repeat (first | exact H1.out.2.2 | apply Fr.alloc | apply Fr.drew)
         · first | (simp; done) | (simp; omega)
         intro v3 W3 hown3 hg3
         have hF3 := fun h F => fr_g hg3 (W2 := w1) h F
         replace hF3 := hF3 (by first | (simp; done) | (simp; omega)) (by repeat (first | exact Fr.refl _ _ | apply Fr.alloc | apply Fr.drew))
         obtain ⟨p0, p1, p2, p3, p4, p5, p6, pz, pl⟩ := cells7 (hF3.heap H1.out.1 (fun h => h)))
      | (
         refine step_append_src rfl (.tmp 19) (.tmp 24) 62 rfl w1.heap.size 71 i0 _ 3 32 Tryz.underlying62 hi0 hz0 hz1 hz2 rfl (Nat.succ_pos 2) _ (0 + i) ([] ++ (r.live.flatMap pgCells).take (i * 3)) rfl hown3 _ (r.live.length - (i + 1)) _ rfl (HFr.out _ (H1.out.2.2.trans hF3 (fun _ _ h => h))) HB.out.2.1 (fun u hu => pgs_one _ u (List.mem_of_mem_drop hu)) HB.out.2.2.2.2.1 HB.out.2.2.2.2.2 hF3.size ?_
         intro v5 W5 hown5 hg5
         have hF5 : Fr (fun _ => False) w1 W5 := fr_grown hF3 hown3 hg5
         obtain ⟨la5, lc5, he5, -, -, -, -⟩ := own_slice hown5
         subst he5
         have hb5 := hF5.heap H1.out.1 (fun h => h)
         obtain ⟨q0, q1, q2, q3, q4, q5, q6, qz, ql⟩ := cells7 hb5))
    all_goals (go_wp2_with fail)
    all_goals go_meet
    all_goals exact ⟨rfl, mkD_mk hi (by rw [List.length_eraseIdx_of_lt hi]; omega) H1.out.1 H1.out.2.1 H1.out.2.2 hF5 (by rw [Nat.zero_add, List.nil_append] at hown5; exact hown5)⟩
  obtain ⟨rfl, la3, lc3, hpg, F6, k0, k1⟩ := hcut
  clear hto hfrom HFr HT HB hcg1 c0 c1 c2 c3 c4 c5 c6 cz cl
  obtain ⟨c0, c1, c2, c3, c4, c5, c6, cz, cl⟩ := cells7 k0
  have H6 := hid (And.intro hpg (And.intro F6 (And.intro k0 k1)))
  clear hpg F6 k0 k1
  by_cases hin : (m : Int) ∈ r.fresh
  · have hdec : decide ((m : Int) ∈ r.fresh) = true := decide_eq_true hin
    have HIN := hid hin
    clear hin
    go_upto_region 5 with (first
      | (go_at_call 163; refine (rin_ok (own_none H0.out.fresh H6.out.2.1) hf m).mono ?_; rintro _ _ ⟨rfl, rfl⟩)
      | (go_at_call 225; refine (rwithout_ok (own_none H0.out.fresh H6.out.2.1) hf m).mono ?_; rintro _ W7 ⟨fv, rfl, hfv, F7⟩; obtain ⟨fa7, fc7, he7, -, -, -, -⟩ := own_slice hfv; subst he7; have q0 := F7.heap H6.out.2.2.1 (fun h => h); obtain ⟨p0, p1, p2, p3, p4, p5, p6, pz, pl⟩ := cells7 q0))
    have H7 := hid (And.intro hfv F7)
    have k1 := F7.heap H6.out.2.2.2 (fun h => h)
    obtain ⟨W8, hW8⟩ : ∃ W8, W7.setCell ⟨w.heap.size, 4, none⟩ (.slice fa7 (withoutL r.fresh ↑m).length fc7) = W8 := ⟨_, rfl⟩
    rw [hW8]
    have F78 : Fr (fun k => k = w.heap.size ∨ k = w.heap.size + 1) W7 W8 := by rw [← hW8]; exact (Fr.refl _ _).setCell (a := ⟨w.heap.size, 4, none⟩) (fun _ => .inl rfl) _
    have H8x := hid (F78.mono (S' := fun k => k < w.heap.size + 2) fun b _ h => by omega)
    have e0 : W8.heap[w.heap.size]? = some (.cells #[.slice ta r.taken.length tc, .int .i64 r.hand, .int .i64 r.gen, .slice la3 (r.live.eraseIdx i).length lc3, .slice fa7 (withoutL r.fresh ↑m).length fc7, .slice ya r.dying.length yc, .slice da r.dead.length dc] 64) := by
      rw [← hW8, heap_setCell_cells _ _ _ _ q0]; simp
    have e1 : W8.heap[w.heap.size + 1]? = some (.cells z64 64) := by rw [← hW8]; exact (heap_setCell_ne W7 ⟨w.heap.size, 4, none⟩ _ (w.heap.size + 1) (by simp)).trans k1
    have F06 := H6.out.2.1.trans F7 (fun _ _ h => h)
    have F08 : Fr (fun _ => False) w W8 := by rw [← hW8]; exact F06.setNew (Nat.le_refl _) _
    have ref8 : RefAt W8 { r with live := r.live.eraseIdx i, fresh := withoutL r.fresh m } _ _ _ _ _ := ref_two F78 q0 k1 (own_none H0.out.taken F06) (own_base (own_none H6.out.1 F7)) hfv (own_none H0.out.dying F06) (own_none H0.out.dead F06)
    have H8 := hid (And.intro e0 (And.intro e1 (And.intro F08 ref8)))
    clear c0 c1 c2 c3 c4 c5 c6 cz cl p0 p1 p2 p3 p4 p5 p6 pz pl q0 k1 hW8 F78 e1 F06 F08 ref8 hfv F7
    obtain ⟨c0, c1, c2, c3, c4, c5, c6, cz, cl⟩ := cells7 e0
    clear e0
    go_wp2_with (go_at_call 165; refine (rclear_ok H8.out.2.2.2.taken ht r.hand m hmt).mono ?_)
    rintro _ W9 ⟨tv, bb, rfl, htv, F9⟩
    obtain ⟨ta9, tc9, rfl, -, -, -, -⟩ := own_slice htv
    have q0 := F9.heap H8.out.1 (fun h => h)
    have q1 := F9.heap H8.out.2.1 (fun h => h)
    clear c0 c1 c2 c3 c4 c5 c6 cz cl
    obtain ⟨c0, c1, c2, c3, c4, c5, c6, cz, cl⟩ := cells7 q0
    obtain ⟨y0, y1, y2, y3, y4, y5, y6, yz, yl⟩ := cells7 q1
    have H9 := hid (And.intro q0 (And.intro q1 (And.intro htv F9)))
    clear q0 q1 htv F9
    go_wp2_with fail
    refine bodyPost_ret (v := refV { r with live := r.live.eraseIdx i, fresh := withoutL r.fresh m, taken := r.taken.set m false } (.slice ta9 r.taken.length tc9) (.slice la3 (r.live.eraseIdx i).length lc3) (.slice fa7 (withoutL r.fresh ↑m).length fc7) (.slice ya r.dying.length yc) (.slice da r.dead.length dc)) (by simp [results, go_sem, *]) rfl ⟨?_, ?_⟩
    · have F09 : Fr (fun _ => False) w W9 := H8.out.2.2.1.trans H9.out.2.2.2 (fun _ _ h => h)
      with_reducible (repeat (first | exact F09 | apply Fr.drew | apply Fr.alloc | refine Fr.setNew ?_ (by omega) _))
    · rw [drop_in hi HM.out.1 HIN.out]
      refine ⟨_, _, _, _, _, rfl, ref_two (w := W9) (B := w.heap.size) ?_ H9.out.1 H9.out.2.1 (by simpa using H9.out.2.2.1) (own_none H8.out.2.2.2.live H9.out.2.2.2) (own_none H8.out.2.2.2.fresh H9.out.2.2.2) (own_none H8.out.2.2.2.dying H9.out.2.2.2) (own_none H8.out.2.2.2.dead H9.out.2.2.2), ?_⟩
      · with_reducible (repeat (first | exact Fr.refl _ _ | apply Fr.drew | apply Fr.alloc | refine Fr.setCell ?_ (fun _ => by simp) _))
      · have hh := own_none (own_none (own_none H6.out.1 H7.out.2) (Fr.refl (fun _ => False) _)) (Fr.refl (fun _ => False) _)
        have h8 := own_above hh (show Fr (fun k => k < w.heap.size + 2) W7 W8 from H8x.out)
        have h9 := own_none h8 H9.out.2.2.2
        refine own_le (own_above h9 ?_) (Nat.le_add_right _ 2)
        with_reducible (repeat (first | exact Fr.refl _ _ | apply Fr.drew | apply Fr.alloc | refine Fr.setCell ?_ (fun _ => by simp) _))
  · have hdec : decide ((m : Int) ∈ r.fresh) = false := decide_eq_false hin
    have HIN := hid hin
    clear hin
    go_upto_region 9 with (first
      | (go_at_call 163; refine (rin_ok (own_none H0.out.fresh H6.out.2.1) hf m).mono ?_; rintro _ _ ⟨rfl, rfl⟩)
      | (go_at_call 167; refine (rwithI_ok (own_none H0.out.dying H6.out.2.1) hy m).mono ?_; rintro _ W7 ⟨fv, rfl, hfv, F7⟩; obtain ⟨fa7, fc7, he7, -, -, -, -⟩ := own_slice hfv; subst he7; have q0 := F7.heap H6.out.2.2.1 (fun h => h); obtain ⟨p0, p1, p2, p3, p4, p5, p6, pz, pl⟩ := cells7 q0))
    have q1 := F7.heap H6.out.2.2.2 (fun h => h)
    obtain ⟨y0, y1, y2, y3, y4, y5, y6, yz, yl⟩ := cells7 q1
    have H7 := hid (And.intro hfv (And.intro F7 (And.intro q0 q1)))
    clear c0 c1 c2 c3 c4 c5 c6 cz cl q0 q1 hfv F7
    go_wp2_with fail
    refine bodyPost_ret (v := refV { r with live := r.live.eraseIdx i, dying := withL r.dying m } (.slice ta r.taken.length tc) (.slice la3 (r.live.eraseIdx i).length lc3) (.slice fa r.fresh.length fc) (.slice fa7 (withL r.dying ↑m).length fc7) (.slice da r.dead.length dc)) (by simp [results, go_sem, *]) rfl ⟨?_, ?_⟩
    · have F07 : Fr (fun _ => False) w W7 := H6.out.2.1.trans H7.out.2.1 (fun _ _ h => h)
      with_reducible (repeat (first | exact F07 | apply Fr.drew | apply Fr.alloc | refine Fr.setNew ?_ (by omega) _))
    · rw [drop_out hi HM.out.1 HIN.out]
      have F06 := H6.out.2.1.trans H7.out.2.1 (fun _ _ h => h)
      refine ⟨_, _, _, _, _, rfl, ref_two (w := W7) (B := w.heap.size) ?_ H7.out.2.2.1 H7.out.2.2.2 (own_none H0.out.taken F06) (own_base (own_none H6.out.1 H7.out.2.1)) (own_none H0.out.fresh F06) H7.out.1 (own_none H0.out.dead F06), ?_⟩
      · with_reducible (repeat (first | exact Fr.refl _ _ | apply Fr.drew | apply Fr.alloc | refine Fr.setCell ?_ (fun _ => by simp) _))
      · refine own_le (own_above (own_none H6.out.1 H7.out.2.1) ?_) (Nat.le_add_right _ 2)
        with_reducible (repeat (first | exact Fr.refl _ _ | apply Fr.drew | apply Fr.alloc | refine Fr.setCell ?_ (fun _ => by simp) _))
end Go.Proofs.YtgdhaaokolfdoaaGreatDoor

/- The document's store (chapter 13): New, Free. Conditions: the rows lie in the world. -/
namespace Go.Proofs.YtgdhaaokolfdoaaGreatDoor
open Go.RowKit Go.Sg
theorem ref_64 {S : Nat → Prop} {w w' : World} {r : R13} {t l f y d : Value} (h : RefAt w r t l f y d) (F : Fr S w w') (hS : ∀ k, S k → ∃ x, w.heap[k]? = some (.cells x 64)) : RefAt w' r t l f y d := by
  have key : ∀ {e size n : Nat} {v : Value} {xs : List Value}, e ≠ 64 → w.ownsRow 0 e size v n xs → w'.ownsRow 0 e size v n xs := by
    intro e size n v xs h1 h
    refine ownsRow_fr h F fun g c hg hs => ?_
    obtain ⟨x, hx⟩ := hS _ hs
    rw [hx] at hg; cases hg; exact h1 rfl
  exact ⟨key (by decide) h.taken, key (by decide) h.live, key (by decide) h.fresh, key (by decide) h.dying, key (by decide) h.dead⟩
theorem RefIs.slices {w : World} {r : R13} {v : Value} (h : RefIs w r v) : ∃ ta tc la lc fa fc ya yc da dc, v = refV r (.slice ta r.taken.length tc) (.slice la r.live.length lc) (.slice fa r.fresh.length fc) (.slice ya r.dying.length yc) (.slice da r.dead.length dc) ∧
    RefAt w r (.slice ta r.taken.length tc) (.slice la r.live.length lc) (.slice fa r.fresh.length fc) (.slice ya r.dying.length yc) (.slice da r.dead.length dc) := by
  obtain ⟨t, l, f, y, d, rfl, h⟩ := h
  obtain ⟨ta, tc, rfl, -, -, -, -⟩ := own_slice h.taken
  obtain ⟨la, lc, rfl, -, -, -, -⟩ := own_slice h.live
  obtain ⟨fa, fc, rfl, -, -, -, -⟩ := own_slice h.fresh
  obtain ⟨ya, yc, rfl, -, -, -, -⟩ := own_slice h.dying
  obtain ⟨da, dc, rfl, -, -, -, -⟩ := own_slice h.dead
  exact ⟨ta, tc, la, lc, fa, fc, ya, yc, da, dc, rfl, h⟩
def RNew (n : Nat) (w : World) (e : Ending) (w' : World) : Prop := Fr (fun _ => False) w w' ∧ ∃ v, e = .returned v ∧ RefIs w' (R13.new n) v
set_option maxHeartbeats 2000000 in
set_option maxRecDepth 100000 in
theorem rnew13_ok (n : Nat) (hn : n ≤ 65536) (w : World) : Calls Tryz.prog 35 #[.int .i64 n] w (RNew n w) := by
  go_enter Tryz.func35, Tryz.ntmps35
  go_wp2_with (go_at_call 101; refine (rnew_ok n hn _).mono ?_)
  rintro _ W1 ⟨v, rfl, hv, F1⟩
  obtain ⟨va, vc, rfl, -, -, -, -⟩ := own_slice hv
  have b0 := F1.heap (heap_alloc_new w _) (fun h => h)
  have H1 := hid (And.intro hv (And.intro F1 b0))
  obtain ⟨c0, c1, c2, c3, c4, c5, c6, cz, cl⟩ := cells7 b0
  clear hv F1 b0
  go_wp2_with fail
  have hl : (List.replicate n false).length = n := List.length_replicate
  refine bodyPost_ret (v := refV (R13.new n) (.slice va (List.replicate n false).length vc) (.slice none 0 0) (.slice none 0 0) (.slice none 0 0) (.slice none 0 0)) (by simp [results, go_sem, R13.new, *]) rfl ⟨?_, ?_⟩
  · have F : Fr (fun _ => False) w W1 := ((Fr.refl _ _).alloc _).trans H1.out.2.1 (fun _ _ h => h)
    with_reducible (repeat (first | exact F | apply Fr.drew | apply Fr.alloc | refine Fr.setNew ?_ (by omega) _))
  · refine ⟨_, rfl, _, _, _, _, _, rfl, ?_⟩
    have hT : RefAt W1 (R13.new n) (.slice va (List.replicate n false).length vc) (.slice none 0 0) (.slice none 0 0) (.slice none 0 0) (.slice none 0 0) := ⟨H1.out.1, World.ownsRow_nil _ _ _ _, World.ownsRow_nil _ _ _ _, World.ownsRow_nil _ _ _ _, World.ownsRow_nil _ _ _ _⟩
    refine ref_64 (S := fun k => k = w.heap.size) hT ?_ (fun k hk => by subst hk; exact ⟨_, H1.out.2.2⟩)
    with_reducible (repeat (first | exact Fr.refl _ _ | apply Fr.drew | apply Fr.alloc | refine Fr.setCell ?_ (fun _ => by simp) _))
/-! ### Free -/
set_option maxHeartbeats 2000000 in
set_option maxRecDepth 100000 in
theorem rfree_ok {w : World} {r : R13} {t l f y d : Value} (h : RefAt w r t l f y d) (ht : r.taken.length ≤ 65536) (hl : r.live.length ≤ 65536) (hf : r.fresh.length ≤ 65536) (hy : r.dying.length ≤ 65536) (i : Nat) (hi : i < r.live.length) (m : Nat) (hm : r.live[i].page = m) (hmt : m < r.taken.length) :
    Calls Tryz.prog 104 #[refV r t l f y d, .int .i64 i] w (RDrop r i w) := by
  obtain ⟨ta, tc, rfl, -, -, -, -⟩ := own_slice h.taken
  obtain ⟨la, lc, rfl, -, -, -, -⟩ := own_slice h.live
  obtain ⟨fa, fc, rfl, -, -, -, -⟩ := own_slice h.fresh
  obtain ⟨ya, yc, rfl, -, -, -, -⟩ := own_slice h.dying
  obtain ⟨da, dc, rfl, -, -, -, -⟩ := own_slice h.dead
  obtain ⟨w1, hw1⟩ : ∃ w1, ((w.alloc (.cells #[.slice ta r.taken.length tc, .int .i64 r.hand, .int .i64 r.gen, .slice la r.live.length lc, .slice fa r.fresh.length fc, .slice ya r.dying.length yc, .slice da r.dead.length dc] 64)).alloc (.cells z64 64)) = w1 := ⟨_, rfl⟩
  obtain ⟨b0, b1, F1⟩ := heap_two hw1
  have HW := hid hw1
  have H1 := hid (And.intro b0 (And.intro b1 F1))
  have H0 := hid h
  have HM := hid hm
  unfold z64 at HW
  obtain ⟨c0, c1, c2, c3, c4, c5, c6, cz, cl⟩ := cells7 b0
  obtain ⟨y0, y1, y2, y3, y4, y5, y6, yz, yl⟩ := cells7 b1
  clear hw1 b0 b1 F1 h hm
  go_enter Tryz.func104, Tryz.ntmps104
  go_upto_region 1 with fail
  rw [HW.out]
  go_wp2_with (go_at_call 164; refine (rdrop_ok (H0.out.fr H1.out.2.2) ht hl hf hy i hi m HM.out hmt).mono ?_)
  rintro _ W2 ⟨F2, t2, l2, f2, y2', d2, rfl, h2, ho2⟩
  obtain ⟨ta2, tc2, rfl, -, -, -, -⟩ := own_slice h2.taken
  obtain ⟨la2, lc2, rfl, -, -, -, -⟩ := own_slice h2.live
  obtain ⟨fa2, fc2, rfl, -, -, -, -⟩ := own_slice h2.fresh
  obtain ⟨ya2, yc2, rfl, -, -, -, -⟩ := own_slice h2.dying
  obtain ⟨da2, dc2, rfl, -, -, -, -⟩ := own_slice h2.dead
  have HO2 := hid ho2
  clear ho2
  have b1 := F2.heap H1.out.2.1 (fun h => h)
  clear c0 c1 c2 c3 c4 c5 c6 cz cl y0 y1 y2 y3 y4 y5 y6 yz yl
  obtain ⟨y0, y1, y2, y3, y4, y5, y6, yz, yl⟩ := cells7 b1
  have H2 := hid (And.intro F2 (And.intro h2 b1))
  clear F2 h2 b1
  go_wp2_with fail
  refine bodyPost_ret (v := refV (r.drop i) (.slice ta2 (r.drop i).taken.length tc2) (.slice la2 (r.drop i).live.length lc2) (.slice fa2 (r.drop i).fresh.length fc2) (.slice ya2 (r.drop i).dying.length yc2) (.slice da2 (r.drop i).dead.length dc2)) (by simp [results, go_sem, *]) rfl ⟨?_, ?_⟩
  · have F : Fr (fun _ => False) w W2 := H1.out.2.2.trans H2.out.1 (fun _ _ h => h)
    with_reducible (repeat (first | exact F | apply Fr.drew | apply Fr.alloc | refine Fr.setNew ?_ (by omega) _))
  · refine ⟨_, _, _, _, _, rfl, ?_, ?_⟩
    · refine ref_64 (S := fun k => k = w.heap.size + 1) H2.out.2.1 ?_ (fun k hk => by subst hk; exact ⟨_, H2.out.2.2⟩)
      with_reducible (repeat (first | exact Fr.refl _ _ | apply Fr.drew | apply Fr.alloc | refine Fr.setCell ?_ (fun _ => by simp) _))
    · have h9 := own_le HO2.out (show w.heap.size + 2 ≤ w1.heap.size by have := lt_of_heap H1.out.2.1; omega)
      refine own_le (own_above h9 ?_) (Nat.le_add_right _ 2)
      with_reducible (repeat (first | exact Fr.refl _ _ | apply Fr.drew | apply Fr.alloc | refine Fr.setCell ?_ (fun _ => by simp) _))
end Go.Proofs.YtgdhaaokolfdoaaGreatDoor
