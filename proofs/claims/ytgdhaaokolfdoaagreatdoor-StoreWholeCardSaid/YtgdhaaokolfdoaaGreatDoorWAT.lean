/- A pack of texts: R4. Conditions: those that each text names. -/
import Derived.Test.YtgdhaaokolfdoaaGreatDoorWAS
set_option linter.unusedVariables false
set_option linter.unusedSimpArgs false
set_option linter.unnecessarySimpa false
/- The document's store (chapter 13): Make. Conditions: the rows lie in the world. -/
namespace Go.Proofs.YtgdhaaokolfdoaaGreatDoor
open Go.RowKit Go.Sg
abbrev pgV (p : RPg) : Value := .agg #[.int .i64 p.page, .int .i64 p.stamp, .string (strOfNums p.load)]
def pgCells (p : RPg) : List Value := [.int .i64 p.page, .int .i64 p.stamp, .string (strOfNums p.load)]
abbrev PgR (w : World) (v : Value) (l : List RPg) : Prop := w.ownsRow 0 71 3 v l.length (l.flatMap pgCells)
abbrev refV (r : R13) (t l f y d : Value) : Value := .agg #[t, .int .i64 r.hand, .int .i64 r.gen, l, f, y, d]
structure RefAt (w : World) (r : R13) (t l f y d : Value) : Prop where
  taken : BoolR w t r.taken
  live : PgR w l r.live
  fresh : IntR w f r.fresh
  dying : IntR w y r.dying
  dead : IntR w d r.dead
theorem RefAt.fr {w w' : World} {r : R13} {t l f y d : Value} (h : RefAt w r t l f y d) (F : Fr (fun _ => False) w w') : RefAt w' r t l f y d :=
  ⟨own_none h.taken F, own_none h.live F, own_none h.fresh F, own_none h.dying F, own_none h.dead F⟩
theorem RefAt.frB {w w' : World} {B : Blk} {r : R13} {t l f y d : Value} (h : RefAt w r t l f y d) (F : FrB B w w') : RefAt w' r t l f y d :=
  ⟨own_frB h.taken (by decide) F, own_frB h.live (by decide) F, own_frB h.fresh (by decide) F, own_frB h.dying (by decide) F, own_frB h.dead (by decide) F⟩
def RefIs (w : World) (r : R13) (v : Value) : Prop := ∃ t l f y d, v = refV r t l f y d ∧ RefAt w r t l f y d
theorem pgs_length (l : List RPg) : (l.flatMap pgCells).length = l.length * 3 := by
  induction l with
  | nil => rfl
  | cons p l ih => simp [pgCells, ih]; omega
theorem pgs_one (l : List RPg) : ∀ u ∈ l.flatMap pgCells, u.oneCell' = true := by
  intro u hu
  obtain ⟨p, _, hp⟩ := List.mem_flatMap.1 hu
  simp only [pgCells, List.mem_cons, List.not_mem_nil, or_false] at hp
  rcases hp with rfl | rfl | rfl <;> rfl
theorem cells7 {w : World} {b : Nat} {x0 x1 x2 x3 x4 x5 x6 : Value} {t : TypeId} (h : w.heap[b]? = some (.cells #[x0, x1, x2, x3, x4, x5, x6] t)) :
    w.cell? ⟨b, 0, none⟩ = some x0 ∧ w.cell? ⟨b, 1, none⟩ = some x1 ∧ w.cell? ⟨b, 2, none⟩ = some x2 ∧ w.cell? ⟨b, 3, none⟩ = some x3 ∧ w.cell? ⟨b, 4, none⟩ = some x4 ∧ w.cell? ⟨b, 5, none⟩ = some x5 ∧ w.cell? ⟨b, 6, none⟩ = some x6 ∧ (∀ o, w.frozen? ⟨b, o, none⟩ = false) ∧ b < w.heap.size :=
  ⟨by simpa using cell_of_heap h 0, by simpa using cell_of_heap h 1, by simpa using cell_of_heap h 2, by simpa using cell_of_heap h 3, by simpa using cell_of_heap h 4, by simpa using cell_of_heap h 5, by simpa using cell_of_heap h 6, fun o => frozen_of_heap h o, lt_of_heap h⟩
def pg0 : Value := .agg #[.int .i64 0, .int .i64 0, .string ⟨#[]⟩]
def z64 : Array Value := #[.slice none 0 0, .int .i64 0, .int .i64 0, .slice none 0 0, .slice none 0 0, .slice none 0 0, .slice none 0 0]
theorem heap_new_at {W : World} {o : Obj} {n : Nat} (h : W.heap.size = n) : (W.alloc o).heap[n]? = some o := h ▸ heap_alloc_new _ _
theorem one3 (a b : Int) (s : ByteArray) : ∀ u ∈ (#[.int .i64 a, .int .i64 b, .string s] : Array Value).toList, u.oneCell' = true := by
  intro u hu
  simp only [List.mem_cons, List.not_mem_nil, or_false] at hu
  rcases hu with rfl | rfl | rfl <;> rfl
def RMake (r : R13) (bs : List Int) (w : World) (e : Ending) (w' : World) : Prop :=
  Fr (fun _ => False) w w' ∧ match r.make bs with
  | none => ∃ v, e = .returned (.tuple #[v, pg0, .bool false]) ∧ RefIs w' r v
  | some (r', p) => ∃ v, e = .returned (.tuple #[v, pgV p, .bool true]) ∧ RefIs w' r' v
def MkM (w : World) (r : R13) (n : Nat) (bs : List Int) (T F Y D : Value) (g : Nat) (wx : World) : Prop :=
  ∃ la lc, wx.ownsRow (w.heap.size + 3) 71 3 (.slice la (r.live.length + 1) lc) (r.live.length + 1) ((r.live ++ [(⟨n, r.gen, bs⟩ : RPg)]).flatMap pgCells) ∧ Fr (fun _ => False) w wx ∧ wx.heap[w.heap.size]? = some (.cells #[T, .int .i64 (((n : Int) + 1) % (r.taken.length : Int)), .int .i64 r.gen, .slice la (r.live.length + 1) lc, F, Y, D] 64) ∧
    wx.heap[w.heap.size + 1]? = some (.cells z64 64) ∧ wx.heap[w.heap.size + 1 + 1]? = some (.cells #[.int .i64 0, .int .i64 0, .string ⟨#[]⟩] 71) ∧ wx.heap[g]? = some (.cells #[.int .i64 n, .int .i64 r.gen, .string (strOfNums bs)] 71) ∧ BoolR wx T (r.taken.set n true)
theorem mkM_mk {w W2 W5 : World} {r : R13} {n g lc lc5 : Nat} {la la5 : Option Addr} {bs : List Int} {T F Y D : Value} (hwg : w.heap.size < g) (hw3 : w.heap.size + 3 ≤ W2.heap.size) (e0 : W2.heap[w.heap.size]? = some (.cells #[T, .int .i64 (((n : Int) + 1) % (r.taken.length : Int)), .int .i64 r.gen, .slice la r.live.length lc, F, Y, D] 64))
    (e1 : W2.heap[w.heap.size + 1]? = some (.cells z64 64)) (e2 : W2.heap[w.heap.size + 1 + 1]? = some (.cells #[.int .i64 0, .int .i64 0, .string ⟨#[]⟩] 71)) (e9 : W2.heap[g]? = some (.cells #[.int .i64 n, .int .i64 r.gen, .string (strOfNums bs)] 71))
    (F3 : Fr (fun _ => False) w W2) (ht : W2.ownsRow 0 4 1 T r.taken.length ((r.taken.set n true).map Value.bool)) (F5 : Fr (fun _ => False) W2 W5)
    (hown : W5.ownsRow W2.heap.size 71 3 (.slice la5 (r.live.length + 1) lc5) (r.live.length + 1) (r.live.flatMap pgCells ++ [.int .i64 n, .int .i64 r.gen, .string (strOfNums bs)])) :
    MkM w r n bs T F Y D g (W5.setCell ⟨w.heap.size, 3, none⟩ (.slice la5 (r.live.length + 1) lc5)) := by
  have b0 := F5.heap e0 (fun h => h)
  have FX : Fr (fun b => b = w.heap.size) W5 (W5.setCell ⟨w.heap.size, 3, none⟩ (.slice la5 (r.live.length + 1) lc5)) := (Fr.refl (fun b => b = w.heap.size) _).setCell (a := ⟨w.heap.size, 3, none⟩) (fun _ => rfl) _
  refine ⟨la5, lc5, ?_, (F3.trans F5 (fun _ _ h => h)).setNew (Nat.le_refl _) _, ?_, FX.heap (F5.heap e1 (fun h => h)) (by omega), FX.heap (F5.heap e2 (fun h => h)) (by omega), FX.heap (F5.heap e9 (fun h => h)) (by omega), ?_⟩
  · have := own_cellK FX (own_le hown hw3) b0 (by decide)
    simpa [pgCells] using this
  · rw [heap_setCell_cells _ _ _ _ b0]; simp
  · have := own_cellK FX (own_none ht F5) b0 (by decide)
    show World.ownsRow _ _ _ _ _ _ _
    rw [List.length_set]; exact this
theorem ref_three {w w' : World} {B : Nat} {r : R13} {t l f y d : Value} {x0 x1 x2 : Array Value} (F : Fr (fun k => k = B ∨ k = B + 1 ∨ k = B + 1 + 1) w w') (b0 : w.heap[B]? = some (.cells x0 64)) (b1 : w.heap[B + 1]? = some (.cells x1 64)) (b2 : w.heap[B + 1 + 1]? = some (.cells x2 71))
    (ht : BoolR w t r.taken) (hl : w.ownsRow (B + 3) 71 3 l r.live.length (r.live.flatMap pgCells)) (hf : IntR w f r.fresh) (hy : IntR w y r.dying) (hd : IntR w d r.dead) : RefAt w' r t l f y d := by
  have key : ∀ {e size n : Nat} {v : Value} {xs : List Value}, e ≠ 64 → e ≠ 71 → w.ownsRow 0 e size v n xs → w'.ownsRow 0 e size v n xs := by
    intro e size n v xs h1 h2 h
    refine ownsRow_fr h F fun g c hg hs => ?_
    rcases hs with rfl | rfl | rfl
    · rw [b0] at hg; cases hg; exact h1 rfl
    · rw [b1] at hg; cases hg; exact h1 rfl
    · rw [b2] at hg; cases hg; exact h2 rfl
  exact ⟨key (by decide) (by decide) ht, own_base (own_above hl (F.mono fun b _ h => by omega)), key (by decide) (by decide) hf, key (by decide) (by decide) hy, key (by decide) (by decide) hd⟩
set_option maxHeartbeats 4000000 in
set_option maxRecDepth 100000 in
theorem rmake_ok {w : World} {r : R13} {t l f y d : Value} (h : RefAt w r t l f y d) (ht : r.taken.length ≤ 65536) (hh : 0 ≤ r.hand) (hh' : r.hand < r.taken.length) (hl : r.live.length ≤ 65536) (hf : r.fresh.length ≤ 65536) (bs : List Int) :
    Calls Tryz.prog 106 #[refV r t l f y d, .string (strOfNums bs)] w (RMake r bs w) := by
  obtain ⟨hd, hhd⟩ := Int.eq_ofNat_of_zero_le hh
  obtain ⟨ta, tc, rfl, -, -, -, -⟩ := own_slice h.taken
  obtain ⟨la, lc, rfl, -, -, -, -⟩ := own_slice h.live
  obtain ⟨fa, fc, rfl, -, -, -, -⟩ := own_slice h.fresh
  obtain ⟨ya, yc, rfl, -, -, -, -⟩ := own_slice h.dying
  obtain ⟨da, dc, rfl, -, -, -, -⟩ := own_slice h.dead
  have hdt : hd < r.taken.length := by omega
  obtain ⟨i0, hi0, hz0, hz1, hz2⟩ := info_parts Tryz.info71
  obtain ⟨w1, hw1⟩ : ∃ w1, ((w.alloc (.cells #[.slice ta r.taken.length tc, .int .i64 hd, .int .i64 r.gen, .slice la r.live.length lc, .slice fa r.fresh.length fc, .slice ya r.dying.length yc, .slice da r.dead.length dc] 64)).alloc (.cells z64 64)).alloc (.cells #[.int .i64 0, .int .i64 0, .string ⟨#[]⟩] 71) = w1 := ⟨_, rfl⟩
  obtain ⟨b0, b1, b2, F1⟩ := heap_three hw1
  have h1 := h.fr F1
  rw [show refV r (.slice ta r.taken.length tc) (.slice la r.live.length lc) (.slice fa r.fresh.length fc) (.slice ya r.dying.length yc) (.slice da r.dead.length dc) = .agg #[.slice ta r.taken.length tc, .int .i64 hd, .int .i64 r.gen, .slice la r.live.length lc, .slice fa r.fresh.length fc, .slice ya r.dying.length yc, .slice da r.dead.length dc] by rw [refV, hhd]]
  have HW := hid hw1
  have H1 := hid (And.intro b0 (And.intro b1 (And.intro b2 (And.intro F1 h1))))
  have H0 := hid h
  unfold z64 at HW
  obtain ⟨c0, c1, c2, c3, c4, c5, c6, cz, cl⟩ := cells7 b0
  obtain ⟨y0, y1, y2, y3, y4, y5, y6, yz, yl⟩ := cells7 b1
  obtain ⟨x0, x1, x2, xz, xl⟩ := cells3 b2
  have HR := hid (And.intro hhd (And.intro hdt (And.intro hh hh')))
  clear hw1 b0 b1 b2 F1 h1 h hh hh' hhd
  go_enter Tryz.func106, Tryz.ntmps106
  go_upto_region 1 with fail
  rw [HW.out]
  go_wp2_with (go_at_call 166; refine (rtake_ok H1.out.2.2.2.2.taken ht hd hdt).mono ?_)
  have HS0 := hid H1.out.2.2.2.1.size
  clear c0 c1 c2 c3 c4 c5 c6 cz cl y0 y1 y2 y3 y4 y5 y6 yz yl x0 x1 x2 xz xl
  rintro e W1 (⟨n, tv, htk, hnl, rfl, htv, F2⟩ | ⟨tv, htk, rfl, htv, F2⟩)
  · have b0 := F2.heap H1.out.1 (fun h => h)
    have b1 := F2.heap H1.out.2.1 (fun h => h)
    have b2 := F2.heap H1.out.2.2.1 (fun h => h)
    obtain ⟨c0, c1, c2, c3, c4, c5, c6, cz, cl⟩ := cells7 b0
    obtain ⟨ta2, tc2, rfl, -, -, -, -⟩ := own_slice htv
    have hdd : decide ((n : Int) < 0) = false := by simp
    have H2 := hid (And.intro htk (And.intro hnl (And.intro htv (And.intro F2 (And.intro b0 (And.intro b1 b2))))))
    clear htk hnl htv F2 b0 b1 b2
    go_upto_region 6 with fail
    obtain ⟨W2, hW2⟩ : ∃ W2, ((((W1.setCell ⟨w.heap.size, 0, none⟩ (.slice ta2 r.taken.length tc2)).setCell ⟨w.heap.size, 1, none⟩ (.int .i64 (((n : Int) + 1) % (r.taken.length : Int)))).alloc (.cells #[.slice ta2 r.taken.length tc2, .int .i64 (((n : Int) + 1) % (r.taken.length : Int))] 61)).alloc (.cells #[.int .i64 n, .int .i64 r.gen, .string (strOfNums bs)] 71)) = W2 := ⟨_, rfl⟩
    rw [hW2]
    obtain ⟨htk, hnl, htv, F2, b0, b1, b2⟩ := H2.out
    have s1 := H1.out.2.2.2.1.size
    have hs2 : W2.heap.size = W1.heap.size + 2 := by rw [← hW2]; simp
    have e0 : W2.heap[w.heap.size]? = some (.cells #[.slice ta2 r.taken.length tc2, .int .i64 (((n : Int) + 1) % (r.taken.length : Int)), .int .i64 r.gen, .slice la r.live.length lc, .slice fa r.fresh.length fc, .slice ya r.dying.length yc, .slice da r.dead.length dc] 64) := by
      rw [← hW2, heap_alloc_lt _ _ _ (by simp; omega), heap_alloc_lt _ _ _ (by simp; omega), heap_setCell_cells _ _ _ _ (heap_setCell_cells _ _ _ _ b0)]; simp
    have F4 : Fr (fun b => b = w.heap.size) W1 W2 := by
      rw [← hW2]
      exact (((Fr.refl (fun b => b = w.heap.size) W1).setCell (a := ⟨w.heap.size, 0, none⟩) (fun _ => rfl) _).setCell (a := ⟨w.heap.size, 1, none⟩) (fun _ => rfl) _).alloc _ |>.alloc _
    have e1 := F4.heap b1 (by omega)
    have e2 := F4.heap b2 (by omega)
    have e9 : W2.heap[W1.heap.size + 1]? = some (.cells #[.int .i64 n, .int .i64 r.gen, .string (strOfNums bs)] 71) := by
      rw [← hW2]; exact heap_new_at (by simp)
    have F3 : Fr (fun _ => False) w W2 := by
      rw [← hW2]
      exact ((((H1.out.2.2.2.1.trans F2 (fun _ _ h => h)).setNew (Nat.le_refl _) _).setNew (Nat.le_refl _) _).alloc _).alloc _
    have ht2 : W2.ownsRow 0 4 1 (.slice ta2 r.taken.length tc2) r.taken.length ((r.taken.set n true).map Value.bool) := by
      have := own_cellK F4 htv b0 (by decide)
      rwa [List.length_set] at this
    obtain ⟨c0', c1', c2', c3', c4', c5', c6', cz', cl'⟩ := cells7 e0
    obtain ⟨g0, g1, g2, gz, gl⟩ := cells3 e9
    have H3 := hid (And.intro e0 (And.intro e1 (And.intro e2 (And.intro e9 (And.intro F3 (And.intro ht2 (And.intro htk hnl)))))))
    have HS2 := hid (And.intro hs2 s1)
    clear hs2 s1 c0 c1 c2 c3 c4 c5 c6 cz cl htk hnl htv F2 F4 b0 b1 b2 e0 e1 e2 e9 F3 ht2 hW2
    have HV := hid (fun W (F : Fr (fun _ => False) w W) => own_src (own_none H0.out.live F))
    have hm1 : 0 + r.live.length ≤ maxLen := by simp [maxLen]; omega
    have hm2 : (0 + r.live.length) * 32 ≤ 140737488355328 := by omega
    have hm3 : 0 + r.live.length + 1 ≤ maxLen := by simp [maxLen]; omega
    have hm4 : (0 + r.live.length + 1) * 32 ≤ 140737488355328 := by omega
    have HW3 := hid (show w.heap.size + 3 ≤ W2.heap.size by have := lt_of_heap H3.out.2.2.1; omega)
    have HM := hid (And.intro hm1 (And.intro hm2 (And.intro hm3 hm4)))
    clear hm1 hm2 hm3 hm4
    go_cut [8] from 27 to 34 (fun v wx => v = .int .i64 n ∧ MkM w r n bs (.slice ta2 r.taken.length tc2) (.slice fa r.fresh.length fc) (.slice ya r.dying.length yc) (.slice da r.dead.length dc) (W1.heap.size + 1) wx)
    case first =>
      go_region_law (first
        | (
           refine step_append_src rfl (.tmp 27) (.tmp 29) 62 rfl W2.heap.size 71 i0 _ 3 32 Tryz.underlying62 hi0 hz0 hz1 hz2 rfl (Nat.succ_pos 2) _ 0 [] rfl (own_at ?_ ?_) _ r.live.length _ rfl (HV.out _ ?_) (pgs_length _) (pgs_one _) HM.out.1 HM.out.2.1 ?_ ?_
           · first | (simp; done) | (simp; omega)
           · (first | exact hp1 W2 _ | exact hp2 W2 _ _ | exact hp3 W2 _ _ | exact hp1d W2 _ | exact hp2d W2 _ _ | exact hp3d W2 _ _)
           · repeat (first | exact H3.out.2.2.2.2.1 | apply Fr.alloc | apply Fr.drew)
           · first | (simp; done) | (simp; omega)
           intro v3 W3 hown3 hg3
           have hF3 := fun h F => fr_g hg3 (W2 := W2) h F
           replace hF3 := hF3 (by first | (simp; done) | (simp; omega)) (by repeat (first | exact Fr.refl _ _ | apply Fr.alloc | apply Fr.drew))
           have hk3 := hg3.block
           obtain ⟨p0, p1, p2, p3, p4, p5, p6, pz, pl⟩ := cells7 (hF3.heap H3.out.1 (fun h => h))
           obtain ⟨o0, o1, o2, oz, ol⟩ := cells3 (hF3.heap H3.out.2.2.2.1 (fun h => h)))
        | (
           refine step_append_src rfl (.tmp 30) (.tmp 32) 62 rfl W2.heap.size 71 i0 _ 3 32 Tryz.underlying62 hi0 hz0 hz1 hz2 rfl (Nat.succ_pos 2) _ (0 + r.live.length) ([] ++ r.live.flatMap pgCells) rfl ?_ _ 1 [.int .i64 n, .int .i64 r.gen, .string (strOfNums bs)] rfl ?_ rfl (one3 _ _ _) HM.out.2.2.1 HM.out.2.2.2 ?_ ?_
           · first | exact hown3 | exact hown3.alloc _
           · refine src_of_heap (f := (0, 0)) (e := 71) (c := #[.int .i64 n, .int .i64 r.gen, .string (strOfNums bs)]) 1 1 ?_
             first
               | (first | exact hp1 W3 _ | exact hp2 W3 _ _ | exact hp3 W3 _ _ | exact hp1d W3 _ | exact hp2d W3 _ _ | exact hp3d W3 _ _)
               | (refine hk_any hk3 ?_ ?_
                  · (first | exact hp1 W2 _ | exact hp2 W2 _ _ | exact hp3 W2 _ _ | exact hp1d W2 _ | exact hp2d W2 _ _ | exact hp3d W2 _ _)
                  · omega)
           · first | exact hF3.size | (refine Nat.le_trans hF3.size ?_; first | (simp; done) | (simp; omega))
           intro v5 W5 hown5 hg5
           have hF5 : Fr (fun _ => False) W2 W5 := by first | exact fr_grown hF3 hown3 hg5 | exact fr_grown (hF3.alloc _) (hown3.alloc _) hg5
           obtain ⟨la5, lc5, he5, -, -, -, -⟩ := own_slice hown5
           subst he5
           have hb5 := hF5.heap H3.out.1 (fun h => h)
           obtain ⟨q0, q1, q2, q3, q4, q5, q6, qz, ql⟩ := cells7 hb5))
      all_goals (go_wp2_with fail)
      all_goals go_meet
      all_goals exact ⟨rfl, mkM_mk (by have := HS2.out.2; have := H2.out.2.2.2.1.size; omega) HW3.out H3.out.1 H3.out.2.1 H3.out.2.2.1 H3.out.2.2.2.1 H3.out.2.2.2.2.1 H3.out.2.2.2.2.2.1 hF5 (by simpa using hown5)⟩
    obtain ⟨rfl, la3, lc3, hpg, F6, k0, k1, k2, k9, htk2⟩ := hcut
    obtain ⟨c0, c1, c2, c3, c4, c5, c6, cz, cl⟩ := cells7 k0
    obtain ⟨y0, y1, y2, y3, y4, y5, y6, yz, yl⟩ := cells7 k1
    obtain ⟨x0, x1, x2, xz, xl⟩ := cells3 k2
    obtain ⟨g0, g1, g2, gz, gl⟩ := cells3 k9
    have H6 := hid (And.intro hpg (And.intro F6 (And.intro k0 (And.intro k1 (And.intro k2 (And.intro k9 htk2))))))
    clear hpg F6 k0 k1 k2 k9 htk2
    go_upto_region 8 with (go_at_call 167; refine (rwithI_ok (own_none H0.out.fresh H6.out.2.1) hf n).mono ?_; rintro _ W7 ⟨fv, rfl, hfv, F7⟩; obtain ⟨fa7, fc7, he7, -, -, -, -⟩ := own_slice hfv; subst he7; have q0 := F7.heap H6.out.2.2.1 (fun h => h); obtain ⟨p0, p1, p2, p3, p4, p5, p6, pz, pl⟩ := cells7 q0)
    have H7 := hid (And.intro hfv F7)
    have hq0 : W7.heap[w.heap.size]? = _ := H7.out.2.heap H6.out.2.2.1 (fun h => h)
    have hq1 := H7.out.2.heap H6.out.2.2.2.1 (fun h => h)
    have hq2 := H7.out.2.heap H6.out.2.2.2.2.1 (fun h => h)
    have hq9 := H7.out.2.heap H6.out.2.2.2.2.2.1 (fun h => h)
    obtain ⟨y0, y1, y2, y3, y4, y5, y6, yz, yl⟩ := cells7 hq1
    obtain ⟨x0, x1, x2, xz, xl⟩ := cells3 hq2
    obtain ⟨g0, g1, g2, gz, gl⟩ := cells3 hq9
    have hz1 : w.heap.size + 1 + 1 < W1.heap.size := Nat.lt_of_lt_of_le (lt_of_heap H1.out.2.2.1) H2.out.2.2.2.1.size
    have ne1 : ¬ w.heap.size = W1.heap.size := by omega
    have ne2 : ¬ W1.heap.size = w.heap.size := by omega
    have ne3 : ¬ w.heap.size + 1 = W1.heap.size := by omega
    have ne4 : ¬ W1.heap.size = w.heap.size + 1 := by omega
    have HQ := hid (And.intro hq0 (And.intro hq1 (And.intro hq2 hq9)))
    clear hfv F7 hq0 hq1 hq2 hq9
    go_region
    go_wp2_with fail
    have hmk : r.make bs = some ({ r with taken := r.taken.set n true, hand := (((n + 1) % r.taken.length : Nat) : Int), live := r.live ++ [⟨n, r.gen, bs⟩], fresh := withL r.fresh n }, ⟨n, r.gen, bs⟩) := by
      simp [R13.make, HR.out.1, H3.out.2.2.2.2.2.2.1]
    have HMK := hid hmk
    clear hmk
    refine bodyPost_ret (v := .tuple #[refV { r with taken := r.taken.set n true, hand := (((n + 1) % r.taken.length : Nat) : Int), live := r.live ++ [⟨n, r.gen, bs⟩], fresh := withL r.fresh n } (.slice ta2 r.taken.length tc2) (.slice la3 (r.live.length + 1) lc3) (.slice fa7 (withL r.fresh ↑n).length fc7) (.slice ya r.dying.length yc) (.slice da r.dead.length dc), pgV ⟨n, r.gen, bs⟩, .bool true]) (by simp [results, go_sem, *]) rfl ⟨?_, ?_⟩
    · have F67 : Fr (fun _ => False) w W7 := H6.out.2.1.trans H7.out.2 (fun _ _ h => h)
      with_reducible (repeat (first | exact F67 | apply Fr.drew | refine Fr.setNew ?_ (by omega) _))
    · rw [HMK.out]
      refine ⟨_, rfl, _, _, _, _, _, rfl, ref_three (w := W7) (B := w.heap.size) ?_ HQ.out.1 HQ.out.2.1 HQ.out.2.2.1 (own_none H6.out.2.2.2.2.2.2 H7.out.2) ?_ H7.out.1 (own_none (own_none H0.out.dying H6.out.2.1) H7.out.2) (own_none (own_none H0.out.dead H6.out.2.1) H7.out.2)⟩
      · with_reducible (repeat (first | exact Fr.refl _ _ | apply Fr.drew | refine Fr.setCell ?_ (fun _ => by simp) _))
      · have := own_none H6.out.1 H7.out.2
        simpa using this
  · have b0 := F2.heap H1.out.1 (fun h => h)
    have b1 := F2.heap H1.out.2.1 (fun h => h)
    have b2 := F2.heap H1.out.2.2.1 (fun h => h)
    obtain ⟨c0, c1, c2, c3, c4, c5, c6, cz, cl⟩ := cells7 b0
    obtain ⟨y0, y1, y2, y3, y4, y5, y6, yz, yl⟩ := cells7 b1
    obtain ⟨x0, x1, x2, xz, xl⟩ := cells3 b2
    obtain ⟨ta2, tc2, rfl, -, -, -, -⟩ := own_slice htv
    have H2 := hid (And.intro htk (And.intro htv (And.intro F2 (And.intro b0 (And.intro b1 b2)))))
    clear htk htv F2 b0 b1 b2
    go_wp2_with fail
    have hmk : r.make bs = none := by simp [R13.make, HR.out.1, H2.out.1]
    have HMK := hid hmk
    clear hmk
    refine bodyPost_ret (v := .tuple #[.agg #[.slice ta r.taken.length tc, .int .i64 hd, .int .i64 r.gen, .slice la r.live.length lc, .slice fa r.fresh.length fc, .slice ya r.dying.length yc, .slice da r.dead.length dc], pg0, .bool false]) (by simp [results, go_sem, pg0, *]) rfl ?_
    have FF : ∀ W, Fr (fun _ => False) w W → RMake r bs w (.returned (.tuple #[.agg #[.slice ta r.taken.length tc, .int .i64 hd, .int .i64 r.gen, .slice la r.live.length lc, .slice fa r.fresh.length fc, .slice ya r.dying.length yc, .slice da r.dead.length dc], pg0, .bool false])) W := fun W F => ⟨F, by
      rw [HMK.out]
      exact ⟨_, rfl, _, _, _, _, _, by rw [refV, HR.out.1], H0.out.fr F⟩⟩
    refine FF _ ?_
    have F12 : Fr (fun _ => False) w W1 := H1.out.2.2.2.1.trans H2.out.2.2.1 (fun _ _ h => h)
    with_reducible (repeat (first | exact F12 | apply Fr.drew | apply Fr.alloc | refine Fr.setNew ?_ (by omega) _))
end Go.Proofs.YtgdhaaokolfdoaaGreatDoor
