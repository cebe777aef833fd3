/- A pack of texts: R8. Conditions: those that each text names. -/
import Derived.Test.YtgdhaaokolfdoaaGreatDoorWAU
set_option linter.unusedVariables false
set_option linter.unusedSimpArgs false
set_option linter.unnecessarySimpa false
/- The document's store (chapter 13): Commit. Conditions: the rows lie in the world. -/
namespace Go.Proofs.YtgdhaaokolfdoaaGreatDoor
open Go.RowKit Go.Sg
/-! ### Commit -/
theorem clearAll_snoc (l : List Int) (x : Int) : ∀ t : List Bool, clearAll (l ++ [x]) t = (clearAll l t).set x.toNat false := by
  induction l with
  | nil => intro t; rfl
  | cons y l ih => intro t; exact ih _
def rCm (r : R13) (k : Nat) : R13 := { r with taken := clearAll (r.dead.take k) r.taken }
def RCom (r : R13) (w : World) (e : Ending) (w' : World) : Prop := Fr (fun _ => False) w w' ∧ ∃ v, e = .returned v ∧ RefIs w' r.commit v
/-- The loop of Commit behind k rounds. -/
def CmAt (w : World) (r : R13) (k : Nat) (wr : World) : Prop :=
  ∃ ta tc la lc fa fc ya yc da dc, wr.heap[w.heap.size]? = some (.cells #[.slice ta r.taken.length tc, .int .i64 r.hand, .int .i64 r.gen, .slice la r.live.length lc, .slice fa r.fresh.length fc, .slice ya r.dying.length yc, .slice da r.dead.length dc] 64) ∧
    wr.heap[w.heap.size + 1]? = some (.cells z64 64) ∧ Fr (fun _ => False) w wr ∧ RefAt wr (rCm r k) (.slice ta r.taken.length tc) (.slice la r.live.length lc) (.slice fa r.fresh.length fc) (.slice ya r.dying.length yc) (.slice da r.dead.length dc)
/-- Behind Clear in a round: what it gave lies in a box. -/
def CmBox (w : World) (r : R13) (k : Nat) (T L F Y D v4 : Value) (wx : World) : Prop :=
  ∃ b ta tc, v4 = .pointer (some ⟨b, 0, none⟩) ∧ w.heap.size + 2 ≤ b ∧ wx.heap[b]? = some (.cells #[.slice ta r.taken.length tc, .int .i64 r.hand] 61) ∧ BoolR wx (.slice ta r.taken.length tc) (clearAll (r.dead.take (k + 1)) r.taken) ∧
    wx.heap[w.heap.size]? = some (.cells #[T, .int .i64 r.hand, .int .i64 r.gen, L, F, Y, D] 64) ∧ wx.heap[w.heap.size + 1]? = some (.cells z64 64) ∧ Fr (fun _ => False) w wx ∧ RefAt wx (rCm r k) T L F Y D
theorem clearAll_step {r : R13} {k m : Nat} (hk : k < r.dead.length) (hx : r.dead[k] = (m : Int)) : clearAll (r.dead.take (k + 1)) r.taken = (rCm r k).taken.set m false := by
  rw [List.take_add_one, List.getElem?_eq_getElem hk, hx]
  exact clearAll_snoc _ _ _
theorem cm_a {w wr W2 : World} {r : R13} {k m : Nat} {T L F Y D : Value} {ta : Option Addr} {tc : Nat} (e0 : wr.heap[w.heap.size]? = some (.cells #[T, .int .i64 r.hand, .int .i64 r.gen, L, F, Y, D] 64)) (e1 : wr.heap[w.heap.size + 1]? = some (.cells z64 64)) (hF : Fr (fun _ => False) w wr) (hR : RefAt wr (rCm r k) T L F Y D)
    (hk : k < r.dead.length) (hx : r.dead[k] = (m : Int)) (F2 : Fr (fun _ => False) wr W2) (htv : BoolR W2 (.slice ta ((rCm r k).taken.set m false).length tc) ((rCm r k).taken.set m false)) :
    CmBox w r k T L F Y D (.pointer (some ⟨W2.heap.size, 0, none⟩)) (W2.alloc (.cells #[.slice ta (rCm r k).taken.length tc, .int .i64 r.hand] 61)) := by
  have hl : (rCm r k).taken.length = r.taken.length := clearAll_length _ _
  have s1 := lt_of_heap e1
  have FA : Fr (fun _ => False) wr (W2.alloc (.cells #[.slice ta (rCm r k).taken.length tc, .int .i64 r.hand] 61)) := F2.alloc _
  refine ⟨_, ta, tc, rfl, by have := F2.size; omega, by rw [heap_alloc_new, hl], ?_, FA.heap e0 (fun h => h), FA.heap e1 (fun h => h), hF.trans FA (fun _ _ h => h), hR.fr FA⟩
  have := own_none htv ((Fr.refl _ _).alloc (.cells #[.slice ta (rCm r k).taken.length tc, .int .i64 r.hand] 61))
  rw [clearAll_step hk hx, ← hl]
  unfold BoolR
  rw [List.length_set] at this ⊢
  exact this
theorem cm_b {w wr W2 : World} {r : R13} {k m : Nat} {T L F Y D : Value} {ta : Option Addr} {tc : Nat} (e0 : wr.heap[w.heap.size]? = some (.cells #[T, .int .i64 r.hand, .int .i64 r.gen, L, F, Y, D] 64)) (e1 : wr.heap[w.heap.size + 1]? = some (.cells z64 64)) (hF : Fr (fun _ => False) w wr) (hR : RefAt wr (rCm r k) T L F Y D)
    (hk : k < r.dead.length) (hx : r.dead[k] = (m : Int)) (F2 : Fr (fun _ => False) wr W2) (q9 : W2.heap[wr.heap.size]? = some (.cells #[.slice none 0 0, .int .i64 0] 61)) (htv : BoolR W2 (.slice ta ((rCm r k).taken.set m false).length tc) ((rCm r k).taken.set m false)) :
    CmBox w r k T L F Y D (.pointer (some ⟨wr.heap.size, 0, none⟩)) ((W2.setCell ⟨wr.heap.size, 0, none⟩ (.slice ta (rCm r k).taken.length tc)).setCell ⟨wr.heap.size, 1, none⟩ (.int .i64 r.hand)) := by
  have hl : (rCm r k).taken.length = r.taken.length := clearAll_length _ _
  have s1 := lt_of_heap e1
  have FX : Fr (fun b => b = wr.heap.size) W2 ((W2.setCell ⟨wr.heap.size, 0, none⟩ (.slice ta (rCm r k).taken.length tc)).setCell ⟨wr.heap.size, 1, none⟩ (.int .i64 r.hand)) := ((Fr.refl (fun b => b = wr.heap.size) _).setCell (a := ⟨wr.heap.size, 0, none⟩) (fun _ => rfl) _).setCell (a := ⟨wr.heap.size, 1, none⟩) (fun _ => rfl) _
  have FA := F2.trans FX (fun b hb h => absurd h (by omega))
  refine ⟨_, ta, tc, rfl, by omega, ?_, ?_, FA.heap e0 (fun h => h), FA.heap e1 (fun h => h), hF.trans FA (fun _ _ h => h), hR.fr FA⟩
  · rw [heap_setCell_cells _ _ _ _ (heap_setCell_cells _ _ _ _ q9), hl]; simp
  · have := own_cellK FX htv q9 (by decide)
    rw [clearAll_step hk hx, ← hl]
    unfold BoolR
    rw [List.length_set] at this ⊢
    exact this
theorem cm_next {w wx : World} {r : R13} {k : Nat} {T : Value} {ta la fa ya da : Option Addr} {tc lc fc yc dc : Nat} (e0 : wx.heap[w.heap.size]? = some (.cells #[T, .int .i64 r.hand, .int .i64 r.gen, .slice la r.live.length lc, .slice fa r.fresh.length fc, .slice ya r.dying.length yc, .slice da r.dead.length dc] 64)) (e1 : wx.heap[w.heap.size + 1]? = some (.cells z64 64))
    (ht : BoolR wx (.slice ta r.taken.length tc) (clearAll (r.dead.take (k + 1)) r.taken)) (hF : Fr (fun _ => False) w wx) (hR : RefAt wx (rCm r k) T (.slice la r.live.length lc) (.slice fa r.fresh.length fc) (.slice ya r.dying.length yc) (.slice da r.dead.length dc)) :
    CmAt w r (k + 1) ((wx.setCell ⟨w.heap.size, 0, none⟩ (.slice ta r.taken.length tc)).setCell ⟨w.heap.size, 1, none⟩ (.int .i64 r.hand)) := by
  have FX : Fr (fun b => b = w.heap.size) wx ((wx.setCell ⟨w.heap.size, 0, none⟩ (.slice ta r.taken.length tc)).setCell ⟨w.heap.size, 1, none⟩ (.int .i64 r.hand)) := ((Fr.refl (fun b => b = w.heap.size) _).setCell (a := ⟨w.heap.size, 0, none⟩) (fun _ => rfl) _).setCell (a := ⟨w.heap.size, 1, none⟩) (fun _ => rfl) _
  have h2 : RefAt wx (rCm r (k + 1)) (.slice ta r.taken.length tc) (.slice la r.live.length lc) (.slice fa r.fresh.length fc) (.slice ya r.dying.length yc) (.slice da r.dead.length dc) := ⟨ht, hR.live, hR.fresh, hR.dying, hR.dead⟩
  refine ⟨ta, tc, la, lc, fa, fc, ya, yc, da, dc, ?_, FX.heap e1 (by omega), (hF.setNew (Nat.le_refl _) _).setNew (Nat.le_refl _) _, ref_64 h2 FX fun b hb => ?_⟩
  · rw [heap_setCell_cells _ _ _ _ (heap_setCell_cells _ _ _ _ e0)]; simp
  · subst hb; exact ⟨_, e0⟩
set_option maxHeartbeats 4000000 in
set_option maxRecDepth 100000 in
theorem rcommit_ok {w : World} {r : R13} {t l f y d : Value} (h : RefAt w r t l f y d) (ht : r.taken.length ≤ 65536) (hd : r.dead.length ≤ 65536) (hg : 0 ≤ r.gen) (hg' : r.gen ≤ 1000000000) (hdd : ∀ x ∈ r.dead, ∃ m : Nat, x = m ∧ m < r.taken.length) :
    Calls Tryz.prog 105 #[refV r t l f y d] w (RCom r w) := by
  obtain ⟨ta, tc, rfl, -, -, -, -⟩ := own_slice h.taken
  obtain ⟨la, lc, rfl, -, -, -, -⟩ := own_slice h.live
  obtain ⟨fa, fc, rfl, -, -, -, -⟩ := own_slice h.fresh
  obtain ⟨ya, yc, rfl, -, -, -, -⟩ := own_slice h.dying
  obtain ⟨da, dc, rfl, -, -, -, -⟩ := own_slice h.dead
  obtain ⟨w1, hw1⟩ : ∃ w1, ((w.alloc (.cells #[.slice ta r.taken.length tc, .int .i64 r.hand, .int .i64 r.gen, .slice la r.live.length lc, .slice fa r.fresh.length fc, .slice ya r.dying.length yc, .slice da r.dead.length dc] 64)).alloc (.cells z64 64)) = w1 := ⟨_, rfl⟩
  obtain ⟨b0, b1, F1⟩ := heap_two hw1
  have h0 : CmAt w r 0 w1 := ⟨ta, tc, la, lc, fa, fc, ya, yc, da, dc, b0, b1, F1, h.fr F1⟩
  have HW := hid hw1
  have H1 := hid h0
  have HD := hid hdd
  have hwr : IntKind.i64.wrap (r.gen + 1) = r.gen + 1 := by rw [IntKind.wrap_i64]; omega
  unfold z64 at HW
  clear hw1 b0 b1 F1 h h0 hdd
  go_enter Tryz.func105, Tryz.ntmps105
  go_upto_region 1 with fail
  rw [HW.out]
  go_wp2_with fail
  go_loopw [3, 4, 5] (fun i a b wr => ∃ k : Nat, k ≤ r.dead.length ∧ i = .int .i64 k ∧ CmAt w r k wr) (fun i _ _ _ => r.dead.length - (intOf i).toNat)
  case atStart => exact ⟨0, Nat.zero_le _, rfl, H1.out⟩
  case round =>
    obtain ⟨k, hk, rfl, ta, tc, la, lc, fa, fc, ya, yc, da, dc, e0, e1, F, hR⟩ := hrel
    obtain ⟨c0, c1, c2, c3, c4, c5, c6, cz, cl⟩ := cells7 e0
    have H2 := hid (And.intro e0 (And.intro e1 (And.intro F hR)))
    clear e0 e1 F hR
    by_cases hlt : k < r.dead.length
    · obtain ⟨m, hxm, hmt⟩ := HD.out _ (List.getElem_mem hlt)
      obtain ⟨g, rfl, hgl, hc⟩ := own_cell H2.out.2.2.2.dead (show ((rCm r k).dead.map (Value.int .i64))[k]? = some (.int .i64 m) by simp [rCm, hlt, hxm])
      have HX := hid hxm
      have HC := hid (clearAll_length (r.dead.take k) r.taken)
      clear hxm
      have hdc : decide ((k : Int) < (r.dead.length : Int)) = true := by simp; omega
      go_upto_region 4 with fail
      go_cut [3, 4] from 5 to 25 (fun v3 v4 wx => v3 = .int .i64 k ∧ CmBox w r k (.slice ta r.taken.length tc) (.slice la r.live.length lc) (.slice fa r.fresh.length fc) (.slice ya r.dying.length yc) (.slice (some ⟨g, 0, none⟩) r.dead.length dc) v4 wx)
      case first =>
        go_region_with (first
          | (go_at_call 165; refine (rclear_ok (own_none H2.out.2.2.2.taken ((Fr.refl _ _).drew)) (by have := HC.out; show (clearAll _ _).length ≤ _; omega) r.hand m (by have := HC.out; show _ < (clearAll _ _).length; omega)).mono ?_; rintro _ W2 ⟨tv, bb, rfl, htv, F2⟩; obtain ⟨ta9, tc9, rfl, -, -, -, -⟩ := own_slice htv)
          | (go_at_call 165; refine (rclear_ok (own_none H2.out.2.2.2.taken (((Fr.refl _ _).alloc _).drew)) (by have := HC.out; show (clearAll _ _).length ≤ _; omega) r.hand m (by have := HC.out; show _ < (clearAll _ _).length; omega)).mono ?_; rintro _ W2 ⟨tv, bb, rfl, htv, F2⟩; obtain ⟨ta9, tc9, rfl, -, -, -, -⟩ := own_slice htv; have q9 := F2.heap (hp1d wr _) (fun h => h); obtain ⟨p0, p1, pz, pl⟩ := cells2 q9))
        all_goals (go_wp2_with fail)
        all_goals go_meet
        all_goals first
          | (with_reducible refine ⟨rfl, cm_b (m := m) H2.out.1 H2.out.2.1 H2.out.2.2.1 H2.out.2.2.2 hlt HX.out ?_ q9 htv⟩)
          | (with_reducible refine ⟨rfl, cm_a (m := m) H2.out.1 H2.out.2.1 H2.out.2.2.1 H2.out.2.2.2 hlt HX.out ?_ htv⟩)
        all_goals first
          | exact ((Fr.refl _ wr).drew).trans F2 (fun _ _ h => h)
          | exact (((Fr.refl _ wr).alloc _).drew).trans F2 (fun _ _ h => h)
      obtain ⟨rfl, b, ta9, tc9, rfl, hb, e9, ht9, e0, e1, F9, R9⟩ := hcut
      clear c0 c1 c2 c3 c4 c5 c6 cz cl hc
      obtain ⟨c0, c1, c2, c3, c4, c5, c6, cz, cl⟩ := cells7 e0
      obtain ⟨p0, p1, pz, pl⟩ := cells2 e9
      have H9 := hid (And.intro e0 (And.intro e1 (And.intro ht9 (And.intro F9 R9))))
      clear e0 e1 ht9 F9 R9 e9
      go_wp2_with fail
      go_roundw
      case rel =>
        exact ⟨k + 1, hlt, by go_num, cm_next H9.out.1 H9.out.2.1 H9.out.2.2.1 H9.out.2.2.2.1 H9.out.2.2.2.2⟩
      case measure => simp [intOf]; omega
    · obtain rfl : k = r.dead.length := by omega
      obtain ⟨y0, y1, y2, y3, y4, y5, y6, yz, yl⟩ := cells7 H2.out.2.1
      go_wp2_with fail
      have hRC : RefAt wr r.commit (.slice ta r.taken.length tc) (.slice la r.live.length lc) (.slice none 0 0) (.slice none 0 0) (.slice ya r.dying.length yc) := by
        have h9 := H2.out.2.2.2
        have ht9 := h9.taken
        simp only [rCm, List.take_length] at ht9
        exact ⟨ht9, h9.live, World.ownsRow_nil _ _ _ _, World.ownsRow_nil _ _ _ _, h9.dying⟩
      have HRC := hid hRC
      clear hRC
      refine bodyPost_ret (v := refV r.commit (.slice ta r.taken.length tc) (.slice la r.live.length lc) (.slice none 0 0) (.slice none 0 0) (.slice ya r.dying.length yc)) (by simp [results, go_sem, R13.commit, *]) rfl ⟨?_, ?_⟩
      · have F0 : Fr (fun _ => False) w wr := H2.out.2.2.1
        with_reducible (repeat (first | exact F0 | apply Fr.drew | apply Fr.alloc | refine Fr.setNew ?_ (by omega) _))
      · refine ⟨_, rfl, _, _, _, _, _, rfl, ref_64 (S := fun k => k = w.heap.size ∨ k = w.heap.size + 1) HRC.out ?_ (fun k hk => ?_)⟩
        · with_reducible (repeat (first | exact Fr.refl _ _ | apply Fr.drew | apply Fr.alloc | refine Fr.setCell ?_ (fun _ => by simp) _))
        · rcases hk with rfl | rfl
          · exact ⟨_, H2.out.1⟩
          · exact ⟨_, H2.out.2.1⟩
end Go.Proofs.YtgdhaaokolfdoaaGreatDoor
