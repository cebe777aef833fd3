/- The store: Free, Mark. Conditions: the store lies in the world as StoreAt says. -/
import Derived.Test.YtgdhaaokolfdoaaGreatDoorSE
namespace Go.Proofs.YtgdhaaokolfdoaaGreatDoor
open Go.RowKit Go.Sg Go.Sg.Bits Go.Sg.Clk CP
namespace SF
set_option maxHeartbeats 1000000 in
theorem free_none {w : World} {B : Blk} {x : Sto} (h : StoreAt w B x) (n : Nat) (st : Int) (hp : n < x.pages) (ht : x.taken n = false) :
    Calls Tryz.prog 27 #[B.ptr, .agg #[.int .i64 n, .int .i64 st]] w fun e w' => e = .returned (.int .i64 7) ∧ Fr (fun _ => False) w w' := by
  obtain ⟨w1, hw1⟩ : ∃ w1, w.alloc (.cells #[.int .i64 n, .int .i64 st] 35) = w1 := ⟨_, rfl⟩
  have F1 : Fr (fun _ => False) w w1 := by rw [← hw1]; exact (Fr.refl _ _).alloc _
  have b1 : w1.heap[w.heap.size]? = some (.cells #[.int .i64 n, .int .i64 st] 35) := by rw [← hw1]; exact heap_alloc_new _ _
  obtain ⟨d0, d1, dz, dl⟩ := cells2 b1
  have HI := hid (in_ok (h.fr0 F1) n st (by omega) (by omega))
  have H1 := hid (h.fr0 F1)
  have HT := hid ht
  have HW := hid hw1
  have HB1 := hid b1
  have HF1 := hid F1
  clear hw1 b1 F1 h ht
  go_enter Tryz.func27, Tryz.ntmps27
  go_wp2_with fail
  rw [HW.out]
  refine HI.out.mono ?_
  rintro e w2 ⟨rfl, F2⟩
  obtain ⟨f0, f1, fz, fl⟩ := cells2 (F2.heap HB1.out (fun h => h))
  have h2 := H1.out.fr0 F2
  have g13 := h2.sc.c13
  have HH := hid (fun W (F : Fr (fun _ => False) w2 W) => (has_at (h2.bits.fr F (fun h => h) (fun h => h)) n hp))
  rw [HT.out] at HH
  have HF2 := hid F2
  clear F2 h2
  go_wp2
  go_quiet ((go_at_call 88; exact quiet_left (HH.out _ ((Fr.refl _ _).drewN _))))
  go_wp2
  go_ret
  exact ⟨rfl, (HF1.out.trans HF2.out (fun _ _ h => h)).drewN _⟩
theorem gone_any {w : World} {B : Blk} {x : Sto} (h : StoreAt w B x) {n : Nat} (hn : n < x.pages) (ht : x.taken n = true) :
    Calls Tryz.prog 89 #[B.ptr, .int .i64 n] w fun e w' => e = .returned (.tuple #[]) ∧ StoreAt w' B (goneX x n) ∧ FrB B.base w w' := by
  cases hf : x.fresh n with
  | false => exact (gone_dying h hn hf).mono fun e w' ⟨he, hS, hF⟩ => ⟨he, hS, h.frB hF⟩
  | true => exact (gone_fresh h hn hf ht).mono fun e w' ⟨he, hS, hF⟩ => ⟨he, hS, h.frB hF⟩
set_option maxHeartbeats 2000000 in
theorem free_ok {w : World} {B : Blk} {x : Sto} (h : StoreAt w B x) (n : Nat) (st : Int) (hp : n < x.pages) (ht : x.taken n = true) (hy : x.dying n = false) (he : x.dead n = false) :
    Calls Tryz.prog 27 #[B.ptr, .agg #[.int .i64 n, .int .i64 st]] w fun e w' => e = .returned (.int .i64 0) ∧ StoreAt w' B (goneX x n) ∧ FrB B.base w w' := by
  obtain ⟨w1, hw1⟩ : ∃ w1, w.alloc (.cells #[.int .i64 n, .int .i64 st] 35) = w1 := ⟨_, rfl⟩
  have F1 : Fr (fun _ => False) w w1 := by rw [← hw1]; exact (Fr.refl _ _).alloc _
  have b1 : w1.heap[w.heap.size]? = some (.cells #[.int .i64 n, .int .i64 st] 35) := by rw [← hw1]; exact heap_alloc_new _ _
  obtain ⟨d0, d1, dz, dl⟩ := cells2 b1
  have HI := hid (in_ok (h.fr0 F1) n st (by omega) (by omega))
  have H1 := hid (h.fr0 F1)
  have HT := hid ht
  have HY := hid (And.intro hy he)
  have HW := hid hw1
  have HB1 := hid b1
  have HF1 := hid F1
  clear hw1 b1 F1 h ht hy he
  go_enter Tryz.func27, Tryz.ntmps27
  go_wp2_with fail
  rw [HW.out]
  refine HI.out.mono ?_
  rintro e w2 ⟨rfl, F2⟩
  obtain ⟨f0, f1, fz, fl⟩ := cells2 (F2.heap HB1.out (fun h => h))
  have h2 := H1.out.fr0 F2
  have g13 := h2.sc.c13
  have g15 := h2.sc.c15
  have g16 := h2.sc.c16
  have HH := hid (fun W (F : Fr (fun _ => False) w2 W) => (has_at (h2.bits.fr F (fun h => h) (fun h => h)) n hp))
  rw [HT.out] at HH
  obtain ⟨lf, cf, hfm, hfs⟩ := h2.dy.ex
  have hlk := fun (W : World) (hW : W.heap[B.dy]? = some (.map (ents lf) cf)) => run_lookup (P := Tryz.prog) (T := 153) false Tryz.underlying153 Tryz.underlying3 Tryz.zero4 hW n
  rw [hfs.at_, HY.out.1] at hlk
  simp only [if_true, Option.getD_some, Option.getD_none, Bool.false_eq_true, if_false] at hlk
  obtain ⟨le, ce, hem, hes⟩ := h2.de.ex
  have hlk2 := fun (W : World) (hW : W.heap[B.de]? = some (.map (ents le) ce)) => run_lookup (P := Tryz.prog) (T := 153) false Tryz.underlying153 Tryz.underlying3 Tryz.zero4 hW n
  rw [hes.at_, HY.out.2] at hlk2
  simp only [if_true, Option.getD_some, Option.getD_none, Bool.false_eq_true, if_false] at hlk2
  have HF2 := hid F2
  have H2 := hid h2
  clear F2 h2 hfs hes
  go_wp2
  go_quiet ((go_at_call 88; exact quiet_left (HH.out _ ((Fr.refl _ _).drewN _))))
  go_wp2_with fail
  refine (gone_any (H2.out.fr0 ((Fr.refl _ _).drewN nq)) hp HT.out).mono ?_
  rintro e w3 ⟨rfl, hS, F3⟩
  have H3 := hid (And.intro hS F3)
  clear hS F3
  go_wp2
  go_ret
  exact ⟨rfl, H3.out.1, (FrB.none (HF1.out.trans (HF2.out.drewN nq) (fun _ _ h => h))).trans H3.out.2⟩
set_option maxHeartbeats 2000000 in
theorem mark_free {w : World} {B : Blk} {x : Sto} (h : StoreAt w B x) (n : Nat) (st : Int) (hp : n < x.pages) (ht : x.taken n = false) :
    Calls Tryz.prog 28 #[B.ptr, .agg #[.int .i64 n, .int .i64 st]] w fun e w' => e = .returned (.int .i64 0) ∧ StoreAt w' B { x with taken := upd x.taken n true } ∧ FrB B.base w w' := by
  obtain ⟨w1, hw1⟩ : ∃ w1, w.alloc (.cells #[.int .i64 n, .int .i64 st] 35) = w1 := ⟨_, rfl⟩
  have F1 : Fr (fun _ => False) w w1 := by rw [← hw1]; exact (Fr.refl _ _).alloc _
  have b1 : w1.heap[w.heap.size]? = some (.cells #[.int .i64 n, .int .i64 st] 35) := by rw [← hw1]; exact heap_alloc_new _ _
  obtain ⟨d0, d1, dz, dl⟩ := cells2 b1
  have HI := hid (in_ok (h.fr0 F1) n st (by omega) (by omega))
  have H1 := hid (h.fr0 F1)
  have HT := hid ht
  have HW := hid hw1
  have HB1 := hid b1
  have HF1 := hid F1
  clear hw1 b1 F1 h ht
  go_enter Tryz.func28, Tryz.ntmps28
  go_wp2_with fail
  rw [HW.out]
  refine HI.out.mono ?_
  rintro e w2 ⟨rfl, F2⟩
  obtain ⟨f0, f1, fz, fl⟩ := cells2 (F2.heap HB1.out (fun h => h))
  have h2 := H1.out.fr0 F2
  have g13 := h2.sc.c13
  have NS := hid (h2.ner (r := .s) (r' := .bw) (by decide))
  have HH := hid (fun W (F : Fr (fun _ => False) w2 W) => (mark_new (h2.bits.fr F (fun h => h) (fun h => h)) n hp HT.out).mono (fun (e : Ending) W' ⟨he, hb, F'⟩ => (⟨he, hb, Fr.trans (S := fun b => b = B.bw) (S' := fun b => b = B.bw) (F.mono (fun _ _ h => h.elim)) F' (fun _ _ h => h)⟩ :
      e = Ending.returned (.bool true) ∧ BitsAt W' B.bs B.bw x.pages x.hand (upd x.taken n true) ∧ Fr (fun b => b = B.bw) w2 W')))
  have NW := hid (show ¬ w.heap.size = B.bw by
    have := H1.out.heaps .bw
    have h3 := kd_cells HB1.out
    intro e
    rw [e] at h3
    have h4 := this.2.2.2
    simp only [Blk.at_] at h4
    rw [h4] at h3
    simp [Role.kind] at h3)
  have ls := h2.sc.lt
  have HF2 := hid F2
  have H2 := hid h2
  clear F2 h2
  go_wp2
  go_region_held3 (fun W => W.cell? ⟨B.s, 13, none⟩ = some (.pointer (some ⟨B.bs, 0, none⟩)) ∧ W.cell? ⟨w.heap.size, 0, none⟩ = some (.int .i64 n)) (go_keep)
    ((go_at_call 90; refine (HH.out _ (by first | exact (Fr.refl _ _) | exact ((Fr.refl _ _).drew))).mono ?_; rintro e w3 ⟨rfl, hb3, F3⟩; have g13 := (F3.cell (p := ⟨B.s, 13, none⟩) ls NS.out).trans g13; have f0 := (F3.cell (p := ⟨w.heap.size, 0, none⟩) fl NW.out).trans f0; have H3 := hid (And.intro hb3 F3); clear hb3 F3))
  go_wp2
  go_ret
  obtain ⟨hb3, F3⟩ := H3.out
  have FR : FrR B [.bw] w2 w3 := F3.mono (fun b _ h => ⟨.bw, by simp, h⟩)
  have S := H2.out.stays FR
  refine ⟨rfl, ⟨S.s (by decide), S.dev (by decide) (by decide) (by decide), hb3, S.fr (by decide), S.dy (by decide), S.de (by decide), S.mem (by decide) (by decide) (by decide), S.load, H2.out.ne, H2.out.ge, H2.out.rg, H2.out.inr⟩, ?_⟩
  exact (FrB.none (HF1.out.trans HF2.out (fun _ _ h => h))).trans (H2.out.frB FR)
set_option maxHeartbeats 2000000 in
theorem mark_taken {w : World} {B : Blk} {x : Sto} (h : StoreAt w B x) (n : Nat) (st : Int) (hp : n < x.pages) (ht : x.taken n = true) :
    Calls Tryz.prog 28 #[B.ptr, .agg #[.int .i64 n, .int .i64 st]] w fun e w' => e = .returned (.int .i64 8) ∧ Fr (fun _ => False) w w' := by
  obtain ⟨w1, hw1⟩ : ∃ w1, w.alloc (.cells #[.int .i64 n, .int .i64 st] 35) = w1 := ⟨_, rfl⟩
  have F1 : Fr (fun _ => False) w w1 := by rw [← hw1]; exact (Fr.refl _ _).alloc _
  have b1 : w1.heap[w.heap.size]? = some (.cells #[.int .i64 n, .int .i64 st] 35) := by rw [← hw1]; exact heap_alloc_new _ _
  obtain ⟨d0, d1, dz, dl⟩ := cells2 b1
  have HI := hid (in_ok (h.fr0 F1) n st (by omega) (by omega))
  have H1 := hid (h.fr0 F1)
  have HT := hid ht
  have HW := hid hw1
  have HB1 := hid b1
  have HF1 := hid F1
  clear hw1 b1 F1 h ht
  go_enter Tryz.func28, Tryz.ntmps28
  go_wp2_with fail
  rw [HW.out]
  refine HI.out.mono ?_
  rintro e w2 ⟨rfl, F2⟩
  obtain ⟨f0, f1, fz, fl⟩ := cells2 (F2.heap HB1.out (fun h => h))
  have h2 := H1.out.fr0 F2
  have g13 := h2.sc.c13
  have HH := hid (fun W (F : Fr (fun _ => False) w2 W) => mark_there (h2.bits.fr F (fun h => h) (fun h => h)) n hp HT.out)
  have HF2 := hid F2
  clear F2 h2
  go_wp2
  go_quiet ((go_at_call 90; exact quiet_left (HH.out _ ((Fr.refl _ _).drewN _))))
  go_wp2
  go_ret
  exact ⟨rfl, (HF1.out.trans HF2.out (fun _ _ h => h)).drewN _⟩
end SF
end Go.Proofs.YtgdhaaokolfdoaaGreatDoor
