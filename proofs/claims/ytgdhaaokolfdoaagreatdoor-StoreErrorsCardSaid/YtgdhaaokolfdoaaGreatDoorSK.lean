/- The store: keep. Conditions: the store lies in the world as StoreAt says. -/
import Derived.Test.YtgdhaaokolfdoaaGreatDoorSA
import Derived.Deep.RegionHeld3
namespace Go.Proofs.YtgdhaaokolfdoaaGreatDoor
open Go.RowKit Go.Sg Go.Sg.Bits Go.Sg.Clk CP
namespace SF
theorem clkR {B : Blk} {b : Nat} (h : b = B.bc ∨ b = B.bp ∨ b = B.bm) : ∃ r ∈ [Role.bc, Role.bp, Role.bm], b = B.at_ r := by
  rcases h with rfl | rfl | rfl
  · exact ⟨.bc, by simp, rfl⟩
  · exact ⟨.bp, by simp, rfl⟩
  · exact ⟨.bm, by simp, rfl⟩
set_option maxHeartbeats 2000000 in
theorem keep_any {R : Ending → World → Prop} {w : World} {B : Blk} {x : Sto} (h : StoreAt w B x) (n : Int) (p : Pg)
    (h0 : ∀ W g, GoneOk x.mem x.places n g → (gV g).dirty = false → MemAt W B.bc B.bp B.bm x.places (putF x.mem n p g) → FrR B [.bc, .bp, .bm] w W → R (.returned (.int .i64 0)) W)
    (h1 : ∀ W g, GoneOk x.mem x.places n (some g) → g.2.dirty = true → MemAt W B.bc B.bp B.bm x.places (putF x.mem n p (some g)) → FrR B [.bc, .bp, .bm] w W → Calls Tryz.prog 110 #[B.ptr, .int .i64 g.1, g.2.val] W fun e W' => ∃ err : Int, e = .returned (.int .i64 err) ∧ R e W') :
    Calls Tryz.prog 82 #[B.ptr, .int .i64 n, p.val] w R := by
  obtain ⟨st, la, ll, lc, di⟩ := p
  have c17 := h.sc.c17
  have l := h.sc.lt
  obtain ⟨w1, hw1⟩ : ∃ w1, w.alloc (.cells #[.int .i64 st, .slice la ll lc, .bool di] 162) = w1 := ⟨_, rfl⟩
  have F1 : Fr (fun _ => False) w w1 := by rw [← hw1]; exact (Fr.refl _ _).alloc _
  have b1 : w1.heap[w.heap.size]? = some (.cells #[.int .i64 st, .slice la ll lc, .bool di] 162) := by rw [← hw1]; exact heap_alloc_new _ _
  obtain ⟨d0, d1, d2, dz, dl⟩ := cells3 b1
  have c17' := (F1.cell (p := ⟨B.s, 17, none⟩) l (fun h => h)).trans c17
  have l' := Nat.lt_of_lt_of_le l F1.size
  have HP := hid (fun W (F : Fr (fun _ => False) w1 W) => (putmem_at (h.mem.fr (F1.trans F (fun _ _ h => h)) (fun h => h) (fun h => h) (fun h => h)) n ⟨st, la, ll, lc, di⟩).mono
    (fun (e : Ending) W' ⟨g, hg, he, hm, F'⟩ => (⟨g, hg, he, hm, Fr.trans (S := fun b => b = B.bc ∨ b = B.bp ∨ b = B.bm) (S' := fun b => b = B.bc ∨ b = B.bp ∨ b = B.bm) (F.mono (fun _ _ h => h.elim)) F' (fun _ _ h => h), F'⟩ :
      ∃ g, GoneOk x.mem x.places n g ∧ e = Ending.returned (.tuple #[.int .i64 (gK g), (gV g).val, .bool g.isSome]) ∧ MemAt W' B.bc B.bp B.bm x.places (putF x.mem n ⟨st, la, ll, lc, di⟩ g) ∧ Fr (fun b => b = B.bc ∨ b = B.bp ∨ b = B.bm) w1 W' ∧ Fr (fun b => b = B.bc ∨ b = B.bp ∨ b = B.bm) W W')))
  have nS : ¬ (B.s = B.bc ∨ B.s = B.bp ∨ B.s = B.bm) := by
    have a1 := h.out (L := [.bc, .bp, .bm]) (r := .s) (by decide)
    simpa [Blk.at_] using a1
  have nW : ¬ (w.heap.size = B.bc ∨ w.heap.size = B.bp ∨ w.heap.size = B.bm) := by
    have := h.mem.lts
    omega
  have NX := hid (show ¬ (w1.heap.size = B.bc ∨ w1.heap.size = B.bp ∨ w1.heap.size = B.bm) by have := h.mem.lts; omega)
  have NS := hid nS
  have NW := hid nW
  clear nS nW
  have m1 : ¬ w1.heap.size = B.s := by omega
  have m2 : ¬ w1.heap.size = w.heap.size := by omega
  have HW := hid hw1
  have H0 := hid h0
  have H1 := hid h1
  have HF1 := hid F1
  clear h h0 h1 c17 hw1 b1 F1
  go_enter Tryz.func82, Tryz.ntmps82
  go_wp2
  rw [HW.out]
  go_region_held3 (fun W => W.cell? ⟨B.s, 17, none⟩ = some (.pointer (some ⟨B.bc, 0, none⟩)) ∧ W.cell? ⟨w.heap.size, 0, none⟩ = some (.int .i64 st) ∧ W.cell? ⟨w.heap.size, 1, none⟩ = some (.slice la ll lc) ∧ W.cell? ⟨w.heap.size, 2, none⟩ = some (.bool di))
    (go_keep)
    ((go_at_call 111; refine (HP.out _ (by first | exact ((Fr.refl _ _).alloc _) | exact (Fr.refl _ _) | exact ((Fr.refl _ _).drew) | exact ((Fr.refl _ _).alloc _).drew | exact ((Fr.refl _ _).drew.alloc _))).mono ?_; rintro e w7 ⟨g, hg, rfl, hm, F7, F8⟩; have e0 := fun (i : Nat) (hh : w1.heap.size < _) => F8.cell (p := ⟨w1.heap.size, i, none⟩) hh NX.out; have ez := fun (i : Nat) (hh : w1.heap.size < _) => World.frozen?_of_block (a := ⟨w1.heap.size, i, none⟩) (F8.block w1.heap.size hh NX.out); have el := F8.size; have el7 := F7.size; have m3 : ¬ w7.heap.size = B.s := (by omega); have m4 : ¬ w7.heap.size = w.heap.size := (by omega); have c17' := (F7.cell (p := ⟨B.s, 17, none⟩) l' NS.out).trans c17'; have d0 := (F7.cell (p := ⟨w.heap.size, 0, none⟩) dl NW.out).trans d0; have d1 := (F7.cell (p := ⟨w.heap.size, 1, none⟩) dl NW.out).trans d1; have d2 := (F7.cell (p := ⟨w.heap.size, 2, none⟩) dl NW.out).trans d2; have HF7 := hid F7; have HM := hid hm; have HG := hid hg; clear F7 hm hg F8))
  all_goals clear m1 m2 m3 m4
  all_goals rcases g with _ | ⟨gk, ⟨gst, ga, gl, gc, gd⟩⟩
  all_goals try simp only [gK, gV, Option.map_none, Option.map_some, Option.getD_none, Option.getD_some, Option.isSome_none, Option.isSome_some, Pg.zero]
  all_goals have FA : FrR B [.bc, .bp, .bm] w w7 := (HF1.out.mono (fun _ _ h => h.elim)).trans HF7.out (fun b _ h => clkR h)
  all_goals have FA := hid FA
  · go_wp2
    exact H0.out _ none HG.out rfl (HM.out.fr ((Fr.refl (fun _ => False) _).alloc _) (fun h => h) (fun h => h) (fun h => h)) (FA.out.alloc _)
  · cases gd with
    | false =>
      go_wp2
      exact H0.out _ _ HG.out rfl (HM.out.fr ((Fr.refl (fun _ => False) _).alloc _) (fun h => h) (fun h => h) (fun h => h)) (FA.out.alloc _)
    | true =>
      go_wp2_with fail
      refine (H1.out _ _ HG.out rfl (HM.out.fr ((Fr.refl (fun _ => False) _).alloc _) (fun h => h) (fun h => h) (fun h => h)) (FA.out.alloc _)).mono ?_
      rintro e w9 ⟨err, rfl, hR⟩
      have HR := hid hR
      clear hR
      go_wp2
      exact HR.out
  · go_wp2
    exact H0.out _ none HG.out rfl (HM.out.fr (Fr.set3 (S := fun b => b = w1.heap.size) (b := w1.heap.size) (Fr.refl _ _) rfl _ _ _) (fun h => NX.out (.inl h.symm)) (fun h => NX.out (.inr (.inl h.symm))) (fun h => NX.out (.inr (.inr h.symm)))) (Fr.set3n FA.out (by omega) _ _ _)
  · cases gd with
    | false =>
      go_wp2
      exact H0.out _ _ HG.out rfl (HM.out.fr (Fr.set3 (S := fun b => b = w1.heap.size) (b := w1.heap.size) (Fr.refl _ _) rfl _ _ _) (fun h => NX.out (.inl h.symm)) (fun h => NX.out (.inr (.inl h.symm))) (fun h => NX.out (.inr (.inr h.symm)))) (Fr.set3n FA.out (by omega) _ _ _)
    | true =>
      go_wp2_with fail
      refine (H1.out _ _ HG.out rfl (HM.out.fr (Fr.set3 (S := fun b => b = w1.heap.size) (b := w1.heap.size) (Fr.refl _ _) rfl _ _ _) (fun h => NX.out (.inl h.symm)) (fun h => NX.out (.inr (.inl h.symm))) (fun h => NX.out (.inr (.inr h.symm)))) (Fr.set3n FA.out (by omega) _ _ _)).mono ?_
      rintro e w9 ⟨err, rfl, hR⟩
      have HR := hid hR
      clear hR
      go_wp2
      exact HR.out
end SF
end Go.Proofs.YtgdhaaokolfdoaaGreatDoor
