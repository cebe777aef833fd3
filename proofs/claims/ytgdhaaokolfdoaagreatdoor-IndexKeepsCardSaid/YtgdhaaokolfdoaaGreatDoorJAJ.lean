/- A pack of texts: LR, SA, SK. Conditions: those that each text names. -/
import Derived.Test.YtgdhaaokolfdoaaGreatDoorJAF
import Derived.Test.YtgdhaaokolfdoaaGreatDoorJAE
import Derived.Deep.RegionHeld3
set_option linter.unusedVariables false
set_option linter.unusedSimpArgs false
set_option linter.unnecessarySimpa false
namespace Go.Sg
open Go.RowKit
structure LRs (w0 w : World) (r bx : Nat) (bs : List Int) (k p s : Int) (l : Value) : Prop where
  x : w.heap[bx]? = some (.cells #[.int .i64 k, .int .i64 p, .int .i64 s, l] 166)
  rd : RdAt w r bs false
  f : Fr (fun _ => False) w0 w
  le : w0.heap.size ≤ r ∧ w0.heap.size ≤ bx
theorem LRs.ne {w0 w : World} {r bx : Nat} {bs : List Int} {k p s : Int} {l : Value} (h : LRs w0 w r bx bs k p s l) : bx ≠ r := by
  intro e
  obtain ⟨a, c, hr, _⟩ := h.rd.ex
  rw [← e, h.x] at hr; cases hr
theorem LRs.call {w0 w w' : World} {r bx : Nat} {bs bs' : List Int} {k p s : Int} {l : Value} (h : LRs w0 w r bx bs k p s l) (F : Fr (fun b => b = r) w w') (hr : RdAt w' r bs' false) : LRs w0 w' r bx bs' k p s l :=
  ⟨F.heap h.x h.ne, hr, h.f.trans (S' := fun b => b = r) F (fun b hb e => by have := h.le.1; omega), h.le⟩
theorem RdAt.fr {S : Nat → Prop} {w w' : World} {r : Nat} {bs : List Int} {bad : Bool} (h : RdAt w r bs bad) (F : Fr S w w') (h1 : ¬ S r) (h2 : ∀ b c, w.heap[b]? = some (.cells c 5) → ¬ S b) : RdAt w' r bs bad := by
  obtain ⟨⟨a, c, hr, hb, hc⟩, hs⟩ := h
  exact ⟨⟨a, c, F.heap hr h1, hb.fr F h2, hc⟩, hs⟩
theorem LRs.set {w0 w : World} {r bx : Nat} {bs : List Int} {k p s : Int} {l : Value} (h : LRs w0 w r bx bs k p s l) (o : Nat) (v : Value) {k' p' s' : Int} {l' : Value}
    (he : (#[.int .i64 k, .int .i64 p, .int .i64 s, l] : Array Value).setIfInBounds o v = #[.int .i64 k', .int .i64 p', .int .i64 s', l']) : LRs w0 (w.setCell ⟨bx, o, none⟩ v) r bx bs k' p' s' l' := by
  have F : Fr (fun b => b = bx) w (w.setCell ⟨bx, o, none⟩ v) := (Fr.refl (fun b => b = bx) _).setCell (a := ⟨bx, o, none⟩) (fun _ => rfl) _
  refine ⟨?_, h.rd.fr F (fun e => h.ne e.symm) (fun b c hc e => by rw [e, h.x] at hc; cases hc), h.f.trans (S' := fun b => b = bx) F (fun b hb e => by have := h.le.2; omega), h.le⟩
  rw [heap_setCell_cells _ _ _ _ h.x, he]
end Go.Sg
namespace Go.Proofs.YtgdhaaokolfdoaaGreatDoor
open Go.RowKit Go.Sg
theorem bad_at {w : World} {r : Nat} {bs : List Int} {bad : Bool} (h : RdAt w r bs bad) : Calls Tryz.prog 218 #[.pointer (some ⟨r, 0, none⟩)] w fun e w' => e = .returned (.bool bad) ∧ w = w' := by
  obtain ⟨⟨a, c, hr, hb, hc⟩, hs⟩ := h
  have c1 := cell_of_heap hr 1
  simp at c1
  clear hr hb hc hs
  go_enter Tryz.func218, Tryz.ntmps218
  go_wp2
  go_ret
  exact ⟨rfl, rfl⟩
end Go.Proofs.YtgdhaaokolfdoaaGreatDoor

namespace Go.Proofs.YtgdhaaokolfdoaaGreatDoor
open Go.RowKit Go.Sg Go.Sg.Bits CP
structure SC (w : World) (B : Blk) (x : Sto) : Prop where
  c0 : w.cell? ⟨B.s, 0, none⟩ = some (.pointer (some ⟨B.d, 0, none⟩))
  c9 : w.cell? ⟨B.s, 9, none⟩ = some (.int .i64 x.first)
  c10 : w.cell? ⟨B.s, 10, none⟩ = some (.int .i64 x.pages)
  c11 : w.cell? ⟨B.s, 11, none⟩ = some (.int .i64 x.room)
  c12 : w.cell? ⟨B.s, 12, none⟩ = some (.int .i64 x.gen)
  c13 : w.cell? ⟨B.s, 13, none⟩ = some (.pointer (some ⟨B.bs, 0, none⟩))
  c14 : w.cell? ⟨B.s, 14, none⟩ = some (.map (some B.fr))
  c15 : w.cell? ⟨B.s, 15, none⟩ = some (.map (some B.dy))
  c16 : w.cell? ⟨B.s, 16, none⟩ = some (.map (some B.de))
  c17 : w.cell? ⟨B.s, 17, none⟩ = some (.pointer (some ⟨B.bc, 0, none⟩))
  z : ∀ o, w.frozen? ⟨B.s, o, none⟩ = false
  lt : B.s < w.heap.size
theorem StoreAt.sc {w : World} {B : Blk} {x : Sto} (h : StoreAt w B x) : SC w B x :=
  ⟨by simpa using cell_of_heap h.s 0, by simpa using cell_of_heap h.s 9, by simpa using cell_of_heap h.s 10, by simpa using cell_of_heap h.s 11, by simpa using cell_of_heap h.s 12, by simpa using cell_of_heap h.s 13,
    by simpa using cell_of_heap h.s 14, by simpa using cell_of_heap h.s 15, by simpa using cell_of_heap h.s 16, by simpa using cell_of_heap h.s 17, fun o => frozen_of_heap h.s o, lt_of_heap h.s⟩
namespace SF
theorem in_ok {w : World} {B : Blk} {x : Sto} (h : StoreAt w B x) (p st : Int) (h0 : 0 ≤ p) (h1 : p < x.pages) :
    Calls Tryz.prog 85 #[B.ptr, .agg #[.int .i64 p, .int .i64 st]] w fun e w' => e = .returned (.int .i64 0) ∧ Fr (fun _ => False) w w' := by
  have c10 := h.sc.c10
  have l := h.sc.lt
  clear h
  go_enter Tryz.func85, Tryz.ntmps85
  go_wp2
  go_quiet (fail)
  go_wp2
  go_ret
  exact ⟨rfl, ((Fr.refl _ _).alloc _).drewN _⟩
end SF
end Go.Proofs.YtgdhaaokolfdoaaGreatDoor

namespace Go.Proofs.YtgdhaaokolfdoaaGreatDoor
open Go.RowKit Go.Sg Go.Sg.Bits Go.Sg.Clk CP
namespace SF
theorem clkR {B : Blk} {b : Nat} (h : b = B.bc ∨ b = B.bp ∨ b = B.bm) : ∃ r ∈ [Role.bc, Role.bp, Role.bm], b = B.at_ r := by
  rcases h with rfl | rfl | rfl
  · exact ⟨.bc, by simp, rfl⟩
  · exact ⟨.bp, by simp, rfl⟩
  · exact ⟨.bm, by simp, rfl⟩
set_option maxHeartbeats 2000000 in
theorem keep_any {R : Ending → World → Prop} {w : World} {B : Blk} {x : Sto} (h : StoreAt w B x) (n : Int) (p : Pg)
    (h0 : ∀ W g, GoneOk x.mem x.places n g → (gV g).dirty = false → MemAt W B.bc B.bp B.bm x.places (putF x.mem n p g) → FrR B [.bc, .bp, .bm] w W → R (.returned (.int .i64 0)) W)
    (h1 : ∀ W g, GoneOk x.mem x.places n (some g) → g.2.dirty = true → MemAt W B.bc B.bp B.bm x.places (putF x.mem n p (some g)) → FrR B [.bc, .bp, .bm] w W → Calls Tryz.prog 110 #[B.ptr, .int .i64 g.1, g.2.val] W fun e W' => ∃ err : Int, e = .returned (.int .i64 err) ∧ R e W') :
    Calls Tryz.prog 82 #[B.ptr, .int .i64 n, p.val] w R := by
  obtain ⟨st, la, ll, lc, di⟩ := p
  have c17 := h.sc.c17
  have l := h.sc.lt
  obtain ⟨w1, hw1⟩ : ∃ w1, w.alloc (.cells #[.int .i64 st, .slice la ll lc, .bool di] 162) = w1 := ⟨_, rfl⟩
  have F1 : Fr (fun _ => False) w w1 := by rw [← hw1]; exact (Fr.refl _ _).alloc _
  have b1 : w1.heap[w.heap.size]? = some (.cells #[.int .i64 st, .slice la ll lc, .bool di] 162) := by rw [← hw1]; exact heap_alloc_new _ _
  obtain ⟨d0, d1, d2, dz, dl⟩ := cells3 b1
  have c17' := (F1.cell (p := ⟨B.s, 17, none⟩) l (fun h => h)).trans c17
  have l' := Nat.lt_of_lt_of_le l F1.size
  have HP := hid (fun W (F : Fr (fun _ => False) w1 W) => (putmem_at (h.mem.fr (F1.trans F (fun _ _ h => h)) (fun h => h) (fun h => h) (fun h => h)) n ⟨st, la, ll, lc, di⟩).mono
    (fun (e : Ending) W' ⟨g, hg, he, hm, F'⟩ => (⟨g, hg, he, hm, Fr.trans (S := fun b => b = B.bc ∨ b = B.bp ∨ b = B.bm) (S' := fun b => b = B.bc ∨ b = B.bp ∨ b = B.bm) (F.mono (fun _ _ h => h.elim)) F' (fun _ _ h => h), F'⟩ :
      ∃ g, GoneOk x.mem x.places n g ∧ e = Ending.returned (.tuple #[.int .i64 (gK g), (gV g).val, .bool g.isSome]) ∧ MemAt W' B.bc B.bp B.bm x.places (putF x.mem n ⟨st, la, ll, lc, di⟩ g) ∧ Fr (fun b => b = B.bc ∨ b = B.bp ∨ b = B.bm) w1 W' ∧ Fr (fun b => b = B.bc ∨ b = B.bp ∨ b = B.bm) W W')))
  have nS : ¬ (B.s = B.bc ∨ B.s = B.bp ∨ B.s = B.bm) := by
    have a1 := h.out (L := [.bc, .bp, .bm]) (r := .s) (by decide)
    simpa [Blk.at_] using a1
  have nW : ¬ (w.heap.size = B.bc ∨ w.heap.size = B.bp ∨ w.heap.size = B.bm) := by
    have := h.mem.lts
    omega
  have NX := hid (show ¬ (w1.heap.size = B.bc ∨ w1.heap.size = B.bp ∨ w1.heap.size = B.bm) by have := h.mem.lts; omega)
  have NS := hid nS
  have NW := hid nW
  clear nS nW
  have m1 : ¬ w1.heap.size = B.s := by omega
  have m2 : ¬ w1.heap.size = w.heap.size := by omega
  have HW := hid hw1
  have H0 := hid h0
  have H1 := hid h1
  have HF1 := hid F1
  clear h h0 h1 c17 hw1 b1 F1
  go_enter Tryz.func82, Tryz.ntmps82
  go_wp2
  rw [HW.out]
  go_region_held3 (fun W => W.cell? ⟨B.s, 17, none⟩ = some (.pointer (some ⟨B.bc, 0, none⟩)) ∧ W.cell? ⟨w.heap.size, 0, none⟩ = some (.int .i64 st) ∧ W.cell? ⟨w.heap.size, 1, none⟩ = some (.slice la ll lc) ∧ W.cell? ⟨w.heap.size, 2, none⟩ = some (.bool di))
    (go_keep)
    ((go_at_call 111; refine (HP.out _ (by first | exact ((Fr.refl _ _).alloc _) | exact (Fr.refl _ _) | exact ((Fr.refl _ _).drew) | exact ((Fr.refl _ _).alloc _).drew | exact ((Fr.refl _ _).drew.alloc _))).mono ?_; rintro e w7 ⟨g, hg, rfl, hm, F7, F8⟩; have e0 := fun (i : Nat) (hh : w1.heap.size < _) => F8.cell (p := ⟨w1.heap.size, i, none⟩) hh NX.out; have ez := fun (i : Nat) (hh : w1.heap.size < _) => World.frozen?_of_block (a := ⟨w1.heap.size, i, none⟩) (F8.block w1.heap.size hh NX.out); have el := F8.size; have el7 := F7.size; have m3 : ¬ w7.heap.size = B.s := (by omega); have m4 : ¬ w7.heap.size = w.heap.size := (by omega); have c17' := (F7.cell (p := ⟨B.s, 17, none⟩) l' NS.out).trans c17'; have d0 := (F7.cell (p := ⟨w.heap.size, 0, none⟩) dl NW.out).trans d0; have d1 := (F7.cell (p := ⟨w.heap.size, 1, none⟩) dl NW.out).trans d1; have d2 := (F7.cell (p := ⟨w.heap.size, 2, none⟩) dl NW.out).trans d2; have HF7 := hid F7; have HM := hid hm; have HG := hid hg; clear F7 hm hg F8))
  all_goals clear m1 m2 m3 m4
  all_goals rcases g with _ | ⟨gk, ⟨gst, ga, gl, gc, gd⟩⟩
  all_goals try simp only [gK, gV, Option.map_none, Option.map_some, Option.getD_none, Option.getD_some, Option.isSome_none, Option.isSome_some, Pg.zero]
  all_goals have FA : FrR B [.bc, .bp, .bm] w w7 := (HF1.out.mono (fun _ _ h => h.elim)).trans HF7.out (fun b _ h => clkR h)
  all_goals have FA := hid FA
  · go_wp2
    exact H0.out _ none HG.out rfl (HM.out.fr ((Fr.refl (fun _ => False) _).alloc _) (fun h => h) (fun h => h) (fun h => h)) (FA.out.alloc _)
  · cases gd with
    | false =>
      go_wp2
      exact H0.out _ _ HG.out rfl (HM.out.fr ((Fr.refl (fun _ => False) _).alloc _) (fun h => h) (fun h => h) (fun h => h)) (FA.out.alloc _)
    | true =>
      go_wp2_with fail
      refine (H1.out _ _ HG.out rfl (HM.out.fr ((Fr.refl (fun _ => False) _).alloc _) (fun h => h) (fun h => h) (fun h => h)) (FA.out.alloc _)).mono ?_
      rintro e w9 ⟨err, rfl, hR⟩
      have HR := hid hR
      clear hR
      go_wp2
      exact HR.out
  · go_wp2
    exact H0.out _ none HG.out rfl (HM.out.fr (Fr.set3 (S := fun b => b = w1.heap.size) (b := w1.heap.size) (Fr.refl _ _) rfl _ _ _) (fun h => NX.out (.inl h.symm)) (fun h => NX.out (.inr (.inl h.symm))) (fun h => NX.out (.inr (.inr h.symm)))) (Fr.set3n FA.out (by omega) _ _ _)
  · cases gd with
    | false =>
      go_wp2
      exact H0.out _ _ HG.out rfl (HM.out.fr (Fr.set3 (S := fun b => b = w1.heap.size) (b := w1.heap.size) (Fr.refl _ _) rfl _ _ _) (fun h => NX.out (.inl h.symm)) (fun h => NX.out (.inr (.inl h.symm))) (fun h => NX.out (.inr (.inr h.symm)))) (Fr.set3n FA.out (by omega) _ _ _)
    | true =>
      go_wp2_with fail
      refine (H1.out _ _ HG.out rfl (HM.out.fr (Fr.set3 (S := fun b => b = w1.heap.size) (b := w1.heap.size) (Fr.refl _ _) rfl _ _ _) (fun h => NX.out (.inl h.symm)) (fun h => NX.out (.inr (.inl h.symm))) (fun h => NX.out (.inr (.inr h.symm)))) (Fr.set3n FA.out (by omega) _ _ _)).mono ?_
      rintro e w9 ⟨err, rfl, hR⟩
      have HR := hid hR
      clear hR
      go_wp2
      exact HR.out
end SF
end Go.Proofs.YtgdhaaokolfdoaaGreatDoor
