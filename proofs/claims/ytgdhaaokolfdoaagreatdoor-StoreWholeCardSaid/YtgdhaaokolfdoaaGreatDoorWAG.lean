/- A pack of texts: LR, SA, SK, SL, SG. Conditions: those that each text names. -/
import Derived.Test.YtgdhaaokolfdoaaGreatDoorWAD
import Derived.Test.YtgdhaaokolfdoaaGreatDoorWAC
import Derived.Deep.RegionHeld3
set_option linter.unusedVariables false
set_option linter.unusedSimpArgs false
set_option linter.unnecessarySimpa false
/- leaf: right, Read, Get of a sector that was never written. Conditions: the sector's bytes are 0. -/
namespace Go.Sg
open Go.RowKit
/-- Within leaf.Read: the leaf that is being read, and the reader. -/
structure LRs (w0 w : World) (r bx : Nat) (bs : List Int) (k p s : Int) (l : Value) : Prop where
  x : w.heap[bx]? = some (.cells #[.int .i64 k, .int .i64 p, .int .i64 s, l] 166)
  rd : RdAt w r bs false
  f : Fr (fun _ => False) w0 w
  le : w0.heap.size ≤ r ∧ w0.heap.size ≤ bx
theorem LRs.ne {w0 w : World} {r bx : Nat} {bs : List Int} {k p s : Int} {l : Value} (h : LRs w0 w r bx bs k p s l) : bx ≠ r := by
  intro e
  obtain ⟨a, c, hr, _⟩ := h.rd.ex
  rw [← e, h.x] at hr; cases hr
theorem LRs.call {w0 w w' : World} {r bx : Nat} {bs bs' : List Int} {k p s : Int} {l : Value} (h : LRs w0 w r bx bs k p s l) (F : Fr (fun b => b = r) w w') (hr : RdAt w' r bs' false) : LRs w0 w' r bx bs' k p s l :=
  ⟨F.heap h.x h.ne, hr, h.f.trans (S' := fun b => b = r) F (fun b hb e => by have := h.le.1; omega), h.le⟩
theorem RdAt.fr {S : Nat → Prop} {w w' : World} {r : Nat} {bs : List Int} {bad : Bool} (h : RdAt w r bs bad) (F : Fr S w w') (h1 : ¬ S r) (h2 : ∀ b c, w.heap[b]? = some (.cells c 5) → ¬ S b) : RdAt w' r bs bad := by
  obtain ⟨⟨a, c, hr, hb, hc⟩, hs⟩ := h
  exact ⟨⟨a, c, F.heap hr h1, hb.fr F h2, hc⟩, hs⟩
theorem LRs.set {w0 w : World} {r bx : Nat} {bs : List Int} {k p s : Int} {l : Value} (h : LRs w0 w r bx bs k p s l) (o : Nat) (v : Value) {k' p' s' : Int} {l' : Value}
    (he : (#[.int .i64 k, .int .i64 p, .int .i64 s, l] : Array Value).setIfInBounds o v = #[.int .i64 k', .int .i64 p', .int .i64 s', l']) : LRs w0 (w.setCell ⟨bx, o, none⟩ v) r bx bs k' p' s' l' := by
  have F : Fr (fun b => b = bx) w (w.setCell ⟨bx, o, none⟩ v) := (Fr.refl (fun b => b = bx) _).setCell (a := ⟨bx, o, none⟩) (fun _ => rfl) _
  refine ⟨?_, h.rd.fr F (fun e => h.ne e.symm) (fun b c hc e => by rw [e, h.x] at hc; cases hc), h.f.trans (S' := fun b => b = bx) F (fun b hb e => by have := h.le.2; omega), h.le⟩
  rw [heap_setCell_cells _ _ _ _ h.x, he]
end Go.Sg
namespace Go.Proofs.YtgdhaaokolfdoaaGreatDoor
open Go.RowKit Go.Sg
theorem bad_at {w : World} {r : Nat} {bs : List Int} {bad : Bool} (h : RdAt w r bs bad) : Calls Tryz.prog 218 #[.pointer (some ⟨r, 0, none⟩)] w fun e w' => e = .returned (.bool bad) ∧ w = w' := by
  obtain ⟨⟨a, c, hr, hb, hc⟩, hs⟩ := h
  have c1 := cell_of_heap hr 1
  simp at c1
  clear hr hb hc hs
  go_enter Tryz.func218, Tryz.ntmps218
  go_wp2
  go_ret
  exact ⟨rfl, rfl⟩
end Go.Proofs.YtgdhaaokolfdoaaGreatDoor

/- The store: in, Gen, Held, Plan, Mark. Conditions: the store lies in the world as StoreAt says. -/
namespace Go.Proofs.YtgdhaaokolfdoaaGreatDoor
open Go.RowKit Go.Sg Go.Sg.Bits CP
/-- The cells of a store, one by one. -/
structure SC (w : World) (B : Blk) (x : Sto) : Prop where
  c0 : w.cell? ⟨B.s, 0, none⟩ = some (.pointer (some ⟨B.d, 0, none⟩))
  c9 : w.cell? ⟨B.s, 9, none⟩ = some (.int .i64 x.first)
  c10 : w.cell? ⟨B.s, 10, none⟩ = some (.int .i64 x.pages)
  c11 : w.cell? ⟨B.s, 11, none⟩ = some (.int .i64 x.room)
  c12 : w.cell? ⟨B.s, 12, none⟩ = some (.int .i64 x.gen)
  c13 : w.cell? ⟨B.s, 13, none⟩ = some (.pointer (some ⟨B.bs, 0, none⟩))
  c14 : w.cell? ⟨B.s, 14, none⟩ = some (.map (some B.fr))
  c15 : w.cell? ⟨B.s, 15, none⟩ = some (.map (some B.dy))
  c16 : w.cell? ⟨B.s, 16, none⟩ = some (.map (some B.de))
  c17 : w.cell? ⟨B.s, 17, none⟩ = some (.pointer (some ⟨B.bc, 0, none⟩))
  z : ∀ o, w.frozen? ⟨B.s, o, none⟩ = false
  lt : B.s < w.heap.size
theorem StoreAt.sc {w : World} {B : Blk} {x : Sto} (h : StoreAt w B x) : SC w B x :=
  ⟨by simpa using cell_of_heap h.s 0, by simpa using cell_of_heap h.s 9, by simpa using cell_of_heap h.s 10, by simpa using cell_of_heap h.s 11, by simpa using cell_of_heap h.s 12, by simpa using cell_of_heap h.s 13,
    by simpa using cell_of_heap h.s 14, by simpa using cell_of_heap h.s 15, by simpa using cell_of_heap h.s 16, by simpa using cell_of_heap h.s 17, fun o => frozen_of_heap h.s o, lt_of_heap h.s⟩
namespace SF
theorem in_ok {w : World} {B : Blk} {x : Sto} (h : StoreAt w B x) (p st : Int) (h0 : 0 ≤ p) (h1 : p < x.pages) :
    Calls Tryz.prog 85 #[B.ptr, .agg #[.int .i64 p, .int .i64 st]] w fun e w' => e = .returned (.int .i64 0) ∧ Fr (fun _ => False) w w' := by
  have c10 := h.sc.c10
  have l := h.sc.lt
  clear h
  go_enter Tryz.func85, Tryz.ntmps85
  go_wp2
  go_quiet (fail)
  go_wp2
  go_ret
  exact ⟨rfl, ((Fr.refl _ _).alloc _).drewN _⟩
end SF
end Go.Proofs.YtgdhaaokolfdoaaGreatDoor

/- The store: keep. Conditions: the store lies in the world as StoreAt says. -/
namespace Go.Proofs.YtgdhaaokolfdoaaGreatDoor
open Go.RowKit Go.Sg Go.Sg.Bits Go.Sg.Clk CP
namespace SF
theorem clkR {B : Blk} {b : Nat} (h : b = B.bc ∨ b = B.bp ∨ b = B.bm) : ∃ r ∈ [Role.bc, Role.bp, Role.bm], b = B.at_ r := by
  rcases h with rfl | rfl | rfl
  · exact ⟨.bc, by simp, rfl⟩
  · exact ⟨.bp, by simp, rfl⟩
  · exact ⟨.bm, by simp, rfl⟩
set_option maxHeartbeats 2000000 in
theorem keep_any {R : Ending → World → Prop} {w : World} {B : Blk} {x : Sto} (h : StoreAt w B x) (n : Int) (p : Pg)
    (h0 : ∀ W g, GoneOk x.mem x.places n g → (gV g).dirty = false → MemAt W B.bc B.bp B.bm x.places (putF x.mem n p g) → FrR B [.bc, .bp, .bm] w W → R (.returned (.int .i64 0)) W)
    (h1 : ∀ W g, GoneOk x.mem x.places n (some g) → g.2.dirty = true → MemAt W B.bc B.bp B.bm x.places (putF x.mem n p (some g)) → FrR B [.bc, .bp, .bm] w W → Calls Tryz.prog 110 #[B.ptr, .int .i64 g.1, g.2.val] W fun e W' => ∃ err : Int, e = .returned (.int .i64 err) ∧ R e W') :
    Calls Tryz.prog 82 #[B.ptr, .int .i64 n, p.val] w R := by
  obtain ⟨st, la, ll, lc, di⟩ := p
  have c17 := h.sc.c17
  have l := h.sc.lt
  obtain ⟨w1, hw1⟩ : ∃ w1, w.alloc (.cells #[.int .i64 st, .slice la ll lc, .bool di] 162) = w1 := ⟨_, rfl⟩
  have F1 : Fr (fun _ => False) w w1 := by rw [← hw1]; exact (Fr.refl _ _).alloc _
  have b1 : w1.heap[w.heap.size]? = some (.cells #[.int .i64 st, .slice la ll lc, .bool di] 162) := by rw [← hw1]; exact heap_alloc_new _ _
  obtain ⟨d0, d1, d2, dz, dl⟩ := cells3 b1
  have c17' := (F1.cell (p := ⟨B.s, 17, none⟩) l (fun h => h)).trans c17
  have l' := Nat.lt_of_lt_of_le l F1.size
  have HP := hid (fun W (F : Fr (fun _ => False) w1 W) => (putmem_at (h.mem.fr (F1.trans F (fun _ _ h => h)) (fun h => h) (fun h => h) (fun h => h)) n ⟨st, la, ll, lc, di⟩).mono
    (fun (e : Ending) W' ⟨g, hg, he, hm, F'⟩ => (⟨g, hg, he, hm, Fr.trans (S := fun b => b = B.bc ∨ b = B.bp ∨ b = B.bm) (S' := fun b => b = B.bc ∨ b = B.bp ∨ b = B.bm) (F.mono (fun _ _ h => h.elim)) F' (fun _ _ h => h), F'⟩ :
      ∃ g, GoneOk x.mem x.places n g ∧ e = Ending.returned (.tuple #[.int .i64 (gK g), (gV g).val, .bool g.isSome]) ∧ MemAt W' B.bc B.bp B.bm x.places (putF x.mem n ⟨st, la, ll, lc, di⟩ g) ∧ Fr (fun b => b = B.bc ∨ b = B.bp ∨ b = B.bm) w1 W' ∧ Fr (fun b => b = B.bc ∨ b = B.bp ∨ b = B.bm) W W')))
  have nS : ¬ (B.s = B.bc ∨ B.s = B.bp ∨ B.s = B.bm) := by
    have a1 := h.out (L := [.bc, .bp, .bm]) (r := .s) (by decide)
    simpa [Blk.at_] using a1
  have nW : ¬ (w.heap.size = B.bc ∨ w.heap.size = B.bp ∨ w.heap.size = B.bm) := by
    have := h.mem.lts
    omega
  have NX := hid (show ¬ (w1.heap.size = B.bc ∨ w1.heap.size = B.bp ∨ w1.heap.size = B.bm) by have := h.mem.lts; omega)
  have NS := hid nS
  have NW := hid nW
  clear nS nW
  have m1 : ¬ w1.heap.size = B.s := by omega
  have m2 : ¬ w1.heap.size = w.heap.size := by omega
  have HW := hid hw1
  have H0 := hid h0
  have H1 := hid h1
  have HF1 := hid F1
  clear h h0 h1 c17 hw1 b1 F1
  go_enter Tryz.func82, Tryz.ntmps82
  go_wp2
  rw [HW.out]
  go_region_held3 (fun W => W.cell? ⟨B.s, 17, none⟩ = some (.pointer (some ⟨B.bc, 0, none⟩)) ∧ W.cell? ⟨w.heap.size, 0, none⟩ = some (.int .i64 st) ∧ W.cell? ⟨w.heap.size, 1, none⟩ = some (.slice la ll lc) ∧ W.cell? ⟨w.heap.size, 2, none⟩ = some (.bool di))
    (go_keep)
    ((go_at_call 111; refine (HP.out _ (by first | exact ((Fr.refl _ _).alloc _) | exact (Fr.refl _ _) | exact ((Fr.refl _ _).drew) | exact ((Fr.refl _ _).alloc _).drew | exact ((Fr.refl _ _).drew.alloc _))).mono ?_; rintro e w7 ⟨g, hg, rfl, hm, F7, F8⟩; have e0 := fun (i : Nat) (hh : w1.heap.size < _) => F8.cell (p := ⟨w1.heap.size, i, none⟩) hh NX.out; have ez := fun (i : Nat) (hh : w1.heap.size < _) => World.frozen?_of_block (a := ⟨w1.heap.size, i, none⟩) (F8.block w1.heap.size hh NX.out); have el := F8.size; have el7 := F7.size; have m3 : ¬ w7.heap.size = B.s := (by omega); have m4 : ¬ w7.heap.size = w.heap.size := (by omega); have c17' := (F7.cell (p := ⟨B.s, 17, none⟩) l' NS.out).trans c17'; have d0 := (F7.cell (p := ⟨w.heap.size, 0, none⟩) dl NW.out).trans d0; have d1 := (F7.cell (p := ⟨w.heap.size, 1, none⟩) dl NW.out).trans d1; have d2 := (F7.cell (p := ⟨w.heap.size, 2, none⟩) dl NW.out).trans d2; have HF7 := hid F7; have HM := hid hm; have HG := hid hg; clear F7 hm hg F8))
  all_goals clear m1 m2 m3 m4
  all_goals rcases g with _ | ⟨gk, ⟨gst, ga, gl, gc, gd⟩⟩
  all_goals try simp only [gK, gV, Option.map_none, Option.map_some, Option.getD_none, Option.getD_some, Option.isSome_none, Option.isSome_some, Pg.zero]
  all_goals have FA : FrR B [.bc, .bp, .bm] w w7 := (HF1.out.mono (fun _ _ h => h.elim)).trans HF7.out (fun b _ h => clkR h)
  all_goals have FA := hid FA
  · go_wp2
    exact H0.out _ none HG.out rfl (HM.out.fr ((Fr.refl (fun _ => False) _).alloc _) (fun h => h) (fun h => h) (fun h => h)) (FA.out.alloc _)
  · cases gd with
    | false =>
      go_wp2
      exact H0.out _ _ HG.out rfl (HM.out.fr ((Fr.refl (fun _ => False) _).alloc _) (fun h => h) (fun h => h) (fun h => h)) (FA.out.alloc _)
    | true =>
      go_wp2_with fail
      refine (H1.out _ _ HG.out rfl (HM.out.fr ((Fr.refl (fun _ => False) _).alloc _) (fun h => h) (fun h => h) (fun h => h)) (FA.out.alloc _)).mono ?_
      rintro e w9 ⟨err, rfl, hR⟩
      have HR := hid hR
      clear hR
      go_wp2
      exact HR.out
  · go_wp2
    exact H0.out _ none HG.out rfl (HM.out.fr (Fr.set3 (S := fun b => b = w1.heap.size) (b := w1.heap.size) (Fr.refl _ _) rfl _ _ _) (fun h => NX.out (.inl h.symm)) (fun h => NX.out (.inr (.inl h.symm))) (fun h => NX.out (.inr (.inr h.symm)))) (Fr.set3n FA.out (by omega) _ _ _)
  · cases gd with
    | false =>
      go_wp2
      exact H0.out _ _ HG.out rfl (HM.out.fr (Fr.set3 (S := fun b => b = w1.heap.size) (b := w1.heap.size) (Fr.refl _ _) rfl _ _ _) (fun h => NX.out (.inl h.symm)) (fun h => NX.out (.inr (.inl h.symm))) (fun h => NX.out (.inr (.inr h.symm)))) (Fr.set3n FA.out (by omega) _ _ _)
    | true =>
      go_wp2_with fail
      refine (H1.out _ _ HG.out rfl (HM.out.fr (Fr.set3 (S := fun b => b = w1.heap.size) (b := w1.heap.size) (Fr.refl _ _) rfl _ _ _) (fun h => NX.out (.inl h.symm)) (fun h => NX.out (.inr (.inl h.symm))) (fun h => NX.out (.inr (.inr h.symm)))) (Fr.set3n FA.out (by omega) _ _ _)).mono ?_
      rintro e w9 ⟨err, rfl, hR⟩
      have HR := hid hR
      clear hR
      go_wp2
      exact HR.out
end SF
end Go.Proofs.YtgdhaaokolfdoaaGreatDoor

/- The store: keep where nothing is written; New. Conditions: the store lies in the world as StoreAt says. -/
namespace Go.Proofs.YtgdhaaokolfdoaaGreatDoor
open Go.RowKit Go.Sg Go.Sg.Bits Go.Sg.Clk CP
theorem StoreAt.withMem {w W : World} {B : Blk} {x : Sto} (h : StoreAt w B x) (F : FrR B [.bc, .bp, .bm] w W) {m : Int → Option Pg} (hm : MemAt W B.bc B.bp B.bm x.places m)
    (hl : ∀ k p, m k = some p → ∃ bs, ByV W p.la p.ll p.lc bs ∧ bs.length ≤ x.room) : StoreAt W B { x with mem := m } := by
  have S := h.stays F
  exact ⟨S.s (by decide), S.dev (by decide) (by decide) (by decide), S.bits (by decide) (by decide), S.fr (by decide), S.dy (by decide), S.de (by decide), hm, hl, h.ne, h.ge, h.rg, h.inr⟩
theorem load_putF {w W : World} {B : Blk} {x : Sto} (h : StoreAt w B x) {L : List Role} (F : FrR B L w W) {n : Int} {p : Pg} {g : Option (Int × Pg)} (hp : ∃ bs, ByV w p.la p.ll p.lc bs ∧ bs.length ≤ x.room) :
    ∀ k q, putF x.mem n p g k = some q → ∃ bs, ByV W q.la q.ll q.lc bs ∧ bs.length ≤ x.room := by
  intro k q hq
  unfold putF at hq
  split at hq
  · cases hq
    obtain ⟨bs, hb, hl⟩ := hp
    exact ⟨bs, h.byv F hb, hl⟩
  · split at hq
    · cases hq
    · obtain ⟨bs, hb, hl⟩ := h.load k q hq
      exact ⟨bs, h.byv F hb, hl⟩
/-- There is room for one page more. -/
def HasRoom (x : Sto) (n : Int) : Prop := (x.mem n).isSome = true ∨ ∃ L, Cover x.mem L ∧ L.length < x.places
theorem HasRoom.none {x : Sto} {n : Int} (h : HasRoom x n) {g : Option (Int × Pg)} (hg : GoneOk x.mem x.places n g) : g = none := by
  cases g with
  | none => rfl
  | some g =>
    obtain ⟨h1, h2, h3, h4⟩ := hg
    rcases h with h | ⟨L, hL, hl⟩
    · rw [h3] at h; cases h
    · have := h4 L hL; omega
namespace SF
theorem keep_room {w : World} {B : Blk} {x : Sto} (h : StoreAt w B x) (n : Int) (p : Pg) (hp : ∃ bs, ByV w p.la p.ll p.lc bs ∧ bs.length ≤ x.room) (hr : HasRoom x n) :
    Calls Tryz.prog 82 #[B.ptr, .int .i64 n, p.val] w (KeepOut B x n p w) := by
  refine keep_any h n p ?_ ?_
  · intro W g hg hd hm F
    obtain rfl := hr.none hg
    exact ⟨0, none, x.dev, rfl, hg, ⟨rfl, rfl⟩, h.withMem F hm (load_putF h F hp), h.frB F⟩
  · intro W g hg
    cases hr.none hg
theorem OutR_frB {B : Blk} {w w' : World} {x : Sto} {g : Option (Int × Pg)} {D : Dev} {err : Int} (h : OutR w x g D err) (F : FrB B w w') : OutR w' x g D err := by
  cases g with
  | none => exact h
  | some g =>
    obtain ⟨k, q⟩ := g
    unfold OutR at h ⊢
    simp only at h ⊢
    split
    · rename_i hd
      rw [if_pos hd] at h
      obtain ⟨bs, hb, he⟩ := h
      exact ⟨bs, hb.frB F, he⟩
    · rename_i hd
      rw [if_neg hd] at h
      exact h
theorem OutR_frL {w w' : World} {x : Sto} {g : Option (Int × Pg)} {D : Dev} {err : Int} (h : OutR w x g D err) {k : Nat} (F : Fr (fun b => b = k) w w') {cs : Array Value} {t : TypeId} (hk : w.heap[k]? = some (.cells cs t)) (ht : t ≠ 5) : OutR w' x g D err := by
  cases g with
  | none => exact h
  | some g =>
    obtain ⟨k, q⟩ := g
    unfold OutR at h ⊢
    simp only at h ⊢
    split
    · rename_i hd
      rw [if_pos hd] at h
      obtain ⟨bs, hb, he⟩ := h
      exact ⟨bs, hb.frL F hk ht, he⟩
    · rename_i hd
      rw [if_neg hd] at h
      exact h
/-- Bytes that are handed in: they lie ahead of the store's blocks, or in a block of bytes. -/
def Inp (w : World) (B : Blk) (a : Option Addr) (n c : Nat) (bs : List Int) : Prop := SlB w a n c bs ∧ ∀ b off, a = some ⟨b, off, none⟩ → n = 0 ∨ b < B.base ∨ kd w b = 6
/-- A store behind a number was taken for a page that is made. -/
def tk (x : Sto) (n : Nat) : Sto := { x with taken := upd x.taken n true, hand := (n + 1) % x.pages, fresh := updI x.fresh n true }
def refV (err : Int) (n st : Int) : Value := if err = 0 then .agg #[.int .i64 n, .int .i64 st] else .agg #[.int .i64 0, .int .i64 0]
/-- What New does. -/
def NewPost (B : Blk) (x : Sto) (bs : List Int) (w : World) (e : Ending) (w' : World) : Prop :=
  ∃ n err g D p, TakeIs x.taken x.pages x.hand n ∧ e = .returned (.tuple #[refV err n x.gen, .int .i64 err]) ∧ GoneOk x.mem x.places n g ∧ OutR w' x g D err ∧
    StoreAt w' B { tk x n with mem := putF x.mem n p g, dev := D } ∧ (p.stamp = x.gen ∧ p.dirty = true ∧ ByV w' p.la p.ll p.lc bs) ∧ FrB B w w'
theorem new_long {w : World} {B : Blk} {x : Sto} (h : StoreAt w B x) (la : Option Addr) (ll lc : Nat) (hl : x.room < ll) :
    Calls Tryz.prog 22 #[B.ptr, .slice la ll lc] w fun e w' => e = .returned (.tuple #[.agg #[.int .i64 0, .int .i64 0], .int .i64 9]) ∧ Fr (fun _ => False) w w' := by
  have c11 := h.sc.c11
  have l := h.sc.lt
  clear h
  go_enter Tryz.func22, Tryz.ntmps22
  go_wp2
  refine bodyPost_ret (v := .tuple #[.agg #[.int .i64 0, .int .i64 0], .int .i64 9]) (by simp [results, go_sem, *]) rfl ⟨rfl, (Fr.refl _ _).alloc _⟩
theorem new_full {w : World} {B : Blk} {x : Sto} (h : StoreAt w B x) (hT : Tab w) (la : Option Addr) (ll lc : Nat) (hl : ll ≤ x.room) (hall : allTaken x.taken x.pages 0 x.pages) :
    Calls Tryz.prog 22 #[B.ptr, .slice la ll lc] w fun e w' => e = .returned (.tuple #[.agg #[.int .i64 0, .int .i64 0], .int .i64 6]) ∧ Fr (fun _ => False) w w' := by
  have c11 := h.sc.c11
  have c13 := h.sc.c13
  have l := h.sc.lt
  have HK := hid (fun W (F : Fr (fun _ => False) w W) => take_none (h.bits.fr F (fun h => h) (fun h => h)) (hT.fr F (fun h => h)) hall)
  clear h hT hall
  go_enter Tryz.func22, Tryz.ntmps22
  go_wp2_with fail
  refine (HK.out _ ((Fr.refl _ _).alloc _)).mono ?_
  rintro e w' ⟨rfl, rfl⟩
  go_wp2
  refine bodyPost_ret (v := .tuple #[.agg #[.int .i64 0, .int .i64 0], .int .i64 6]) (by simp [results, go_sem, *]) rfl ⟨rfl, (Fr.refl _ _).alloc _⟩
set_option maxHeartbeats 2000000 in
theorem new_ok {w : World} {B : Blk} {x : Sto} (h : StoreAt w B x) (hT : Tab w) (hB0 : 0 < B.base) {la : Option Addr} {ll lc : Nat} {bs : List Int} (hin : Inp w B la ll lc bs) (hl : ll ≤ x.room) {j : Nat} (hj : j < x.pages) (hfree : x.taken j = false)
    (hk : ∀ W p n, TakeIs x.taken x.pages x.hand n → StoreAt W B (tk x n) → FrB B w W → (∃ bs, ByV W p.la p.ll p.lc bs ∧ bs.length ≤ x.room) → Calls Tryz.prog 82 #[B.ptr, .int .i64 n, p.val] W (KeepOut B (tk x n) n p W)) :
    Calls Tryz.prog 22 #[B.ptr, .slice la ll lc] w (NewPost B x bs w) := by
  have c11 := h.sc.c11
  have c12 := h.sc.c12
  have c13 := h.sc.c13
  have c14 := h.sc.c14
  have l := h.sc.lt
  have hlen := hin.1.by_.len
  have hrm := h.rg.1
  obtain ⟨w1, hw1⟩ : ∃ w1, w.alloc (.cells #[.int .i64 0, .int .i64 0] 35) = w1 := ⟨_, rfl⟩
  have F1 : Fr (fun _ => False) w w1 := by rw [← hw1]; exact (Fr.refl _ _).alloc _
  have b1 : w1.heap[w.heap.size]? = some (.cells #[.int .i64 0, .int .i64 0] 35) := by rw [← hw1]; exact heap_alloc_new _ _
  have HTK := hid (take_some (h.bits.fr F1 (fun h => h) (fun h => h)) (hT.fr F1 (fun h => h)) hj hfree)
  have H := hid h
  have HIN := hid hin
  have HK := hid hk
  have HW := hid hw1
  have HF1 := hid F1
  have HB1 := hid b1
  have HL := hid hlen
  clear h hT hin hk hw1 F1 b1 hfree hlen
  go_enter Tryz.func22, Tryz.ntmps22
  go_wp2_with fail
  rw [HW.out]
  refine HTK.out.mono ?_
  rintro e w2 ⟨n, hn, rfl, hbits, F2⟩
  have F02 : FrR B [.bs, .bw] w w2 := (HF1.out.mono (fun _ _ h => h.elim)).trans F2 (fun b _ h => by
    rcases h with rfl | rfl
    · exact ⟨.bs, by simp, rfl⟩
    · exact ⟨.bw, by simp, rfl⟩)
  have nbx : ∀ r, w.heap.size ≠ B.at_ r := fun r e => by have := (H.out.heaps r).2.2.1; omega
  have hb2 := F2.heap HB1.out (fun h => by rcases h with h | h; exact nbx .bs h; exact nbx .bw h)
  have S2 := H.out.stays F02
  have s2 := S2.s (by decide)
  obtain ⟨lf, ck, hfm, hfs⟩ := (S2.fr (by decide)).ex
  have e12 : w2.cell? ⟨B.s, 12, none⟩ = some (.int .i64 x.gen) := by simpa using cell_of_heap s2 12
  have e14 : w2.cell? ⟨B.s, 14, none⟩ = some (.map (some B.fr)) := by simpa using cell_of_heap s2 14
  have hup := fun (W : World) (hW : W.heap[B.fr]? = some (.map (ents lf) ck)) => run_mapUpdate (P := Tryz.prog) (T := 153) Tryz.underlying153 Tryz.underlying3 hW n (.bool true)
  have HB2 := hid hb2
  have NBX := hid nbx
  clear hb2 nbx
  have HN := hid hn
  have HBI := hid hbits
  have HF02 := hid F02
  have HS2 := hid S2
  have Hs2 := hid s2
  have HFS := hid hfs
  clear hn hbits F2 F02 S2 s2 hfs
  go_wp2
  obtain ⟨w3, hw3⟩ : ∃ w3, w2.putObj B.fr (.map (ents (put lf n (.bool true) ck)) (bump lf n ck)) = w3 := ⟨_, rfl⟩
  have F23 : Fr (fun b => b = B.fr) w2 w3 := by rw [← hw3]; exact (Fr.refl (fun b => b = B.fr) _).putObj (fun _ => rfl) _
  have hf3 : w3.heap[B.fr]? = some (.map (ents (put lf n (.bool true) ck)) (bump lf n ck)) := by rw [← hw3]; exact heap_putObj_same _ _ _ (lt_of_heap hfm)
  rw [hw3]
  have HB3 := hid (F23.heap HB2.out (NBX.out .fr))
  have F03 : FrR B [.bs, .bw, .fr] w w3 := (HF02.out.mono (fun b _ ⟨r, hr, e⟩ => ⟨r, by simp at hr ⊢; rcases hr with h | h <;> simp [h], e⟩)).trans F23 (fun b _ h => ⟨.fr, by simp, h⟩)
  have n1 : B.bs ≠ B.fr := fun e => by have := H.out.inj (r := .bs) (r' := .fr) e; cases this
  have n2 : B.bw ≠ B.fr := fun e => by have := H.out.inj (r := .bw) (r' := .fr) e; cases this
  have S3 := H.out.stays F03
  have nn := HN.out.1
  have hS3 : StoreAt w3 B (tk x n) := by
    refine ⟨S3.s (by decide), S3.dev (by decide) (by decide) (by decide), HBI.out.fr F23 n1 n2, ⟨_, _, hf3, HFS.out.put n⟩, S3.dy (by decide), S3.de (by decide), S3.mem (by decide) (by decide) (by decide), S3.load, H.out.ne, H.out.ge, H.out.rg, ?_, H.out.inr.2⟩
    intro k hk
    show 0 ≤ k ∧ k < x.pages
    by_cases hkn : k = n
    · omega
    · exact H.out.inr.1 k (by simpa [tk, updI, hkn] using hk)
  have e12 : w3.cell? ⟨B.s, 12, none⟩ = some (.int .i64 x.gen) := hS3.sc.c12
  have hsl : SlB w3 la ll lc bs := by
    refine ⟨HIN.out.1.by_.frn F03 ?_, HIN.out.1.at_⟩
    rintro b off e - hn0 ⟨r, _, rfl⟩
    have hh := H.out.heaps r
    rcases HIN.out.2 _ off e with h | h | h
    · omega
    · omega
    · rw [hh.2.2.2] at h; cases r <;> simp [Role.kind] at h
  have HC := hid (fun W (F : Fr (fun _ => False) w3 W) => (clone_v (w := W) ⟨hsl.by_.fr F (fun _ _ _ _ h => h), hsl.at_⟩ (by omega)).mono
    (fun (e : Ending) W' ⟨a', c', he, hb, F'⟩ => (⟨a', c', he, hb, F.trans F' (fun _ _ h => h)⟩ : ∃ a' c', e = Ending.returned (.slice a' ll c') ∧ ByV W' a' ll c' bs ∧ Fr (fun _ => False) w3 W')))
  have ls : B.s < w3.heap.size := hS3.sc.lt
  have HS3 := hid hS3
  have HF03 := hid F03
  clear hw3 F23 hf3 hup hfm F03 n1 n2 S3 hS3 hsl c11 c12 c13 c14 e14
  go_region_held3 (fun W => W.cell? ⟨B.s, 12, none⟩ = some (.int .i64 x.gen)) (go_keep)
    (first
      | (go_at_call 83; refine (HC.out _ (by first | exact Fr.refl _ _ | exact (Fr.refl _ _).drew)).mono ?_; rintro e w4 ⟨a', c', rfl, hb4, F4⟩; have e12 := (F4.cell (p := ⟨B.s, 12, none⟩) ls (fun h => h)).trans e12; have HB4 := hid hb4; have HF4 := hid F4; clear hb4 F4)
      | (go_at_call 82; refine (HK.out _ ⟨x.gen, a', ll, c', true⟩ n HN.out (HS3.out.fr0 HF4.out) ((H.out.frB HF03.out).trans (FrB.none HF4.out)) ⟨bs, HB4.out, by rw [HL.out]; exact hl⟩).mono ?_; rintro e w5 ⟨err, g, D, rfl, hg, ho, hS5, F5⟩; have e12 : w5.cell? ⟨B.s, 12, none⟩ = some (.int .i64 x.gen) := hS5.sc.c12; have H5 := hid (And.intro hg (And.intro ho (And.intro hS5 F5))); clear hg ho hS5 F5))
  obtain ⟨hg, ho, hS5, F5⟩ := H5.out
  have hb5 := F5.heap (FrB.heap (FrB.none HF4.out) (B := B) HB3.out (by decide)) (by decide)
  obtain ⟨f0, f1, fz, fl⟩ := cells2 hb5
  have c12 : w5.cell? ⟨B.s, 12, none⟩ = some (.int .i64 x.gen) := hS5.sc.c12
  have l5 := hS5.sc.lt
  have nb5 : ¬ w.heap.size = B.s := by omega
  have FF : FrB B w w5 := ((H.out.frB HF03.out).trans (FrB.none HF4.out)).trans F5
  have hbv5 := HB4.out.frB F5
  have H6 := hid (And.intro hg (And.intro ho (And.intro hS5 (And.intro FF (And.intro hbv5 hb5)))))
  clear hg ho hS5 F5 hb5 FF hbv5 H5
  by_cases he : err = 0
  · subst he
    go_wp2
    refine bodyPost_ret (v := .tuple #[.agg #[.int .i64 n, .int .i64 x.gen], .int .i64 0]) (by simp [results, go_sem, *]) rfl ?_
    obtain ⟨hg, ho, hS5, FF, hbv5, hb5⟩ := H6.out
    have FL : Fr (fun b => b = w.heap.size) w5 ((w5.setCell ⟨w.heap.size, 0, none⟩ (.int .i64 n)).setCell ⟨w.heap.size, 1, none⟩ (.int .i64 x.gen)) := ((Fr.refl (fun b => b = w.heap.size) _).setCell (a := ⟨w.heap.size, 0, none⟩) (fun _ => rfl) _).setCell (a := ⟨w.heap.size, 1, none⟩) (fun _ => rfl) _
    refine ⟨n, 0, g, D, ⟨x.gen, a', ll, c', true⟩, HN.out, rfl, hg, OutR_frL ho FL hb5 (by decide), hS5.frL FL hb5 (by decide), ⟨rfl, rfl, hbv5.frL FL hb5 (by decide)⟩, ?_⟩
    exact (FF.setCell (a := ⟨w.heap.size, 0, none⟩) (fun h => absurd h (Nat.lt_irrefl _)) _).setCell (a := ⟨w.heap.size, 1, none⟩) (fun h => absurd h (Nat.lt_irrefl _)) _
  · have he2 : (err != 0) = true := by simpa using he
    go_wp2
    refine bodyPost_ret (v := .tuple #[.agg #[.int .i64 0, .int .i64 0], .int .i64 err]) (by simp [results, go_sem, *]) rfl ?_
    obtain ⟨hg, ho, hS5, FF, hbv5, hb5⟩ := H6.out
    have FL : Fr (fun b => b = w.heap.size) w5 ((w5.setCell ⟨w.heap.size, 0, none⟩ (.int .i64 0)).setCell ⟨w.heap.size, 1, none⟩ (.int .i64 0)) := ((Fr.refl (fun b => b = w.heap.size) _).setCell (a := ⟨w.heap.size, 0, none⟩) (fun _ => rfl) _).setCell (a := ⟨w.heap.size, 1, none⟩) (fun _ => rfl) _
    refine ⟨n, err, g, D, ⟨x.gen, a', ll, c', true⟩, HN.out, by rw [refV, if_neg he], hg, OutR_frL ho FL hb5 (by decide), hS5.frL FL hb5 (by decide), ⟨rfl, rfl, hbv5.frL FL hb5 (by decide)⟩, ?_⟩
    exact (FF.setCell (a := ⟨w.heap.size, 0, none⟩) (fun h => absurd h (Nat.lt_irrefl _)) _).setCell (a := ⟨w.heap.size, 1, none⟩) (fun h => absurd h (Nat.lt_irrefl _)) _
end SF
end Go.Proofs.YtgdhaaokolfdoaaGreatDoor

/- The store: gone. Conditions: the store lies in the world as StoreAt says. -/
namespace Go.Proofs.YtgdhaaokolfdoaaGreatDoor
open Go.RowKit Go.Sg Go.Sg.Bits Go.Sg.Clk CP
theorem Tryz.zero4 (w : World) : (zeroValue 4).run Tryz.prog w = .ok (.bool false) w := by kernel_rfl
/-- A store behind a page that does not count any more. -/
def goneX (x : Sto) (n : Nat) : Sto :=
  if x.fresh n = true then { x with fresh := updI x.fresh n false, taken := upd x.taken n false, mem := updM x.mem n none } else { x with dying := updI x.dying n true }
theorem StoreAt.ner {w : World} {B : Blk} {x : Sto} (h : StoreAt w B x) {r r' : Role} (hr : r ≠ r') : B.at_ r ≠ B.at_ r' := fun e => hr (h.inj e)
namespace SF
set_option maxHeartbeats 1000000 in
theorem gone_dying {w : World} {B : Blk} {x : Sto} (h : StoreAt w B x) {n : Nat} (hn : n < x.pages) (hf : x.fresh n = false) :
    Calls Tryz.prog 89 #[B.ptr, .int .i64 n] w fun e w' => e = .returned (.tuple #[]) ∧ StoreAt w' B (goneX x n) ∧ FrR B [.dy] w w' := by
  have c14 := h.sc.c14
  have c15 := h.sc.c15
  obtain ⟨lf, cf, hfm, hfs⟩ := h.fr.ex
  obtain ⟨ld, cd, hdm, hds⟩ := h.dy.ex
  have hl := run_lookup (P := Tryz.prog) (T := 153) false Tryz.underlying153 Tryz.underlying3 Tryz.zero4 hfm n
  rw [hfs.at_, hf] at hl
  simp at hl
  have hup := run_mapUpdate (P := Tryz.prog) (T := 153) Tryz.underlying153 Tryz.underlying3 hdm n (.bool true)
  have H := hid h
  have HD := hid hds
  have HM := hid hdm
  have HF := hid hf
  clear h hfm hfs hds hf hdm
  go_enter Tryz.func89, Tryz.ntmps89
  go_wp2
  refine bodyPost_ret (results_none rfl _ _ _) rfl ?_
  have F : FrR B [.dy] w (w.putObj B.dy (.map (ents (put ld n (.bool true) cd)) (bump ld n cd))) := (Fr.refl _ _).putObj (fun _ => ⟨.dy, by simp, rfl⟩) _
  refine ⟨rfl, ?_, F⟩
  have S := H.out.stays F
  have e : goneX x n = { x with dying := updI x.dying n true } := by rw [goneX, HF.out]; rfl
  rw [e]
  refine ⟨S.s (by decide), S.dev (by decide) (by decide) (by decide), S.bits (by decide) (by decide), S.fr (by decide), ⟨_, _, heap_putObj_same _ _ _ (lt_of_heap HM.out), HD.out.put n⟩, S.de (by decide), S.mem (by decide) (by decide) (by decide), S.load, H.out.ne, H.out.ge, H.out.rg, H.out.inr.1, ?_, H.out.inr.2.2⟩
  intro k hk
  show 0 ≤ k ∧ k < x.pages
  by_cases hkn : k = n
  · omega
  · exact H.out.inr.2.1 k (by simpa [updI, hkn] using hk)
set_option maxRecDepth 100000 in
set_option maxHeartbeats 1000000 in
theorem gone_fresh {w : World} {B : Blk} {x : Sto} (h : StoreAt w B x) {n : Nat} (hn : n < x.pages) (hf : x.fresh n = true) (ht : x.taken n = true) :
    Calls Tryz.prog 89 #[B.ptr, .int .i64 n] w fun e w' => e = .returned (.tuple #[]) ∧ StoreAt w' B (goneX x n) ∧ FrR B [.fr, .bs, .bw, .bp, .bm] w w' := by
  have c14 := h.sc.c14
  have c13 := h.sc.c13
  have nfs : B.fr ≠ B.s := h.ner (r := .fr) (r' := .s) (by decide)
  obtain ⟨lf, cf, hfm, hfs⟩ := h.fr.ex
  have hl := run_lookup (P := Tryz.prog) (T := 153) false Tryz.underlying153 Tryz.underlying3 Tryz.zero4 hfm n
  rw [hfs.at_, hf] at hl
  simp at hl
  have hdel := run_delete (P := Tryz.prog) (T := 153) Tryz.underlying153 Tryz.underlying3 hfm n
  obtain ⟨w1, hw1⟩ : ∃ w1, w.putObj B.fr (.map (ents (del lf n)) cf) = w1 := ⟨_, rfl⟩
  have F1 : FrR B [.fr] w w1 := by rw [← hw1]; exact (Fr.refl _ _).putObj (fun _ => ⟨.fr, by simp, rfl⟩) _
  have hf1 : w1.heap[B.fr]? = some (.map (ents (del lf n)) cf) := by rw [← hw1]; exact heap_putObj_same _ _ _ (lt_of_heap hfm)
  have S1 := h.stays F1
  have hC := hid (clear_there (S1.bits (by decide) (by decide)) n hn ht)
  have s1 := S1.s (by decide)
  have d13 : w1.cell? ⟨B.s, 13, none⟩ = some (.pointer (some ⟨B.bs, 0, none⟩)) := by simpa using cell_of_heap s1 13
  have H := hid h
  have HS := hid hfs
  have HF1 := hid F1
  have HM1 := hid hf1
  have HF := hid hf
  have HW := hid hw1
  have Hs1 := hid s1
  clear h hfm hfs hf ht F1 hf1 S1 hw1 s1
  go_enter Tryz.func89, Tryz.ntmps89
  go_wp2_with fail
  rw [HW.out]
  refine hC.out.mono ?_
  rintro e w2 ⟨rfl, hB2, F2⟩
  have F02 : FrR B [.fr, .bs, .bw] w w2 := (HF1.out.mono (fun b _ ⟨r, hr, e⟩ => ⟨r, by simp at hr ⊢; exact .inl hr, e⟩)).trans F2 (fun b _ h => ⟨.bw, by simp, h⟩)
  have S2 := H.out.stays F02
  have s2 := S2.s (by decide)
  have d17 : w2.cell? ⟨B.s, 17, none⟩ = some (.pointer (some ⟨B.bc, 0, none⟩)) := by simpa using cell_of_heap s2 17
  have hD := hid (dropmem_at (S2.mem (by decide) (by decide) (by decide)) n)
  have HB2 := hid hB2
  have HF02 := hid F02
  have HF2 := hid F2
  clear S2 s2 hB2 F02 F2 hl hdel
  go_wp2_with fail
  refine hD.out.mono ?_
  rintro e w3 ⟨rfl, hM3, F3⟩
  have HM3 := hid hM3
  have HF3 := hid F3
  clear hM3 F3
  go_wp2
  go_end0
  have F03 : FrR B [.fr, .bs, .bw, .bp, .bm] w w3 := (HF02.out.mono (fun b _ ⟨r, hr, e⟩ => ⟨r, by simp at hr ⊢; rcases hr with h | h | h <;> simp [h], e⟩)).trans HF3.out (fun b _ h => by
    rcases h with h | h
    · exact ⟨.bp, by simp, h⟩
    · exact ⟨.bm, by simp, h⟩)
  refine ⟨rfl, ?_, F03⟩
  have S := H.out.stays F03
  have e : goneX x n = { x with fresh := updI x.fresh n false, taken := upd x.taken n false, mem := updM x.mem n none } := by rw [goneX, HF.out]; rfl
  rw [e]
  have ne1 : ¬ (B.fr = B.bp ∨ B.fr = B.bm) := fun h => by
    rcases h with h | h
    · exact H.out.ner (r := .fr) (r' := .bp) (by decide) h
    · exact H.out.ner (r := .fr) (r' := .bm) (by decide) h
  have ne2 : ¬ (B.bs = B.bp ∨ B.bs = B.bm) := fun h => by
    rcases h with h | h
    · exact H.out.ner (r := .bs) (r' := .bp) (by decide) h
    · exact H.out.ner (r := .bs) (r' := .bm) (by decide) h
  have ne3 : ¬ (B.bw = B.bp ∨ B.bw = B.bm) := fun h => by
    rcases h with h | h
    · exact H.out.ner (r := .bw) (r' := .bp) (by decide) h
    · exact H.out.ner (r := .bw) (r' := .bm) (by decide) h
  have ne4 : B.fr ≠ B.bw := H.out.ner (r := .fr) (r' := .bw) (by decide)
  refine ⟨S.s (by decide), S.dev (by decide) (by decide) (by decide), HB2.out.fr HF3.out ne2 ne3, ⟨_, _, HF3.out.heap (HF2.out.heap HM1.out ne4) ne1, HS.out.del n⟩, S.dy (by decide), S.de (by decide), HM3.out, ?_, H.out.ne, H.out.ge, H.out.rg, ?_, H.out.inr.2⟩
  · intro k p hp
    simp only [updM] at hp
    split at hp
    · cases hp
    · exact S.load k p hp
  · intro k hk
    show 0 ≤ k ∧ k < x.pages
    simp only [updI] at hk
    split at hk
    · cases hk
    · exact H.out.inr.1 k hk
end SF
end Go.Proofs.YtgdhaaokolfdoaaGreatDoor
