/- A pack of texts: LR, SA, SK. Conditions: those that each text names. -/
import Derived.Test.YtgdhaaokolfdoaaGreatDoorKAF
import Derived.Test.YtgdhaaokolfdoaaGreatDoorKAE
import Derived.Deep.RegionHeld3
set_option linter.unusedVariables false
set_option linter.unusedSimpArgs false
set_option linter.unnecessarySimpa false
/- leaf: right, Read, Get of a sector that was never written. Conditions: the sector's bytes are 0. -/
namespace Go.Sg
open Go.RowKit
theorem leV_zeros (n : Nat) : leV (List.replicate n 0) = 0 := by
  induction n with
  | zero => rfl
  | succ n ih => simp [List.replicate_succ, leV, ih]
/-- Within leaf.Read: the leaf that is being read, and the reader. -/
structure LRs (w0 w : World) (r bx : Nat) (bs : List Int) (k p s : Int) (l : Value) : Prop where
  x : w.heap[bx]? = some (.cells #[.int .i64 k, .int .i64 p, .int .i64 s, l] 166)
  rd : RdAt w r bs false
  f : Fr (fun _ => False) w0 w
  le : w0.heap.size ≤ r ∧ w0.heap.size ≤ bx
theorem LRs.ne {w0 w : World} {r bx : Nat} {bs : List Int} {k p s : Int} {l : Value} (h : LRs w0 w r bx bs k p s l) : bx ≠ r := by
  intro e
  obtain ⟨a, c, hr, _⟩ := h.rd.ex
  rw [← e, h.x] at hr; cases hr
theorem LRs.call {w0 w w' : World} {r bx : Nat} {bs bs' : List Int} {k p s : Int} {l : Value} (h : LRs w0 w r bx bs k p s l) (F : Fr (fun b => b = r) w w') (hr : RdAt w' r bs' false) : LRs w0 w' r bx bs' k p s l :=
  ⟨F.heap h.x h.ne, hr, h.f.trans (S' := fun b => b = r) F (fun b hb e => by have := h.le.1; omega), h.le⟩
theorem RdAt.fr {S : Nat → Prop} {w w' : World} {r : Nat} {bs : List Int} {bad : Bool} (h : RdAt w r bs bad) (F : Fr S w w') (h1 : ¬ S r) (h2 : ∀ b c, w.heap[b]? = some (.cells c 5) → ¬ S b) : RdAt w' r bs bad := by
  obtain ⟨⟨a, c, hr, hb, hc⟩, hs⟩ := h
  exact ⟨⟨a, c, F.heap hr h1, hb.fr F h2, hc⟩, hs⟩
theorem LRs.set {w0 w : World} {r bx : Nat} {bs : List Int} {k p s : Int} {l : Value} (h : LRs w0 w r bx bs k p s l) (o : Nat) (v : Value) {k' p' s' : Int} {l' : Value}
    (he : (#[.int .i64 k, .int .i64 p, .int .i64 s, l] : Array Value).setIfInBounds o v = #[.int .i64 k', .int .i64 p', .int .i64 s', l']) : LRs w0 (w.setCell ⟨bx, o, none⟩ v) r bx bs k' p' s' l' := by
  have F : Fr (fun b => b = bx) w (w.setCell ⟨bx, o, none⟩ v) := (Fr.refl (fun b => b = bx) _).setCell (a := ⟨bx, o, none⟩) (fun _ => rfl) _
  refine ⟨?_, h.rd.fr F (fun e => h.ne e.symm) (fun b c hc e => by rw [e, h.x] at hc; cases hc), h.f.trans (S' := fun b => b = bx) F (fun b hb e => by have := h.le.2; omega), h.le⟩
  rw [heap_setCell_cells _ _ _ _ h.x, he]
end Go.Sg
namespace Go.Proofs.YtgdhaaokolfdoaaGreatDoor
open Go.RowKit Go.Sg
theorem num_zero {w : World} {r n : Nat} (h : RdAt w r (List.replicate n 0) false) (k : Nat) (hk : k = 1 ∨ k = 2 ∨ k = 4 ∨ k = 8) (hm : k ≤ n) :
    Calls Tryz.prog 216 #[.pointer (some ⟨r, 0, none⟩), .int .i64 k] w fun e w' => e = .returned (.int .u64 0) ∧ RdAt w' r (List.replicate (n - k) 0) false ∧ Fr (fun b => b = r) w w' := by
  refine (num_ok h (fun x hx => by rw [List.mem_replicate] at hx; omega) k hk (by simpa using hm)).mono fun e w' ⟨he, hr, hF⟩ => ⟨?_, ?_, hF⟩
  · rw [he, List.take_replicate, leV_zeros]; rfl
  · rw [List.drop_replicate] at hr; exact hr
theorem raw_zero {w : World} {r n : Nat} (h : RdAt w r (List.replicate n 0) false) :
    Calls Tryz.prog 217 #[.pointer (some ⟨r, 0, none⟩), .int .i64 0] w fun e w' => ∃ a c, e = .returned (.slice a 0 c) ∧ RdAt w' r (List.replicate n 0) false ∧ Fr (fun b => b = r) w w' :=
  (raw_ok h 0 (Nat.zero_le _)).mono fun e w' ⟨a, c, he, _, hr, hF⟩ => ⟨a, c, he, by simpa using hr, hF⟩
theorem bad_at {w : World} {r : Nat} {bs : List Int} {bad : Bool} (h : RdAt w r bs bad) : Calls Tryz.prog 218 #[.pointer (some ⟨r, 0, none⟩)] w fun e w' => e = .returned (.bool bad) ∧ w = w' := by
  obtain ⟨⟨a, c, hr, hb, hc⟩, hs⟩ := h
  have c1 := cell_of_heap hr 1
  simp at c1
  clear hr hb hc hs
  go_enter Tryz.func218, Tryz.ntmps218
  go_wp2
  go_ret
  exact ⟨rfl, rfl⟩
set_option maxRecDepth 100000 in
theorem right_low (k p s : Int) (a : Option Addr) (n c : Nat) (z : Int) (h1 : 96 ≤ z) (h2 : z ≤ 512) (hk : k < 1) (w : World) :
    Calls Tryz.prog 219 #[.agg #[.int .i64 k, .int .i64 p, .int .i64 s, .slice a n c], .int .i64 z] w fun e w' => e = .returned (.int .i64 1) ∧ Fr (fun _ => False) w w' := by
  go_enter Tryz.func219, Tryz.ntmps219
  go_wp2_with (go_at_call 159; refine (may_yes z h1 h2 _).mono ?_; rintro e w' ⟨rfl, rfl⟩)
  go_ret
  exact ⟨rfl, (Fr.refl _ _).alloc _⟩
set_option maxHeartbeats 2000000 in
set_option maxRecDepth 100000 in
theorem leafread_zero {w : World} {a : Option Addr} {n c : Nat} (h : SlB w a n c (List.replicate n 0)) (h1 : 96 ≤ n) (h2 : n ≤ 512) :
    Calls Tryz.prog 156 #[.slice a n c] w fun e w' => e = .returned (.tuple #[.agg #[.int .i64 0, .int .i64 0, .int .i64 0, .slice none 0 0], .int .i64 5]) ∧ Fr (fun _ => False) w w' := by
  obtain ⟨w1, hw1⟩ : ∃ w1, w.alloc (.cells #[.int .i64 0, .int .i64 0, .int .i64 0, .slice none 0 0] 166) = w1 := ⟨_, rfl⟩
  have F1 : Fr (fun _ => False) w w1 := by rw [← hw1]; exact (Fr.refl _ _).alloc _
  have b1 : w1.heap[w.heap.size]? = some (.cells #[.int .i64 0, .int .i64 0, .int .i64 0, .slice none 0 0] 166) := by rw [← hw1]; exact heap_alloc_new _ _
  have s1 : w1.heap.size = w.heap.size + 1 := by rw [← hw1]; simp
  have HNR := hid (newreader_ok (w := w1) (a := a) (n := n) (c := c) (bs := List.replicate n 0) ⟨h.by_.fr F1 (fun _ _ _ _ h => h), h.at_⟩ (by omega))
  have HW1 := hid hw1
  have HB1 := hid (And.intro F1 b1)
  clear h hw1 F1 b1
  go_enter Tryz.func156, Tryz.ntmps156
  go_wp2_with fail
  rw [HW1.out]
  refine (may_yes n (by omega) (by omega) _).mono ?_
  rintro e w' ⟨rfl, rfl⟩
  go_wp2_with fail
  refine HNR.out.mono ?_
  rintro e w2 ⟨r, rfl, hr, hrl, F2⟩
  obtain ⟨w3, hw3⟩ : ∃ w3, w2.alloc (.cells #[.int .i64 0, .int .i64 0, .int .i64 0, .slice none 0 0] 166) = w3 := ⟨_, rfl⟩
  have F3 : Fr (fun _ => False) w2 w3 := by rw [← hw3]; exact (Fr.refl _ _).alloc _
  have hs2 := F2.size
  have L3 : LRs w1 w3 r w2.heap.size (List.replicate n 0) 0 0 0 (.slice none 0 0) := ⟨by rw [← hw3]; exact heap_alloc_new _ _, hr.fr F3 (fun h => h) (fun _ _ _ h => h), F2.trans F3 (fun _ _ h => h), hrl, hs2⟩
  have HL3 := hid L3
  have HW3 := hid hw3
  clear hw3 F3 L3 hr F2
  go_wp2_with fail
  rw [HW3.out]
  refine (num_zero HL3.out.rd 1 (by omega) (by omega)).mono ?_
  rintro e w4 ⟨rfl, hr4, F4⟩
  have HL4 := hid (HL3.out.call F4 hr4)
  have x4 := cell_of_heap HL4.out.x 0
  have f4 := frozen_of_heap HL4.out.x 0
  simp at x4
  obtain ⟨w5, hw5⟩ : ∃ w5, w4.setCell ⟨w2.heap.size, 0, none⟩ (.int .i64 0) = w5 := ⟨_, rfl⟩
  have HL5 := HL4.out.set 0 (.int .i64 0) rfl
  rw [hw5] at HL5
  have HL5 := hid HL5
  have HW5 := hid hw5
  clear hw5 F4 hr4
  go_wp2_with fail
  rw [HW5.out]
  clear x4 f4
  refine (num_zero HL5.out.rd 2 (by omega) (by omega)).mono ?_
  rintro e w6 ⟨rfl, hr6, F6⟩
  have HL6 := hid (HL5.out.call F6 hr6)
  clear F6 hr6
  go_wp2_with fail
  refine (num_zero HL6.out.rd 4 (by omega) (by omega)).mono ?_
  rintro e w7 ⟨rfl, hr7, F7⟩
  have HL7 := hid (HL6.out.call F7 hr7)
  have x7 := cell_of_heap HL7.out.x 1
  have f7 := frozen_of_heap HL7.out.x 1
  simp at x7
  obtain ⟨w8, hw8⟩ : ∃ w8, w7.setCell ⟨w2.heap.size, 1, none⟩ (.int .i64 0) = w8 := ⟨_, rfl⟩
  have HL8 := HL7.out.set 1 (.int .i64 0) rfl
  rw [hw8] at HL8
  have HL8 := hid HL8
  have HW8 := hid hw8
  clear hw8 F7 hr7
  go_wp2_with fail
  rw [HW8.out]
  clear x7 f7
  refine (num_zero HL8.out.rd 8 (by omega) (by omega)).mono ?_
  rintro e w9 ⟨rfl, hr9, F9⟩
  have HL9 := hid (HL8.out.call F9 hr9)
  have x9 := cell_of_heap HL9.out.x 2
  have f9 := frozen_of_heap HL9.out.x 2
  simp at x9
  obtain ⟨w10, hw10⟩ : ∃ w10, w9.setCell ⟨w2.heap.size, 2, none⟩ (.int .i64 0) = w10 := ⟨_, rfl⟩
  have HL10 := HL9.out.set 2 (.int .i64 0) rfl
  rw [hw10] at HL10
  have HL10 := hid HL10
  have HW10 := hid hw10
  clear hw10 F9 hr9
  go_wp2_with fail
  rw [HW10.out]
  clear x9 f9
  refine (raw_zero HL10.out.rd).mono ?_
  rintro e w11 ⟨la, lc, rfl, hr11, F11⟩
  have HL11 := hid (HL10.out.call F11 hr11)
  have x11 := cell_of_heap HL11.out.x 3
  have f11 := frozen_of_heap HL11.out.x 3
  simp at x11
  obtain ⟨w12, hw12⟩ : ∃ w12, w11.setCell ⟨w2.heap.size, 3, none⟩ (.slice la 0 lc) = w12 := ⟨_, rfl⟩
  have HL12 := HL11.out.set 3 (.slice la 0 lc) rfl
  rw [hw12] at HL12
  have HL12 := hid HL12
  have HW12 := hid hw12
  clear hw12 F11 hr11
  go_wp2_with fail
  rw [HW12.out]
  clear x11 f11
  refine (bad_at HL12.out.rd).mono ?_
  rintro e w' ⟨rfl, rfl⟩
  have y0 := cell_of_heap HL12.out.x 0
  have y1 := cell_of_heap HL12.out.x 1
  have y2 := cell_of_heap HL12.out.x 2
  have y3 := cell_of_heap HL12.out.x 3
  simp at y0 y1 y2 y3
  go_wp2_with fail
  refine (right_low 0 0 0 la 0 lc n (by omega) (by omega) (by omega) _).mono ?_
  rintro e w13 ⟨rfl, F13⟩
  have G := HB1.out.1.trans (HL12.out.f.trans F13 (fun _ _ h => h)) (fun _ _ h => h)
  have hb13 := (HL12.out.f.trans F13 (fun _ _ h => h)).heap HB1.out.2 (fun h => h)
  have e0 := cell_of_heap hb13 0
  have e1 := cell_of_heap hb13 1
  have e2 := cell_of_heap hb13 2
  have e3 := cell_of_heap hb13 3
  have z := fun o => frozen_of_heap hb13 o
  simp at e0 e1 e2 e3
  have lt := lt_of_heap hb13
  have HG := hid (And.intro G hb13)
  clear G hb13 F13 y0 y1 y2 y3
  go_wp2
  refine bodyPost_ret (v := .tuple #[.agg #[.int .i64 0, .int .i64 0, .int .i64 0, .slice none 0 0], .int .i64 5]) (by simp [results, go_sem, *]) rfl ⟨rfl, ?_⟩
  exact (((HG.out.1.setNew (Nat.le_refl _) _).setNew (Nat.le_refl _) _).setNew (Nat.le_refl _) _).setNew (Nat.le_refl _) _
set_option maxHeartbeats 2000000 in
set_option maxRecDepth 100000 in
theorem leafget_zero {w : World} {base d bf bq : Nat} {D : Dev} (h : DevAt w base d bf bq D) (hdown : D.down = false) (hlen : ∀ y ∈ D.loose, y.2.length = D.size) (hmany : D.loose.length ≤ 100000) (at_ : Nat) (hat : at_ < D.sectors)
    (hz : D.sec at_ = List.replicate D.size 0) (kind place : Int) :
    Calls Tryz.prog 87 #[.pointer (some ⟨d, 0, none⟩), .int .i64 at_, .int .i64 kind, .int .i64 place] w fun e w' => e = .returned (.tuple #[.agg #[.int .i64 0, .int .i64 0, .int .i64 0, .slice none 0 0], .int .i64 5]) ∧ Fr (fun _ => False) w w' := by
  obtain ⟨w1, hw1⟩ : ∃ w1, w.alloc (.cells #[.int .i64 0, .int .i64 0, .int .i64 0, .slice none 0 0] 166) = w1 := ⟨_, rfl⟩
  have F1 : Fr (fun _ => False) w w1 := by rw [← hw1]; exact (Fr.refl _ _).alloc _
  have b1 : w1.heap[w.heap.size]? = some (.cells #[.int .i64 0, .int .i64 0, .int .i64 0, .slice none 0 0] 166) := by rw [← hw1]; exact heap_alloc_new _ _
  have HR := hid (devread_ok (h.fr F1 (fun h => h) (fun h => h) (fun h => h) (fun _ _ _ _ _ h => h)) hdown hlen hmany at_ hat)
  have hr := h.rg.2
  have HZ := hid hz
  have HW1 := hid hw1
  have HB1 := hid (And.intro F1 b1)
  clear h hw1 F1 b1 hz hdown hlen hmany
  go_enter Tryz.func87, Tryz.ntmps87
  go_wp2_with fail
  rw [HW1.out]
  refine HR.out.mono ?_
  rintro e w2 ⟨a, c, rfl, hb, F2⟩
  rw [HZ.out] at hb
  have HLR := hid (leafread_zero hb.slb (by omega) (by omega))
  have HF2 := hid F2
  clear hb F2
  go_wp2_with fail
  refine HLR.out.mono ?_
  rintro e w3 ⟨rfl, F3⟩
  have F13 := HF2.out.trans F3 (fun _ _ h => h)
  have hb3 := F13.heap HB1.out.2 (fun h => h)
  have e0 := cell_of_heap hb3 0
  have e1 := cell_of_heap hb3 1
  have e2 := cell_of_heap hb3 2
  have e3 := cell_of_heap hb3 3
  have z := fun o => frozen_of_heap hb3 o
  simp at e0 e1 e2 e3
  have lt := lt_of_heap hb3
  have HG := hid (HB1.out.1.trans F13 (fun _ _ h => h))
  clear hb3 F13 F3
  go_wp2
  refine bodyPost_ret (v := .tuple #[.agg #[.int .i64 0, .int .i64 0, .int .i64 0, .slice none 0 0], .int .i64 5]) (by simp [results, go_sem, *]) rfl ⟨rfl, ?_⟩
  exact ((((HG.out.setNew (Nat.le_refl _) _).setNew (Nat.le_refl _) _).setNew (Nat.le_refl _) _).setNew (Nat.le_refl _) _).alloc _
end Go.Proofs.YtgdhaaokolfdoaaGreatDoor

/- The store: in, Gen, Held, Plan, Mark. Conditions: the store lies in the world as StoreAt says. -/
namespace Go.Proofs.YtgdhaaokolfdoaaGreatDoor
open Go.RowKit Go.Sg Go.Sg.Bits CP
/-- The cells of a store, one by one. -/
structure SC (w : World) (B : Blk) (x : Sto) : Prop where
  c0 : w.cell? ⟨B.s, 0, none⟩ = some (.pointer (some ⟨B.d, 0, none⟩))
  c9 : w.cell? ⟨B.s, 9, none⟩ = some (.int .i64 x.first)
  c10 : w.cell? ⟨B.s, 10, none⟩ = some (.int .i64 x.pages)
  c11 : w.cell? ⟨B.s, 11, none⟩ = some (.int .i64 x.room)
  c12 : w.cell? ⟨B.s, 12, none⟩ = some (.int .i64 x.gen)
  c13 : w.cell? ⟨B.s, 13, none⟩ = some (.pointer (some ⟨B.bs, 0, none⟩))
  c14 : w.cell? ⟨B.s, 14, none⟩ = some (.map (some B.fr))
  c15 : w.cell? ⟨B.s, 15, none⟩ = some (.map (some B.dy))
  c16 : w.cell? ⟨B.s, 16, none⟩ = some (.map (some B.de))
  c17 : w.cell? ⟨B.s, 17, none⟩ = some (.pointer (some ⟨B.bc, 0, none⟩))
  z : ∀ o, w.frozen? ⟨B.s, o, none⟩ = false
  lt : B.s < w.heap.size
theorem StoreAt.sc {w : World} {B : Blk} {x : Sto} (h : StoreAt w B x) : SC w B x :=
  ⟨by simpa using cell_of_heap h.s 0, by simpa using cell_of_heap h.s 9, by simpa using cell_of_heap h.s 10, by simpa using cell_of_heap h.s 11, by simpa using cell_of_heap h.s 12, by simpa using cell_of_heap h.s 13,
    by simpa using cell_of_heap h.s 14, by simpa using cell_of_heap h.s 15, by simpa using cell_of_heap h.s 16, by simpa using cell_of_heap h.s 17, fun o => frozen_of_heap h.s o, lt_of_heap h.s⟩
namespace SF
theorem in_ok {w : World} {B : Blk} {x : Sto} (h : StoreAt w B x) (p st : Int) (h0 : 0 ≤ p) (h1 : p < x.pages) :
    Calls Tryz.prog 85 #[B.ptr, .agg #[.int .i64 p, .int .i64 st]] w fun e w' => e = .returned (.int .i64 0) ∧ Fr (fun _ => False) w w' := by
  have c10 := h.sc.c10
  have l := h.sc.lt
  clear h
  go_enter Tryz.func85, Tryz.ntmps85
  go_wp2
  go_quiet (fail)
  go_wp2
  go_ret
  exact ⟨rfl, ((Fr.refl _ _).alloc _).drewN _⟩
theorem in_low {w : World} {B : Blk} {x : Sto} (h : StoreAt w B x) (p st : Int) (h0 : p < 0) :
    Calls Tryz.prog 85 #[B.ptr, .agg #[.int .i64 p, .int .i64 st]] w fun e w' => e = .returned (.int .i64 2) ∧ Fr (fun _ => False) w w' := by
  have c10 := h.sc.c10
  have l := h.sc.lt
  clear h
  go_enter Tryz.func85, Tryz.ntmps85
  go_wp2
  go_quiet (fail)
  go_wp2
  go_ret
  exact ⟨rfl, ((Fr.refl _ _).alloc _).drewN _⟩
theorem in_high {w : World} {B : Blk} {x : Sto} (h : StoreAt w B x) (p st : Int) (h0 : 0 ≤ p) (h1 : x.pages ≤ p) :
    Calls Tryz.prog 85 #[B.ptr, .agg #[.int .i64 p, .int .i64 st]] w fun e w' => e = .returned (.int .i64 2) ∧ Fr (fun _ => False) w w' := by
  have c10 := h.sc.c10
  have l := h.sc.lt
  clear h
  go_enter Tryz.func85, Tryz.ntmps85
  go_wp2
  go_quiet (fail)
  go_wp2
  go_ret
  exact ⟨rfl, ((Fr.refl _ _).alloc _).drewN _⟩
theorem in_no {w : World} {B : Blk} {x : Sto} (h : StoreAt w B x) (p st : Int) (h0 : p < 0 ∨ x.pages ≤ p) :
    Calls Tryz.prog 85 #[B.ptr, .agg #[.int .i64 p, .int .i64 st]] w fun e w' => e = .returned (.int .i64 2) ∧ Fr (fun _ => False) w w' := by
  rcases Int.lt_or_le p 0 with h1 | h1
  · exact in_low h p st h1
  · exact in_high h p st h1 (by omega)
theorem in_nil (p st : Int) (w : World) :
    Calls Tryz.prog 85 #[.pointer none, .agg #[.int .i64 p, .int .i64 st]] w fun e w' => e = .returned (.int .i64 1) ∧ Fr (fun _ => False) w w' := by
  go_enter Tryz.func85, Tryz.ntmps85
  go_wp2
  go_ret
  exact ⟨rfl, (Fr.refl _ _).alloc _⟩
theorem gen_at {w : World} {B : Blk} {x : Sto} (h : StoreAt w B x) : Calls Tryz.prog 31 #[B.ptr] w fun e w' => e = .returned (.int .i64 x.gen) ∧ w = w' := by
  have c := h.sc.c12
  clear h
  go_enter Tryz.func31, Tryz.ntmps31
  go_wp2
  go_ret
  exact ⟨rfl, rfl⟩
theorem gen_nil (w : World) : Calls Tryz.prog 31 #[.pointer none] w fun e w' => e = .returned (.int .i64 0) ∧ w = w' := by
  go_enter Tryz.func31, Tryz.ntmps31
  go_wp2
  go_ret
  exact ⟨rfl, rfl⟩
theorem held_at {w : World} {B : Blk} {x : Sto} (h : StoreAt w B x) : Calls Tryz.prog 23 #[B.ptr] w fun e w' => ∃ c : Nat, e = .returned (.int .i64 c) ∧ (c ≤ x.places ∧ ∀ L, Cover x.mem L → c ≤ L.length) ∧ w = w' := by
  have c := h.sc.c17
  have H := hid (lenmem_at h.mem)
  clear h
  go_enter Tryz.func23, Tryz.ntmps23
  go_wp2_with (go_at_call 84; refine H.out.mono ?_; rintro e w' ⟨c, rfl, hc, rfl⟩)
  go_ret
  exact ⟨c, rfl, hc, rfl⟩
theorem held_nil (w : World) : Calls Tryz.prog 23 #[.pointer none] w fun e w' => e = .returned (.int .i64 0) ∧ w = w' := by
  go_enter Tryz.func23, Tryz.ntmps23
  go_wp2
  go_ret
  exact ⟨rfl, rfl⟩
end SF
end Go.Proofs.YtgdhaaokolfdoaaGreatDoor

/- The store: keep. Conditions: the store lies in the world as StoreAt says. -/
namespace Go.Proofs.YtgdhaaokolfdoaaGreatDoor
open Go.RowKit Go.Sg Go.Sg.Bits Go.Sg.Clk CP
namespace SF
theorem clkR {B : Blk} {b : Nat} (h : b = B.bc ∨ b = B.bp ∨ b = B.bm) : ∃ r ∈ [Role.bc, Role.bp, Role.bm], b = B.at_ r := by
  rcases h with rfl | rfl | rfl
  · exact ⟨.bc, by simp, rfl⟩
  · exact ⟨.bp, by simp, rfl⟩
  · exact ⟨.bm, by simp, rfl⟩
set_option maxHeartbeats 2000000 in
theorem keep_any {R : Ending → World → Prop} {w : World} {B : Blk} {x : Sto} (h : StoreAt w B x) (n : Int) (p : Pg)
    (h0 : ∀ W g, GoneOk x.mem x.places n g → (gV g).dirty = false → MemAt W B.bc B.bp B.bm x.places (putF x.mem n p g) → FrR B [.bc, .bp, .bm] w W → R (.returned (.int .i64 0)) W)
    (h1 : ∀ W g, GoneOk x.mem x.places n (some g) → g.2.dirty = true → MemAt W B.bc B.bp B.bm x.places (putF x.mem n p (some g)) → FrR B [.bc, .bp, .bm] w W → Calls Tryz.prog 110 #[B.ptr, .int .i64 g.1, g.2.val] W fun e W' => ∃ err : Int, e = .returned (.int .i64 err) ∧ R e W') :
    Calls Tryz.prog 82 #[B.ptr, .int .i64 n, p.val] w R := by
  obtain ⟨st, la, ll, lc, di⟩ := p
  have c17 := h.sc.c17
  have l := h.sc.lt
  obtain ⟨w1, hw1⟩ : ∃ w1, w.alloc (.cells #[.int .i64 st, .slice la ll lc, .bool di] 162) = w1 := ⟨_, rfl⟩
  have F1 : Fr (fun _ => False) w w1 := by rw [← hw1]; exact (Fr.refl _ _).alloc _
  have b1 : w1.heap[w.heap.size]? = some (.cells #[.int .i64 st, .slice la ll lc, .bool di] 162) := by rw [← hw1]; exact heap_alloc_new _ _
  obtain ⟨d0, d1, d2, dz, dl⟩ := cells3 b1
  have c17' := (F1.cell (p := ⟨B.s, 17, none⟩) l (fun h => h)).trans c17
  have l' := Nat.lt_of_lt_of_le l F1.size
  have HP := hid (fun W (F : Fr (fun _ => False) w1 W) => (putmem_at (h.mem.fr (F1.trans F (fun _ _ h => h)) (fun h => h) (fun h => h) (fun h => h)) n ⟨st, la, ll, lc, di⟩).mono
    (fun (e : Ending) W' ⟨g, hg, he, hm, F'⟩ => (⟨g, hg, he, hm, Fr.trans (S := fun b => b = B.bc ∨ b = B.bp ∨ b = B.bm) (S' := fun b => b = B.bc ∨ b = B.bp ∨ b = B.bm) (F.mono (fun _ _ h => h.elim)) F' (fun _ _ h => h), F'⟩ :
      ∃ g, GoneOk x.mem x.places n g ∧ e = Ending.returned (.tuple #[.int .i64 (gK g), (gV g).val, .bool g.isSome]) ∧ MemAt W' B.bc B.bp B.bm x.places (putF x.mem n ⟨st, la, ll, lc, di⟩ g) ∧ Fr (fun b => b = B.bc ∨ b = B.bp ∨ b = B.bm) w1 W' ∧ Fr (fun b => b = B.bc ∨ b = B.bp ∨ b = B.bm) W W')))
  have nS : ¬ (B.s = B.bc ∨ B.s = B.bp ∨ B.s = B.bm) := by
    have a1 := h.out (L := [.bc, .bp, .bm]) (r := .s) (by decide)
    simpa [Blk.at_] using a1
  have nW : ¬ (w.heap.size = B.bc ∨ w.heap.size = B.bp ∨ w.heap.size = B.bm) := by
    have := h.mem.lts
    omega
  have NX := hid (show ¬ (w1.heap.size = B.bc ∨ w1.heap.size = B.bp ∨ w1.heap.size = B.bm) by have := h.mem.lts; omega)
  have NS := hid nS
  have NW := hid nW
  clear nS nW
  have m1 : ¬ w1.heap.size = B.s := by omega
  have m2 : ¬ w1.heap.size = w.heap.size := by omega
  have HW := hid hw1
  have H0 := hid h0
  have H1 := hid h1
  have HF1 := hid F1
  clear h h0 h1 c17 hw1 b1 F1
  go_enter Tryz.func82, Tryz.ntmps82
  go_wp2
  rw [HW.out]
  go_region_held3 (fun W => W.cell? ⟨B.s, 17, none⟩ = some (.pointer (some ⟨B.bc, 0, none⟩)) ∧ W.cell? ⟨w.heap.size, 0, none⟩ = some (.int .i64 st) ∧ W.cell? ⟨w.heap.size, 1, none⟩ = some (.slice la ll lc) ∧ W.cell? ⟨w.heap.size, 2, none⟩ = some (.bool di))
    (go_keep)
    ((go_at_call 111; refine (HP.out _ (by first | exact ((Fr.refl _ _).alloc _) | exact (Fr.refl _ _) | exact ((Fr.refl _ _).drew) | exact ((Fr.refl _ _).alloc _).drew | exact ((Fr.refl _ _).drew.alloc _))).mono ?_; rintro e w7 ⟨g, hg, rfl, hm, F7, F8⟩; have e0 := fun (i : Nat) (hh : w1.heap.size < _) => F8.cell (p := ⟨w1.heap.size, i, none⟩) hh NX.out; have ez := fun (i : Nat) (hh : w1.heap.size < _) => World.frozen?_of_block (a := ⟨w1.heap.size, i, none⟩) (F8.block w1.heap.size hh NX.out); have el := F8.size; have el7 := F7.size; have m3 : ¬ w7.heap.size = B.s := (by omega); have m4 : ¬ w7.heap.size = w.heap.size := (by omega); have c17' := (F7.cell (p := ⟨B.s, 17, none⟩) l' NS.out).trans c17'; have d0 := (F7.cell (p := ⟨w.heap.size, 0, none⟩) dl NW.out).trans d0; have d1 := (F7.cell (p := ⟨w.heap.size, 1, none⟩) dl NW.out).trans d1; have d2 := (F7.cell (p := ⟨w.heap.size, 2, none⟩) dl NW.out).trans d2; have HF7 := hid F7; have HM := hid hm; have HG := hid hg; clear F7 hm hg F8))
  all_goals clear m1 m2 m3 m4
  all_goals rcases g with _ | ⟨gk, ⟨gst, ga, gl, gc, gd⟩⟩
  all_goals try simp only [gK, gV, Option.map_none, Option.map_some, Option.getD_none, Option.getD_some, Option.isSome_none, Option.isSome_some, Pg.zero]
  all_goals have FA : FrR B [.bc, .bp, .bm] w w7 := (HF1.out.mono (fun _ _ h => h.elim)).trans HF7.out (fun b _ h => clkR h)
  all_goals have FA := hid FA
  · go_wp2
    exact H0.out _ none HG.out rfl (HM.out.fr ((Fr.refl (fun _ => False) _).alloc _) (fun h => h) (fun h => h) (fun h => h)) (FA.out.alloc _)
  · cases gd with
    | false =>
      go_wp2
      exact H0.out _ _ HG.out rfl (HM.out.fr ((Fr.refl (fun _ => False) _).alloc _) (fun h => h) (fun h => h) (fun h => h)) (FA.out.alloc _)
    | true =>
      go_wp2_with fail
      refine (H1.out _ _ HG.out rfl (HM.out.fr ((Fr.refl (fun _ => False) _).alloc _) (fun h => h) (fun h => h) (fun h => h)) (FA.out.alloc _)).mono ?_
      rintro e w9 ⟨err, rfl, hR⟩
      have HR := hid hR
      clear hR
      go_wp2
      exact HR.out
  · go_wp2
    exact H0.out _ none HG.out rfl (HM.out.fr (Fr.set3 (S := fun b => b = w1.heap.size) (b := w1.heap.size) (Fr.refl _ _) rfl _ _ _) (fun h => NX.out (.inl h.symm)) (fun h => NX.out (.inr (.inl h.symm))) (fun h => NX.out (.inr (.inr h.symm)))) (Fr.set3n FA.out (by omega) _ _ _)
  · cases gd with
    | false =>
      go_wp2
      exact H0.out _ _ HG.out rfl (HM.out.fr (Fr.set3 (S := fun b => b = w1.heap.size) (b := w1.heap.size) (Fr.refl _ _) rfl _ _ _) (fun h => NX.out (.inl h.symm)) (fun h => NX.out (.inr (.inl h.symm))) (fun h => NX.out (.inr (.inr h.symm)))) (Fr.set3n FA.out (by omega) _ _ _)
    | true =>
      go_wp2_with fail
      refine (H1.out _ _ HG.out rfl (HM.out.fr (Fr.set3 (S := fun b => b = w1.heap.size) (b := w1.heap.size) (Fr.refl _ _) rfl _ _ _) (fun h => NX.out (.inl h.symm)) (fun h => NX.out (.inr (.inl h.symm))) (fun h => NX.out (.inr (.inr h.symm)))) (Fr.set3n FA.out (by omega) _ _ _)).mono ?_
      rintro e w9 ⟨err, rfl, hR⟩
      have HR := hid hR
      clear hR
      go_wp2
      exact HR.out
end SF
end Go.Proofs.YtgdhaaokolfdoaaGreatDoor
