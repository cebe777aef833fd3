/- The store: in, Gen, Held, Plan, Mark. Conditions: the store lies in the world as StoreAt says. -/
import Derived.Test.YtgdhaaokolfdoaaGreatDoorSt
namespace Go.Proofs.YtgdhaaokolfdoaaGreatDoor
open Go.RowKit Go.Sg Go.Sg.Bits CP
/-- The cells of a store, one by one. -/
structure SC (w : World) (B : Blk) (x : Sto) : Prop where
  c0 : w.cell? ⟨B.s, 0, none⟩ = some (.pointer (some ⟨B.d, 0, none⟩))
  c9 : w.cell? ⟨B.s, 9, none⟩ = some (.int .i64 x.first)
  c10 : w.cell? ⟨B.s, 10, none⟩ = some (.int .i64 x.pages)
  c11 : w.cell? ⟨B.s, 11, none⟩ = some (.int .i64 x.room)
  c12 : w.cell? ⟨B.s, 12, none⟩ = some (.int .i64 x.gen)
  c13 : w.cell? ⟨B.s, 13, none⟩ = some (.pointer (some ⟨B.bs, 0, none⟩))
  c14 : w.cell? ⟨B.s, 14, none⟩ = some (.map (some B.fr))
  c15 : w.cell? ⟨B.s, 15, none⟩ = some (.map (some B.dy))
  c16 : w.cell? ⟨B.s, 16, none⟩ = some (.map (some B.de))
  c17 : w.cell? ⟨B.s, 17, none⟩ = some (.pointer (some ⟨B.bc, 0, none⟩))
  z : ∀ o, w.frozen? ⟨B.s, o, none⟩ = false
  lt : B.s < w.heap.size
theorem StoreAt.sc {w : World} {B : Blk} {x : Sto} (h : StoreAt w B x) : SC w B x :=
  ⟨by simpa using cell_of_heap h.s 0, by simpa using cell_of_heap h.s 9, by simpa using cell_of_heap h.s 10, by simpa using cell_of_heap h.s 11, by simpa using cell_of_heap h.s 12, by simpa using cell_of_heap h.s 13,
    by simpa using cell_of_heap h.s 14, by simpa using cell_of_heap h.s 15, by simpa using cell_of_heap h.s 16, by simpa using cell_of_heap h.s 17, fun o => frozen_of_heap h.s o, lt_of_heap h.s⟩
namespace SF
theorem in_ok {w : World} {B : Blk} {x : Sto} (h : StoreAt w B x) (p st : Int) (h0 : 0 ≤ p) (h1 : p < x.pages) :
    Calls Tryz.prog 85 #[B.ptr, .agg #[.int .i64 p, .int .i64 st]] w fun e w' => e = .returned (.int .i64 0) ∧ Fr (fun _ => False) w w' := by
  have c10 := h.sc.c10
  have l := h.sc.lt
  clear h
  go_enter Tryz.func85, Tryz.ntmps85
  go_wp2
  go_quiet (fail)
  go_wp2
  go_ret
  exact ⟨rfl, ((Fr.refl _ _).alloc _).drewN _⟩
theorem in_low {w : World} {B : Blk} {x : Sto} (h : StoreAt w B x) (p st : Int) (h0 : p < 0) :
    Calls Tryz.prog 85 #[B.ptr, .agg #[.int .i64 p, .int .i64 st]] w fun e w' => e = .returned (.int .i64 2) ∧ Fr (fun _ => False) w w' := by
  have c10 := h.sc.c10
  have l := h.sc.lt
  clear h
  go_enter Tryz.func85, Tryz.ntmps85
  go_wp2
  go_quiet (fail)
  go_wp2
  go_ret
  exact ⟨rfl, ((Fr.refl _ _).alloc _).drewN _⟩
theorem in_high {w : World} {B : Blk} {x : Sto} (h : StoreAt w B x) (p st : Int) (h0 : 0 ≤ p) (h1 : x.pages ≤ p) :
    Calls Tryz.prog 85 #[B.ptr, .agg #[.int .i64 p, .int .i64 st]] w fun e w' => e = .returned (.int .i64 2) ∧ Fr (fun _ => False) w w' := by
  have c10 := h.sc.c10
  have l := h.sc.lt
  clear h
  go_enter Tryz.func85, Tryz.ntmps85
  go_wp2
  go_quiet (fail)
  go_wp2
  go_ret
  exact ⟨rfl, ((Fr.refl _ _).alloc _).drewN _⟩
theorem in_no {w : World} {B : Blk} {x : Sto} (h : StoreAt w B x) (p st : Int) (h0 : p < 0 ∨ x.pages ≤ p) :
    Calls Tryz.prog 85 #[B.ptr, .agg #[.int .i64 p, .int .i64 st]] w fun e w' => e = .returned (.int .i64 2) ∧ Fr (fun _ => False) w w' := by
  rcases Int.lt_or_le p 0 with h1 | h1
  · exact in_low h p st h1
  · exact in_high h p st h1 (by omega)
theorem in_nil (p st : Int) (w : World) :
    Calls Tryz.prog 85 #[.pointer none, .agg #[.int .i64 p, .int .i64 st]] w fun e w' => e = .returned (.int .i64 1) ∧ Fr (fun _ => False) w w' := by
  go_enter Tryz.func85, Tryz.ntmps85
  go_wp2
  go_ret
  exact ⟨rfl, (Fr.refl _ _).alloc _⟩
theorem gen_at {w : World} {B : Blk} {x : Sto} (h : StoreAt w B x) : Calls Tryz.prog 31 #[B.ptr] w fun e w' => e = .returned (.int .i64 x.gen) ∧ w = w' := by
  have c := h.sc.c12
  clear h
  go_enter Tryz.func31, Tryz.ntmps31
  go_wp2
  go_ret
  exact ⟨rfl, rfl⟩
theorem gen_nil (w : World) : Calls Tryz.prog 31 #[.pointer none] w fun e w' => e = .returned (.int .i64 0) ∧ w = w' := by
  go_enter Tryz.func31, Tryz.ntmps31
  go_wp2
  go_ret
  exact ⟨rfl, rfl⟩
theorem held_at {w : World} {B : Blk} {x : Sto} (h : StoreAt w B x) : Calls Tryz.prog 23 #[B.ptr] w fun e w' => ∃ c : Nat, e = .returned (.int .i64 c) ∧ (c ≤ x.places ∧ ∀ L, Cover x.mem L → c ≤ L.length) ∧ w = w' := by
  have c := h.sc.c17
  have H := hid (lenmem_at h.mem)
  clear h
  go_enter Tryz.func23, Tryz.ntmps23
  go_wp2_with (go_at_call 84; refine H.out.mono ?_; rintro e w' ⟨c, rfl, hc, rfl⟩)
  go_ret
  exact ⟨c, rfl, hc, rfl⟩
theorem held_nil (w : World) : Calls Tryz.prog 23 #[.pointer none] w fun e w' => e = .returned (.int .i64 0) ∧ w = w' := by
  go_enter Tryz.func23, Tryz.ntmps23
  go_wp2
  go_ret
  exact ⟨rfl, rfl⟩
end SF
end Go.Proofs.YtgdhaaokolfdoaaGreatDoor
