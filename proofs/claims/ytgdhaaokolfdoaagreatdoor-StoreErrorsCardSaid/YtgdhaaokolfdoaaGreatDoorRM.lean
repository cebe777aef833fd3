/- The store where there is room in memory: New, Write. Conditions: the store lies in the world as StoreAt says, no page goes. -/
import Derived.Test.YtgdhaaokolfdoaaGreatDoorSV
namespace Go.Proofs.YtgdhaaokolfdoaaGreatDoor
open Go.RowKit Go.Sg Go.Sg.Bits Go.Sg.Clk CP SF
theorem putF_none (m : Int → Option Pg) (k : Int) (x : Pg) : putF m k x none = updM m k (some x) := by
  funext j
  simp [putF, updM]
theorem outR_none {w : World} {x : Sto} {D : Dev} {err : Int} (h : OutR w x none D err) : D = x.dev ∧ err = 0 := h
/-- There is room for any page. -/
def Roomy (x : Sto) : Prop := ∃ L, Cover x.mem L ∧ L.length < x.places
def NewR (B : Blk) (x : Sto) (bs : List Int) (w : World) (e : Ending) (w' : World) : Prop :=
  ∃ (n : Nat) (p : Pg), TakeIs x.taken x.pages x.hand n ∧ e = .returned (.tuple #[.agg #[.int .i64 n, .int .i64 x.gen], .int .i64 0]) ∧
    StoreAt w' B { tk x n with mem := updM x.mem n (some p) } ∧ (p.stamp = x.gen ∧ p.dirty = true ∧ ByV w' p.la p.ll p.lc bs) ∧ FrB B.base w w'
def WFreshR (B : Blk) (x : Sto) (n : Nat) (bs : List Int) (w : World) (e : Ending) (w' : World) : Prop :=
  ∃ p : Pg, e = .returned (.tuple #[.agg #[.int .i64 n, .int .i64 x.gen], .int .i64 0]) ∧
    StoreAt w' B { x with mem := updM x.mem n (some p) } ∧ (p.stamp = x.gen ∧ p.dirty = true ∧ ByV w' p.la p.ll p.lc bs) ∧ FrB B.base w w'
def WNewR (B : Blk) (x : Sto) (n : Nat) (bs : List Int) (w : World) (e : Ending) (w' : World) : Prop :=
  ∃ (m : Nat) (p : Pg), TakeIs x.taken x.pages x.hand m ∧ e = .returned (.tuple #[.agg #[.int .i64 m, .int .i64 x.gen], .int .i64 0]) ∧
    StoreAt w' B { tk x m with mem := updM x.mem m (some p), dying := updI x.dying n true } ∧ (p.stamp = x.gen ∧ p.dirty = true ∧ ByV w' p.la p.ll p.lc bs) ∧ FrB B.base w w'
namespace SF
theorem newpost_room {B : Blk} {x : Sto} {bs : List Int} {w w' : World} {e : Ending} (hr : Roomy x) (h : NewPost B x bs w e w') : NewR B x bs w e w' := by
  obtain ⟨n, err, g, D, p, hn, he, hg, ho, hS, hp, hF⟩ := h
  obtain rfl := HasRoom.none (x := x) (n := n) (.inr hr) hg
  obtain ⟨rfl, rfl⟩ := outR_none ho
  refine ⟨n, p, hn, he, ?_, hp, hF⟩
  rw [putF_none] at hS
  exact hS
theorem new_room {w : World} {B : Blk} {x : Sto} (h : StoreAt w B x) (hT : Tab w) (hB0 : 0 < B.base) {la : Option Addr} {ll lc : Nat} {bs : List Int} (hin : Inp w B la ll lc bs) (hl : ll ≤ x.room) {j : Nat} (hj : j < x.pages) (hfree : x.taken j = false) (hr : Roomy x) :
    Calls Tryz.prog 22 #[B.ptr, .slice la ll lc] w (NewR B x bs w) :=
  (new_ok h hT hB0 hin hl hj hfree fun W p n hn hS hF hp => keep_room hS n p hp (.inr hr)).mono fun _ _ hP => newpost_room hr hP
theorem wfresh_room {w : World} {B : Blk} {x : Sto} (h : StoreAt w B x) (n : Nat) (st : Int) {la : Option Addr} {ll lc : Nat} {bs : List Int} (hin : Inp w B la ll lc bs) (hl : ll ≤ x.room) (hp : n < x.pages) (ht : x.taken n = true) (hf : x.fresh n = true) (hr : HasRoom x n) :
    Calls Tryz.prog 26 #[B.ptr, .agg #[.int .i64 n, .int .i64 st], .slice la ll lc] w (WFreshR B x n bs w) := by
  refine (write_fresh h n st hin hl hp ht hf fun W p hS hF hp => keep_room hS n p hp hr).mono ?_
  rintro e w' ⟨err, g, D, p, he, hg, ho, hS, hp, hF⟩
  obtain rfl := hr.none hg
  obtain ⟨rfl, rfl⟩ := outR_none ho
  rw [putF_none] at hS
  exact ⟨p, he, hS, hp, hF⟩
theorem Inp.fr0 {w w' : World} {B : Blk} {la : Option Addr} {ll lc : Nat} {bs : List Int} (h : Inp w B la ll lc bs) (F : Fr (fun _ => False) w w') (hB : B.base ≤ w.heap.size) : Inp w' B la ll lc bs := by
  refine ⟨⟨h.1.by_.fr F (fun _ _ _ _ h => h), h.1.at_⟩, fun b off e => ?_⟩
  rcases h.2 b off e with h1 | h1
  · exact .inl h1
  · refine .inr ?_
    cases hb : w.heap[b]? with
    | none => rw [kd, hb] at h1; cases h1
    | some o => rw [kd, F.heap hb (fun h => h)]; rw [kd, hb] at h1; exact h1
theorem wnew_room {w : World} {B : Blk} {x : Sto} (h : StoreAt w B x) (hT : Tab w) (hB0 : 0 < B.base) (n : Nat) (st : Int) {la : Option Addr} {ll lc : Nat} {bs : List Int} (hin : Inp w B la ll lc bs) (hl : ll ≤ x.room) (hp : n < x.pages) (ht : x.taken n = true) (hf : x.fresh n = false) {j : Nat} (hj : j < x.pages) (hfree : x.taken j = false) (hr : Roomy x) :
    Calls Tryz.prog 26 #[B.ptr, .agg #[.int .i64 n, .int .i64 st], .slice la ll lc] w (WNewR B x n bs w) := by
  have hBw : B.base ≤ w.heap.size := by have := (h.heaps .s); omega
  refine (write_new h n st (bs := bs) hl hp ht hf fun W hS F => new_ok hS (hT.fr F (fun h => h)) hB0 (Inp.fr0 hin F hBw) hl hj hfree fun W p n hn hS hF hp => keep_room hS n p hp (.inr hr)).mono ?_
  rintro e w' ⟨m, err, g, D, p, hm, he, hg, ho, hS, hp, hF⟩
  obtain rfl := HasRoom.none (x := x) (n := m) (.inr hr) hg
  obtain ⟨rfl, rfl⟩ := outR_none ho
  rw [moved, if_pos rfl, putF_none] at hS
  exact ⟨m, p, hm, he, hS, hp, hF⟩
end SF
end Go.Proofs.YtgdhaaokolfdoaaGreatDoor
