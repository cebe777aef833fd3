/- The set of bits: what Take and New compute. Conditions: the set lies in the world as BitsAt says, the library's table as its text lays it. -/
import Derived.Test.YtgdhaaokolfdoaaGreatDoorFree
namespace Go.Sg.Bits
open Go.RowKit
theorem BitsAt.room {w : World} {bs bw n hand : Nat} {t : Nat → Bool} (h : BitsAt w bs bw n hand t) : (1 ≤ n ∧ n ≤ 65536) ∧ hand < n := by
  obtain ⟨ws, h, _⟩ := h; exact ⟨h.room, h.hand⟩
theorem BitsAt.cells {w : World} {bs bw n hand : Nat} {t : Nat → Bool} (h : BitsAt w bs bw n hand t) : ∃ m, w.cell? ⟨bs, 0, none⟩ = some (.int .i64 n) ∧ w.cell? ⟨bs, 1, none⟩ = some (.int .i64 hand) ∧ w.cell? ⟨bs, 2, none⟩ = some (.slice (some ⟨bw, 0, none⟩) m m) ∧ ∀ o, w.frozen? ⟨bs, o, none⟩ = false := by
  obtain ⟨ws, h, _⟩ := h
  obtain ⟨c0, c1, c2, z, _⟩ := cells3 h.s
  exact ⟨_, c0, c1, c2, z⟩
theorem BitsAt.turn {w : World} {bs bw n hand : Nat} {t : Nat → Bool} (h : BitsAt w bs bw n hand t) {k : Nat} (hk : k < n) : BitsAt (w.setCell ⟨bs, 1, none⟩ (.int .i64 k)) bs bw n k t := by
  obtain ⟨ws, h, ht⟩ := h
  have hne : bs ≠ bw := heap_ne h.s h.w_ (by simp)
  refine ⟨ws, ⟨?_, ?_, h.len, h.room, hk, h.wf, h.pad⟩, ht⟩
  · rw [heap_setCell_cells _ _ _ _ h.s]; simp
  · rw [heap_setCell_ne _ _ _ _ hne, h.w_]
theorem BitsAt.lts {w : World} {bs bw n hand : Nat} {t : Nat → Bool} (h : BitsAt w bs bw n hand t) : bs < w.heap.size ∧ bw < w.heap.size ∧ bs ≠ bw := by
  obtain ⟨ws, h, ht⟩ := h
  exact ⟨lt_of_heap h.s, lt_of_heap h.w_, heap_ne h.s h.w_ (by simp)⟩

end Go.Sg.Bits
namespace Go.Proofs.YtgdhaaokolfdoaaGreatDoor
open Go.RowKit Go.Sg Go.Sg.Bits

/-- Which number is taken next. -/
def TakeIs (t : Nat → Bool) (n hand : Nat) (i : Nat) : Prop :=
  i < n ∧ t i = false ∧ ((hand ≤ i ∧ allTaken t n hand i) ∨ (allTaken t n hand n ∧ allTaken t n 0 i))

set_option maxHeartbeats 2000000 in
theorem take_none {w : World} {bs bw n hand : Nat} {t : Nat → Bool} (h : BitsAt w bs bw n hand t) (hT : Tab w) (hall : allTaken t n 0 n) :
    Calls Tryz.prog 81 #[.pointer (some ⟨bs, 0, none⟩)] w fun e w' => e = .returned (.tuple #[.int .i64 0, .bool false]) ∧ w = w' := by
  obtain ⟨m, c0, c1, c2, z⟩ := h.cells
  obtain ⟨hr, hh⟩ := h.room
  have nofree : ∀ a r, FreeIs t n a r → r = -1 := fun a r hf => by
    rcases hf with ⟨h, _⟩ | ⟨i, _, _, hi, hti, _⟩
    · exact h
    · rw [hall i (Nat.zero_le _) hi hi] at hti; cases hti
  have H := hid h
  have HT := hid hT
  have HN := hid nofree
  clear h hT hall nofree
  go_enter Tryz.func81, Tryz.ntmps81
  go_wp2_with fail
  refine (free_at H.out HT.out hand (by omega)).mono ?_
  rintro e w' ⟨r, hf, rfl, rfl⟩
  obtain rfl := HN.out _ _ hf
  clear hf
  go_wp2_with fail
  refine (free_at H.out HT.out 0 (by omega)).mono ?_
  rintro e w' ⟨r, hf, rfl, rfl⟩
  obtain rfl := HN.out _ _ hf
  clear hf
  go_wp2
  try simp only [Exit.inBlock, Exit.then]
  go_ret2
  exact ⟨rfl, rfl⟩

def TakePost (t : Nat → Bool) (bs bw n hand : Nat) (w : World) (e : Ending) (w' : World) : Prop :=
  ∃ i, TakeIs t n hand i ∧ e = .returned (.tuple #[.int .i64 i, .bool true]) ∧ BitsAt w' bs bw n ((i + 1) % n) (upd t i true) ∧ Fr (fun b => b = bs ∨ b = bw) w w'

set_option maxHeartbeats 2000000 in
theorem take_some {w : World} {bs bw n hand : Nat} {t : Nat → Bool} (h : BitsAt w bs bw n hand t) (hT : Tab w) {j : Nat} (hj : j < n) (hfree : t j = false) :
    Calls Tryz.prog 81 #[.pointer (some ⟨bs, 0, none⟩)] w (TakePost t bs bw n hand w) := by
  obtain ⟨m, c0, c1, c2, z⟩ := h.cells
  obtain ⟨hr, hh⟩ := h.room
  obtain ⟨l1, l2, l3⟩ := h.lts
  have H := hid h
  have HT := hid hT
  have HJ := hid hfree
  clear h hT hfree
  go_enter Tryz.func81, Tryz.ntmps81
  go_wp2_with fail
  refine (free_at H.out HT.out hand (by omega)).mono ?_
  rintro e w' ⟨r, hf, rfl, rfl⟩
  rcases hf with ⟨rfl, hall⟩ | ⟨i, rfl, hhi, hi, hti, hall⟩
  · have HALL := hid hall
    clear hall
    go_wp2_with fail
    refine (free_at H.out HT.out 0 (by omega)).mono ?_
    rintro e w' ⟨r, hf, rfl, rfl⟩
    rcases hf with ⟨rfl, hall⟩ | ⟨i, rfl, hhi, hi, hti, hall⟩
    · have := hall j (Nat.zero_le _) hj hj
      rw [HJ.out] at this; cases this
    · have HI := hid (show TakeIs t n hand i from ⟨hi, hti, .inr ⟨HALL.out, hall⟩⟩)
      have HTI := hid hti
      clear hall hti
      go_wp2_with fail
      refine (mark_new H.out i hi HTI.out).mono ?_
      rintro e w1 ⟨rfl, hB, F1⟩
      obtain ⟨m', d0, d1, d2, dz⟩ := hB.cells
      have HB := hid hB
      have hmod := Nat.mod_lt (i + 1) (show 0 < n by omega)
      have hc1 : ((i : Int) + 1) % (n : Int) = (((i + 1) % n : Nat) : Int) := by simp
      have HC := hid hc1
      clear hB hc1
      go_wp2
      go_ret2
      exact ⟨i, HI.out, rfl, by rw [HC.out]; exact HB.out.turn hmod, (F1.mono (fun b _ h => .inr h)).setCell (fun _ => .inl rfl) _⟩
  · have HI := hid (show TakeIs t n hand i from ⟨hi, hti, .inl ⟨hhi, hall⟩⟩)
    have HTI := hid hti
    clear hall hti
    go_wp2_with fail
    refine (mark_new H.out i hi HTI.out).mono ?_
    rintro e w1 ⟨rfl, hB, F1⟩
    obtain ⟨m', d0, d1, d2, dz⟩ := hB.cells
    have HB := hid hB
    have hmod := Nat.mod_lt (i + 1) (show 0 < n by omega)
    have hc1 : ((i : Int) + 1) % (n : Int) = (((i + 1) % n : Nat) : Int) := by simp
    have HC := hid hc1
    clear hB hc1
    go_wp2
    go_ret2
    exact ⟨i, HI.out, rfl, by rw [HC.out]; exact HB.out.turn hmod, (F1.mono (fun b _ h => .inr h)).setCell (fun _ => .inl rfl) _⟩

theorem info29 : (Tryz.prog.info? 29).map (fun i => (i.zero, i.size, i.bytes)) = some (some (.int .u64 0), 1, 8) := by kernel_rfl
set_option maxHeartbeats 1000000 in
set_option maxRecDepth 100000 in
theorem newbits_ok (n : Nat) (h1 : 1 ≤ n) (h2 : n ≤ 65536) (w : World) :
    Calls Tryz.prog 95 #[.int .i64 n] w fun e w' => ∃ bs bw, e = .returned (.pointer (some ⟨bs, 0, none⟩)) ∧ BitsAt w' bs bw n 0 (fun _ => false) ∧ w.heap.size ≤ bs ∧ w.heap.size ≤ bw ∧ Fr (fun _ => False) w w' := by
  obtain ⟨i0, hi, hz0, hz1, hz2⟩ := info_parts info29
  have hmk := fun W => run_make_len (P := Tryz.prog) 254 29 i0 _ Tryz.underlying254 hi hz0 ((n + 63) / 64) (by rw [hz2]; omega) (by omega) W
  rw [hz1] at hmk
  have e : (((n + 63) / 64 : Nat) : Int) = ((n : Int) + 64 - 1) / 64 := by omega
  simp only [e] at hmk
  clear hi hz0 hz1 hz2 e
  go_enter Tryz.func95, Tryz.ntmps95
  go_wp2
  go_ret
  have hz : madeCells #[Value.int IntKind.u64 0] ((n + 63) / 64) = wcells (List.replicate ((n + 63) / 64) 0) := by
    apply Array.ext
    · rw [size_madeCells]; simp [wcells]
    · intro i h1 h2
      simp [madeCells, wcells, Nat.mod_one]
  refine ⟨w.heap.size + 1, w.heap.size, by simp, ⟨List.replicate ((n + 63) / 64) 0, ?_, fun i => ?_⟩, by omega, Nat.le_refl _, ((Fr.refl _ _).alloc _).alloc _⟩
  · obtain ⟨g1, g2, _⟩ := heap_two (w := w) (A := .cells (madeCells #[.int .u64 0] ((n + 63) / 64)) 29) (B := .cells #[.int .i64 n, .int .i64 0, .slice (some ⟨w.heap.size, 0, none⟩) ((n + 63) / 64) ((n + 63) / 64)] 256) rfl
    refine ⟨?_, ?_, by simp, ⟨h1, h2⟩, by omega, fun x hx => ?_, fun i _ => ?_⟩
    · rw [List.length_replicate]; exact g2
    · rw [← hz]; exact g1
    · rw [List.eq_of_mem_replicate hx]; decide
    · simp [bit, List.getD, List.getElem?_replicate]; split <;> simp
  · simp [bit, List.getD, List.getElem?_replicate]; split <;> simp
set_option maxRecDepth 100000 in
theorem newbits_nil (x : Int) (h : x < 1 ∨ 65536 < x) (w : World) : Calls Tryz.prog 95 #[.int .i64 x] w fun e w' => e = .returned (.pointer none) ∧ w = w' := by
  rcases h with h | h
  all_goals
    go_enter Tryz.func95, Tryz.ntmps95
    go_wp2
    go_ret
    exact ⟨rfl, rfl⟩
end Go.Proofs.YtgdhaaokolfdoaaGreatDoor
