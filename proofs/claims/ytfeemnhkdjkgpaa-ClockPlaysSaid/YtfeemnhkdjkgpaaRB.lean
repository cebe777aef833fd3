/- The walk of ClockPlays. Conditions: the arguments read as the row opens them. -/
import Derived.Test.YtfeemnhkdjkgpaaRA
namespace Go.Proofs.Ytfeemnhkdjkgpaa
open Go.RowKit Go.Sg Go.Sg.Clk

theorem tmod6 (x : Int) : -6 < x.tmod 6 ∧ x.tmod 6 < 6 :=
  ⟨Int.lt_tmod_of_pos x (by decide), Int.tmod_lt_of_pos x (by decide)⟩

/-- Both clocks, the program's and the reference's, hold the same places. -/
structure Both (w : World) (bc bp bm br : Nat) (pl : List Pl) (hand : Nat) : Prop where
  c : CI.AtI w bc bp bm pl hand
  r : ∃ g cap, w.heap[br]? = some (.cells #[.slice (some ⟨g, 0, none⟩) pl.length cap, .int .i64 hand] 43) ∧ RS w g cap pl ∧ pl.length ≤ cap
theorem Both.fr {w w' : World} {bc bp bm br : Nat} {pl : List Pl} {hand : Nat} (h : Both w bc bp bm br pl hand) (F : Fr (fun _ => False) w w') : Both w' bc bp bm br pl hand := by
  obtain ⟨g, cap, h1, h2, h3⟩ := h.r
  exact ⟨h.c.fr F (fun h => h) (fun h => h) (fun h => h), g, cap, F.heap h1 (fun h => h), h2.fr F (fun h => h), h3⟩

theorem cells3 {w : World} {b : Nat} {x y z : Value} {t : TypeId} (h : w.heap[b]? = some (.cells #[x, y, z] t)) :
    w.cell? ⟨b, 0, none⟩ = some x ∧ w.cell? ⟨b, 1, none⟩ = some y ∧ w.cell? ⟨b, 2, none⟩ = some z ∧ (∀ o, w.frozen? ⟨b, o, none⟩ = false) ∧ b < w.heap.size :=
  ⟨by simpa using cell_of_heap h 0, by simpa using cell_of_heap h 1, by simpa using cell_of_heap h 2, fun o => frozen_of_heap h o, lt_of_heap h⟩
theorem heap_ne {w : World} {a b : Nat} {o o' : Obj} (h : w.heap[a]? = some o) (h' : w.heap[b]? = some o') (hne : o ≠ o') : a ≠ b := by
  rintro rfl
  rw [h] at h'
  exact hne (Option.some.inj h')
theorem Both.ne {w : World} {bc bp bm br : Nat} {pl : List Pl} {hand : Nat} (h : Both w bc bp bm br pl hand) : br ≠ bc ∧ br ≠ bp ∧ br ≠ bm := by
  obtain ⟨g, cap, h1, _⟩ := h.r
  obtain ⟨l, ck, hm, _⟩ := h.c.m
  exact ⟨heap_ne h1 h.c.c (by simp), heap_ne h1 h.c.p (by simp), heap_ne h1 hm (by simp)⟩
/-- Between the reference's step and the program's. -/
structure Mid (w : World) (bc bp bm br : Nat) (pl : List Pl) (hand : Nat) (pl' : List Pl) (hand' : Nat) : Prop where
  c : CI.AtI w bc bp bm pl hand
  r : ∃ g cap, w.heap[br]? = some (.cells #[.slice (some ⟨g, 0, none⟩) pl'.length cap, .int .i64 hand'] 43) ∧ RS w g cap pl' ∧ pl'.length ≤ cap
  ne : br ≠ bc ∧ br ≠ bp ∧ br ≠ bm
theorem Mid.of {w wa : World} {bc bp bm br hand hand' g cap : Nat} {pl pl' : List Pl} (h : Both w bc bp bm br pl hand) (Fa : Fr (fun _ => False) w wa) (hR : RS wa g cap pl') (hc : pl'.length ≤ cap) {w' : World}
    (hw : (wa.setCell ⟨br, 0, none⟩ (.slice (some ⟨g, 0, none⟩) pl'.length cap)).setCell ⟨br, 1, none⟩ (.int .i64 hand') = w') :
    Mid w' bc bp bm br pl hand pl' hand' ∧ Fr (fun b => b = br) wa w' := by
  have hne := h.ne
  obtain ⟨g0, cap0, h1, h2, h3⟩ := (h.fr Fa).r
  have F : Fr (fun b => b = br) wa w' := by
    rw [← hw]
    exact ((Fr.refl (fun b => b = br) _).setCell (a := ⟨br, 0, none⟩) (fun _ => rfl) _).setCell (a := ⟨br, 1, none⟩) (fun _ => rfl) _
  refine ⟨⟨(h.fr Fa).c.fr F (fun e => hne.1 e.symm) (fun e => hne.2.1 e.symm) (fun e => hne.2.2 e.symm), ⟨g, cap, ?_, hR.fr F (RSl.ne_of hR h1 (by decide)), hc⟩, hne⟩, F⟩
  rw [← hw, heap_setCell_cells _ _ _ _ (heap_setCell_cells _ _ _ _ h1)]
  simp
theorem Mid.fr {w w' : World} {bc bp bm br hand hand' : Nat} {pl pl' : List Pl} (h : Mid w bc bp bm br pl hand pl' hand') (F : Fr (fun _ => False) w w') : Mid w' bc bp bm br pl hand pl' hand' := by
  obtain ⟨g, cap, h1, h2, h3⟩ := h.r
  exact ⟨h.c.fr F (fun h => h) (fun h => h) (fun h => h), ⟨g, cap, F.heap h1 (fun h => h), h2.fr F (fun h => h), h3⟩, h.ne⟩
theorem Both.lts {w : World} {bc bp bm br : Nat} {pl : List Pl} {hand : Nat} (h : Both w bc bp bm br pl hand) : bc < w.heap.size ∧ bp < w.heap.size ∧ bm < w.heap.size ∧ br < w.heap.size := by
  obtain ⟨g, cap, h1, _⟩ := h.r
  obtain ⟨l, ck, hm, _⟩ := h.c.m
  exact ⟨lt_of_heap h.c.c, lt_of_heap h.c.p, lt_of_heap hm, lt_of_heap h1⟩
theorem Mid.prog {w w' : World} {bc bp bm br hand hand' : Nat} {pl pl' : List Pl} (h : Mid w bc bp bm br pl hand pl' hand') (hA : CI.AtI w' bc bp bm pl' hand') {S : Nat → Prop} (F : Fr S w w') (hS : ∀ b, S b → b = bc ∨ b = bp ∨ b = bm) :
    Both w' bc bp bm br pl' hand' := by
  obtain ⟨g, cap, h1, h2, h3⟩ := h.r
  obtain ⟨n1, n2, n3⟩ := h.ne
  obtain ⟨l, ck, hm, _⟩ := h.c.m
  refine ⟨hA, g, cap, F.heap h1 (fun e => ?_), h2.fr F (fun e => ?_), h3⟩
  · rcases hS _ e with e | e | e
    · exact n1 e
    · exact n2 e
    · exact n3 e
  · obtain ⟨rest, hg⟩ := h2.h
    rcases hS _ e with e | e | e
    · exact heap_ne hg h.c.c (by simp) e
    · exact heap_ne hg h.c.p (by simp) e
    · exact heap_ne hg hm (by simp) e

set_option maxHeartbeats 4000000 in
set_option maxRecDepth 100000 in
theorem clockPlays_out (a0 : Int) (w0 : (Lit.int .i64 a0).wf = true) (a : Option Addr) (len cap : Nat) (w : World) (h : 200 < len ∨ a0 < 1 ∨ 20 < a0) :
    Calls Try.prog 5 #[.int .i64 a0, .slice a len cap] w fun e w' => e = .returned (.bool true) ∧ Fr (fun _ => False) w w' := by
  by_cases h1 : 200 < len
  · clear h
    go_enter Try.func5, Try.ntmps5
    go_wp2_with fail
    go_ret
    exact ⟨rfl, Fr.refl _ _⟩
  · by_cases h2 : 20 < a0 ∧ a0 ≤ 4096
    · obtain ⟨h2, h3⟩ := h2
      clear h
      go_enter Try.func5, Try.ntmps5
      go_wp2_with fail
      go_ret
      exact ⟨rfl, Fr.refl _ _⟩
    · have h3 : a0 < 1 ∨ 4096 < a0 := by omega
      have HN := hid (newclock_nil a0 h3 w)
      clear h h2
      rcases h3 with h3 | h3
      all_goals
        go_enter Try.func5, Try.ntmps5
        go_wp2_with fail
        refine HN.out.mono ?_
        rintro e w' ⟨rfl, rfl⟩
        go_wp2_with fail
        refine (room_nil _).mono ?_
        rintro e w' ⟨rfl, rfl⟩
        go_wp2_with fail
        refine (awake_ok _).mono ?_
        rintro e w2 ⟨rfl, F2⟩
        go_wp2
        try simp only [Exit.inBlock, Exit.then]
        go_ret
        exact ⟨rfl, F2⟩
end Go.Proofs.Ytfeemnhkdjkgpaa
