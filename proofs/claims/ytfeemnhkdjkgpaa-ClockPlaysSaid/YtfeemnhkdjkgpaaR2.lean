/- The reference's clock: what with computes. Conditions: the places lie in the world as RSl says. -/
import Derived.Test.YtfeemnhkdjkgpaaR1
import Derived.Laws.OwnMore
import Derived.OwnWalk
import Derived.Maps.AppendAt
namespace Go.Sg.Clk
open Go.RowKit
theorem _root_.Go.Sg.Fr.setNew {S : Nat → Prop} {w w1 : World} (h : Fr S w w1) {b o : Nat} (hb : w.heap.size ≤ b) (v : Value) : Fr S w (w1.setCell ⟨b, o, none⟩ v) := h.setCell (fun h' => absurd h' (by simp; omega)) v
theorem cells2 {w : World} {b : Nat} {x y : Value} {t : TypeId} (h : w.heap[b]? = some (.cells #[x, y] t)) : w.cell? ⟨b, 0, none⟩ = some x ∧ w.cell? ⟨b, 1, none⟩ = some y ∧ (∀ o, w.frozen? ⟨b, o, none⟩ = false) ∧ b < w.heap.size :=
  ⟨by simpa using cell_of_heap h 0, by simpa using cell_of_heap h 1, fun o => frozen_of_heap h o, lt_of_heap h⟩
theorem cells4 {w : World} {b : Nat} {x y z u : Value} {t : TypeId} (h : w.heap[b]? = some (.cells #[x, y, z, u] t)) :
    w.cell? ⟨b, 0, none⟩ = some x ∧ w.cell? ⟨b, 1, none⟩ = some y ∧ w.cell? ⟨b, 2, none⟩ = some z ∧ w.cell? ⟨b, 3, none⟩ = some u ∧ (∀ o, w.frozen? ⟨b, o, none⟩ = false) ∧ b < w.heap.size :=
  ⟨by simpa using cell_of_heap h 0, by simpa using cell_of_heap h 1, by simpa using cell_of_heap h 2, by simpa using cell_of_heap h 3, fun o => frozen_of_heap h o, lt_of_heap h⟩
theorem heap_two {w w' : World} {A B : Obj} (h : (w.alloc A).alloc B = w') : w'.heap[w.heap.size]? = some A ∧ w'.heap[w.heap.size + 1]? = some B ∧ Fr (fun _ => False) w w' := by
  subst h
  refine ⟨?_, ?_, ((Fr.refl _ _).alloc _).alloc _⟩
  · rw [heap_alloc_lt _ _ _ (by simp)]; exact heap_alloc_new _ _
  · have := heap_alloc_new (w.alloc A) B; simpa using this
theorem heap_three {w w' : World} {A B C : Obj} (h : ((w.alloc A).alloc B).alloc C = w') :
    w'.heap[w.heap.size]? = some A ∧ w'.heap[w.heap.size + 1]? = some B ∧ w'.heap[w.heap.size + 1 + 1]? = some C ∧ Fr (fun _ => False) w w' := by
  obtain ⟨w2, hw⟩ : ∃ w2, (w.alloc A).alloc B = w2 := ⟨_, rfl⟩
  obtain ⟨h1, h2, h3⟩ := heap_two hw
  rw [hw] at h
  have hs : w2.heap.size = w.heap.size + 1 + 1 := by rw [← hw]; simp
  subst h
  refine ⟨?_, ?_, ?_, h3.alloc _⟩
  · rw [heap_alloc_lt _ _ _ (lt_of_heap h1)]; exact h1
  · rw [heap_alloc_lt _ _ _ (lt_of_heap h2)]; exact h2
  · have := heap_alloc_new w2 C; rw [hs] at this; exact this
theorem heap_four {w w' : World} {A B C D : Obj} (h : (((w.alloc A).alloc B).alloc C).alloc D = w') :
    w'.heap[w.heap.size]? = some A ∧ w'.heap[w.heap.size + 1]? = some B ∧ w'.heap[w.heap.size + 1 + 1]? = some C ∧ w'.heap[w.heap.size + 1 + 1 + 1]? = some D ∧ Fr (fun _ => False) w w' := by
  obtain ⟨w2, hw⟩ : ∃ w2, ((w.alloc A).alloc B).alloc C = w2 := ⟨_, rfl⟩
  obtain ⟨h1, h2, h3, hF⟩ := heap_three hw
  rw [hw] at h
  have hs : w2.heap.size = w.heap.size + 1 + 1 + 1 := by rw [← hw]; simp
  subst h
  refine ⟨?_, ?_, ?_, ?_, hF.alloc _⟩
  · rw [heap_alloc_lt _ _ _ (lt_of_heap h1)]; exact h1
  · rw [heap_alloc_lt _ _ _ (lt_of_heap h2)]; exact h2
  · rw [heap_alloc_lt _ _ _ (lt_of_heap h3)]; exact h3
  · have := heap_alloc_new w2 D; rw [hs] at this; exact this
theorem own_lit0 (W : World) (e : TypeId) (size : Nat) (v : Value) (h : v = .slice (some ⟨W.heap.size, 0, none⟩) 0 0) : (W.alloc (.cells #[] e)).ownsRow 0 e size v 0 [] := by
  subst h
  exact World.ownsRow_lit W #[] 0 (Nat.zero_le _) (Nat.zero_le _) (by simp)
theorem rsl_of_own {tp : TypeId} {W : World} {v : Value} {n : Nat} {pl : List Pl} (h : W.ownsRow 0 tp 4 v n (pl.flatMap Pl.rcells)) (hne : v ≠ .slice none 0 0) :
    ∃ g cap, v = .slice (some ⟨g, 0, none⟩) n cap ∧ RSl tp W g cap pl ∧ n ≤ cap := by
  obtain ⟨hl, ⟨rfl, _⟩ | ⟨g, cap, cur, rfl, _, hg, hn, _, hs, ht⟩⟩ := h
  · exact absurd rfl hne
  · refine ⟨g, cap, rfl, ⟨cur.toList.drop (n * 4), ?_⟩, hn⟩
    rw [hg, ← ht]
    simp
theorem rcells_one {pl : List Pl} (hv : ∀ p ∈ pl, ∃ y, p.v = .int .i64 y) : ∀ u ∈ pl.flatMap Pl.rcells, u.oneCell' = true := by
  intro u hu
  obtain ⟨p, hp, hu⟩ := List.mem_flatMap.1 hu
  obtain ⟨y, hy⟩ := hv p hp
  simp only [Pl.rcells, List.mem_cons, List.not_mem_nil, or_false] at hu
  rcases hu with rfl | rfl | rfl | rfl <;> first | rfl | (rw [hy]; rfl)
theorem RSl.cells {tp : TypeId} {w : World} {b cap : Nat} {pl : List Pl} (h : RSl tp w b cap pl) : ∀ (j : Nat) (u : Value), (pl.flatMap Pl.rcells)[j]? = some u → w.cell? ((⟨b, 0, none⟩ : Addr).add j) = some u := by
  intro j u hu
  obtain ⟨rest, h⟩ := h.h
  rw [show (⟨b, 0, none⟩ : Addr).add j = ⟨b, j, none⟩ by unfold Addr.add; split <;> simp_all, cell_of_heap h]
  simp only [List.getElem?_toArray]
  rw [List.getElem?_append_left ((List.getElem?_eq_some_iff.1 hu).1), hu]
theorem RSl.frozen {tp : TypeId} {w : World} {b cap : Nat} {pl : List Pl} (h : RSl tp w b cap pl) (o : Nat) : w.frozen? ⟨b, o, none⟩ = false := by
  obtain ⟨rest, h⟩ := h.h
  exact frozen_of_heap h o
/-- The four cells of a place, stored. -/
theorem rflat_set4 : ∀ (pl : List Pl) (rest : List Value) (i : Nat) (p q : Pl) (a b c d : Value), pl[i]? = some p → q.rcells = [a, b, c, d] →
    ((((pl.flatMap Pl.rcells ++ rest).set (i * 4) a).set (i * 4 + 1) b).set (i * 4 + 2) c).set (i * 4 + 3) d = (pl.set i q).flatMap Pl.rcells ++ rest
  | [], _, i, p, q, a, b, c, d, h, _ => by simp at h
  | r :: pl, rest, 0, p, q, a, b, c, d, h, hq => by
    simp only [List.flatMap_cons, Nat.zero_mul, Nat.zero_add, List.set_cons_zero, hq]
    simp [Pl.rcells]
  | r :: pl, rest, i + 1, p, q, a, b, c, d, h, hq => by
    have := rflat_set4 pl rest i p q a b c d (by simpa using h) hq
    simp only [List.flatMap_cons, List.set_cons_succ, List.append_assoc]
    rw [← this]
    simp [Pl.rcells, Nat.add_mul]
theorem RSl.place {tp : TypeId} {w : World} {g cap : Nat} {pl : List Pl} (h : RSl tp w g cap pl) {i : Nat} {p : Pl} (hp : pl[i]? = some p) (q : Pl) {a b c d : Value} (hq : q.rcells = [a, b, c, d]) :
    RSl tp ((((w.setCell ⟨g, i * 4, none⟩ a).setCell ⟨g, i * 4 + 1, none⟩ b).setCell ⟨g, i * 4 + 2, none⟩ c).setCell ⟨g, i * 4 + 3, none⟩ d) g cap (pl.set i q) := by
  obtain ⟨rest, h⟩ := h.h
  refine ⟨rest, ?_⟩
  rw [heap_setCell_cells _ _ _ _ (heap_setCell_cells _ _ _ _ (heap_setCell_cells _ _ _ _ (heap_setCell_cells _ _ _ _ h)))]
  simp only [List.setIfInBounds_toArray]
  rw [rflat_set4 pl rest i p q a b c d hp hq]
end Go.Sg.Clk
namespace Go.Proofs.Ytfeemnhkdjkgpaa
open Go.RowKit Go.Sg Go.Sg.Clk

theorem Try.info49 : (Try.prog.info? 49).map (fun i => (i.zero, i.size, i.bytes)) = some (some (.agg #[.bool false, .bool false, .int .i64 0, .int .i64 0]), 4, 24) := by kernel_rfl

set_option maxHeartbeats 1000000 in
theorem rwith_at {w : World} {b cap hand : Nat} {pl : List Pl} (h : RS w b cap pl) (hn : pl.length ≤ 4096) (hc : pl.length ≤ cap) (hv : ∀ p ∈ pl, ∃ y, p.v = .int .i64 y) (i : Nat) (hi : i < pl.length) (q : Pl) (y : Int) (hq : q.v = .int .i64 y) :
    Calls Try.prog 34 #[.agg #[.slice (some ⟨b, 0, none⟩) pl.length cap, .int .i64 hand], .int .i64 i, .agg #[.bool q.full, .bool q.marked, .int .i64 q.key, .int .i64 y]] w fun e w' =>
      ∃ g cap', e = .returned (.agg #[.slice (some ⟨g, 0, none⟩) pl.length cap', .int .i64 hand]) ∧ RS w' g cap' (pl.set i q) ∧ pl.length ≤ cap' ∧ w.heap.size ≤ g ∧ Fr (fun _ => False) w w' := by
  obtain ⟨i0, hi0, hz0, hz1, hz2⟩ := info_parts Try.info49
  have hb := h.lt
  have L := rflat_len pl
  have O := rcells_one hv
  have HA := hid (fun W (F : Fr (fun _ => False) w W) => (h.fr F (fun h => h)).cells)
  go_enter Try.func34, Try.ntmps34
  go_wp2_with (at_builtin; refine wpList_append_own_at _ rfl (.tmp 7) (.tmp 9) 41 rfl 0 49 i0 _ 4 24 Try.underlying41 hi0 hz0 hz1 hz2 rfl (by decide) _ _ _ rfl (own_lit0 _ _ _ _ (by simp [go_sem])) ⟨b, 0, none⟩ pl.length cap (pl.flatMap Pl.rcells) rfl L ?c1 O ?c3 ?c4 (Nat.zero_le _) ?_)
  case c1 => exact HA.out _ (((((Fr.refl _ _).alloc _).alloc _).alloc _).alloc _)
  case c3 => simp [maxLen]; omega
  case c4 => omega
  intro v1 w1 hown hgrow hnil hat
  obtain ⟨g, cap', rfl, hR, hcap⟩ := rsl_of_own hown hnil
  have hg : w.heap.size + 3 ≤ g := by
    rcases hat with h | h <;> simp [Value.ownBlock] at h <;> omega
  have F1 : Fr (fun _ => False) w w1 := (((((Fr.refl _ _).alloc _).alloc _).alloc _).alloc _).trans (S' := fun b => b = w.heap.size + 1 + 1 + 1) (Fr.of_grownBy hgrow) (fun b hb h => by omega)
  have b0 : w1.heap[w.heap.size]? = some (.cells #[.slice (some ⟨b, 0, none⟩) pl.length cap, .int .i64 hand] 43) :=
    (hgrow.block w.heap.size (by simp; omega) (by simp [Value.ownBlock]; omega)).trans (by
      rw [heap_alloc_lt _ _ _ (by simp; omega), heap_alloc_lt _ _ _ (by simp; omega), heap_alloc_lt _ _ _ (by simp)]
      exact heap_alloc_new _ _)
  have b1 : w1.heap[w.heap.size + 1]? = some (.cells #[.bool q.full, .bool q.marked, .int .i64 q.key, .int .i64 y] 49) :=
    (hgrow.block (w.heap.size + 1) (by simp) (by simp [Value.ownBlock])).trans (by
      rw [heap_alloc_lt _ _ _ (by simp), heap_alloc_lt _ _ _ (by simp)]
      have := heap_alloc_new (w.alloc (.cells #[.slice (some ⟨b, 0, none⟩) pl.length cap, .int .i64 hand] 43)) (.cells #[.bool q.full, .bool q.marked, .int .i64 q.key, .int .i64 y] 49)
      simpa using this)
  have b2 : w1.heap[w.heap.size + 1 + 1]? = some (.cells #[.slice none 0 0, .int .i64 0] 43) :=
    (hgrow.block (w.heap.size + 1 + 1) (by simp) (by simp [Value.ownBlock])).trans (by
      rw [heap_alloc_lt _ _ _ (by simp)]
      have := heap_alloc_new ((w.alloc (.cells #[.slice (some ⟨b, 0, none⟩) pl.length cap, .int .i64 hand] 43)).alloc (.cells #[.bool q.full, .bool q.marked, .int .i64 q.key, .int .i64 y] 49)) (.cells #[.slice none 0 0, .int .i64 0] 43)
      simpa using this)
  have c01 : w1.cell? ⟨w.heap.size, 1, none⟩ = some (.int .i64 hand) := by simpa using cell_of_heap b0 1
  have c00 : w1.cell? ⟨w.heap.size, 0, none⟩ = some (.slice (some ⟨b, 0, none⟩) pl.length cap) := by simpa using cell_of_heap b0 0
  have z0 : ∀ o, w1.frozen? ⟨w.heap.size, o, none⟩ = false := fun o => frozen_of_heap b0 o
  have c10 : w1.cell? ⟨w.heap.size + 1, 0, none⟩ = some (.bool q.full) := by simpa using cell_of_heap b1 0
  have c11 : w1.cell? ⟨w.heap.size + 1, 1, none⟩ = some (.bool q.marked) := by simpa using cell_of_heap b1 1
  have c12 : w1.cell? ⟨w.heap.size + 1, 2, none⟩ = some (.int .i64 q.key) := by simpa using cell_of_heap b1 2
  have c13 : w1.cell? ⟨w.heap.size + 1, 3, none⟩ = some (.int .i64 y) := by simpa using cell_of_heap b1 3
  have c20 : w1.cell? ⟨w.heap.size + 1 + 1, 0, none⟩ = some (.slice none 0 0) := by simpa using cell_of_heap b2 0
  have c21 : w1.cell? ⟨w.heap.size + 1 + 1, 1, none⟩ = some (.int .i64 0) := by simpa using cell_of_heap b2 1
  have z2 : ∀ o, w1.frozen? ⟨w.heap.size + 1 + 1, o, none⟩ = false := fun o => frozen_of_heap b2 o
  have zg : ∀ o, w1.frozen? ⟨g, o, none⟩ = false := fun o => hR.frozen o
  obtain ⟨p, hp⟩ : ∃ p, pl[i]? = some p := ⟨_, List.getElem?_eq_getElem hi⟩
  have k0 := hR.k0 hp
  have k1 := hR.k1 hp
  have k2 := hR.k2 hp
  have k3 := hR.k3 hp
  have HR := hid hR
  have HP := hid hp
  clear hp hR hat hgrow hown b0 b1 b2
  go_wp2
  refine bodyPost_ret (v := .agg #[.slice (some ⟨g, 0, none⟩) pl.length cap', .int .i64 hand]) (by simp [results, go_sem, *]) rfl ⟨g, cap', rfl, ?_, hcap, by omega, ?_⟩
  · exact (((HR.out.fr (((Fr.refl (fun b => b = w.heap.size) w1).setCell (fun _ => rfl) _)) (by omega)).place HP.out q (by rw [Pl.rcells, hq])).fr (((Fr.refl (fun b => b = w.heap.size + 1 + 1) _).setCell (fun _ => rfl) _).setCell (fun _ => rfl) _) (by omega))
  · exact ((((((F1.setNew (by omega) _).setNew (by omega) _).setNew (by omega) _).setNew (by omega) _).setNew (by omega) _).setNew (by omega) _).setNew (by omega) _
end Go.Proofs.Ytfeemnhkdjkgpaa
