/- What a put of the clock's model does: in three cases. -/
import Derived.Test.YtgdhaaokolfdoaaGreatDoorClk
namespace Go.Sg.Clk
open Go.RowKit

structure Did (pl : List Pl) (key : Int) (v : Pg) (M : Put) : Prop where
  len : M.pl.length = pl.length
  lt : M.hand < pl.length
  there : ∃ j, find M.pl key = some j ∧ M.pl[j]? = some ⟨key, v, true, true⟩
  nd : Nd M.pl
  cases : (∃ i, find pl key = some i ∧ M.gone = none ∧ M.pl.countP (·.full) = pl.countP (·.full)) ∨
    (find pl key = none ∧ M.gone = none ∧ M.pl.countP (·.full) = pl.countP (·.full) + 1) ∨
    (find pl key = none ∧ ∃ g, M.gone = some g ∧ g.key ≠ key ∧ pl.countP (·.full) = pl.length ∧ M.pl.countP (·.full) = pl.countP (·.full) ∧ find M.pl g.key = none)

theorem count_le (pl : List Pl) : pl.countP (·.full) ≤ pl.length := List.countP_le_length
theorem full_count {pl : List Pl} (h : empty pl = none) : pl.countP (·.full) = pl.length := by
  rw [List.countP_eq_length]
  intro p hp
  rw [empty, List.findIdx?_eq_none_iff] at h
  simpa using h p hp

theorem did {pl : List Pl} {hand : Nat} (hn : Nd pl) (hh : hand < pl.length) (key : Int) (v : Pg) : Did pl key v (putM pl hand key v) := by
  cases hf : find pl key with
  | some i =>
    obtain ⟨p, hp, hfu, hk⟩ := find_some hf
    have e : putM pl hand key v = ⟨pl.set i ⟨key, v, true, true⟩, hand, none⟩ := by simp [putM, hf]
    have hq : (⟨key, v, true, true⟩ : Pl).full = true → (p.full = true ∧ (⟨key, v, true, true⟩ : Pl).key = p.key) ∨ find pl (⟨key, v, true, true⟩ : Pl).key = none := fun _ => .inl ⟨hfu, hk.symm⟩
    refine ⟨by rw [e]; simp, by rw [e]; exact hh, ⟨i, ?_, ?_⟩, by rw [e]; exact nd_set hn hp _ hq, .inl ⟨i, hf, by rw [e], ?_⟩⟩
    · rw [e]; simp only; rw [find_set hn hp ⟨key, v, true, true⟩ hq]; simp
    · rw [e]; simp only; rw [get_set hp, if_pos rfl]
    · rw [e]; simp only; rw [count_set hp, hfu]; have := count_pos hp hfu; simp; omega
  | none =>
    cases he : empty pl with
    | some i =>
      obtain ⟨p, hp, hfu⟩ : ∃ p, pl[i]? = some p ∧ p.full = false := by
        rw [empty, List.findIdx?_eq_some_iff_getElem] at he
        obtain ⟨hi, h1, _⟩ := he
        exact ⟨pl[i], by simp, by simpa using h1⟩
      have e : putM pl hand key v = ⟨pl.set i ⟨key, v, true, true⟩, hand, none⟩ := by simp [putM, hf, he]
      have hq : (⟨key, v, true, true⟩ : Pl).full = true → (p.full = true ∧ (⟨key, v, true, true⟩ : Pl).key = p.key) ∨ find pl (⟨key, v, true, true⟩ : Pl).key = none := fun _ => .inr hf
      refine ⟨by rw [e]; simp, by rw [e]; exact hh, ⟨i, ?_, ?_⟩, by rw [e]; exact nd_set hn hp _ hq, .inr (.inl ⟨hf, by rw [e], ?_⟩)⟩
      · rw [e]; simp only; rw [find_set hn hp ⟨key, v, true, true⟩ hq]; simp
      · rw [e]; simp only; rw [get_set hp, if_pos rfl]
      · rw [e]; simp only; rw [count_set hp, hfu]; simp
    | none =>
      have e := putM_full (hand := hand) (v := v) hf he
      have hl := spin_len pl.length pl hand
      have hi := spin_lt pl.length pl hand hh
      have hf2 := spin_find pl.length pl hand key
      have he2 := spin_empty pl.length pl hand
      rw [hf] at hf2
      rw [he] at he2
      have hn2 : Nd (spin pl.length pl hand).1 := by
        intro a b x y hx hy hxf hyf hk
        have gx := spin_get (f := pl.length) (pl := pl) (h := hand) a
        have gy := spin_get (f := pl.length) (pl := pl) (h := hand) b
        rw [hx] at gx
        rw [hy] at gy
        cases hxa : pl[a]? with
        | none => rw [hxa] at gx; cases gx
        | some x' =>
          cases hyb : pl[b]? with
          | none => rw [hyb] at gy; cases gy
          | some y' =>
            rw [hxa] at gx
            rw [hyb] at gy
            simp only [Option.map_some, Option.some.injEq, Pl.unmark, Pl.mk.injEq] at gx gy
            exact hn a b x' y' hxa hyb (by rw [← gx.2.2.1, hxf]) (by rw [← gy.2.2.1, hyf]) (by rw [← gx.1, ← gy.1, hk])
      generalize spin pl.length pl hand = s at *
      obtain ⟨p, hp⟩ : ∃ p, s.1[s.2]? = some p := ⟨_, List.getElem?_eq_getElem (by omega)⟩
      have hfu := full_of_empty he2 hp
      have hq : (⟨key, v, true, true⟩ : Pl).full = true → (p.full = true ∧ (⟨key, v, true, true⟩ : Pl).key = p.key) ∨ find s.1 (⟨key, v, true, true⟩ : Pl).key = none := fun _ => .inr hf2
      have hne := find_none hf2 hp hfu
      refine ⟨by rw [e]; simpa using hl, by rw [e]; exact Nat.mod_lt _ (by omega), ⟨s.2, ?_, ?_⟩, by rw [e]; exact nd_set hn2 hp _ hq, .inr (.inr ⟨hf, p, by rw [e]; exact hp, hne, full_count he, ?_, ?_⟩)⟩
      · rw [e]; simp only; rw [find_set hn2 hp ⟨key, v, true, true⟩ hq]; simp
      · rw [e]; simp only; rw [get_set hp, if_pos rfl]
      · rw [e]; simp only; rw [count_set hp, hfu, full_count he2, full_count he, hl]; simp; omega
      · rw [e]; simp only; rw [find_set hn2 hp ⟨key, v, true, true⟩ hq]
        rw [if_neg (by rintro ⟨_, h⟩; exact hne h.symm), if_pos ⟨hfu, rfl⟩]
end Go.Sg.Clk
