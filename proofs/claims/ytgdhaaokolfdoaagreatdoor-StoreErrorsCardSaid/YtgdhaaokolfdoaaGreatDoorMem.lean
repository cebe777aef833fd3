/- The clock of pages as what is in memory by its number. Conditions: none. -/
import Derived.Test.YtgdhaaokolfdoaaGreatDoorPut
namespace Go.Sg.Clk
open Go.RowKit
/-- What is in memory at a number. -/
def memOf (pl : List Pl) (k : Int) : Option Pg := (find pl k).bind fun i => (pl[i]?).map (·.v)
theorem memOf_iff {pl : List Pl} (hn : Nd pl) (k : Int) (v : Pg) : memOf pl k = some v ↔ ∃ (i : Nat) (p : Pl), pl[i]? = some p ∧ p.full = true ∧ p.key = k ∧ p.v = v := by
  constructor
  · intro h
    rw [memOf, Option.bind_eq_some_iff] at h
    obtain ⟨i, hi, hv⟩ := h
    obtain ⟨p, hp, hf, hk⟩ := find_some hi
    rw [hp] at hv
    exact ⟨i, p, hp, hf, hk, by simpa using hv⟩
  · rintro ⟨i, p, hp, hf, hk, rfl⟩
    rw [memOf, (find_iff hn k i).2 ⟨p, hp, hf, hk⟩]
    simp [hp]
theorem memOf_isSome {pl : List Pl} (k : Int) : (memOf pl k).isSome = (find pl k).isSome := by
  rw [memOf]
  cases h : find pl k with
  | none => rfl
  | some i =>
    obtain ⟨p, hp, _⟩ := find_some h
    simp [hp]
theorem memOf_set {pl : List Pl} (hn : Nd pl) {i : Nat} {p : Pl} (hp : pl[i]? = some p) (q : Pl) (h : q.full = true → (p.full = true ∧ q.key = p.key) ∨ find pl q.key = none) (k : Int) :
    memOf (pl.set i q) k = if q.full = true ∧ q.key = k then some q.v else if p.full = true ∧ p.key = k then none else memOf pl k := by
  rw [memOf, find_set hn hp q h]
  split
  · simp [get_set hp]
  · split
    · rfl
    · rename_i h1 h2
      rw [memOf]
      cases hf : find pl k with
      | none => rfl
      | some j =>
        obtain ⟨x, hx, hxf, hxk⟩ := find_some hf
        have : ¬ i = j := by
          rintro rfl
          rw [hp] at hx; cases hx
          exact h2 ⟨hxf, hxk⟩
        simp only [Option.bind_some]
        rw [get_set hp, if_neg this]
theorem memOf_unmark (pl : List Pl) (k : Int) : memOf pl k = memOf (pl.map Pl.unmark) k := by
  rw [memOf, memOf, ← find_unmark]
  congr 1
  funext i
  rw [List.getElem?_map]
  cases pl[i]? <;> rfl
theorem memOf_spin (f : Nat) (pl : List Pl) (h : Nat) (k : Int) : memOf (spin f pl h).1 k = memOf pl k := by
  rw [memOf_unmark, spin_same, ← memOf_unmark]
theorem nd_unmark {a b : List Pl} (h : a.map Pl.unmark = b.map Pl.unmark) (hn : Nd b) : Nd a := by
  intro i j x y hx hy hxf hyf hk
  have ga : ∀ n : Nat, (a[n]?).map Pl.unmark = (b[n]?).map Pl.unmark := fun n => by rw [← List.getElem?_map, ← List.getElem?_map, h]
  have gx := ga i
  have gy := ga j
  rw [hx] at gx
  rw [hy] at gy
  cases hxa : b[i]? with
  | none => rw [hxa] at gx; cases gx
  | some x' =>
    cases hyb : b[j]? with
    | none => rw [hyb] at gy; cases gy
    | some y' =>
      rw [hxa] at gx
      rw [hyb] at gy
      simp only [Option.map_some, Option.some.injEq, Pl.unmark, Pl.mk.injEq] at gx gy
      exact hn i j x' y' hxa hyb (by rw [← gx.2.2.1, hxf]) (by rw [← gy.2.2.1, hyf]) (by rw [← gx.1, ← gy.1, hk])
/-- What a put does to what is in memory. -/
structure MPut (pl : List Pl) (key : Int) (v : Pg) (M : Put) : Prop where
  at_ : (M.gone = none ∧ ∀ k, memOf M.pl k = if k = key then some v else memOf pl k) ∨
    (∃ g, M.gone = some g ∧ g.key ≠ key ∧ memOf pl g.key = some g.v ∧ memOf pl key = none ∧ pl.countP (·.full) = pl.length ∧ ∀ k, memOf M.pl k = if k = key then some v else if k = g.key then none else memOf pl k)
theorem mem_put {pl : List Pl} {hand : Nat} (hn : Nd pl) (hh : hand < pl.length) (key : Int) (v : Pg) : MPut pl key v (putM pl hand key v) := by
  constructor
  cases hf : find pl key with
  | some i =>
    obtain ⟨p, hp, hfu, hk⟩ := find_some hf
    have e : putM pl hand key v = ⟨pl.set i ⟨key, v, true, true⟩, hand, none⟩ := by simp [putM, hf]
    have hq : (⟨key, v, true, true⟩ : Pl).full = true → (p.full = true ∧ (⟨key, v, true, true⟩ : Pl).key = p.key) ∨ find pl (⟨key, v, true, true⟩ : Pl).key = none := fun _ => .inl ⟨hfu, hk.symm⟩
    refine .inl ⟨by rw [e], fun k => ?_⟩
    rw [e]
    simp only
    rw [memOf_set hn hp _ hq]
    by_cases hkk : k = key
    · subst hkk; simp
    · have h1 : ¬ key = k := fun x => hkk x.symm
      have h2 : ¬ p.key = k := by rw [hk]; exact h1
      simp [h1, h2, hkk]
  | none =>
    cases he : empty pl with
    | some i =>
      obtain ⟨p, hp, hfu⟩ : ∃ p, pl[i]? = some p ∧ p.full = false := by
        rw [empty, List.findIdx?_eq_some_iff_getElem] at he
        obtain ⟨hi, h1, _⟩ := he
        exact ⟨pl[i], by simp, by simpa using h1⟩
      have e : putM pl hand key v = ⟨pl.set i ⟨key, v, true, true⟩, hand, none⟩ := by simp [putM, hf, he]
      have hq : (⟨key, v, true, true⟩ : Pl).full = true → (p.full = true ∧ (⟨key, v, true, true⟩ : Pl).key = p.key) ∨ find pl (⟨key, v, true, true⟩ : Pl).key = none := fun _ => .inr hf
      refine .inl ⟨by rw [e], fun k => ?_⟩
      rw [e]
      simp only
      rw [memOf_set hn hp _ hq]
      by_cases hkk : k = key
      · subst hkk; simp
      · have h1 : ¬ key = k := fun x => hkk x.symm
        simp [h1, hfu, hkk]
    | none =>
      have e := putM_full (hand := hand) (v := v) hf he
      have hl := spin_len pl.length pl hand
      have hi := spin_lt pl.length pl hand hh
      have hf2 := spin_find pl.length pl hand key
      have he2 := spin_empty pl.length pl hand
      rw [hf] at hf2
      rw [he] at he2
      have hn2 : Nd (spin pl.length pl hand).1 := nd_unmark (spin_same _ _ _) hn
      have hm2 := memOf_spin pl.length pl hand
      generalize spin pl.length pl hand = s at *
      obtain ⟨p, hp⟩ : ∃ p, s.1[s.2]? = some p := ⟨_, List.getElem?_eq_getElem (by omega)⟩
      have hfu := full_of_empty he2 hp
      have hq : (⟨key, v, true, true⟩ : Pl).full = true → (p.full = true ∧ (⟨key, v, true, true⟩ : Pl).key = p.key) ∨ find s.1 (⟨key, v, true, true⟩ : Pl).key = none := fun _ => .inr hf2
      have hne := find_none hf2 hp hfu
      refine .inr ⟨p, by rw [e]; exact hp, hne, ?_, ?_, full_count he, fun k => ?_⟩
      · rw [← hm2, memOf_iff hn2]
        exact ⟨s.2, p, hp, hfu, rfl, rfl⟩
      · rw [memOf, hf]; rfl
      · rw [e]
        simp only
        rw [memOf_set hn2 hp _ hq, hm2]
        by_cases hkk : k = key
        · subst hkk; simp
        · have h1 : ¬ key = k := fun x => hkk x.symm
          by_cases hg : k = p.key
          · subst hg; simp [h1, hfu, hkk]
          · have h2 : ¬ p.key = k := fun x => hg x.symm
            simp [h1, h2, hkk, hg]
theorem count_cover {pl : List Pl} (hn : Nd pl) (L : List Int) (h : ∀ k, (memOf pl k).isSome = true → k ∈ L) : pl.countP (·.full) ≤ L.length := by
  rw [List.countP_eq_length_filter]
  have h1 : ((pl.filter (·.full)).map (·.key)).Nodup := by
    rw [List.Nodup, List.pairwise_map]
    have : (pl.filter (·.full)).Pairwise (fun a b => a.key ≠ b.key) := by
      rw [List.pairwise_filter]
      rw [List.pairwise_iff_getElem]
      intro i j hi hj hij hfi hfj hk
      have := hn i j pl[i] pl[j] (List.getElem?_eq_getElem hi) (List.getElem?_eq_getElem hj) hfi hfj hk
      omega
    exact this
  have h2 := List.Nodup.length_le_of_subset h1 (l₂ := L) (by
    intro k hk
    obtain ⟨p, hp, rfl⟩ := List.mem_map.1 hk
    rw [List.mem_filter] at hp
    obtain ⟨hp, hf⟩ := hp
    obtain ⟨i, hi, rfl⟩ := List.getElem_of_mem hp
    refine h _ ?_
    rw [(memOf_iff hn _ _).2 ⟨i, pl[i], List.getElem?_eq_getElem hi, hf, rfl, rfl⟩]
    rfl)
  simpa using h2
def updM (m : Int → Option Pg) (k : Int) (v : Option Pg) : Int → Option Pg := fun j => if j = k then v else m j
theorem memOf_drop {pl : List Pl} (hn : Nd pl) {i : Nat} {key : Int} (hf : find pl key = some i) (z : Pg) (k : Int) : memOf (pl.set i (Pl.none z)) k = updM (memOf pl) key none k := by
  obtain ⟨p, hp, hfu, hk⟩ := find_some hf
  rw [memOf_set hn hp _ (fun a => by cases a), updM]
  by_cases hkk : k = key
  · subst hkk; simp [Pl.none, hfu, hk]
  · have h1 : ¬ p.key = k := by rw [hk]; exact fun x => hkk x.symm
    simp [Pl.none, h1, hkk]
theorem memOf_mark {pl : List Pl} (hn : Nd pl) {i : Nat} {p : Pl} (hp : pl[i]? = some p) (b : Bool) (k : Int) : memOf (pl.set i { p with marked := b }) k = memOf pl k := by
  rw [memOf_set hn hp { p with marked := b } (fun a => .inl ⟨a, rfl⟩)]
  by_cases h : p.full = true ∧ p.key = k
  · rw [if_pos h, (memOf_iff hn _ _).2 ⟨i, p, hp, h.1, h.2, rfl⟩]
  · rw [if_neg h, if_neg h]
theorem empty_of_cover {pl : List Pl} (hn : Nd pl) {L : List Int} (h : ∀ k, (memOf pl k).isSome = true → k ∈ L) (hl : L.length < pl.length) : pl.countP (·.full) < pl.length := Nat.lt_of_le_of_lt (count_cover hn L h) hl
theorem memOf_replicate (n : Nat) (z : Pg) (k : Int) : memOf (List.replicate n (Pl.none z)) k = none := by
  have : find (List.replicate n (Pl.none z)) k = none := by
    rw [find, List.findIdx?_eq_none_iff]
    intro p hp
    rw [List.eq_of_mem_replicate hp]; rfl
  rw [memOf, this]; rfl
end Go.Sg.Clk
