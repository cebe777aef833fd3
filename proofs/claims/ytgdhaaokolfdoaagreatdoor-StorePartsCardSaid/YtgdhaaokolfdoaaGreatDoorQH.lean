/- A pack of texts: RP, RA, R7, R3, RG, R4, R5, R6, R8, R9, WF. Conditions: those that each text names. -/
import Derived.Test.YtgdhaaokolfdoaaGreatDoorQF
import Derived.Deep.RegionLaw
/- The document's store (chapter 13) as a plain model, and how it goes with a store that lies in a world. Conditions: none. -/
namespace Go.Sg
open Go.RowKit
structure RPg where
  page : Int
  stamp : Int
  load : List Int
structure R13 where
  taken : List Bool
  hand : Int
  gen : Int
  live : List RPg
  fresh : List Int
  dying : List Int
  dead : List Int
def R13.new (n : Nat) : R13 := ⟨List.replicate n false, 0, 1, [], [], [], []⟩
def withL : List Int → Int → List Int
  | [], n => [n]
  | x :: l, n => if x < n then x :: withL l n else n :: x :: l
def withoutL (l : List Int) (n : Int) : List Int := l.filter (fun x => x != n)
/-- The first number that is free from the hand on, going round. -/
def takeR (t : List Bool) (hand : Nat) : Option Nat := ((List.range t.length).map fun k => (hand + k) % t.length).find? fun i => t.getD i true == false
def R13.make (s : R13) (load : List Int) : Option (R13 × RPg) := match takeR s.taken s.hand.toNat with
  | none => none
  | some n => some ({ s with taken := s.taken.set n true, hand := (((n + 1) % s.taken.length : Nat) : Int), live := s.live ++ [⟨n, s.gen, load⟩], fresh := withL s.fresh n }, ⟨n, s.gen, load⟩)
def R13.drop (s : R13) (i : Nat) : R13 :=
  let n := (s.live.getD i ⟨0, 0, []⟩).page
  if n ∈ s.fresh then { s with live := s.live.eraseIdx i, fresh := withoutL s.fresh n, taken := s.taken.set n.toNat false }
  else { s with live := s.live.eraseIdx i, dying := withL s.dying n }
def R13.write (s : R13) (i : Nat) (load : List Int) : Option (R13 × RPg) :=
  let p := s.live.getD i ⟨0, 0, []⟩
  if p.page ∈ s.fresh then some ({ s with live := s.live.set i { p with load := load } }, { p with load := load })
  else match s.make load with
    | none => none
    | some (next, q) => some (next.drop i, q)
def clearAll : List Int → List Bool → List Bool
  | [], t => t
  | k :: l, t => clearAll l (t.set k.toNat false)
def R13.commit (s : R13) : R13 := { s with taken := clearAll s.dead s.taken, dead := s.dying, dying := [], fresh := [], gen := s.gen + 1 }

theorem withL_mem (l : List Int) (n k : Int) : k ∈ withL l n ↔ k = n ∨ k ∈ l := by
  induction l with
  | nil => simp [withL]
  | cons x l ih =>
    unfold withL
    split
    · simp only [List.mem_cons, ih]
      constructor
      · rintro (h | h | h) <;> simp [h]
      · rintro (h | h | h) <;> simp [h]
    · simp
theorem withL_sorted {l : List Int} {n : Int} (h : l.Pairwise (· < ·)) (hn : n ∉ l) : (withL l n).Pairwise (· < ·) := by
  induction l with
  | nil => simp [withL]
  | cons x l ih =>
    simp only [List.pairwise_cons] at h
    simp only [List.mem_cons, not_or] at hn
    unfold withL
    split
    · rename_i hx
      simp only [List.pairwise_cons]
      refine ⟨fun y hy => ?_, ih h.2 hn.2⟩
      rcases (withL_mem l n y).1 hy with rfl | hy
      · exact hx
      · exact h.1 y hy
    · rename_i hx
      have hx' : n < x := by omega
      simp only [List.pairwise_cons, List.mem_cons]
      refine ⟨fun y hy => ?_, h.1, h.2⟩
      rcases hy with rfl | hy
      · exact hx'
      · have := h.1 y hy; omega
theorem clearAll_length (l : List Int) : ∀ t : List Bool, (clearAll l t).length = t.length := by
  induction l with
  | nil => intro t; rfl
  | cons k l ih => intro t; simp [clearAll, ih]
theorem clearAll_get (l : List Int) (hl : ∀ k ∈ l, 0 ≤ k) : ∀ (t : List Bool) (i : Nat), (clearAll l t)[i]? = if (i : Int) ∈ l then (t[i]?).map (fun _ => false) else t[i]? := by
  induction l with
  | nil => intro t i; simp [clearAll]
  | cons k l ih =>
    intro t i
    have h0 := hl k (by simp)
    rw [clearAll, ih (fun k hk => hl k (List.mem_cons_of_mem _ hk))]
    by_cases hk : (i : Int) = k
    · have hi : k.toNat = i := by omega
      subst hk
      simp [List.getElem?_set]
      by_cases hlt : i < t.length
      · simp [hlt]
      · simp [hlt]
    · have hi : k.toNat ≠ i := by omega
      simp [hk, List.getElem?_set, hi]
end Go.Sg
namespace Go.Proofs.YtgdhaaokolfdoaaGreatDoor
open Go.RowKit Go.Sg Go.Sg.Bits Go.Sg.Clk CP SF
theorem RowOf.with {f : Int → Bool} {L : List Int} (h : RowOf f L) {n : Int} (hn : f n = false) : RowOf (updI f n true) (withL L n) := by
  have hn' : n ∉ L := fun e => by rw [h.1 n] at e; rw [hn] at e; cases e
  refine ⟨fun k => ?_, withL_sorted h.2 hn'⟩
  rw [withL_mem, h.1, updI]
  by_cases hk : k = n <;> simp [hk]
theorem RowOf.without {f : Int → Bool} {L : List Int} (h : RowOf f L) (n : Int) : RowOf (updI f n false) (withoutL L n) := by
  refine ⟨fun k => ?_, h.2.filter _⟩
  simp only [withoutL, List.mem_filter, h.1, updI]
  by_cases hk : k = n <;> simp [hk]
theorem RowOf.none : RowOf (fun _ => false) [] := ⟨fun k => by simp, List.Pairwise.nil⟩
/-- The document's store goes with the one that y says. -/
structure Rel (y : Cs) (r : R13) : Prop where
  len : r.taken.length = y.pages
  taken : ∀ k : Nat, k < y.pages → r.taken[k]? = some (y.taken k)
  hand : r.hand = y.hand ∧ y.hand < y.pages
  gen : r.gen = y.gen
  fresh : RowOf y.fresh r.fresh
  dying : RowOf y.dying r.dying
  dead : RowOf y.dead r.dead
  inr : (∀ k, y.fresh k = true → 0 ≤ k ∧ k < y.pages) ∧ (∀ k, y.dying k = true → 0 ≤ k ∧ k < y.pages) ∧ (∀ k, y.dead k = true → 0 ≤ k ∧ k < y.pages)
  live : ∀ p ∈ r.live, ∃ n st : Nat, p.page = n ∧ p.stamp = st ∧ n < y.pages ∧ y.taken n = true ∧ y.dying n = false ∧ y.dead n = false ∧ y.cont n = some (st, p.load) ∧ (y.fresh n = true → st = y.gen)
  nodup : (r.live.map (·.page)).Nodup
  all : ∀ n : Nat, n < y.pages → y.taken n = true → y.dying n = false → y.dead n = false → ∃ p ∈ r.live, p.page = n
  apart : Apart y.taken y.fresh y.dying y.dead
theorem getD_of {t : List Bool} {n : Nat} {b : Bool} (h : t[n]? = some b) (d : Bool) : t.getD n d = b := by simp [List.getD, h]
/-- Taking goes alike. -/
theorem take_rel {t : List Bool} {f : Nat → Bool} {hand n : Nat} (ht : ∀ k, k < t.length → t[k]? = some (f k)) (hh : hand < t.length) (h : TakeIs f t.length hand n) : takeR t hand = some n := by
  obtain ⟨hn, hf, hc⟩ := h
  have hgd : ∀ i, i < t.length → t.getD i true = f i := fun i hi => getD_of (ht i hi) _
  unfold takeR
  rw [List.find?_map, Option.map_eq_some_iff]
  have hmod : ∀ k, k < t.length → (hand + k) % t.length < t.length := fun k _ => Nat.mod_lt _ (by omega)
  refine ⟨if hand ≤ n then n - hand else n + t.length - hand, ?_, ?_⟩
  · rw [List.find?_range_eq_some]
    refine ⟨?_, ?_, fun j hj => ?_⟩
    · simp only [Function.comp]
      have e : (hand + (if hand ≤ n then n - hand else n + t.length - hand)) % t.length = n := by
        split
        · rw [show hand + (n - hand) = n by omega]; exact Nat.mod_eq_of_lt hn
        · rw [show hand + (n + t.length - hand) = n + t.length by omega, Nat.add_mod_right]; exact Nat.mod_eq_of_lt hn
      rw [e, hgd n hn, hf]; rfl
    · simp only [List.mem_range]; split <;> omega
    · simp only [Function.comp]
      have hjt : j < t.length := by split at hj <;> omega
      have hm := hmod j hjt
      rw [hgd _ hm]
      have : f ((hand + j) % t.length) = true := by
        rcases hc with ⟨h1, h2⟩ | ⟨h1, h2⟩
        · rw [if_pos h1] at hj
          rw [Nat.mod_eq_of_lt (show hand + j < t.length by omega)]
          exact h2 _ (by omega) (by omega) (by omega)
        · by_cases hw : hand + j < t.length
          · rw [Nat.mod_eq_of_lt hw]
            exact h1 _ (by omega) hw hw
          · have e : (hand + j) % t.length = hand + j - t.length := by
              rw [Nat.mod_eq_sub_mod (by omega)]; exact Nat.mod_eq_of_lt (by omega)
            rw [e]
            by_cases hnh : hand ≤ n
            · rw [if_pos hnh] at hj; omega
            · rw [if_neg hnh] at hj
              exact h2 _ (by omega) (by omega) (by omega)
      rw [this]; rfl
  · split
    · rw [show hand + (n - hand) = n by omega]; exact Nat.mod_eq_of_lt hn
    · rw [show hand + (n + t.length - hand) = n + t.length by omega, Nat.add_mod_right]; exact Nat.mod_eq_of_lt hn
theorem take_none_rel {t : List Bool} {f : Nat → Bool} {hand : Nat} (ht : ∀ k, k < t.length → t[k]? = some (f k)) (h : allTaken f t.length 0 t.length) : takeR t hand = none := by
  unfold takeR
  rw [List.find?_eq_none]
  intro i hi
  obtain ⟨k, hk, rfl⟩ := List.mem_map.1 hi
  simp only [List.mem_range] at hk
  have hm := Nat.mod_lt (hand + k) (show 0 < t.length by omega)
  rw [getD_of (ht _ hm)]
  have := h _ (Nat.zero_le _) hm hm
  rw [this]; decide
theorem rel_make {y : Cs} {r : R13} (h : Rel y r) {n : Nat} (hn : TakeIs y.taken y.pages y.hand n) (bs : List Int) (hp : 0 < y.pages) :
    ∃ r', r.make bs = some (r', ⟨n, y.gen, bs⟩) ∧ Rel (y.new n bs) r' ∧ r'.live = r.live ++ [⟨n, y.gen, bs⟩] := by
  have ht := take_rel (t := r.taken) (f := y.taken) (hand := y.hand) (n := n) (fun k hk => h.taken k (by rw [← h.len]; exact hk)) (by rw [h.len]; exact h.hand.2) (by rw [h.len]; exact hn)
  have hhd : r.hand.toNat = y.hand := by rw [h.hand.1]; simp
  have hfn : y.fresh n = false := by
    cases e : y.fresh n with
    | false => rfl
    | true => have := h.apart.ft n e; rw [hn.2.1] at this; cases this
  have hyn : y.dying n = false := by
    cases e : y.dying n with
    | false => rfl
    | true => have := h.apart.yt n e; rw [hn.2.1] at this; cases this
  have hen : y.dead n = false := by
    cases e : y.dead n with
    | false => rfl
    | true => have := h.apart.et n e; rw [hn.2.1] at this; cases this
  refine ⟨{ r with taken := r.taken.set n true, hand := (((n + 1) % r.taken.length : Nat) : Int), live := r.live ++ [⟨n, r.gen, bs⟩], fresh := withL r.fresh n }, ?_, ?_, ?_⟩
  · rw [R13.make, hhd, ht]
    simp [h.gen]
  · refine ⟨by simp [h.len, Cs.new], fun k hk => ?_, ⟨by simp [Cs.new, h.len], Nat.mod_lt _ hp⟩, h.gen, h.fresh.with hfn, h.dying, h.dead, ⟨fun k hk => ?_, h.inr.2.1, h.inr.2.2⟩, fun p hp' => ?_, ?_, fun k hk hkt hky hke => ?_, h.apart.new hn.2.1⟩
    · have hk' : k < y.pages := hk
      simp only [Cs.new, upd, List.getElem?_set]
      by_cases hkn : k = n
      · subst hkn; simp [h.len, hk']
      · have : ¬ n = k := fun e => hkn e.symm
        simp [hkn, this, h.taken k hk']
    · simp only [Cs.new, updI] at hk ⊢
      split at hk
      · rename_i e; subst e; have := hn.1; omega
      · exact h.inr.1 k hk
    · rcases List.mem_append.1 hp' with hp' | hp'
      · obtain ⟨m, st, e1, e2, e3, e4, e5, e6, e7, e8⟩ := h.live p hp'
        have hmn : m ≠ n := by rintro rfl; rw [hn.2.1] at e4; cases e4
        refine ⟨m, st, e1, e2, e3, ?_, e5, e6, ?_, fun hf => ?_⟩
        · simp [Cs.new, upd, hmn, e4]
        · simp only [Cs.new, updC]; rw [if_neg (by omega)]; exact e7
        · simp only [Cs.new, updI] at hf; rw [if_neg (by omega)] at hf; exact e8 hf
      · simp at hp'
        subst hp'
        exact ⟨n, y.gen, rfl, h.gen, hn.1, by simp [Cs.new, upd], hyn, hen, by simp [Cs.new, updC], fun _ => rfl⟩
    · simp only [List.map_append, List.map_cons, List.map_nil]
      rw [List.nodup_append]
      refine ⟨h.nodup, by simp, ?_⟩
      rintro a ha b hb rfl
      simp at hb
      obtain ⟨p, hp', e⟩ := List.mem_map.1 ha
      obtain ⟨m, st, e1, e2, e3, e4, _⟩ := h.live p hp'
      have : m = n := by omega
      rw [this, hn.2.1] at e4; cases e4
    · simp only [Cs.new, upd] at hkt
      by_cases hkn : k = n
      · exact ⟨⟨n, r.gen, bs⟩, by simp, by simp [hkn]⟩
      · rw [if_neg hkn] at hkt
        obtain ⟨p, hp', e⟩ := h.all k hk hkt hky hke
        exact ⟨p, List.mem_append_left _ hp', e⟩
  · simp [h.gen]
theorem rel_full {y : Cs} {r : R13} (h : Rel y r) (hall : allTaken y.taken y.pages 0 y.pages) (bs : List Int) : r.make bs = none := by
  have ht := take_none_rel (t := r.taken) (f := y.taken) (hand := y.hand) (fun k hk => h.taken k (by rw [← h.len]; exact hk)) (by rw [h.len]; exact hall)
  have hhd : r.hand.toNat = y.hand := by rw [h.hand.1]; simp
  rw [R13.make, hhd, ht]
/-- The i-th page that counts. -/
theorem rel_live {y : Cs} {r : R13} (h : Rel y r) {i : Nat} (hi : i < r.live.length) :
    ∃ (n st : Nat) (bs : List Int), r.live[i]? = some ⟨n, st, bs⟩ ∧ n < y.pages ∧ y.taken n = true ∧ y.dying n = false ∧ y.dead n = false ∧ y.cont n = some (st, bs) ∧ (y.fresh n = true → st = y.gen) := by
  have e := List.getElem?_eq_getElem hi
  obtain ⟨n, st, e1, e2, e3, e4, e5, e6, e7, e8⟩ := h.live _ (List.mem_of_getElem? e)
  refine ⟨n, st, _, by rw [e, ← e1, ← e2], e3, e4, e5, e6, e7, e8⟩
theorem nodup_erase {l : List RPg} (h : (l.map (·.page)).Nodup) {i : Nat} {p : RPg} (hi : l[i]? = some p) : (∀ q ∈ l.eraseIdx i, q ∈ l ∧ q.page ≠ p.page) ∧ (∀ q ∈ l, q.page ≠ p.page → q ∈ l.eraseIdx i) ∧ ((l.eraseIdx i).map (·.page)).Nodup := by
  induction l generalizing i with
  | nil => simp at hi
  | cons a l ih =>
    simp only [List.map_cons, List.nodup_cons] at h
    cases i with
    | zero =>
      simp at hi; subst hi
      simp only [List.eraseIdx_zero, List.tail_cons]
      refine ⟨fun q hq => ⟨List.mem_cons_of_mem _ hq, fun e => h.1 (e ▸ List.mem_map.2 ⟨q, hq, rfl⟩)⟩, fun q hq hne => ?_, h.2⟩
      rcases List.mem_cons.1 hq with rfl | hq
      · exact absurd rfl hne
      · exact hq
    | succ i =>
      simp at hi
      obtain ⟨k1, k2, k3⟩ := ih h.2 hi
      have hap : a.page ≠ p.page := fun e => h.1 (e ▸ List.mem_map.2 ⟨p, List.mem_of_getElem? hi, rfl⟩)
      simp only [List.eraseIdx_cons_succ]
      refine ⟨fun q hq => ?_, fun q hq hne => ?_, ?_⟩
      · rcases List.mem_cons.1 hq with rfl | hq
        · exact ⟨by simp, hap⟩
        · exact ⟨List.mem_cons_of_mem _ (k1 q hq).1, (k1 q hq).2⟩
      · rcases List.mem_cons.1 hq with rfl | hq
        · simp
        · exact List.mem_cons_of_mem _ (k2 q hq hne)
      · simp only [List.map_cons, List.nodup_cons]
        refine ⟨fun e => ?_, k3⟩
        obtain ⟨q, hq, e'⟩ := List.mem_map.1 e
        exact h.1 (e' ▸ List.mem_map.2 ⟨q, (k1 q hq).1, rfl⟩)
theorem rel_drop {y : Cs} {r : R13} (h : Rel y r) {i n st : Nat} {bs : List Int} (hi : r.live[i]? = some ⟨n, st, bs⟩) (hp : n < y.pages) (ht : y.taken n = true) (hy : y.dying n = false) (he : y.dead n = false) : Rel (y.gone n) (r.drop i) := by
  obtain ⟨k1, k2, k3⟩ := nodup_erase h.nodup hi
  have hg : r.live.getD i ⟨0, 0, []⟩ = ⟨n, st, bs⟩ := by simp [List.getD, hi]
  by_cases hf : y.fresh n = true
  · have hm : ((n : Nat) : Int) ∈ r.fresh := (h.fresh.1 _).2 hf
    have e : r.drop i = { r with live := r.live.eraseIdx i, fresh := withoutL r.fresh n, taken := r.taken.set n false } := by
      simp only [R13.drop, hg]
      rw [if_pos hm]; simp
    rw [e, Cs.gone, if_pos hf]
    have hap := h.apart
    refine ⟨by simp [h.len], fun k hk => ?_, h.hand, h.gen, h.fresh.without n, h.dying, h.dead, ⟨fun k hk => ?_, h.inr.2.1, h.inr.2.2⟩, fun p hp' => ?_, k3, fun k hk hkt hky hke => ?_, ?_⟩
    · have hk' : k < y.pages := hk
      simp only [upd, List.getElem?_set]
      by_cases hkn : k = n
      · subst hkn; simp [h.len, hk']
      · have : ¬ n = k := fun e => hkn e.symm
        simp [hkn, this, h.taken k hk']
    · simp only [updI] at hk
      split at hk
      · cases hk
      · exact h.inr.1 k hk
    · obtain ⟨hp1, hp2⟩ := k1 p hp'
      obtain ⟨m, s0, e1, e2, e3, e4, e5, e6, e7, e8⟩ := h.live p hp1
      have hmn : m ≠ n := by rintro rfl; exact hp2 e1
      refine ⟨m, s0, e1, e2, e3, by simp [upd, hmn, e4], e5, e6, ?_, fun hf' => ?_⟩
      · simp only [updC]; rw [if_neg (by omega)]; exact e7
      · simp only [updI] at hf'; rw [if_neg (by omega)] at hf'; exact e8 hf'
    · simp only [upd] at hkt
      split at hkt
      · cases hkt
      · rename_i hkn
        obtain ⟨p, hp', e⟩ := h.all k hk hkt hky hke
        exact ⟨p, k2 p hp' (by rw [e]; simp; omega), e⟩
    · have hne := hap.fy n hf
      refine ⟨fun k hk => ?_, fun k hk => ?_, fun k hk => ?_, fun k hk => ?_, hap.ye⟩
      · simp only [updI] at hk
        split at hk
        · cases hk
        · rename_i e; simp only [upd]; rw [if_neg (by omega)]; exact hap.ft k hk
      · simp only [upd]
        split
        · rename_i e; subst e; have hk' : y.dying k = true := hk; rw [hne.1] at hk'; cases hk'
        · exact hap.yt k hk
      · simp only [upd]
        split
        · rename_i e; subst e; have hk' : y.dead k = true := hk; rw [hne.2] at hk'; cases hk'
        · exact hap.et k hk
      · simp only [updI] at hk
        split at hk
        · cases hk
        · exact hap.fy k hk
  · have hf' : y.fresh n = false := by simpa using hf
    have hm : ((n : Nat) : Int) ∉ r.fresh := fun e => hf ((h.fresh.1 _).1 e)
    have e : r.drop i = { r with live := r.live.eraseIdx i, dying := withL r.dying n } := by
      simp only [R13.drop, hg]
      rw [if_neg hm]
    rw [e, Cs.gone, if_neg hf]
    refine ⟨h.len, h.taken, h.hand, h.gen, h.fresh, h.dying.with hy, h.dead, ⟨h.inr.1, fun k hk => ?_, h.inr.2.2⟩, fun p hp' => ?_, k3, fun k hk hkt hky hke => ?_, h.apart.dies ht hf' he⟩
    · simp only [updI] at hk
      split at hk
      · rename_i e; subst e; show 0 ≤ (n : Int) ∧ (n : Int) < y.pages; omega
      · exact h.inr.2.1 k hk
    · obtain ⟨hp1, hp2⟩ := k1 p hp'
      obtain ⟨m, s0, e1, e2, e3, e4, e5, e6, e7, e8⟩ := h.live p hp1
      have hmn : m ≠ n := by rintro rfl; exact hp2 e1
      refine ⟨m, s0, e1, e2, e3, e4, ?_, e6, e7, e8⟩
      simp only [updI]; rw [if_neg (by omega)]; exact e5
    · simp only [updI] at hky
      split at hky
      · cases hky
      · rename_i hkn
        obtain ⟨p, hp', e⟩ := h.all k hk hkt hky hke
        exact ⟨p, k2 p hp' (by rw [e]; simp; omega), e⟩
theorem rel_wfresh {y : Cs} {r : R13} (h : Rel y r) {i n st : Nat} {bs : List Int} (hi : r.live[i]? = some ⟨n, st, bs⟩) (hf : y.fresh n = true) (load : List Int) :
    ∃ r', r.write i load = some (r', ⟨n, y.gen, load⟩) ∧ Rel { y with cont := updC y.cont n (some (y.gen, load)) } r' := by
  have hg : r.live.getD i ⟨0, 0, []⟩ = ⟨n, st, bs⟩ := by simp [List.getD, hi]
  have hm : ((n : Nat) : Int) ∈ r.fresh := (h.fresh.1 _).2 hf
  obtain ⟨n', st', e1, e2, e3, e4, e5, e6, e7, e8⟩ := h.live _ (List.mem_of_getElem? hi)
  have hnn : n' = n := by have e1' : (n : Int) = n' := e1; omega
  have hss : st' = st := by have e2' : (st : Int) = st' := e2; omega
  subst hnn hss
  have hst := e8 hf
  have hil := (List.getElem?_eq_some_iff.1 hi).1
  have hmap : (r.live.set i ⟨n', st', load⟩).map (·.page) = r.live.map (·.page) := by
    rw [List.map_set]
    refine List.ext_getElem? fun j => ?_
    rw [List.getElem?_set]
    split
    · rename_i e; subst e
      have h2 := (List.getElem?_eq_some_iff.1 hi).2
      simp [hil, h2]
    · rfl
  refine ⟨{ r with live := r.live.set i ⟨n', st', load⟩ }, ?_, h.len, h.taken, h.hand, h.gen, h.fresh, h.dying, h.dead, h.inr, fun p hp => ?_, by rw [hmap]; exact h.nodup, fun k hk hkt hky hke => ?_, h.apart⟩
  · simp only [R13.write, hg]
    rw [if_pos hm, hst]
  · rcases List.mem_or_eq_of_mem_set hp with hp | rfl
    · by_cases hpn : p.page = n'
      · -- the page itself: it stands at i alone
        obtain ⟨j, hj⟩ := List.mem_iff_getElem?.1 (show p ∈ r.live.set i ⟨n', st', load⟩ by assumption)
        rw [List.getElem?_set] at hj
        split at hj
        · rename_i e
          simp [hil] at hj
          obtain ⟨_, rfl⟩ := hj
          exact ⟨n', st', rfl, rfl, e3, e4, e5, e6, by simp [updC, hst], fun _ => hst⟩
        · rename_i e
          exfalso
          have h1 : (r.live.map (·.page))[j]? = some (n' : Int) := by simp [hj, hpn]
          have h2 : (r.live.map (·.page))[i]? = some (n' : Int) := by simp [hi]
          have := (List.getElem?_inj (by simpa using hil) h.nodup).1 (h2.trans h1.symm)
          exact e this
      · obtain ⟨m, s0, f1, f2, f3, f4, f5, f6, f7, f8⟩ := h.live p hp
        refine ⟨m, s0, f1, f2, f3, f4, f5, f6, ?_, f8⟩
        simp only [updC]; rw [if_neg (by rw [← f1]; exact hpn)]; exact f7
    · exact ⟨n', st', rfl, rfl, e3, e4, e5, e6, by simp [updC, hst], fun _ => hst⟩
  · have hmem : (k : Int) ∈ r.live.map (·.page) := by
      obtain ⟨p, hp, e⟩ := h.all k hk hkt hky hke
      exact List.mem_map.2 ⟨p, hp, e⟩
    rw [← hmap] at hmem
    obtain ⟨p, hp, e⟩ := List.mem_map.1 hmem
    exact ⟨p, hp, e⟩
theorem rel_wnew {y : Cs} {r : R13} (h : Rel y r) {i n st m : Nat} {bs : List Int} (hi : r.live[i]? = some ⟨n, st, bs⟩) (hf : y.fresh n = false) (hm : TakeIs y.taken y.pages y.hand m) (load : List Int) (hp0 : 0 < y.pages) :
    ∃ r', r.write i load = some (r', ⟨m, y.gen, load⟩) ∧ Rel (y.moved n m load) r' := by
  have hg : r.live.getD i ⟨0, 0, []⟩ = ⟨n, st, bs⟩ := by simp [List.getD, hi]
  have hmf : ((n : Nat) : Int) ∉ r.fresh := fun e => by have := (h.fresh.1 _).1 e; rw [hf] at this; cases this
  obtain ⟨n', st', e1, e2, e3, e4, e5, e6, e7, e8⟩ := h.live _ (List.mem_of_getElem? hi)
  have hnn : n' = n := by have e1' : (n : Int) = n' := e1; omega
  subst hnn
  obtain ⟨r1, hr1, hR1, hl1⟩ := rel_make h hm load hp0
  have hil := (List.getElem?_eq_some_iff.1 hi).1
  have hmn : n' ≠ m := by rintro rfl; rw [hm.2.1] at e4; cases e4
  have hfn : (y.new m load).fresh n' = false := by simp only [Cs.new, updI]; rw [if_neg (by omega)]; exact hf
  have hd := rel_drop hR1 (i := i) (n := n') (st := st) (bs := bs) (by rw [hl1, List.getElem?_append_left hil]; exact hi) e3 (by simp [Cs.new, upd, hmn, e4]) e5 e6
  refine ⟨r1.drop i, ?_, ?_⟩
  · simp only [R13.write, hg]
    rw [if_neg hmf, hr1]
  · rw [Cs.gone, if_neg (by rw [hfn]; decide)] at hd
    exact hd
theorem rel_wfull {y : Cs} {r : R13} (h : Rel y r) {i n st : Nat} {bs : List Int} (hi : r.live[i]? = some ⟨n, st, bs⟩) (hf : y.fresh n = false) (hall : allTaken y.taken y.pages 0 y.pages) (load : List Int) : r.write i load = none := by
  have hg : r.live.getD i ⟨0, 0, []⟩ = ⟨n, st, bs⟩ := by simp [List.getD, hi]
  have hmf : ((n : Nat) : Int) ∉ r.fresh := fun e => by have := (h.fresh.1 _).1 e; rw [hf] at this; cases this
  simp only [R13.write, hg]
  rw [if_neg hmf, rel_full h hall]
theorem rel_commit {y : Cs} {r : R13} (h : Rel y r) : Rel y.commit r.commit := by
  have hd0 : ∀ k ∈ r.dead, 0 ≤ k := fun k hk => (h.inr.2.2 k ((h.dead.1 k).1 hk)).1
  refine ⟨by rw [R13.commit, clearAll_length]; exact h.len, fun k hk => ?_, h.hand, by simp [R13.commit, Cs.commit, h.gen], RowOf.none, RowOf.none, h.dying, ⟨fun k hk => (by cases hk), fun k hk => (by cases hk), h.inr.2.1⟩, fun p hp => ?_, h.nodup, fun k hk hkt hky hke => ?_, ?_⟩
  · show (clearAll r.dead r.taken)[k]? = some (y.taken k && !y.dead k)
    rw [clearAll_get _ hd0]
    have := h.dead.1 k
    by_cases e : y.dead k = true
    · rw [if_pos (this.2 e), h.taken k hk, e]; simp
    · have e' : y.dead k = false := by simpa using e
      rw [if_neg (fun hm => e (this.1 hm)), h.taken k hk, e']; simp
  · obtain ⟨m, s0, e1, e2, e3, e4, e5, e6, e7, e8⟩ := h.live p hp
    refine ⟨m, s0, e1, e2, e3, ?_, rfl, e5, ?_, fun hf => by cases hf⟩
    · show (y.taken m && !y.dead m) = true
      rw [e4, e6]; rfl
    · show (if y.dead m then none else y.cont m) = _
      rw [e6]; exact e7
  · have hkt' : (y.taken k && !y.dead k) = true := hkt
    have hke' : y.dying k = false := hke
    simp only [Bool.and_eq_true, Bool.not_eq_true'] at hkt'
    exact h.all k hk hkt'.1 hke' hkt'.2
  · have hap := h.apart
    refine ⟨fun k hk => (by cases hk), fun k hk => (by cases hk), fun k hk => ?_, fun k hk => (by cases hk), fun k hk => by cases hk⟩
    have hk' : y.dying k = true := hk
    show (y.taken k && !y.dead k) = true
    rw [hap.yt k hk', hap.ye k hk']; rfl
theorem rel_gone {y : Cs} {r : R13} (h : Rel y r) {i n st : Nat} {bs : List Int} (hi : r.live[i]? = some ⟨n, st, bs⟩) : Rel (y.gone n) (r.drop i) := by
  obtain ⟨n', st', e1, e2, e3, e4, e5, e6, e7, e8⟩ := h.live _ (List.mem_of_getElem? hi)
  have hnn : n' = n := by have e1' : (n : Int) = n' := e1; omega
  subst hnn
  exact rel_drop h hi e3 e4 e5 e6
end Go.Proofs.YtgdhaaokolfdoaaGreatDoor

/- Laws on appends of rows of cells, whole or in part, nil or not; slices of rows. Conditions: the rows lie in the world as ownsRow says. -/
namespace Go.Proofs.YtgdhaaokolfdoaaGreatDoor
open Go.RowKit Go.Sg
/-- A slice that may be read as news. -/
def SrcV (w : World) (v : Value) (m : Nat) (news : List Value) : Prop :=
  ∃ a c, v = .slice a m c ∧ ((a = none ∧ m = 0 ∧ c = 0 ∧ news = []) ∨ ∃ ad, a = some ad ∧ ∀ j u, news[j]? = some u → w.cell? (ad.add j) = some u)
theorem wpList_append_src {P : Program} {w : World} {ops : Array Oper} {rest : List Oper} {o : Oper} {a : Act} {Q : Exit → Act → World → Prop} (hgd : o.guard = none) (s x : Operand) (t : TypeId)
    (ho : o.op = .call { callee := .builtin .append, args := #[s, x], argTypes := #[t, t] }) (base : Nat) (e : TypeId) (i : TypeInfo) (z : Value) (size bytes : Nat) (ht : P.underlying t = some (.slice e)) (hi : P.info? e = some i) (hz : i.zero = some z)
    (hsize : i.size = size) (hby : i.bytes = bytes) (hzs : z.cells.size = size) (hsz : 0 < size) (v : Value) (n : Nat) (xs : List Value) (hs : a.eval s = v) (hown : w.ownsRow base e size v n xs)
    (vx : Value) (m : Nat) (news : List Value) (hx : a.eval x = vx) (hsrc : SrcV w vx m news) (hl : news.length = m * size) (h1 : ∀ u ∈ news, u.oneCell' = true) (h63 : n + m ≤ maxLen) (hbytes : (n + m) * bytes ≤ 140737488355328) (hbase : base ≤ w.heap.size)
    (h : ∀ v' w', w'.ownsRow base e size v' (n + m) (xs ++ news) → w.grownBy w' v.ownBlock → (v ≠ .slice none 0 0 → v' ≠ .slice none 0 0) → wpList P ops Q rest (a.put o.dst v') w') : wpList P ops Q (o :: rest) a w := by
  obtain ⟨a', c, rfl, ⟨rfl, rfl, rfl, rfl⟩ | ⟨ad, rfl, hc⟩⟩ := hsrc
  · exact wpList_append_own_none hgd s x t ho base e i size ht hi v n xs hs hown hx (h v w (by simpa using hown) ⟨rfl, rfl, rfl, Nat.le_refl _, fun _ _ _ => rfl⟩ id)
  · exact wpList_append_own_at _ hgd s x t ho base e i z size bytes ht hi hz hsize hby hzs hsz v n xs hs hown ad m c news hx hl hc h1 h63 hbytes hbase fun v' w' h1 h2 h3 _ => h v' w' h1 h2 fun hv e => hv (h3.1 e).1
theorem addr_add0 (g off k : Nat) : (⟨g, off, none⟩ : Addr).add k = ⟨g, off + k, none⟩ := addr_add g off k
theorem own_slice {w : World} {b e size n : Nat} {v : Value} {xs : List Value} (h : w.ownsRow b e size v n xs) : ∃ a c, v = .slice a n c ∧ n ≤ c ∧ c ≤ maxLen ∧ (a = none → n = 0 ∧ c = 0) ∧ (∀ ad, a = some ad → ∃ g, ad = ⟨g, 0, none⟩ ∧ g < w.heap.size) := by
  obtain ⟨hl, ⟨rfl, rfl⟩ | ⟨g, cap, cur, rfl, hb, hg, hc, hm, r⟩⟩ := h
  · exact ⟨none, 0, rfl, Nat.le_refl _, Nat.zero_le _, fun _ => ⟨rfl, rfl⟩, fun _ e => by cases e⟩
  · exact ⟨_, cap, rfl, hc, hm, fun e => (by cases e), fun ad e => by cases e; exact ⟨g, rfl, lt_of_heap hg⟩⟩
theorem own_cell {w : World} {b e size n c : Nat} {a : Option Addr} {xs : List Value} (h : w.ownsRow b e size (.slice a n c) n xs) {j : Nat} {u : Value} (hj : xs[j]? = some u) : ∃ g, a = some ⟨g, 0, none⟩ ∧ g < w.heap.size ∧ w.cell? ⟨g, j, none⟩ = some u := by
  have hi := (List.getElem?_eq_some_iff.1 hj).1
  obtain ⟨hl, ⟨h0, h1⟩ | ⟨g, cap, cur, hv, hb, hg, hc, hm, hs, ht⟩⟩ := h
  · subst h1; simp at hl; subst hl; simp at hi
  · cases hv
    refine ⟨g, rfl, lt_of_heap hg, ?_⟩
    rw [cell_of_heap hg]
    rw [← ht, List.getElem?_take] at hj
    split at hj
    · simpa using hj
    · cases hj
theorem own_src {w : World} {b e size n : Nat} {v : Value} {xs : List Value} (h : w.ownsRow b e size v n xs) : SrcV w v n xs := by
  obtain ⟨a, c, rfl, hnc, _, h0, h1⟩ := own_slice h
  refine ⟨a, c, rfl, ?_⟩
  cases a with
  | none =>
    obtain ⟨rfl, rfl⟩ := h0 rfl
    exact .inl ⟨rfl, rfl, rfl, by have := h.1; simpa using this⟩
  | some ad =>
    obtain ⟨g, rfl, _⟩ := h1 ad rfl
    refine .inr ⟨_, rfl, fun j u hj => ?_⟩
    obtain ⟨g', e', _, hc⟩ := own_cell h hj
    cases e'
    rw [addr_add0, Nat.zero_add]; exact hc
theorem own_src_to {w : World} {b e size n c : Nat} {a : Option Addr} {xs : List Value} (h : w.ownsRow b e size (.slice a n c) n xs) (k : Nat) (hk : k ≤ n) : SrcV w (.slice a k c) k (xs.take (k * size)) := by
  obtain ⟨a', c', e1, hnc, _, h0, h1⟩ := own_slice h
  cases e1
  refine ⟨a, c, rfl, ?_⟩
  cases a with
  | none =>
    obtain ⟨rfl, rfl⟩ := h0 rfl
    obtain rfl : k = 0 := by omega
    exact .inl ⟨rfl, rfl, rfl, by simp⟩
  | some ad =>
    obtain ⟨g, rfl, _⟩ := h1 ad rfl
    refine .inr ⟨_, rfl, fun j u hj => ?_⟩
    rw [List.getElem?_take] at hj
    split at hj
    · obtain ⟨g', e', _, hc⟩ := own_cell h hj
      cases e'
      rw [addr_add0, Nat.zero_add]; exact hc
    · cases hj
theorem own_src_from {w : World} {b e size n c : Nat} {a : Option Addr} {xs : List Value} (h : w.ownsRow b e size (.slice a n c) n xs) (k : Nat) (hk : k ≤ n) : SrcV w (.slice (if c = k then a else a.map (·.add (k * size))) (n - k) (c - k)) (n - k) (xs.drop (k * size)) := by
  obtain ⟨a', c', e1, hnc, _, h0, h1⟩ := own_slice h
  cases e1
  refine ⟨_, _, rfl, ?_⟩
  cases a with
  | none =>
    obtain ⟨rfl, rfl⟩ := h0 rfl
    have hx : xs = [] := by have := h.1; simpa using this
    exact .inl ⟨by simp, by omega, by omega, by simp [hx]⟩
  | some ad =>
    obtain ⟨g, rfl, _⟩ := h1 ad rfl
    by_cases hck : c = k
    · rw [if_pos hck]
      have hn : n = k := by omega
      have hd : xs.drop (k * size) = [] := List.drop_eq_nil_of_le (by rw [h.1, hn]; exact Nat.le_refl _)
      exact .inr ⟨_, rfl, fun j u hj => by rw [hd] at hj; simp at hj⟩
    · rw [if_neg hck]
      refine .inr ⟨_, rfl, fun j u hj => ?_⟩
      rw [List.getElem?_drop] at hj
      obtain ⟨g', e', _, hc⟩ := own_cell h hj
      cases e'
      show w.cell? (((⟨g, 0, none⟩ : Addr).add (k * size)).add j) = some u
      rw [addr_add0, Nat.zero_add, addr_add0]; exact hc
theorem SrcV.fr {S : Nat → Prop} {w w' : World} {b e size n k m : Nat} {v : Value} {xs news : List Value} (h : SrcV w v m news) (F : Fr S w w') (hS : ∀ a c ad, v = .slice a m c → a = some ad → ad.block < w.heap.size ∧ ¬ S ad.block) : SrcV w' v m news := by
  obtain ⟨a, c, rfl, h0 | ⟨ad, rfl, hc⟩⟩ := h
  · exact ⟨a, c, rfl, .inl h0⟩
  · refine ⟨_, c, rfl, .inr ⟨ad, rfl, fun j u hj => ?_⟩⟩
    obtain ⟨h1, h2⟩ := hS _ _ ad rfl rfl
    have hb : (ad.add j).block = ad.block := by unfold Addr.add; split <;> rfl
    exact (F.cell (p := ad.add j) (by rw [hb]; exact h1) (by rw [hb]; exact h2)).trans (hc j u hj)
theorem slice_toG (t size : Nat) (hu : Tryz.prog.underlying t = some (.slice (Tryz.prog.elem t))) (hs : ∀ W, (sizeOf (Tryz.prog.elem t)).run Tryz.prog W = .ok size W) (a : Option Addr) (n c m : Nat) (h : m ≤ c) (W : World) : (Instr.slice t (.slice a n c) none (some (.int .i64 m)) none).run Tryz.prog W = .ok (.slice a m c) W := by
  rw [run_slice_h W t a n c hu .i64 m (by omega) (by omega)]
  rw [hs]
  simp only [Result.andThen_ok, sliced, Int.toNat_natCast, Nat.zero_mul, Nat.sub_zero]
  cases a with
  | none => simp
  | some a => simp [Addr.add]
theorem slice_fromG (t size : Nat) (hu : Tryz.prog.underlying t = some (.slice (Tryz.prog.elem t))) (hs : ∀ W, (sizeOf (Tryz.prog.elem t)).run Tryz.prog W = .ok size W) (a : Option Addr) (n c m : Nat) (h : m ≤ n) (W : World) : (Instr.slice t (.slice a n c) (some (.int .i64 m)) none none).run Tryz.prog W = .ok (.slice (if c = m then a else a.map (·.add (m * size))) (n - m) (c - m)) W := by
  rw [run_slice_l W t a n c hu .i64 m (by omega) (by omega)]
  rw [hs]
  simp only [Result.andThen_ok, sliced, Int.toNat_natCast]
theorem grown_fr {w w' : World} {o : Obj} {base e size n : Nat} {v : Value} {xs : List Value} (hown : w.ownsRow base e size v n xs) (hg : (w.alloc o).grownBy w' v.ownBlock) : Fr (fun b => base ≤ b) w w' :=
  ⟨hg.os, hg.tape, hg.output, Nat.le_trans (by simp) hg.size, fun b hb hn => (hg.block b (Nat.lt_of_lt_of_le hb (by simp)) (fun e => hn (hown.lt b e.symm).1)).trans (heap_alloc_lt w o b hb)⟩
theorem grown_fr' {w w' : World} {base e size n : Nat} {v : Value} {xs : List Value} (hown : w.ownsRow base e size v n xs) (hg : w.grownBy w' v.ownBlock) : Fr (fun b => base ≤ b) w w' :=
  ⟨hg.os, hg.tape, hg.output, hg.size, fun b hb hn => hg.block b hb (fun e => hn (hown.lt b e.symm).1)⟩
theorem to52 (a : Option Addr) (n c m : Nat) (h : m ≤ c) (W : World) : (Instr.slice 52 (.slice a n c) none (some (.int .i64 m)) none).run Tryz.prog W = .ok (.slice a m c) W := slice_toG 52 1 (by kernel_rfl) (fun W => by kernel_rfl) a n c m h W
theorem from52 (a : Option Addr) (n c m : Nat) (h : m ≤ n) (W : World) : (Instr.slice 52 (.slice a n c) (some (.int .i64 m)) none none).run Tryz.prog W = .ok (.slice (if c = m then a else a.map (·.add (m * 1))) (n - m) (c - m)) W := slice_fromG 52 1 (by kernel_rfl) (fun W => by kernel_rfl) a n c m h W
theorem to62 (a : Option Addr) (n c m : Nat) (h : m ≤ c) (W : World) : (Instr.slice 62 (.slice a n c) none (some (.int .i64 m)) none).run Tryz.prog W = .ok (.slice a m c) W := slice_toG 62 3 (by kernel_rfl) (fun W => by kernel_rfl) a n c m h W
theorem from62 (a : Option Addr) (n c m : Nat) (h : m ≤ n) (W : World) : (Instr.slice 62 (.slice a n c) (some (.int .i64 m)) none none).run Tryz.prog W = .ok (.slice (if c = m then a else a.map (·.add (m * 3))) (n - m) (c - m)) W := slice_fromG 62 3 (by kernel_rfl) (fun W => by kernel_rfl) a n c m h W
theorem Tryz.info4 : (Tryz.prog.info? 4).map (fun i => (i.zero, i.size, i.bytes)) = some (some (.bool false), 1, 1) := by kernel_rfl
theorem Tryz.info71 : (Tryz.prog.info? 71).map (fun i => (i.zero, i.size, i.bytes)) = some (some (.agg #[.int .i64 0, .int .i64 0, .string ⟨#[]⟩]), 3, 32) := by kernel_rfl
/-! ### Bits as the document has them -/
/-- A row of yes and no. -/
abbrev BoolR (w : World) (v : Value) (t : List Bool) : Prop := w.ownsRow 0 4 1 v t.length (t.map Value.bool)
abbrev IntR (w : World) (v : Value) (l : List Int) : Prop := w.ownsRow 0 3 1 v l.length (l.map (Value.int .i64))
theorem own_none {w w' : World} {b e size n : Nat} {v : Value} {xs : List Value} (h : w.ownsRow b e size v n xs) (F : Fr (fun _ => False) w w') : w'.ownsRow b e size v n xs := ownsRow_fr h F (fun _ _ _ h => h)
theorem own_frB {w w' : World} {B : Blk} {b e size n : Nat} {v : Value} {xs : List Value} (h : w.ownsRow b e size v n xs) (he : e ∉ mutT) (F : FrB B w w') : w'.ownsRow b e size v n xs :=
  ownsRow_fr h F fun g c hg hs => he (hs.2.1 c e _ hg)
theorem own_base {w : World} {b e size n : Nat} {v : Value} {xs : List Value} (h : w.ownsRow b e size v n xs) : w.ownsRow 0 e size v n xs := by
  obtain ⟨hl, h0 | ⟨g, cap, cur, hv, hb, r⟩⟩ := h
  · exact ⟨hl, .inl h0⟩
  · exact ⟨hl, .inr ⟨g, cap, cur, hv, Nat.zero_le _, r⟩⟩
end Go.Proofs.YtgdhaaokolfdoaaGreatDoor

/- The document's set of bits (chapter 7): New, with, Has, Clear, Take. Conditions: the row of bits lies in the world. -/
namespace Go.Proofs.YtgdhaaokolfdoaaGreatDoor
open Go.RowKit Go.Sg
theorem own_some {w : World} {b e size n : Nat} {v : Value} {xs : List Value} (h : w.ownsRow b e size v n xs) (hne : v ≠ .slice none 0 0) : ∃ g cap cur, v = .slice (some ⟨g, 0, none⟩) n cap ∧ b ≤ g ∧ w.heap[g]? = some (.cells cur e) := by
  obtain ⟨hl, ⟨h0, _⟩ | ⟨g, cap, cur, hv, hb, hg, r⟩⟩ := h
  · exact absurd h0 hne
  · exact ⟨g, cap, cur, hv, hb, hg⟩
/-- A row lies on while a block of other cells turns. -/
theorem own_cellK {w w' : World} {k : Nat} (F : Fr (fun b => b = k) w w') {b e size n : Nat} {v : Value} {xs : List Value} (h : w.ownsRow b e size v n xs) {c : Array Value} {t : TypeId} {f : Nat × Nat} (hk : w.heap[k]? = some (.cells c t f)) (ht : t ≠ e) : w'.ownsRow b e size v n xs :=
  ownsRow_fr h F fun g cs hg e' => by rw [e', hk] at hg; cases hg; exact ht rfl
theorem own_two {w : World} {b e size n k o o' : Nat} {v : Value} {xs : List Value} (h : w.ownsRow b e size v n xs) {c : Array Value} {t : TypeId} {f : Nat × Nat} (hk : w.heap[k]? = some (.cells c t f)) (ht : t ≠ e) (u u' : Value) : ((w.setCell ⟨k, o, none⟩ u).setCell ⟨k, o', none⟩ u').ownsRow b e size v n xs :=
  own_cellK (((Fr.refl (fun b => b = k) _).setCell (a := ⟨k, o, none⟩) (fun _ => rfl) u).setCell (a := ⟨k, o', none⟩) (fun _ => rfl) u') h hk ht
abbrev setV (v : Value) (hand : Int) : Value := .agg #[v, .int .i64 hand]
set_option maxHeartbeats 1000000 in
theorem rnew_ok (n : Nat) (hn : n ≤ 65536) (w : World) : Calls Tryz.prog 101 #[.int .i64 n] w fun e w' => ∃ v, e = .returned (setV v 0) ∧ BoolR w' v (List.replicate n false) ∧ Fr (fun _ => False) w w' := by
  obtain ⟨i0, hi, hz0, hz1, hz2⟩ := info_parts Tryz.info4
  have hmk := fun W => run_make_len (P := Tryz.prog) 59 4 i0 _ Tryz.underlying59 hi hz0 n (by rw [hz2]; omega) (by omega) W
  rw [hz1] at hmk
  clear hi hz0 hz1 hz2
  go_enter Tryz.func101, Tryz.ntmps101
  go_wp2
  refine bodyPost_ret (v := setV (.slice (some ⟨w.heap.size + 1, 0, none⟩) n n) 0) (by simp [results, go_sem, *]) rfl ⟨_, rfl, ?_, ((Fr.refl _ _).alloc _).alloc _⟩
  have h1 := heap_alloc_new (w.alloc (.cells #[.slice (some ⟨w.heap.size + 1, 0, none⟩) n n, .int .i64 0] 61)) (.cells (madeCells #[.bool false] n) 4)
  rw [World.size_alloc] at h1
  have h2 : madeCells #[Value.bool false] n = (List.replicate n (Value.bool false)).toArray := by
    apply Array.ext
    · simp [size_madeCells]
    · intro i h1 h2
      simp [madeCells, Nat.mod_one]
  refine ⟨by simp, .inr ⟨_, n, _, by simp, Nat.zero_le _, h1, by simp, by simp [maxLen]; omega, by rw [h2]; simp, ?_⟩⟩
  rw [h2]; simp
set_option maxHeartbeats 4000000 in
set_option maxRecDepth 100000 in
theorem rwith_ok {w : World} {v : Value} {t : List Bool} (h : BoolR w v t) (ht : t.length ≤ 65536) (hand : Int) (i : Nat) (hi : i < t.length) (b : Bool) :
    Calls Tryz.prog 227 #[setV v hand, .int .i64 i, .bool b] w fun e w' => ∃ v', e = .returned (setV v' hand) ∧ BoolR w' v' (t.set i b) ∧ Fr (fun _ => False) w w' := by
  obtain ⟨i0, hi0, hz0, hz1, hz2⟩ := info_parts Tryz.info4
  obtain ⟨w1, hw1⟩ : ∃ w1, (w.alloc (.cells #[v, .int .i64 hand] 61)).alloc (.cells #[.slice none 0 0, .int .i64 0] 61) = w1 := ⟨_, rfl⟩
  obtain ⟨b0, b1, F1⟩ := heap_two hw1
  obtain ⟨d0, d1, dz, dl⟩ := cells2 b0
  have h1 := own_none h F1
  have HS := hid (fun W (F : Fr (fun _ => False) w1 W) => own_src (own_none h1 F))
  have HW := hid hw1
  have H1 := hid (And.intro b0 (And.intro b1 F1))
  clear hw1 b0 b1 F1 h h1
  go_enter Tryz.func227, Tryz.ntmps227
  go_upto_region 1 with fail
  rw [HW.out]
  go_wp2_with (at_builtin; refine wpList_append_src rfl (.tmp 7) (.tmp 9) 59 rfl w1.heap.size 4 i0 _ 1 1 Tryz.underlying59 hi0 hz0 hz1 hz2 rfl (by decide) _ _ _ rfl (own_litB _ _ (Nat.le_refl _) _ _ _ (by simp [go_sem])) v t.length (t.map Value.bool) rfl (HS.out _ ((Fr.refl _ _).alloc _)) (by simp) (by intro u hu; obtain ⟨x, _, rfl⟩ := List.mem_map.1 hu; rfl) (by simp [maxLen]; omega) (by omega) (by simp) ?_)
  intro v2 W2 hown2 hg2 hne2
  try simp only [List.nil_append, Nat.zero_add] at hown2
  obtain ⟨g, cap, cur, rfl, hgb, hgc⟩ := own_some hown2 hne2
  have F12 : Fr (fun b => b = w1.heap.size) w1 W2 := ((Fr.refl (fun b => b = w1.heap.size) _).alloc _).trans (Fr.of_grownBy hg2) (fun b _ h => h)
  have hb0 := F12.heap H1.out.1 (by omega)
  have hb1 := F12.heap H1.out.2.1 (by have := H1.out.2.2.size; have := lt_of_heap H1.out.2.1; omega)
  have gl := lt_of_heap hgc
  have sz1 := lt_of_heap H1.out.2.1
  have z := hown2.frozenAt i
  have zc : W2.cell? ⟨g, i, none⟩ = some (.bool t[i]) := by rw [hown2.cellAt i (by omega)]; simp [hi]
  obtain ⟨x0, x1, xz, xl⟩ := cells2 hb0
  obtain ⟨y0, y1, yz, yl⟩ := cells2 hb1
  have ne1 : ¬ g = w.heap.size := by omega
  have ne2 : ¬ w.heap.size = g := by omega
  have ne3 : ¬ g = w.heap.size + 1 := by omega
  have HO := hid (And.intro hown2 (And.intro F12 (And.intro hb0 hb1)))
  clear hown2 hg2 hne2 F12 hb0 hb1 hgc d0 d1 dz HS
  go_wp2
  refine bodyPost_ret (v := setV (.slice (some ⟨g, 0, none⟩) t.length cap) hand) (by simp [results, go_sem, *]) rfl ⟨_, rfl, ?_, ?_⟩
  · obtain ⟨hown2, F12, hb0, hb1⟩ := HO.out
    have ht4 : ∀ (W : World) (k o : Nat) (u : Value), g ≠ k → W.ownsRow w1.heap.size 4 1 (.slice (some ⟨g, 0, none⟩) t.length cap) t.length ((t.set i b).map Value.bool) → (W.setCell ⟨k, o, none⟩ u).ownsRow w1.heap.size 4 1 (.slice (some ⟨g, 0, none⟩) t.length cap) t.length ((t.set i b).map Value.bool) := by
      intro W k o u hk ho
      obtain ⟨hl, ⟨h0, _⟩ | ⟨g', cap', cur', hv, hb, hgc, r⟩⟩ := ho
      · cases h0
      · cases hv
        exact ⟨hl, .inr ⟨g, cap, cur', rfl, hb, (heap_setCell_ne _ _ _ _ (by simpa using fun e => hk e.symm)).trans hgc, r⟩⟩
    have h1 : (W2.setCell ⟨w.heap.size, 0, none⟩ (.slice (some ⟨g, 0, none⟩) t.length cap)).ownsRow w1.heap.size 4 1 (.slice (some ⟨g, 0, none⟩) t.length cap) t.length (t.map Value.bool) := by
      obtain ⟨hl, ⟨h0, _⟩ | ⟨g', cap', cur', hv, hb, hgc, r⟩⟩ := hown2
      · cases h0
      · cases hv
        exact ⟨hl, .inr ⟨g, cap, cur', rfl, hb, (heap_setCell_ne _ _ _ _ (by simpa using ne2)).trans hgc, r⟩⟩
    have h2 := (h1.stored i (.bool b)).1
    rw [show (t.map Value.bool).set i (.bool b) = (t.set i b).map Value.bool by rw [List.map_set]] at h2
    have h3 := own_base (ht4 _ (w.heap.size + 1) 1 (.int .i64 hand) ne3 (ht4 _ (w.heap.size + 1) 0 (.slice (some ⟨g, 0, none⟩) t.length cap) ne3 h2))
    simp only [BoolR, List.length_set]
    exact h3
  · obtain ⟨hown2, F12, hb0, hb1⟩ := HO.out
    have F02 : Fr (fun _ => False) w W2 := H1.out.2.2.trans F12 (fun b hb h => by omega)
    exact (((F02.setNew (by omega) _).setNew (by omega) _).setNew (by omega) _).setNew (by omega) _
theorem rhas_ok {w : World} {v : Value} {t : List Bool} (h : BoolR w v t) (ht : t.length ≤ 65536) (hand : Int) (i : Nat) (hi : i < t.length) :
    Calls Tryz.prog 226 #[setV v hand, .int .i64 i] w fun e w' => e = .returned (.bool t[i]) ∧ Fr (fun _ => False) w w' := by
  obtain ⟨a, c, rfl, hnc, _, _, _⟩ := own_slice h
  obtain ⟨g, rfl, hg, hc⟩ := own_cell h (show (t.map Value.bool)[i]? = some (.bool t[i]) by simp [hi])
  obtain ⟨w1, hw1⟩ : ∃ w1, w.alloc (.cells #[.slice (some ⟨g, 0, none⟩) t.length c, .int .i64 hand] 61) = w1 := ⟨_, rfl⟩
  have F1 : Fr (fun _ => False) w w1 := by rw [← hw1]; exact (Fr.refl _ _).alloc _
  have b1 : w1.heap[w.heap.size]? = some (.cells #[.slice (some ⟨g, 0, none⟩) t.length c, .int .i64 hand] 61) := by rw [← hw1]; exact heap_alloc_new _ _
  obtain ⟨x0, x1, xz, xl⟩ := cells2 b1
  have hc1 := (F1.cell (p := ⟨g, i, none⟩) hg (fun h => h)).trans hc
  have HW := hid hw1
  have HF := hid F1
  have hb := t[i]
  generalize hti : t[i] = bi at hc1
  have HTI := hid hti
  clear hw1 F1 b1 h hc hti
  go_enter Tryz.func226, Tryz.ntmps226
  go_upto_region 1 with fail
  rw [HW.out]
  go_wp2
  go_ret
  exact ⟨rfl, HF.out⟩
def RClear (t : List Bool) (hand : Int) (i : Nat) (w : World) (e : Ending) (w' : World) : Prop :=
  ∃ v' b, e = .returned (.tuple #[setV v' hand, .bool b]) ∧ BoolR w' v' (t.set i false) ∧ Fr (fun _ => False) w w'
set_option maxHeartbeats 4000000 in
set_option maxRecDepth 100000 in
theorem rclear_ok {w : World} {v : Value} {t : List Bool} (h : BoolR w v t) (ht : t.length ≤ 65536) (hand : Int) (i : Nat) (hi : i < t.length) :
    Calls Tryz.prog 165 #[setV v hand, .int .i64 i] w (RClear t hand i w) := by
  obtain ⟨va, vc, rfl, -, -, -, -⟩ := own_slice h
  obtain ⟨w1, hw1⟩ : ∃ w1, (w.alloc (.cells #[.slice va t.length vc, .int .i64 hand] 61)).alloc (.cells #[.slice none 0 0, .int .i64 0] 61) = w1 := ⟨_, rfl⟩
  obtain ⟨b0, b1, F1⟩ := heap_two hw1
  obtain ⟨d0, d1, dz, dl⟩ := cells2 b0
  have h1 := own_none h F1
  have HH := hid (rhas_ok h1 ht hand i hi)
  have HW := hid hw1
  have H1 := hid (And.intro b0 (And.intro b1 (And.intro F1 h1)))
  clear hw1 b0 b1 F1 h h1
  go_enter Tryz.func165, Tryz.ntmps165
  go_upto_region 1 with fail
  rw [HW.out]
  go_wp2_with fail
  refine HH.out.mono ?_
  rintro e w2 ⟨rfl, F2⟩
  generalize hti : t[i] = bi
  have HTI := hid hti
  have h2 := own_none H1.out.2.2.2 F2
  have hb0 := F2.heap H1.out.1 (fun h => h)
  have hb1 := F2.heap H1.out.2.1 (fun h => h)
  obtain ⟨x0, x1, xz, xl⟩ := cells2 hb0
  obtain ⟨y0, y1, yz, yl⟩ := cells2 hb1
  have H2 := hid (And.intro h2 (And.intro hb0 (And.intro hb1 F2)))
  have HWI := hid (rwith_ok h2 ht hand i hi false)
  clear h2 hb0 hb1 F2 hti d0 d1 dz
  cases bi with
  | false =>
    go_wp2
    refine bodyPost_ret (v := .tuple #[setV (.slice va t.length vc) hand, .bool false]) (by simp [results, go_sem, *]) rfl ?_
    refine ⟨_, false, rfl, ?_, ?_⟩
    · have hts : t.set i false = t := by rw [← HTI.out]; simp
      rw [hts]
      obtain ⟨h2, hb0, hb1, F2⟩ := H2.out
      exact own_two h2 hb1 (by decide) _ _
    · exact (((H1.out.2.2.1.trans H2.out.2.2.2 (fun _ _ h => h)).setNew (by omega) _).setNew (by omega) _)
  | true =>
    go_wp2_with fail
    refine HWI.out.mono ?_
    rintro e w3 ⟨v', rfl, h3, F3⟩
    obtain ⟨a', c', rfl, -, -, -, -⟩ := own_slice h3
    simp only [BoolR, List.length_set] at h3 ⊢
    have hb13 := F3.heap H2.out.2.2.1 (fun h => h)
    obtain ⟨z0, z1, zz, zl⟩ := cells2 hb13
    have H3 := hid (And.intro h3 (And.intro hb13 F3))
    clear h3 hb13 F3
    go_wp2
    refine bodyPost_ret (v := .tuple #[setV (.slice a' t.length c') hand, .bool true]) (by simp [results, go_sem, *]) rfl ?_
    refine ⟨_, true, rfl, ?_, ?_⟩
    · simp only [BoolR, List.length_set]
      exact own_two H3.out.1 H3.out.2.1 (by decide) _ _
    · exact ((((H1.out.2.2.1.trans H2.out.2.2.2 (fun _ _ h => h)).trans H3.out.2.2 (fun _ _ h => h)).setNew (by omega) _).setNew (by omega) _)
/-- What Take does. -/
def RTake (t : List Bool) (hand : Nat) (w : World) (e : Ending) (w' : World) : Prop :=
  (∃ n v', takeR t hand = some n ∧ n < t.length ∧ e = .returned (.tuple #[setV v' (((n + 1) % t.length : Nat) : Int), .int .i64 n]) ∧ BoolR w' v' (t.set n true) ∧ Fr (fun _ => False) w w') ∨
  (∃ v', takeR t hand = none ∧ e = .returned (.tuple #[setV v' hand, .int .i64 (-1)]) ∧ BoolR w' v' t ∧ Fr (fun _ => False) w w')
theorem takeR_some {t : List Bool} {hand k : Nat} (hk : k < t.length) (h : ∀ j, j < k → t.getD ((hand + j) % t.length) true = true) (hf : t.getD ((hand + k) % t.length) true = false) : takeR t hand = some ((hand + k) % t.length) := by
  unfold takeR
  rw [List.find?_map, Option.map_eq_some_iff]
  refine ⟨k, ?_, rfl⟩
  rw [List.find?_range_eq_some]
  refine ⟨by simp only [Function.comp]; rw [hf]; rfl, by simpa using hk, fun j hj => ?_⟩
  simp only [Function.comp]
  rw [h j hj]; rfl
theorem takeR_none {t : List Bool} {hand : Nat} (h : ∀ j, j < t.length → t.getD ((hand + j) % t.length) true = true) : takeR t hand = none := by
  unfold takeR
  rw [List.find?_eq_none]
  intro i hi
  obtain ⟨k, hk, rfl⟩ := List.mem_map.1 hi
  simp only [List.mem_range] at hk
  rw [h k hk]; decide
set_option maxHeartbeats 8000000 in
set_option maxRecDepth 100000 in
theorem rtake_ok {w : World} {v : Value} {t : List Bool} (h : BoolR w v t) (ht : t.length ≤ 65536) (hand : Nat) (hh : hand < t.length) :
    Calls Tryz.prog 166 #[setV v hand] w (RTake t hand w) := by
  obtain ⟨va, vc, rfl, -, -, -, -⟩ := own_slice h
  obtain ⟨g, rfl, hg, -⟩ := own_cell h (show (t.map Value.bool)[hand]? = some (.bool t[hand]) by simp [hh])
  obtain ⟨w1, hw1⟩ : ∃ w1, (w.alloc (.cells #[.slice (some ⟨g, 0, none⟩) t.length vc, .int .i64 hand] 61)).alloc (.cells #[.slice none 0 0, .int .i64 0] 61) = w1 := ⟨_, rfl⟩
  obtain ⟨b0, b1, F1⟩ := heap_two hw1
  obtain ⟨d0, d1, dz, dl⟩ := cells2 b0
  obtain ⟨y0, y1, yz, yl⟩ := cells2 b1
  have h1 := own_none h F1
  have HW := hid hw1
  have H1 := hid (And.intro b0 (And.intro b1 (And.intro F1 h1)))
  clear hw1 b0 b1 F1 h h1
  go_enter Tryz.func166, Tryz.ntmps166
  go_upto_region 1 with fail
  rw [HW.out]
  go_wp2_with fail
  go_loop [4] (fun i => ∃ k : Nat, k ≤ t.length ∧ i = .int .i64 k ∧ (∀ j, j < k → t.getD ((hand + j) % t.length) true = true)) (fun i => t.length - (intOf i).toNat)
  case atStart => exact ⟨0, Nat.zero_le _, rfl, fun j hj => by omega⟩
  case round =>
    obtain ⟨k, hk, rfl, hall⟩ := hrel
    by_cases hlt : k < t.length
    · have hidx : ((hand : Int) + (k : Int)) % (t.length : Int) = (((hand + k) % t.length : Nat) : Int) := by simp
      have hm := Nat.mod_lt (hand + k) (show 0 < t.length by omega)
      obtain ⟨n, hn⟩ : ∃ n, (hand + k) % t.length = n := ⟨_, rfl⟩
      rw [hn] at hidx hm
      have hcell : w1.cell? ⟨g, n, none⟩ = some (.bool t[n]) := by
        obtain ⟨g', e, _, hc⟩ := own_cell H1.out.2.2.2 (show (t.map Value.bool)[n]? = some (.bool t[n]) by simp [hm])
        cases e; exact hc
      have hgd : t.getD n true = t[n] := by simp [List.getD, hm]
      have HALL := hid (And.intro hall (And.intro hn hgd))
      clear hall hn hgd
      generalize htn : t[n] = b at hcell
      have HTN := hid htn
      clear htn
      cases b with
      | true =>
        go_wp2
        go_round
        case rel =>
          refine ⟨k + 1, by omega, by go_num, fun j hj => ?_⟩
          by_cases hjk : j = k
          · rw [hjk, HALL.out.2.1, HALL.out.2.2, HTN.out]
          · exact HALL.out.1 j (by omega)
        case measure => simp [intOf]; omega
      | false =>
        have HWI := hid (rwith_ok H1.out.2.2.2 ht hand n hm true)
        have hidx2 : ((n : Int) + 1) % (t.length : Int) = (((n + 1) % t.length : Nat) : Int) := by simp
        have HX2 := hid hidx2
        clear hidx2
        go_wp2_with fail
        refine HWI.out.mono ?_
        rintro e w2 ⟨v', rfl, h2, F2⟩
        obtain ⟨a', c', rfl, -, -, -, -⟩ := own_slice h2
        simp only [BoolR, List.length_set] at h2 ⊢
        have hb0 := F2.heap H1.out.1 (fun h => h)
        have hb1 := F2.heap H1.out.2.1 (fun h => h)
        have H2 := hid (And.intro h2 (And.intro hb0 (And.intro hb1 F2)))
        obtain ⟨x0, x1, xz, xl⟩ := cells2 hb0
        obtain ⟨z0, z1, zz, zl⟩ := cells2 hb1
        clear h2 hb0 hb1 F2 d0 d1 dz y0 y1 yz hcell HWI hidx
        go_upto_region 7 with fail
        obtain ⟨W3, hW3⟩ : ∃ W3, (w2.setCell ⟨w.heap.size, 0, none⟩ (.slice a' t.length c')).setCell ⟨w.heap.size, 1, none⟩ (.int .i64 hand) = W3 := ⟨_, rfl⟩
        have F3 : Fr (fun b => b = w.heap.size) w2 W3 := by rw [← hW3]; exact ((Fr.refl (fun b => b = w.heap.size) _).setCell (a := ⟨w.heap.size, 0, none⟩) (fun _ => rfl) _).setCell (a := ⟨w.heap.size, 1, none⟩) (fun _ => rfl) _
        have hb03 : W3.heap[w.heap.size]? = some (.cells #[.slice a' t.length c', .int .i64 hand] 61) := by
          rw [← hW3, heap_setCell_cells _ _ _ _ (heap_setCell_cells _ _ _ _ H2.out.2.1)]; rfl
        have hb13 := F3.heap H2.out.2.2.1 (by omega)
        have h3 := own_cellK F3 H2.out.1 H2.out.2.1 (by decide)
        rw [hW3]
        have F03 : Fr (fun _ => False) w W3 := (H1.out.2.2.1.trans H2.out.2.2.2 (fun _ _ h => h)).trans F3 (fun b hb h => by omega)
        have H3 := hid (And.intro h3 (And.intro hb03 (And.intro hb13 F03)))
        clear x0 x1 xz xl z0 z1 zz zl h3 hW3 F3 F03
        obtain ⟨x0, x1, xz, xl⟩ := cells2 hb03
        obtain ⟨z0, z1, zz, zl⟩ := cells2 hb13
        clear hb03 hb13
        go_upto_region 8 with fail
        obtain ⟨W4, hW4⟩ : ∃ W4, W3.setCell ⟨w.heap.size, 1, none⟩ (.int .i64 (((n : Int) + 1) % (t.length : Int))) = W4 := ⟨_, rfl⟩
        have F4 : Fr (fun b => b = w.heap.size) W3 W4 := by rw [← hW4]; exact (Fr.refl (fun b => b = w.heap.size) _).setCell (a := ⟨w.heap.size, 1, none⟩) (fun _ => rfl) _
        have hb04 : W4.heap[w.heap.size]? = some (.cells #[.slice a' t.length c', .int .i64 (((n : Int) + 1) % (t.length : Int))] 61) := by
          rw [← hW4, heap_setCell_cells _ _ _ _ H3.out.2.1]; rfl
        have hb14 := F4.heap H3.out.2.2.1 (by omega)
        have h4 := own_cellK F4 H3.out.1 H3.out.2.1 (by decide)
        rw [hW4]
        have F04 : Fr (fun _ => False) w W4 := H3.out.2.2.2.trans F4 (fun b hb h => by omega)
        have H4 := hid (And.intro h4 (And.intro hb04 (And.intro hb14 F04)))
        clear x0 x1 xz xl z0 z1 zz zl h4 hW4 F4 F04
        obtain ⟨x0, x1, xz, xl⟩ := cells2 hb04
        obtain ⟨z0, z1, zz, zl⟩ := cells2 hb14
        clear hb04 hb14
        go_wp2
        refine bodyPost_ret (v := .tuple #[setV (.slice a' t.length c') (((n + 1) % t.length : Nat) : Int), .int .i64 n]) (by simp [results, go_sem, *]) rfl ?_
        refine .inl ⟨n, _, ?_, hm, rfl, ?_, ?_⟩
        · have e := takeR_some (t := t) (hand := hand) (k := k) hlt HALL.out.1 (by rw [HALL.out.2.1, HALL.out.2.2, HTN.out])
          rw [HALL.out.2.1] at e; exact e
        · simp only [BoolR, List.length_set]
          exact own_two H4.out.1 H4.out.2.2.1 (by decide) _ _
        · exact (H4.out.2.2.2.setNew (by omega) _).setNew (by omega) _
    · obtain rfl : k = t.length := by omega
      have HALL := hid hall
      clear hall
      go_wp2
      refine bodyPost_ret (v := .tuple #[setV (.slice (some ⟨g, 0, none⟩) t.length vc) hand, .int .i64 (-1)]) (by simp [results, go_sem, *]) rfl ?_
      refine .inr ⟨_, takeR_none HALL.out, rfl, ?_, ?_⟩
      · exact own_two H1.out.2.2.2 H1.out.2.1 (by decide) _ _
      · exact (H1.out.2.2.1.setNew (by omega) _).setNew (by omega) _
end Go.Proofs.YtgdhaaokolfdoaaGreatDoor

/- The document's store (chapter 13): in, with, without. Conditions: the rows lie in the world. -/
namespace Go.Proofs.YtgdhaaokolfdoaaGreatDoor
open Go.RowKit Go.Sg
theorem intr_cell {w : World} {a : Option Addr} {c : Nat} {l : List Int} (h : IntR w (.slice a l.length c) l) {i : Nat} (hi : i < l.length) : ∃ g, a = some ⟨g, 0, none⟩ ∧ g < w.heap.size ∧ w.cell? ⟨g, i, none⟩ = some (.int .i64 l[i]) :=
  own_cell h (by simp [hi])
set_option maxHeartbeats 2000000 in
theorem rin_ok {w : World} {v : Value} {l : List Int} (h : IntR w v l) (hl : l.length ≤ 65536) (n : Int) :
    Calls Tryz.prog 163 #[v, .int .i64 n] w fun e w' => e = .returned (.bool (decide (n ∈ l))) ∧ w = w' := by
  obtain ⟨a, c, rfl, -, -, -, -⟩ := own_slice h
  have H := hid h
  clear h
  go_enter Tryz.func163, Tryz.ntmps163
  go_wp2_with fail
  go_loop [5] (fun i => ∃ k : Nat, k ≤ l.length ∧ i = .int .i64 k ∧ n ∉ l.take k) (fun i => l.length - (intOf i).toNat)
  case atStart => exact ⟨0, Nat.zero_le _, rfl, by rw [List.take_zero]; exact List.not_mem_nil⟩
  case round =>
    obtain ⟨k, hk, rfl, hn⟩ := hrel
    by_cases hlt : k < l.length
    · obtain ⟨g, rfl, hg, hc⟩ := intr_cell H.out hlt
      have htk : l.take (k + 1) = l.take k ++ [l[k]] := by rw [List.take_add_one, List.getElem?_eq_getElem hlt]; rfl
      have HTK := hid (And.intro htk hn)
      have hmem : l[k] ∈ l := List.getElem_mem _
      generalize hx : l[k] = x at hc hmem
      have HX := hid (And.intro hx hmem)
      clear hx htk hn hmem
      by_cases hxn : x = n
      · have hb : (x == n) = true := by simp [hxn]
        have HXN := hid hxn
        clear hxn
        go_wp2
        go_ret
        exact ⟨by rw [decide_eq_true (by rw [← HXN.out]; exact HX.out.2)]; rfl, rfl⟩
      · have hb : (x == n) = false := by simp [hxn]
        have HXN := hid hxn
        clear hxn
        go_wp2
        go_round
        case rel =>
          refine ⟨k + 1, by omega, by go_num, ?_⟩
          rw [HTK.out.1, HX.out.1]
          intro hm
          rcases List.mem_append.1 hm with hm | hm
          · exact HTK.out.2 hm
          · simp at hm; exact HXN.out hm.symm
        case measure => simp [intOf]; omega
    · obtain rfl : k = l.length := by omega
      rw [List.take_length] at hn
      have HN := hid hn
      clear hn
      go_wp2
      go_ret
      exact ⟨by rw [decide_eq_false HN.out]; rfl, rfl⟩
/-- A row of numbers that a function made. -/
def RInts (l : List Int) (w : World) (e : Ending) (w' : World) : Prop := ∃ v, e = .returned v ∧ IntR w' v l ∧ Fr (fun _ => False) w w'
theorem withoutL_snoc (l : List Int) (x n : Int) : withoutL (l ++ [x]) n = if x = n then withoutL l n else withoutL l n ++ [x] := by
  by_cases h : x = n <;> simp [withoutL, List.filter_append, h]
set_option maxHeartbeats 4000000 in
set_option maxRecDepth 100000 in
theorem rwithout_ok {w : World} {v : Value} {l : List Int} (h : IntR w v l) (hl : l.length ≤ 65536) (n : Int) :
    Calls Tryz.prog 225 #[v, .int .i64 n] w (RInts (withoutL l n) w) := by
  obtain ⟨i0, hi0, hz0, hz1, hz2⟩ := info_parts Tryz.info3
  obtain ⟨a, c, rfl, -, -, -, -⟩ := own_slice h
  have H := hid h
  clear h
  go_enter Tryz.func225, Tryz.ntmps225
  go_wp2_with fail
  go_loopw [5, 6] (fun u i wr => ∃ k : Nat, k ≤ l.length ∧ i = .int .i64 k ∧ wr.ownsRow w.heap.size 3 1 u (withoutL (l.take k) n).length ((withoutL (l.take k) n).map (Value.int .i64)) ∧ Fr (fun _ => False) w wr) (fun _ i _ => l.length - (intOf i).toNat)
  case atStart => exact ⟨0, Nat.zero_le _, rfl, World.ownsRow_nil _ _ _ _, Fr.refl _ _⟩
  case round =>
    obtain ⟨k, hk, rfl, hown, hF⟩ := hrel
    by_cases hlt : k < l.length
    · obtain ⟨g, rfl, hg, hc⟩ := intr_cell H.out hlt
      have hc := (hF.cell (p := ⟨g, k, none⟩) hg (fun h => h)).trans hc
      have hg := Nat.lt_of_lt_of_le hg hF.size
      have htk : l.take (k + 1) = l.take k ++ [l[k]] := by rw [List.take_add_one, List.getElem?_eq_getElem hlt]; rfl
      have hwl : (withoutL (l.take k) n).length ≤ k := Nat.le_trans (List.length_filter_le _ _) (by simp; omega)
      generalize hx : l[k] = x at hc htk
      have HX := hid htk
      have HO := hid (And.intro hown hF)
      have hsw := hF.size
      clear hx htk hown hF
      by_cases hxn : x = n
      · have hb : (x != n) = false := by simp [hxn]
        have HXN := hid hxn
        clear hxn
        go_wp2
        go_roundw
        case rel =>
          refine ⟨k + 1, by omega, by go_num, ?_, HO.out.2⟩
          rw [HX.out, withoutL_snoc, if_pos HXN.out]
          exact HO.out.1
        case measure => simp [intOf]; omega
      · have hb : (x != n) = true := by simp [hxn]
        have HXN := hid hxn
        clear hxn
        go_wp2_with (at_builtin; refine wpList_append_own_at _ rfl (.tmp 19) (.tmp 24) 52 rfl w.heap.size 3 i0 _ 1 8 Tryz.underlying52 hi0 hz0 hz1 hz2 rfl (by decide) _ _ _ rfl (HO.out.1.alloc _) ⟨wr.heap.size, 0, none⟩ 1 1 [.int .i64 x] rfl rfl (cell_one_new _ _ _) (by simp [Value.oneCell']) (by simp [maxLen]; omega) (by omega) (by simp; omega) ?_)
        intro v2 W2 hown2 hgrow2 hnil2 hat2
        have hF2 : Fr (fun _ => False) w W2 := HO.out.2.trans (grown_fr HO.out.1 hgrow2) (fun b hb h => by omega)
        have H2 := hid (And.intro hown2 hF2)
        clear hown2 hgrow2 hnil2 hat2 hF2
        go_wp2
        go_roundw
        case rel =>
          refine ⟨k + 1, by omega, by go_num, ?_, H2.out.2⟩
          rw [HX.out, withoutL_snoc, if_neg HXN.out]
          simpa using H2.out.1
        case measure => simp [intOf]; omega
    · obtain rfl : k = l.length := by omega
      rw [List.take_length] at hown
      have HO := hid (And.intro hown hF)
      clear hown hF
      go_wp2
      go_ret
      exact ⟨_, rfl, own_base HO.out.1, HO.out.2⟩
theorem withL_split (l : List Int) (n : Int) : ∀ k, k ≤ l.length → (∀ x ∈ l.take k, x < n) → (∀ x, l[k]? = some x → ¬ x < n) → withL l n = l.take k ++ [n] ++ l.drop k := by
  induction l with
  | nil => intro k hk _ _; simp at hk; subst hk; rfl
  | cons y l ih =>
    intro k hk h1 h2
    cases k with
    | zero =>
      have := h2 y rfl
      simp [withL, this]
    | succ k =>
      have hy := h1 y (by simp)
      have := ih k (by simpa using hk) (fun x hx => h1 x (by simp [hx])) (fun x hx => h2 x (by simpa using hx))
      simp [withL, hy, this]
set_option maxHeartbeats 4000000 in
set_option maxRecDepth 100000 in
theorem rwithI_ok {w : World} {v : Value} {l : List Int} (h : IntR w v l) (hl : l.length ≤ 65536) (n : Int) :
    Calls Tryz.prog 167 #[v, .int .i64 n] w (RInts (withL l n) w) := by
  obtain ⟨i0, hi0, hz0, hz1, hz2⟩ := info_parts Tryz.info3
  obtain ⟨a, c, rfl, hlc, hcm, -, hag⟩ := own_slice h
  have H := hid h
  clear h
  go_enter Tryz.func167, Tryz.ntmps167
  go_wp2_with fail
  go_loop [5] (fun i => ∃ k : Nat, k ≤ l.length ∧ i = .int .i64 k ∧ ∀ x ∈ l.take k, x < n) (fun i => l.length - (intOf i).toNat)
  case atStart => exact ⟨0, Nat.zero_le _, rfl, fun x hx => by rw [List.take_zero] at hx; cases hx⟩
  case round =>
    obtain ⟨k, hk, rfl, hn⟩ := hrel
    have HN := hid hn
    clear hn
    have htail : (∀ x, l[k]? = some x → ¬ x < n) → withL l n = l.take k ++ [n] ++ l.drop k := fun h => withL_split l n k hk HN.out h
    have hto : ∀ W, (Instr.slice 52 (.slice a l.length c) none (some (.int .i64 k)) none).run Tryz.prog W = .ok (.slice a k c) W := fun W => to52 a l.length c k (by omega) W
    obtain ⟨a2, hfrom, hF2⟩ : ∃ a2 : Option Addr, (∀ W, (Instr.slice 52 (.slice a l.length c) (some (.int .i64 k)) none none).run Tryz.prog W = .ok (.slice a2 (l.length - k) (c - k)) W) ∧ ∀ W, Fr (fun _ => False) w W → SrcV W (.slice a2 (l.length - k) (c - k)) (l.length - k) ((l.map (Value.int .i64)).drop (k * 1)) := ⟨_, fun W => from52 a l.length c k hk W, fun W F => own_src_from (own_none H.out F) k hk⟩
    have HFr := hid hF2
    clear hF2
    have HT := hid (fun W (F : Fr (fun _ => False) w W) => own_src_to (own_none H.out F) k hk)
    have HTL := hid htail
    clear htail
    by_cases hlt : k < l.length
    · obtain ⟨g, rfl, hg, hc⟩ := intr_cell H.out hlt
      generalize hx : l[k] = x at hc
      have HX := hid hx
      clear hx
      by_cases hxn : x < n
      · have hb : decide (x < n) = true := by simp [hxn]
        clear hto hfrom
        go_wp2
        go_round
        case rel =>
          refine ⟨k + 1, by omega, by go_num, ?_⟩
          rw [List.take_add_one, List.getElem?_eq_getElem hlt, HX.out]
          intro y hy
          rcases List.mem_append.1 hy with hy | hy
          · exact HN.out y hy
          · simp at hy; omega
        case measure => simp [intOf]; omega
      · have hb : decide (x < n) = false := by simp [hxn]
        have hxl := HTL.out (fun y hy => by rw [List.getElem?_eq_getElem hlt] at hy; cases hy; rw [HX.out]; exact hxn)
        go_wp2_with (at_builtin; refine wpList_append_src rfl (.tmp 21) (.tmp 24) 52 rfl w.heap.size 3 i0 _ 1 8 Tryz.underlying52 hi0 hz0 hz1 hz2 rfl (by decide) _ _ _ rfl (own_litB _ _ (Nat.le_refl _) _ _ _ (by simp [go_sem])) _ k _ rfl (HT.out _ ((Fr.refl _ _).alloc _)) (by simp; omega) (by intro u hu; obtain ⟨x, _, rfl⟩ := List.mem_map.1 (List.mem_of_mem_take hu); rfl) (by simp [maxLen]; omega) (by omega) (by simp) ?_)
        intro v2 W2 hown2 hg2 hne2
        try simp only [List.nil_append, Nat.zero_add, Nat.mul_one] at hown2
        have F12 : Fr (fun b => b = w.heap.size) w W2 := ((Fr.refl (fun b => b = w.heap.size) _).alloc _).trans (Fr.of_grownBy hg2) (fun b _ h => h)
        have F1 : Fr (fun _ => False) w W2 := F12.mono (fun b hb h => by omega)
        have HO := hid (And.intro hown2 F1)
        clear hown2 hg2 hne2 F12 F1
        go_wp2_with (at_builtin; refine wpList_append_own_at _ rfl (.tmp 25) (.tmp 27) 52 rfl w.heap.size 3 i0 _ 1 8 Tryz.underlying52 hi0 hz0 hz1 hz2 rfl (by decide) _ _ _ rfl (HO.out.1.alloc _) ⟨W2.heap.size, 0, none⟩ 1 1 [.int .i64 n] rfl rfl (cell_one_new _ _ _) (by simp [Value.oneCell']) (by simp [maxLen]; omega) (by omega) (Nat.le_trans HO.out.2.size (by simp)) ?_)
        intro v3 W3 hown3 hg3 hnil3 hat3
        have F2 : Fr (fun _ => False) w W3 := HO.out.2.trans (grown_fr HO.out.1 hg3) (fun b hb h => by omega)
        have HP := hid (And.intro hown3 F2)
        clear hown3 hg3 hnil3 hat3 F2
        go_wp2_with (at_builtin; refine wpList_append_src rfl (.tmp 29) (.tmp 32) 52 rfl w.heap.size 3 i0 _ 1 8 Tryz.underlying52 hi0 hz0 hz1 hz2 rfl (by decide) _ _ _ rfl HP.out.1 _ (l.length - k) _ rfl (HFr.out _ HP.out.2) (by simp) (by intro u hu; obtain ⟨x, _, rfl⟩ := List.mem_map.1 (List.mem_of_mem_drop hu); rfl) (by simp [maxLen]; omega) (by omega) (by exact HP.out.2.size) ?_)
        intro v4 W4 hown4 hg4 hne4
        have F3 : Fr (fun _ => False) w W4 := HP.out.2.trans (grown_fr' HP.out.1 hg4) (fun b hb h => by omega)
        have HQ := hid (And.intro hown4 F3)
        clear hown4 hg4 hne4 F3
        go_wp2
        go_ret
        refine ⟨_, rfl, ?_, HQ.out.2⟩
        rw [hxl]
        have hh := own_base HQ.out.1
        rw [show k + 1 + (l.length - k) = (l.take k ++ [n] ++ l.drop k).length by simp; omega] at hh
        simpa [IntR] using hh
    · have hdd : decide ((k : Int) < (l.length : Int)) = false := by simp; omega
      have hxl := HTL.out (fun y hy => by rw [List.getElem?_eq_none (by omega)] at hy; cases hy)
      go_wp2_with (at_builtin; refine wpList_append_src rfl (.tmp 21) (.tmp 24) 52 rfl w.heap.size 3 i0 _ 1 8 Tryz.underlying52 hi0 hz0 hz1 hz2 rfl (by decide) _ _ _ rfl (own_litB _ _ (Nat.le_refl _) _ _ _ (by simp [go_sem])) _ k _ rfl (HT.out _ ((Fr.refl _ _).alloc _)) (by simp; omega) (by intro u hu; obtain ⟨x, _, rfl⟩ := List.mem_map.1 (List.mem_of_mem_take hu); rfl) (by simp [maxLen]; omega) (by omega) (by simp) ?_)
      intro v2 W2 hown2 hg2 hne2
      try simp only [List.nil_append, Nat.zero_add, Nat.mul_one] at hown2
      have F12 : Fr (fun b => b = w.heap.size) w W2 := ((Fr.refl (fun b => b = w.heap.size) _).alloc _).trans (Fr.of_grownBy hg2) (fun b _ h => h)
      have F1 : Fr (fun _ => False) w W2 := F12.mono (fun b hb h => by omega)
      have HO := hid (And.intro hown2 F1)
      clear hown2 hg2 hne2 F12 F1
      go_wp2_with (at_builtin; refine wpList_append_own_at _ rfl (.tmp 25) (.tmp 27) 52 rfl w.heap.size 3 i0 _ 1 8 Tryz.underlying52 hi0 hz0 hz1 hz2 rfl (by decide) _ _ _ rfl (HO.out.1.alloc _) ⟨W2.heap.size, 0, none⟩ 1 1 [.int .i64 n] rfl rfl (cell_one_new _ _ _) (by simp [Value.oneCell']) (by simp [maxLen]; omega) (by omega) (Nat.le_trans HO.out.2.size (by simp)) ?_)
      intro v3 W3 hown3 hg3 hnil3 hat3
      have F2 : Fr (fun _ => False) w W3 := HO.out.2.trans (grown_fr HO.out.1 hg3) (fun b hb h => by omega)
      have HP := hid (And.intro hown3 F2)
      clear hown3 hg3 hnil3 hat3 F2
      go_wp2_with (at_builtin; refine wpList_append_src rfl (.tmp 29) (.tmp 32) 52 rfl w.heap.size 3 i0 _ 1 8 Tryz.underlying52 hi0 hz0 hz1 hz2 rfl (by decide) _ _ _ rfl HP.out.1 _ (l.length - k) _ rfl (HFr.out _ HP.out.2) (by simp) (by intro u hu; obtain ⟨x, _, rfl⟩ := List.mem_map.1 (List.mem_of_mem_drop hu); rfl) (by simp [maxLen]; omega) (by omega) (by exact HP.out.2.size) ?_)
      intro v4 W4 hown4 hg4 hne4
      have F3 : Fr (fun _ => False) w W4 := HP.out.2.trans (grown_fr' HP.out.1 hg4) (fun b hb h => by omega)
      have HQ := hid (And.intro hown4 F3)
      clear hown4 hg4 hne4 F3
      go_wp2
      go_ret
      refine ⟨_, rfl, ?_, HQ.out.2⟩
      rw [hxl]
      have hh := own_base HQ.out.1
      rw [show k + 1 + (l.length - k) = (l.take k ++ [n] ++ l.drop k).length by simp; omega] at hh
      simpa [IntR] using hh
end Go.Proofs.YtgdhaaokolfdoaaGreatDoor

/- Appends within a region that draws its order: the law of append as one step. Conditions: none. -/
namespace Go.Proofs.YtgdhaaokolfdoaaGreatDoor
open Go.RowKit Go.Sg
theorem step_append_src {P : Program} {ops : Array Oper} {o : Oper} {a : Act} {w : World} {K : Act → World → Prop} {Q : Exit → Act → World → Prop} {E : Prop} (hgd : o.guard = none) (s x : Operand) (t : TypeId)
    (ho : o.op = .call { callee := .builtin .append, args := #[s, x], argTypes := #[t, t] }) (base : Nat) (e : TypeId) (i : TypeInfo) (z : Value) (size bytes : Nat) (ht : P.underlying t = some (.slice e)) (hi : P.info? e = some i) (hz : i.zero = some z)
    (hsize : i.size = size) (hby : i.bytes = bytes) (hzs : z.cells.size = size) (hsz : 0 < size) (v : Value) (n : Nat) (xs : List Value) (hs : a.eval s = v) (hown : w.ownsRow base e size v n xs)
    (vx : Value) (m : Nat) (news : List Value) (hx : a.eval x = vx) (hsrc : SrcV w vx m news) (hl : news.length = m * size) (h1 : ∀ u ∈ news, u.oneCell' = true) (h63 : n + m ≤ maxLen) (hbytes : (n + m) * bytes ≤ 140737488355328) (hbase : base ≤ w.heap.size)
    (h : ∀ v' w', w'.ownsRow base e size v' (n + m) (xs ++ news) → w.grownBy w' v.ownBlock → K (a.put o.dst v') w') :
    if Region.wanted o (yielded ops a.tmps) = true then Oper.wp P o a w K Q else E := by
  have hw : Region.wanted o (yielded ops a.tmps) = true := by simp [Region.wanted, hgd]
  rw [if_pos hw]
  obtain ⟨a', c, rfl, ⟨rfl, rfl, rfl, rfl⟩ | ⟨ad, rfl, hc⟩⟩ := hsrc
  · have hrun := run_append_owned_none (P := P) (w := w) base t o.type e i size ht hi v n xs hown
    unfold Oper.wp
    simp [execOp, ho, resolve, invoke, builtin, hs, hx, hrun, Result.andThen]
    exact h v w (by simpa using hown) ⟨rfl, rfl, rfl, Nat.le_refl _, fun _ _ _ => rfl⟩
  · obtain ⟨v', w', hr, h2, h3, h4, h5⟩ := run_append_own_at (P := P) w base t o.type e i z size bytes ht hi hz hsize hby hzs hsz v n xs hown ad m c news hl hc h1 h63 hbytes hbase
    unfold Oper.wp execOp
    simp only [ho, resolve, invoke, builtin, Sem.run_bind, Sem.run_pure, Result.andThen_ok, List.map_toArray, List.map_cons, List.map_nil, hs, hx, hr]
    exact h v' w' h2 h3
theorem own_at {W : World} {B g : Nat} {e : TypeId} {size : Nat} (hB : B ≤ g) (h : W.heap[g]? = some (.cells #[] e)) : W.ownsRow B e size (.slice (some ⟨g, 0, none⟩) 0 0) 0 [] :=
  ⟨by simp, .inr ⟨g, 0, #[], rfl, hB, h, Nat.le_refl _, Nat.zero_le _, by simp, by simp⟩⟩
theorem src_of_heap {W : World} {g : Nat} {c : Array Value} {e : TypeId} {f : Nat × Nat} (m cap : Nat) (h : W.heap[g]? = some (.cells c e f)) : SrcV W (.slice (some ⟨g, 0, none⟩) m cap) m c.toList :=
  ⟨_, cap, rfl, .inr ⟨_, rfl, fun j u hj => by rw [addr_add0, Nat.zero_add, cell_of_heap h]; simpa using hj⟩⟩
theorem hp1 (W : World) (o : Obj) : (W.alloc o).heap[W.heap.size]? = some o := heap_alloc_new _ _
theorem hp2 (W : World) (o o' : Obj) : ((W.alloc o).alloc o').heap[W.heap.size]? = some o := by
  rw [heap_alloc_lt _ _ _ (by simp)]; exact heap_alloc_new _ _
theorem hp3 (W : World) (o o' : Obj) : ((W.alloc o).alloc o').heap[W.heap.size + 1]? = some o' := by
  have := heap_alloc_new (W.alloc o) o'
  simpa using this
theorem hp1d (W : World) (o : Obj) : (W.alloc o).drew.heap[W.heap.size]? = some o := hp1 W o
theorem hp2d (W : World) (o o' : Obj) : ((W.alloc o).alloc o').drew.heap[W.heap.size]? = some o := hp2 W o o'
theorem hp3d (W : World) (o o' : Obj) : ((W.alloc o).alloc o').drew.heap[W.heap.size + 1]? = some o' := hp3 W o o'
theorem hk_any {W W3 : World} {X n c g : Nat} {o : Obj} (hk : ∀ k, k < W.heap.size → some k ≠ (Value.slice (some ⟨X, 0, none⟩) n c).ownBlock → W3.heap[k]? = W.heap[k]?) (h : W.heap[g]? = some o) (hne : g ≠ X) : W3.heap[g]? = some o :=
  (hk g (lt_of_heap h) (by simp [Value.ownBlock]; exact hne)).trans h
theorem own_le {w : World} {b b' e size n : Nat} {v : Value} {xs : List Value} (h : w.ownsRow b e size v n xs) (hb : b' ≤ b) : w.ownsRow b' e size v n xs := by
  obtain ⟨hl, h0 | ⟨g, cap, cur, hv, hg, r⟩⟩ := h
  · exact ⟨hl, .inl h0⟩
  · exact ⟨hl, .inr ⟨g, cap, cur, hv, Nat.le_trans hb hg, r⟩⟩
theorem own_above {w w' : World} {b e size n : Nat} {v : Value} {xs : List Value} (h : w.ownsRow b e size v n xs) (F : Fr (fun k => k < b) w w') : w'.ownsRow b e size v n xs := by
  obtain ⟨hl, h0 | ⟨g, cap, cur, hv, hg, hh, r⟩⟩ := h
  · exact ⟨hl, .inl h0⟩
  · exact ⟨hl, .inr ⟨g, cap, cur, hv, hg, F.heap hh (by omega), r⟩⟩
theorem fr_g {W2 W W3 : World} {X n c : Nat} (hg : W.grownBy W3 (Value.slice (some ⟨X, 0, none⟩) n c).ownBlock) (hX : W2.heap.size ≤ X) (F : Fr (fun _ => False) W2 W) : Fr (fun _ => False) W2 W3 :=
  F.trans (Fr.of_grownBy hg) (fun b hb h => absurd h (by simp; omega))
theorem fr_grown {W2 W W3 : World} {e size n : Nat} {v : Value} {xs : List Value} (F : Fr (fun _ => False) W2 W) (hown : W.ownsRow W2.heap.size e size v n xs) (hg : W.grownBy W3 v.ownBlock) : Fr (fun _ => False) W2 W3 :=
  F.trans (grown_fr' hown hg) (fun b hb h => absurd h (by omega))
end Go.Proofs.YtgdhaaokolfdoaaGreatDoor

/- The document's store (chapter 13): Make. Conditions: the rows lie in the world. -/
namespace Go.Proofs.YtgdhaaokolfdoaaGreatDoor
open Go.RowKit Go.Sg
abbrev pgV (p : RPg) : Value := .agg #[.int .i64 p.page, .int .i64 p.stamp, .string (strOfNums p.load)]
def pgCells (p : RPg) : List Value := [.int .i64 p.page, .int .i64 p.stamp, .string (strOfNums p.load)]
abbrev PgR (w : World) (v : Value) (l : List RPg) : Prop := w.ownsRow 0 71 3 v l.length (l.flatMap pgCells)
abbrev refV (r : R13) (t l f y d : Value) : Value := .agg #[t, .int .i64 r.hand, .int .i64 r.gen, l, f, y, d]
structure RefAt (w : World) (r : R13) (t l f y d : Value) : Prop where
  taken : BoolR w t r.taken
  live : PgR w l r.live
  fresh : IntR w f r.fresh
  dying : IntR w y r.dying
  dead : IntR w d r.dead
theorem RefAt.fr {w w' : World} {r : R13} {t l f y d : Value} (h : RefAt w r t l f y d) (F : Fr (fun _ => False) w w') : RefAt w' r t l f y d :=
  ⟨own_none h.taken F, own_none h.live F, own_none h.fresh F, own_none h.dying F, own_none h.dead F⟩
theorem RefAt.frB {w w' : World} {B : Blk} {r : R13} {t l f y d : Value} (h : RefAt w r t l f y d) (F : FrB B w w') : RefAt w' r t l f y d :=
  ⟨own_frB h.taken (by decide) F, own_frB h.live (by decide) F, own_frB h.fresh (by decide) F, own_frB h.dying (by decide) F, own_frB h.dead (by decide) F⟩
def RefIs (w : World) (r : R13) (v : Value) : Prop := ∃ t l f y d, v = refV r t l f y d ∧ RefAt w r t l f y d
theorem pgs_length (l : List RPg) : (l.flatMap pgCells).length = l.length * 3 := by
  induction l with
  | nil => rfl
  | cons p l ih => simp [pgCells, ih]; omega
theorem pgs_one (l : List RPg) : ∀ u ∈ l.flatMap pgCells, u.oneCell' = true := by
  intro u hu
  obtain ⟨p, _, hp⟩ := List.mem_flatMap.1 hu
  simp only [pgCells, List.mem_cons, List.not_mem_nil, or_false] at hp
  rcases hp with rfl | rfl | rfl <;> rfl
theorem cells7 {w : World} {b : Nat} {x0 x1 x2 x3 x4 x5 x6 : Value} {t : TypeId} (h : w.heap[b]? = some (.cells #[x0, x1, x2, x3, x4, x5, x6] t)) :
    w.cell? ⟨b, 0, none⟩ = some x0 ∧ w.cell? ⟨b, 1, none⟩ = some x1 ∧ w.cell? ⟨b, 2, none⟩ = some x2 ∧ w.cell? ⟨b, 3, none⟩ = some x3 ∧ w.cell? ⟨b, 4, none⟩ = some x4 ∧ w.cell? ⟨b, 5, none⟩ = some x5 ∧ w.cell? ⟨b, 6, none⟩ = some x6 ∧ (∀ o, w.frozen? ⟨b, o, none⟩ = false) ∧ b < w.heap.size :=
  ⟨by simpa using cell_of_heap h 0, by simpa using cell_of_heap h 1, by simpa using cell_of_heap h 2, by simpa using cell_of_heap h 3, by simpa using cell_of_heap h 4, by simpa using cell_of_heap h 5, by simpa using cell_of_heap h 6, fun o => frozen_of_heap h o, lt_of_heap h⟩
def pg0 : Value := .agg #[.int .i64 0, .int .i64 0, .string ⟨#[]⟩]
def z64 : Array Value := #[.slice none 0 0, .int .i64 0, .int .i64 0, .slice none 0 0, .slice none 0 0, .slice none 0 0, .slice none 0 0]
theorem cell_three_new (w : World) (x y z : Value) (e : TypeId) : ∀ (j : Nat) (u : Value), [x, y, z][j]? = some u → (w.alloc (.cells #[x, y, z] e)).cell? ((⟨w.heap.size, 0, none⟩ : Addr).add j) = some u := by
  intro j u hj
  rw [addr_add0, Nat.zero_add, cell_of_heap (heap_alloc_new _ _)]
  simpa using hj
theorem heap_new_at {W : World} {o : Obj} {n : Nat} (h : W.heap.size = n) : (W.alloc o).heap[n]? = some o := h ▸ heap_alloc_new _ _
theorem one3 (a b : Int) (s : ByteArray) : ∀ u ∈ (#[.int .i64 a, .int .i64 b, .string s] : Array Value).toList, u.oneCell' = true := by
  intro u hu
  simp only [List.mem_cons, List.not_mem_nil, or_false] at hu
  rcases hu with rfl | rfl | rfl <;> rfl
def RMake (r : R13) (bs : List Int) (w : World) (e : Ending) (w' : World) : Prop :=
  Fr (fun _ => False) w w' ∧ match r.make bs with
  | none => ∃ v, e = .returned (.tuple #[v, pg0, .bool false]) ∧ RefIs w' r v
  | some (r', p) => ∃ v, e = .returned (.tuple #[v, pgV p, .bool true]) ∧ RefIs w' r' v
def MkM (w : World) (r : R13) (n : Nat) (bs : List Int) (T F Y D : Value) (g : Nat) (wx : World) : Prop :=
  ∃ la lc, wx.ownsRow (w.heap.size + 3) 71 3 (.slice la (r.live.length + 1) lc) (r.live.length + 1) ((r.live ++ [(⟨n, r.gen, bs⟩ : RPg)]).flatMap pgCells) ∧ Fr (fun _ => False) w wx ∧ wx.heap[w.heap.size]? = some (.cells #[T, .int .i64 (((n : Int) + 1) % (r.taken.length : Int)), .int .i64 r.gen, .slice la (r.live.length + 1) lc, F, Y, D] 64) ∧
    wx.heap[w.heap.size + 1]? = some (.cells z64 64) ∧ wx.heap[w.heap.size + 1 + 1]? = some (.cells #[.int .i64 0, .int .i64 0, .string ⟨#[]⟩] 71) ∧ wx.heap[g]? = some (.cells #[.int .i64 n, .int .i64 r.gen, .string (strOfNums bs)] 71) ∧ BoolR wx T (r.taken.set n true)
theorem mkM_mk {w W2 W5 : World} {r : R13} {n g lc lc5 : Nat} {la la5 : Option Addr} {bs : List Int} {T F Y D : Value} (hwg : w.heap.size < g) (hw3 : w.heap.size + 3 ≤ W2.heap.size) (e0 : W2.heap[w.heap.size]? = some (.cells #[T, .int .i64 (((n : Int) + 1) % (r.taken.length : Int)), .int .i64 r.gen, .slice la r.live.length lc, F, Y, D] 64))
    (e1 : W2.heap[w.heap.size + 1]? = some (.cells z64 64)) (e2 : W2.heap[w.heap.size + 1 + 1]? = some (.cells #[.int .i64 0, .int .i64 0, .string ⟨#[]⟩] 71)) (e9 : W2.heap[g]? = some (.cells #[.int .i64 n, .int .i64 r.gen, .string (strOfNums bs)] 71))
    (F3 : Fr (fun _ => False) w W2) (ht : W2.ownsRow 0 4 1 T r.taken.length ((r.taken.set n true).map Value.bool)) (F5 : Fr (fun _ => False) W2 W5)
    (hown : W5.ownsRow W2.heap.size 71 3 (.slice la5 (r.live.length + 1) lc5) (r.live.length + 1) (r.live.flatMap pgCells ++ [.int .i64 n, .int .i64 r.gen, .string (strOfNums bs)])) :
    MkM w r n bs T F Y D g (W5.setCell ⟨w.heap.size, 3, none⟩ (.slice la5 (r.live.length + 1) lc5)) := by
  have b0 := F5.heap e0 (fun h => h)
  have FX : Fr (fun b => b = w.heap.size) W5 (W5.setCell ⟨w.heap.size, 3, none⟩ (.slice la5 (r.live.length + 1) lc5)) := (Fr.refl (fun b => b = w.heap.size) _).setCell (a := ⟨w.heap.size, 3, none⟩) (fun _ => rfl) _
  refine ⟨la5, lc5, ?_, (F3.trans F5 (fun _ _ h => h)).setNew (Nat.le_refl _) _, ?_, FX.heap (F5.heap e1 (fun h => h)) (by omega), FX.heap (F5.heap e2 (fun h => h)) (by omega), FX.heap (F5.heap e9 (fun h => h)) (by omega), ?_⟩
  · have := own_cellK FX (own_le hown hw3) b0 (by decide)
    simpa [pgCells] using this
  · rw [heap_setCell_cells _ _ _ _ b0]; simp
  · have := own_cellK FX (own_none ht F5) b0 (by decide)
    show World.ownsRow _ _ _ _ _ _ _
    rw [List.length_set]; exact this
theorem ref_three {w w' : World} {B : Nat} {r : R13} {t l f y d : Value} {x0 x1 x2 : Array Value} (F : Fr (fun k => k = B ∨ k = B + 1 ∨ k = B + 1 + 1) w w') (b0 : w.heap[B]? = some (.cells x0 64)) (b1 : w.heap[B + 1]? = some (.cells x1 64)) (b2 : w.heap[B + 1 + 1]? = some (.cells x2 71))
    (ht : BoolR w t r.taken) (hl : w.ownsRow (B + 3) 71 3 l r.live.length (r.live.flatMap pgCells)) (hf : IntR w f r.fresh) (hy : IntR w y r.dying) (hd : IntR w d r.dead) : RefAt w' r t l f y d := by
  have key : ∀ {e size n : Nat} {v : Value} {xs : List Value}, e ≠ 64 → e ≠ 71 → w.ownsRow 0 e size v n xs → w'.ownsRow 0 e size v n xs := by
    intro e size n v xs h1 h2 h
    refine ownsRow_fr h F fun g c hg hs => ?_
    rcases hs with rfl | rfl | rfl
    · rw [b0] at hg; cases hg; exact h1 rfl
    · rw [b1] at hg; cases hg; exact h1 rfl
    · rw [b2] at hg; cases hg; exact h2 rfl
  exact ⟨key (by decide) (by decide) ht, own_base (own_above hl (F.mono fun b _ h => by omega)), key (by decide) (by decide) hf, key (by decide) (by decide) hy, key (by decide) (by decide) hd⟩
set_option maxHeartbeats 4000000 in
set_option maxRecDepth 100000 in
theorem rmake_ok {w : World} {r : R13} {t l f y d : Value} (h : RefAt w r t l f y d) (ht : r.taken.length ≤ 65536) (hh : 0 ≤ r.hand) (hh' : r.hand < r.taken.length) (hl : r.live.length ≤ 65536) (hf : r.fresh.length ≤ 65536) (bs : List Int) :
    Calls Tryz.prog 106 #[refV r t l f y d, .string (strOfNums bs)] w (RMake r bs w) := by
  obtain ⟨hd, hhd⟩ := Int.eq_ofNat_of_zero_le hh
  obtain ⟨ta, tc, rfl, -, -, -, -⟩ := own_slice h.taken
  obtain ⟨la, lc, rfl, -, -, -, -⟩ := own_slice h.live
  obtain ⟨fa, fc, rfl, -, -, -, -⟩ := own_slice h.fresh
  obtain ⟨ya, yc, rfl, -, -, -, -⟩ := own_slice h.dying
  obtain ⟨da, dc, rfl, -, -, -, -⟩ := own_slice h.dead
  have hdt : hd < r.taken.length := by omega
  obtain ⟨i0, hi0, hz0, hz1, hz2⟩ := info_parts Tryz.info71
  obtain ⟨w1, hw1⟩ : ∃ w1, ((w.alloc (.cells #[.slice ta r.taken.length tc, .int .i64 hd, .int .i64 r.gen, .slice la r.live.length lc, .slice fa r.fresh.length fc, .slice ya r.dying.length yc, .slice da r.dead.length dc] 64)).alloc (.cells z64 64)).alloc (.cells #[.int .i64 0, .int .i64 0, .string ⟨#[]⟩] 71) = w1 := ⟨_, rfl⟩
  obtain ⟨b0, b1, b2, F1⟩ := heap_three hw1
  have h1 := h.fr F1
  rw [show refV r (.slice ta r.taken.length tc) (.slice la r.live.length lc) (.slice fa r.fresh.length fc) (.slice ya r.dying.length yc) (.slice da r.dead.length dc) = .agg #[.slice ta r.taken.length tc, .int .i64 hd, .int .i64 r.gen, .slice la r.live.length lc, .slice fa r.fresh.length fc, .slice ya r.dying.length yc, .slice da r.dead.length dc] by rw [refV, hhd]]
  have HW := hid hw1
  have H1 := hid (And.intro b0 (And.intro b1 (And.intro b2 (And.intro F1 h1))))
  have H0 := hid h
  unfold z64 at HW
  obtain ⟨c0, c1, c2, c3, c4, c5, c6, cz, cl⟩ := cells7 b0
  obtain ⟨y0, y1, y2, y3, y4, y5, y6, yz, yl⟩ := cells7 b1
  obtain ⟨x0, x1, x2, xz, xl⟩ := cells3 b2
  have HR := hid (And.intro hhd (And.intro hdt (And.intro hh hh')))
  clear hw1 b0 b1 b2 F1 h1 h hh hh' hhd
  go_enter Tryz.func106, Tryz.ntmps106
  go_upto_region 1 with fail
  rw [HW.out]
  go_wp2_with (go_at_call 166; refine (rtake_ok H1.out.2.2.2.2.taken ht hd hdt).mono ?_)
  have HS0 := hid H1.out.2.2.2.1.size
  clear c0 c1 c2 c3 c4 c5 c6 cz cl y0 y1 y2 y3 y4 y5 y6 yz yl x0 x1 x2 xz xl
  rintro e W1 (⟨n, tv, htk, hnl, rfl, htv, F2⟩ | ⟨tv, htk, rfl, htv, F2⟩)
  · have b0 := F2.heap H1.out.1 (fun h => h)
    have b1 := F2.heap H1.out.2.1 (fun h => h)
    have b2 := F2.heap H1.out.2.2.1 (fun h => h)
    obtain ⟨c0, c1, c2, c3, c4, c5, c6, cz, cl⟩ := cells7 b0
    obtain ⟨ta2, tc2, rfl, -, -, -, -⟩ := own_slice htv
    have hdd : decide ((n : Int) < 0) = false := by simp
    have H2 := hid (And.intro htk (And.intro hnl (And.intro htv (And.intro F2 (And.intro b0 (And.intro b1 b2))))))
    clear htk hnl htv F2 b0 b1 b2
    go_upto_region 6 with fail
    obtain ⟨W2, hW2⟩ : ∃ W2, ((((W1.setCell ⟨w.heap.size, 0, none⟩ (.slice ta2 r.taken.length tc2)).setCell ⟨w.heap.size, 1, none⟩ (.int .i64 (((n : Int) + 1) % (r.taken.length : Int)))).alloc (.cells #[.slice ta2 r.taken.length tc2, .int .i64 (((n : Int) + 1) % (r.taken.length : Int))] 61)).alloc (.cells #[.int .i64 n, .int .i64 r.gen, .string (strOfNums bs)] 71)) = W2 := ⟨_, rfl⟩
    rw [hW2]
    obtain ⟨htk, hnl, htv, F2, b0, b1, b2⟩ := H2.out
    have s1 := H1.out.2.2.2.1.size
    have hs2 : W2.heap.size = W1.heap.size + 2 := by rw [← hW2]; simp
    have e0 : W2.heap[w.heap.size]? = some (.cells #[.slice ta2 r.taken.length tc2, .int .i64 (((n : Int) + 1) % (r.taken.length : Int)), .int .i64 r.gen, .slice la r.live.length lc, .slice fa r.fresh.length fc, .slice ya r.dying.length yc, .slice da r.dead.length dc] 64) := by
      rw [← hW2, heap_alloc_lt _ _ _ (by simp; omega), heap_alloc_lt _ _ _ (by simp; omega), heap_setCell_cells _ _ _ _ (heap_setCell_cells _ _ _ _ b0)]; simp
    have F4 : Fr (fun b => b = w.heap.size) W1 W2 := by
      rw [← hW2]
      exact (((Fr.refl (fun b => b = w.heap.size) W1).setCell (a := ⟨w.heap.size, 0, none⟩) (fun _ => rfl) _).setCell (a := ⟨w.heap.size, 1, none⟩) (fun _ => rfl) _).alloc _ |>.alloc _
    have e1 := F4.heap b1 (by omega)
    have e2 := F4.heap b2 (by omega)
    have e9 : W2.heap[W1.heap.size + 1]? = some (.cells #[.int .i64 n, .int .i64 r.gen, .string (strOfNums bs)] 71) := by
      rw [← hW2]; exact heap_new_at (by simp)
    have F3 : Fr (fun _ => False) w W2 := by
      rw [← hW2]
      exact ((((H1.out.2.2.2.1.trans F2 (fun _ _ h => h)).setNew (Nat.le_refl _) _).setNew (Nat.le_refl _) _).alloc _).alloc _
    have ht2 : W2.ownsRow 0 4 1 (.slice ta2 r.taken.length tc2) r.taken.length ((r.taken.set n true).map Value.bool) := by
      have := own_cellK F4 htv b0 (by decide)
      rwa [List.length_set] at this
    obtain ⟨c0', c1', c2', c3', c4', c5', c6', cz', cl'⟩ := cells7 e0
    obtain ⟨g0, g1, g2, gz, gl⟩ := cells3 e9
    have H3 := hid (And.intro e0 (And.intro e1 (And.intro e2 (And.intro e9 (And.intro F3 (And.intro ht2 (And.intro htk hnl)))))))
    have HS2 := hid (And.intro hs2 s1)
    clear hs2 s1 c0 c1 c2 c3 c4 c5 c6 cz cl htk hnl htv F2 F4 b0 b1 b2 e0 e1 e2 e9 F3 ht2 hW2
    have HV := hid (fun W (F : Fr (fun _ => False) w W) => own_src (own_none H0.out.live F))
    have hm1 : 0 + r.live.length ≤ maxLen := by simp [maxLen]; omega
    have hm2 : (0 + r.live.length) * 32 ≤ 140737488355328 := by omega
    have hm3 : 0 + r.live.length + 1 ≤ maxLen := by simp [maxLen]; omega
    have hm4 : (0 + r.live.length + 1) * 32 ≤ 140737488355328 := by omega
    have HW3 := hid (show w.heap.size + 3 ≤ W2.heap.size by have := lt_of_heap H3.out.2.2.1; omega)
    have HM := hid (And.intro hm1 (And.intro hm2 (And.intro hm3 hm4)))
    clear hm1 hm2 hm3 hm4
    go_cut [8] from 27 to 34 (fun v wx => v = .int .i64 n ∧ MkM w r n bs (.slice ta2 r.taken.length tc2) (.slice fa r.fresh.length fc) (.slice ya r.dying.length yc) (.slice da r.dead.length dc) (W1.heap.size + 1) wx)
    case first =>
      go_region_law (first
        | (
           refine step_append_src rfl (.tmp 27) (.tmp 29) 62 rfl W2.heap.size 71 i0 _ 3 32 Tryz.underlying62 hi0 hz0 hz1 hz2 rfl (Nat.succ_pos 2) _ 0 [] rfl (own_at ?_ ?_) _ r.live.length _ rfl (HV.out _ ?_) (pgs_length _) (pgs_one _) HM.out.1 HM.out.2.1 ?_ ?_
           · first | (simp; done) | (simp; omega)
           · (first | exact hp1 W2 _ | exact hp2 W2 _ _ | exact hp3 W2 _ _ | exact hp1d W2 _ | exact hp2d W2 _ _ | exact hp3d W2 _ _)
           · repeat (first | exact H3.out.2.2.2.2.1 | apply Fr.alloc | apply Fr.drew)
           · first | (simp; done) | (simp; omega)
           intro v3 W3 hown3 hg3
           have hF3 := fun h F => fr_g hg3 (W2 := W2) h F
           replace hF3 := hF3 (by first | (simp; done) | (simp; omega)) (by repeat (first | exact Fr.refl _ _ | apply Fr.alloc | apply Fr.drew))
           have hk3 := hg3.block
           obtain ⟨p0, p1, p2, p3, p4, p5, p6, pz, pl⟩ := cells7 (hF3.heap H3.out.1 (fun h => h))
           obtain ⟨o0, o1, o2, oz, ol⟩ := cells3 (hF3.heap H3.out.2.2.2.1 (fun h => h)))
        | (
           refine step_append_src rfl (.tmp 30) (.tmp 32) 62 rfl W2.heap.size 71 i0 _ 3 32 Tryz.underlying62 hi0 hz0 hz1 hz2 rfl (Nat.succ_pos 2) _ (0 + r.live.length) ([] ++ r.live.flatMap pgCells) rfl ?_ _ 1 [.int .i64 n, .int .i64 r.gen, .string (strOfNums bs)] rfl ?_ rfl (one3 _ _ _) HM.out.2.2.1 HM.out.2.2.2 ?_ ?_
           · first | exact hown3 | exact hown3.alloc _
           · refine src_of_heap (f := (0, 0)) (e := 71) (c := #[.int .i64 n, .int .i64 r.gen, .string (strOfNums bs)]) 1 1 ?_
             first
               | (first | exact hp1 W3 _ | exact hp2 W3 _ _ | exact hp3 W3 _ _ | exact hp1d W3 _ | exact hp2d W3 _ _ | exact hp3d W3 _ _)
               | (refine hk_any hk3 ?_ ?_
                  · (first | exact hp1 W2 _ | exact hp2 W2 _ _ | exact hp3 W2 _ _ | exact hp1d W2 _ | exact hp2d W2 _ _ | exact hp3d W2 _ _)
                  · omega)
           · first | exact hF3.size | (refine Nat.le_trans hF3.size ?_; first | (simp; done) | (simp; omega))
           intro v5 W5 hown5 hg5
           have hF5 : Fr (fun _ => False) W2 W5 := by first | exact fr_grown hF3 hown3 hg5 | exact fr_grown (hF3.alloc _) (hown3.alloc _) hg5
           obtain ⟨la5, lc5, he5, -, -, -, -⟩ := own_slice hown5
           subst he5
           have hb5 := hF5.heap H3.out.1 (fun h => h)
           obtain ⟨q0, q1, q2, q3, q4, q5, q6, qz, ql⟩ := cells7 hb5))
      all_goals (go_wp2_with fail)
      all_goals go_meet
      all_goals exact ⟨rfl, mkM_mk (by have := HS2.out.2; have := H2.out.2.2.2.1.size; omega) HW3.out H3.out.1 H3.out.2.1 H3.out.2.2.1 H3.out.2.2.2.1 H3.out.2.2.2.2.1 H3.out.2.2.2.2.2.1 hF5 (by simpa using hown5)⟩
    obtain ⟨rfl, la3, lc3, hpg, F6, k0, k1, k2, k9, htk2⟩ := hcut
    obtain ⟨c0, c1, c2, c3, c4, c5, c6, cz, cl⟩ := cells7 k0
    obtain ⟨y0, y1, y2, y3, y4, y5, y6, yz, yl⟩ := cells7 k1
    obtain ⟨x0, x1, x2, xz, xl⟩ := cells3 k2
    obtain ⟨g0, g1, g2, gz, gl⟩ := cells3 k9
    have H6 := hid (And.intro hpg (And.intro F6 (And.intro k0 (And.intro k1 (And.intro k2 (And.intro k9 htk2))))))
    clear hpg F6 k0 k1 k2 k9 htk2
    go_upto_region 8 with (go_at_call 167; refine (rwithI_ok (own_none H0.out.fresh H6.out.2.1) hf n).mono ?_; rintro _ W7 ⟨fv, rfl, hfv, F7⟩; obtain ⟨fa7, fc7, he7, -, -, -, -⟩ := own_slice hfv; subst he7; have q0 := F7.heap H6.out.2.2.1 (fun h => h); obtain ⟨p0, p1, p2, p3, p4, p5, p6, pz, pl⟩ := cells7 q0)
    have H7 := hid (And.intro hfv F7)
    have hq0 : W7.heap[w.heap.size]? = _ := H7.out.2.heap H6.out.2.2.1 (fun h => h)
    have hq1 := H7.out.2.heap H6.out.2.2.2.1 (fun h => h)
    have hq2 := H7.out.2.heap H6.out.2.2.2.2.1 (fun h => h)
    have hq9 := H7.out.2.heap H6.out.2.2.2.2.2.1 (fun h => h)
    obtain ⟨y0, y1, y2, y3, y4, y5, y6, yz, yl⟩ := cells7 hq1
    obtain ⟨x0, x1, x2, xz, xl⟩ := cells3 hq2
    obtain ⟨g0, g1, g2, gz, gl⟩ := cells3 hq9
    have hz1 : w.heap.size + 1 + 1 < W1.heap.size := Nat.lt_of_lt_of_le (lt_of_heap H1.out.2.2.1) H2.out.2.2.2.1.size
    have ne1 : ¬ w.heap.size = W1.heap.size := by omega
    have ne2 : ¬ W1.heap.size = w.heap.size := by omega
    have ne3 : ¬ w.heap.size + 1 = W1.heap.size := by omega
    have ne4 : ¬ W1.heap.size = w.heap.size + 1 := by omega
    have HQ := hid (And.intro hq0 (And.intro hq1 (And.intro hq2 hq9)))
    clear hfv F7 hq0 hq1 hq2 hq9
    go_region
    go_wp2_with fail
    have hmk : r.make bs = some ({ r with taken := r.taken.set n true, hand := (((n + 1) % r.taken.length : Nat) : Int), live := r.live ++ [⟨n, r.gen, bs⟩], fresh := withL r.fresh n }, ⟨n, r.gen, bs⟩) := by
      simp [R13.make, HR.out.1, H3.out.2.2.2.2.2.2.1]
    have HMK := hid hmk
    clear hmk
    refine bodyPost_ret (v := .tuple #[refV { r with taken := r.taken.set n true, hand := (((n + 1) % r.taken.length : Nat) : Int), live := r.live ++ [⟨n, r.gen, bs⟩], fresh := withL r.fresh n } (.slice ta2 r.taken.length tc2) (.slice la3 (r.live.length + 1) lc3) (.slice fa7 (withL r.fresh ↑n).length fc7) (.slice ya r.dying.length yc) (.slice da r.dead.length dc), pgV ⟨n, r.gen, bs⟩, .bool true]) (by simp [results, go_sem, *]) rfl ⟨?_, ?_⟩
    · have F67 : Fr (fun _ => False) w W7 := H6.out.2.1.trans H7.out.2 (fun _ _ h => h)
      with_reducible (repeat (first | exact F67 | apply Fr.drew | refine Fr.setNew ?_ (by omega) _))
    · rw [HMK.out]
      refine ⟨_, rfl, _, _, _, _, _, rfl, ref_three (w := W7) (B := w.heap.size) ?_ HQ.out.1 HQ.out.2.1 HQ.out.2.2.1 (own_none H6.out.2.2.2.2.2.2 H7.out.2) ?_ H7.out.1 (own_none (own_none H0.out.dying H6.out.2.1) H7.out.2) (own_none (own_none H0.out.dead H6.out.2.1) H7.out.2)⟩
      · with_reducible (repeat (first | exact Fr.refl _ _ | apply Fr.drew | refine Fr.setCell ?_ (fun _ => by simp) _))
      · have := own_none H6.out.1 H7.out.2
        simpa using this
  · have b0 := F2.heap H1.out.1 (fun h => h)
    have b1 := F2.heap H1.out.2.1 (fun h => h)
    have b2 := F2.heap H1.out.2.2.1 (fun h => h)
    obtain ⟨c0, c1, c2, c3, c4, c5, c6, cz, cl⟩ := cells7 b0
    obtain ⟨y0, y1, y2, y3, y4, y5, y6, yz, yl⟩ := cells7 b1
    obtain ⟨x0, x1, x2, xz, xl⟩ := cells3 b2
    obtain ⟨ta2, tc2, rfl, -, -, -, -⟩ := own_slice htv
    have H2 := hid (And.intro htk (And.intro htv (And.intro F2 (And.intro b0 (And.intro b1 b2)))))
    clear htk htv F2 b0 b1 b2
    go_wp2_with fail
    have hmk : r.make bs = none := by simp [R13.make, HR.out.1, H2.out.1]
    have HMK := hid hmk
    clear hmk
    refine bodyPost_ret (v := .tuple #[.agg #[.slice ta r.taken.length tc, .int .i64 hd, .int .i64 r.gen, .slice la r.live.length lc, .slice fa r.fresh.length fc, .slice ya r.dying.length yc, .slice da r.dead.length dc], pg0, .bool false]) (by simp [results, go_sem, pg0, *]) rfl ?_
    have FF : ∀ W, Fr (fun _ => False) w W → RMake r bs w (.returned (.tuple #[.agg #[.slice ta r.taken.length tc, .int .i64 hd, .int .i64 r.gen, .slice la r.live.length lc, .slice fa r.fresh.length fc, .slice ya r.dying.length yc, .slice da r.dead.length dc], pg0, .bool false])) W := fun W F => ⟨F, by
      rw [HMK.out]
      exact ⟨_, rfl, _, _, _, _, _, by rw [refV, HR.out.1], H0.out.fr F⟩⟩
    refine FF _ ?_
    have F12 : Fr (fun _ => False) w W1 := H1.out.2.2.2.1.trans H2.out.2.2.1 (fun _ _ h => h)
    with_reducible (repeat (first | exact F12 | apply Fr.drew | apply Fr.alloc | refine Fr.setNew ?_ (by omega) _))
end Go.Proofs.YtgdhaaokolfdoaaGreatDoor

/- The document's store (chapter 13): drop. Conditions: the rows lie in the world. -/
namespace Go.Proofs.YtgdhaaokolfdoaaGreatDoor
open Go.RowKit Go.Sg
theorem pgs_take (l : List RPg) (k : Nat) : (l.flatMap pgCells).take (k * 3) = (l.take k).flatMap pgCells := by
  induction l generalizing k with
  | nil => simp
  | cons p l ih =>
    cases k with
    | zero => simp
    | succ k => rw [Nat.succ_mul, List.take_succ_cons, List.flatMap_cons, List.flatMap_cons, ← ih]; rfl
theorem pgs_drop (l : List RPg) (k : Nat) : (l.flatMap pgCells).drop (k * 3) = (l.drop k).flatMap pgCells := by
  induction l generalizing k with
  | nil => simp
  | cons p l ih =>
    cases k with
    | zero => simp
    | succ k => rw [Nat.succ_mul, List.drop_succ_cons, List.flatMap_cons, ← ih]; rfl
theorem pgs_get (l : List RPg) (i : Nat) (hi : i < l.length) (j : Nat) (hj : j < 3) : (l.flatMap pgCells)[i * 3 + j]? = (pgCells l[i])[j]? := by
  rw [← List.getElem?_drop, pgs_drop]
  rw [List.drop_eq_getElem_cons hi, List.flatMap_cons, List.getElem?_append_left (by simpa [pgCells] using hj)]
theorem erase_eq (l : List RPg) (i : Nat) : l.eraseIdx i = l.take i ++ l.drop (i + 1) := List.eraseIdx_eq_take_drop_succ l i
/-- Behind the row without the i-th page. -/
def MkD (w : World) (r : R13) (i : Nat) (T F Y D : Value) (wx : World) : Prop :=
  ∃ la lc, wx.ownsRow (w.heap.size + 2) 71 3 (.slice la (r.live.eraseIdx i).length lc) (r.live.eraseIdx i).length ((r.live.eraseIdx i).flatMap pgCells) ∧ Fr (fun _ => False) w wx ∧
    wx.heap[w.heap.size]? = some (.cells #[T, .int .i64 r.hand, .int .i64 r.gen, .slice la (r.live.eraseIdx i).length lc, F, Y, D] 64) ∧ wx.heap[w.heap.size + 1]? = some (.cells z64 64)
theorem mkD_mk {w w1 W5 : World} {r : R13} {i n lc lc5 : Nat} {la la5 : Option Addr} {T F Y D : Value} (hi : i < r.live.length) (hn : n = (r.live.eraseIdx i).length) (b0 : w1.heap[w.heap.size]? = some (.cells #[T, .int .i64 r.hand, .int .i64 r.gen, .slice la r.live.length lc, F, Y, D] 64)) (b1 : w1.heap[w.heap.size + 1]? = some (.cells z64 64)) (F1 : Fr (fun _ => False) w w1) (F5 : Fr (fun _ => False) w1 W5)
    (hown : W5.ownsRow w1.heap.size 71 3 (.slice la5 n lc5) n ((r.live.flatMap pgCells).take (i * 3) ++ (r.live.flatMap pgCells).drop ((i + 1) * 3))) :
    MkD w r i T F Y D (W5.setCell ⟨w.heap.size, 3, none⟩ (.slice la5 n lc5)) := by
  subst hn
  have q0 := F5.heap b0 (fun h => h)
  have FX : Fr (fun b => b = w.heap.size) W5 (W5.setCell ⟨w.heap.size, 3, none⟩ (.slice la5 (r.live.eraseIdx i).length lc5)) := (Fr.refl (fun b => b = w.heap.size) _).setCell (a := ⟨w.heap.size, 3, none⟩) (fun _ => rfl) _
  refine ⟨la5, lc5, ?_, (F1.trans F5 (fun _ _ h => h)).setNew (Nat.le_refl _) _, ?_, FX.heap (F5.heap b1 (fun h => h)) (by omega)⟩
  · have := own_cellK FX (own_le hown (show w.heap.size + 2 ≤ w1.heap.size by have := lt_of_heap b1; omega)) q0 (by decide)
    rw [pgs_take, pgs_drop, ← List.flatMap_append, ← erase_eq] at this
    exact this
  · rw [heap_setCell_cells _ _ _ _ q0]; simp
theorem ref_two {w w' : World} {B : Nat} {r : R13} {t l f y d : Value} {x0 x1 : Array Value} (F : Fr (fun k => k = B ∨ k = B + 1) w w') (b0 : w.heap[B]? = some (.cells x0 64)) (b1 : w.heap[B + 1]? = some (.cells x1 64))
    (ht : BoolR w t r.taken) (hl : PgR w l r.live) (hf : IntR w f r.fresh) (hy : IntR w y r.dying) (hd : IntR w d r.dead) : RefAt w' r t l f y d := by
  have key : ∀ {e size n : Nat} {v : Value} {xs : List Value}, e ≠ 64 → w.ownsRow 0 e size v n xs → w'.ownsRow 0 e size v n xs := by
    intro e size n v xs h1 h
    refine ownsRow_fr h F fun g c hg hs => ?_
    rcases hs with rfl | rfl
    · rw [b0] at hg; cases hg; exact h1 rfl
    · rw [b1] at hg; cases hg; exact h1 rfl
  exact ⟨key (by decide) ht, key (by decide) hl, key (by decide) hf, key (by decide) hy, key (by decide) hd⟩
theorem drop_page {r : R13} {i m : Nat} (hi : i < r.live.length) (hm : r.live[i].page = m) : (r.live.getD i ⟨0, 0, []⟩).page = m := by
  simp [List.getD, List.getElem?_eq_getElem hi, hm]
theorem drop_in {r : R13} {i m : Nat} (hi : i < r.live.length) (hm : r.live[i].page = m) (h : (m : Int) ∈ r.fresh) : r.drop i = { r with live := r.live.eraseIdx i, fresh := withoutL r.fresh m, taken := r.taken.set m false } := by
  simp only [R13.drop, drop_page hi hm, if_pos h, Int.toNat_natCast]
theorem drop_out {r : R13} {i m : Nat} (hi : i < r.live.length) (hm : r.live[i].page = m) (h : ¬ (m : Int) ∈ r.fresh) : r.drop i = { r with live := r.live.eraseIdx i, dying := withL r.dying m } := by
  simp only [R13.drop, drop_page hi hm, if_neg h]
def RDrop (r : R13) (i : Nat) (w : World) (e : Ending) (w' : World) : Prop := Fr (fun _ => False) w w' ∧ ∃ t l f y d, e = .returned (refV (r.drop i) t l f y d) ∧ RefAt w' (r.drop i) t l f y d ∧ w'.ownsRow w.heap.size 71 3 l (r.drop i).live.length ((r.drop i).live.flatMap pgCells)
set_option maxHeartbeats 4000000 in
set_option maxRecDepth 100000 in
theorem rdrop_ok {w : World} {r : R13} {t l f y d : Value} (h : RefAt w r t l f y d) (ht : r.taken.length ≤ 65536) (hl : r.live.length ≤ 65536) (hf : r.fresh.length ≤ 65536) (hy : r.dying.length ≤ 65536) (i : Nat) (hi : i < r.live.length) (m : Nat) (hm : r.live[i].page = m) (hmt : m < r.taken.length) :
    Calls Tryz.prog 164 #[refV r t l f y d, .int .i64 i] w (RDrop r i w) := by
  obtain ⟨ta, tc, rfl, -, -, -, -⟩ := own_slice h.taken
  obtain ⟨la, lc, rfl, -, -, -, -⟩ := own_slice h.live
  obtain ⟨fa, fc, rfl, -, -, -, -⟩ := own_slice h.fresh
  obtain ⟨ya, yc, rfl, -, -, -, -⟩ := own_slice h.dying
  obtain ⟨da, dc, rfl, -, -, -, -⟩ := own_slice h.dead
  obtain ⟨g, rfl, hg, hcg⟩ := own_cell h.live (show (r.live.flatMap pgCells)[i * 3 + 0]? = some (.int .i64 m) by rw [pgs_get _ _ hi _ (by decide)]; simp [pgCells, hm])
  obtain ⟨i0, hi0, hz0, hz1, hz2⟩ := info_parts Tryz.info71
  obtain ⟨w1, hw1⟩ : ∃ w1, ((w.alloc (.cells #[.slice ta r.taken.length tc, .int .i64 r.hand, .int .i64 r.gen, .slice (some ⟨g, 0, none⟩) r.live.length lc, .slice fa r.fresh.length fc, .slice ya r.dying.length yc, .slice da r.dead.length dc] 64)).alloc (.cells z64 64)) = w1 := ⟨_, rfl⟩
  obtain ⟨b0, b1, F1⟩ := heap_two hw1
  have hcg1 : w1.cell? ⟨g, i * 3, none⟩ = some (.int .i64 m) := (F1.cell (p := ⟨g, i * 3, none⟩) hg (fun h => h)).trans hcg
  have HW := hid hw1
  have H1 := hid (And.intro b0 (And.intro b1 F1))
  have H0 := hid h
  have HS0 := hid F1.size
  unfold z64 at HW
  obtain ⟨c0, c1, c2, c3, c4, c5, c6, cz, cl⟩ := cells7 b0
  have HM := hid (And.intro hm hg)
  clear hw1 b0 b1 F1 h hm hcg hg
  go_enter Tryz.func164, Tryz.ntmps164
  go_upto_region 1 with fail
  rw [HW.out]
  go_upto_region 2 with fail
  have hto : ∀ W, (Instr.slice 62 (.slice (some ⟨g, 0, none⟩) r.live.length lc) none (some (.int .i64 i)) none).run Tryz.prog W = .ok (.slice (some ⟨g, 0, none⟩) i lc) W := fun W => to62 _ _ lc i (by have := own_slice H0.out.live; obtain ⟨_, _, e, h1, _⟩ := this; cases e; omega) W
  obtain ⟨a2, hfrom, hF2⟩ : ∃ a2 : Option Addr, (∀ W, (Instr.slice 62 (.slice (some ⟨g, 0, none⟩) r.live.length lc) (some (.int .i64 ((i : Int) + 1))) none none).run Tryz.prog W = .ok (.slice a2 (r.live.length - (i + 1)) (lc - (i + 1))) W) ∧ ∀ W, Fr (fun _ => False) w W → SrcV W (.slice a2 (r.live.length - (i + 1)) (lc - (i + 1))) (r.live.length - (i + 1)) ((r.live.flatMap pgCells).drop ((i + 1) * 3)) :=
    ⟨_, fun W => by have := from62 (some ⟨g, 0, none⟩) r.live.length lc (i + 1) hi W; simpa only [Int.natCast_add, Int.natCast_one] using this, fun W F => own_src_from (own_none H0.out.live F) (i + 1) hi⟩
  have hwr : IntKind.i64.wrap ((i : Int) + 1) = (i : Int) + 1 := by rw [IntKind.wrap_i64]; omega
  have HFr := hid hF2
  have HT := hid (fun W (F : Fr (fun _ => False) w W) => own_src_to (own_none H0.out.live F) i (Nat.le_of_lt hi))
  have hl1 : ((r.live.flatMap pgCells).take (i * 3)).length = i * 3 := by rw [List.length_take, pgs_length]; omega
  have hl2 : ((r.live.flatMap pgCells).drop ((i + 1) * 3)).length = (r.live.length - (i + 1)) * 3 := by rw [List.length_drop, pgs_length]; omega
  have hm1 : 0 + i ≤ maxLen := by simp [maxLen]; omega
  have hm2 : (0 + i) * 32 ≤ 140737488355328 := by omega
  have hm3 : 0 + i + (r.live.length - (i + 1)) ≤ maxLen := by simp [maxLen]; omega
  have hm4 : (0 + i + (r.live.length - (i + 1))) * 32 ≤ 140737488355328 := by omega
  have HB := hid (And.intro hl1 (And.intro hl2 (And.intro hm1 (And.intro hm2 (And.intro hm3 hm4)))))
  clear hF2 hl1 hl2 hm1 hm2 hm3 hm4
  go_cut [5] from 14 to 26 (fun v wx => v = .int .i64 m ∧ MkD w r i (.slice ta r.taken.length tc) (.slice fa r.fresh.length fc) (.slice ya r.dying.length yc) (.slice da r.dead.length dc) wx)
  case first =>
    clear hcg1 c0 c1 c2 c4 c5 c6
    go_region_law (first
      | (
         refine step_append_src rfl (.tmp 14) (.tmp 18) 62 rfl w1.heap.size 71 i0 _ 3 32 Tryz.underlying62 hi0 hz0 hz1 hz2 rfl (Nat.succ_pos 2) _ 0 [] rfl (own_at ?_ ?_) _ i _ rfl (HT.out _ ?_) HB.out.1 (fun u hu => pgs_one _ u (List.mem_of_mem_take hu)) HB.out.2.2.1 HB.out.2.2.2.1 ?_ ?_
         · first | (simp; done) | (simp; omega)
         · (first | exact hp1 w1 _ | exact hp2 w1 _ _ | exact hp3 w1 _ _ | exact hp1d w1 _ | exact hp2d w1 _ _ | exact hp3d w1 _ _)
         · repeat (first | exact H1.out.2.2 | apply Fr.alloc | apply Fr.drew)
         · first | (simp; done) | (simp; omega)
         intro v3 W3 hown3 hg3
         have hF3 := fun h F => fr_g hg3 (W2 := w1) h F
         replace hF3 := hF3 (by first | (simp; done) | (simp; omega)) (by repeat (first | exact Fr.refl _ _ | apply Fr.alloc | apply Fr.drew))
         obtain ⟨p0, p1, p2, p3, p4, p5, p6, pz, pl⟩ := cells7 (hF3.heap H1.out.1 (fun h => h)))
      | (
         refine step_append_src rfl (.tmp 19) (.tmp 24) 62 rfl w1.heap.size 71 i0 _ 3 32 Tryz.underlying62 hi0 hz0 hz1 hz2 rfl (Nat.succ_pos 2) _ (0 + i) ([] ++ (r.live.flatMap pgCells).take (i * 3)) rfl hown3 _ (r.live.length - (i + 1)) _ rfl (HFr.out _ (H1.out.2.2.trans hF3 (fun _ _ h => h))) HB.out.2.1 (fun u hu => pgs_one _ u (List.mem_of_mem_drop hu)) HB.out.2.2.2.2.1 HB.out.2.2.2.2.2 hF3.size ?_
         intro v5 W5 hown5 hg5
         have hF5 : Fr (fun _ => False) w1 W5 := fr_grown hF3 hown3 hg5
         obtain ⟨la5, lc5, he5, -, -, -, -⟩ := own_slice hown5
         subst he5
         have hb5 := hF5.heap H1.out.1 (fun h => h)
         obtain ⟨q0, q1, q2, q3, q4, q5, q6, qz, ql⟩ := cells7 hb5))
    all_goals (go_wp2_with fail)
    all_goals go_meet
    all_goals exact ⟨rfl, mkD_mk hi (by rw [List.length_eraseIdx_of_lt hi]; omega) H1.out.1 H1.out.2.1 H1.out.2.2 hF5 (by rw [Nat.zero_add, List.nil_append] at hown5; exact hown5)⟩
  obtain ⟨rfl, la3, lc3, hpg, F6, k0, k1⟩ := hcut
  clear hto hfrom HFr HT HB hcg1 c0 c1 c2 c3 c4 c5 c6 cz cl
  obtain ⟨c0, c1, c2, c3, c4, c5, c6, cz, cl⟩ := cells7 k0
  have H6 := hid (And.intro hpg (And.intro F6 (And.intro k0 k1)))
  clear hpg F6 k0 k1
  by_cases hin : (m : Int) ∈ r.fresh
  · have hdec : decide ((m : Int) ∈ r.fresh) = true := decide_eq_true hin
    have HIN := hid hin
    clear hin
    go_upto_region 5 with (first
      | (go_at_call 163; refine (rin_ok (own_none H0.out.fresh H6.out.2.1) hf m).mono ?_; rintro _ _ ⟨rfl, rfl⟩)
      | (go_at_call 225; refine (rwithout_ok (own_none H0.out.fresh H6.out.2.1) hf m).mono ?_; rintro _ W7 ⟨fv, rfl, hfv, F7⟩; obtain ⟨fa7, fc7, he7, -, -, -, -⟩ := own_slice hfv; subst he7; have q0 := F7.heap H6.out.2.2.1 (fun h => h); obtain ⟨p0, p1, p2, p3, p4, p5, p6, pz, pl⟩ := cells7 q0))
    have H7 := hid (And.intro hfv F7)
    have k1 := F7.heap H6.out.2.2.2 (fun h => h)
    obtain ⟨W8, hW8⟩ : ∃ W8, W7.setCell ⟨w.heap.size, 4, none⟩ (.slice fa7 (withoutL r.fresh ↑m).length fc7) = W8 := ⟨_, rfl⟩
    rw [hW8]
    have F78 : Fr (fun k => k = w.heap.size ∨ k = w.heap.size + 1) W7 W8 := by rw [← hW8]; exact (Fr.refl _ _).setCell (a := ⟨w.heap.size, 4, none⟩) (fun _ => .inl rfl) _
    have H8x := hid (F78.mono (S' := fun k => k < w.heap.size + 2) fun b _ h => by omega)
    have e0 : W8.heap[w.heap.size]? = some (.cells #[.slice ta r.taken.length tc, .int .i64 r.hand, .int .i64 r.gen, .slice la3 (r.live.eraseIdx i).length lc3, .slice fa7 (withoutL r.fresh ↑m).length fc7, .slice ya r.dying.length yc, .slice da r.dead.length dc] 64) := by
      rw [← hW8, heap_setCell_cells _ _ _ _ q0]; simp
    have e1 : W8.heap[w.heap.size + 1]? = some (.cells z64 64) := by rw [← hW8]; exact (heap_setCell_ne W7 ⟨w.heap.size, 4, none⟩ _ (w.heap.size + 1) (by simp)).trans k1
    have F06 := H6.out.2.1.trans F7 (fun _ _ h => h)
    have F08 : Fr (fun _ => False) w W8 := by rw [← hW8]; exact F06.setNew (Nat.le_refl _) _
    have ref8 : RefAt W8 { r with live := r.live.eraseIdx i, fresh := withoutL r.fresh m } _ _ _ _ _ := ref_two F78 q0 k1 (own_none H0.out.taken F06) (own_base (own_none H6.out.1 F7)) hfv (own_none H0.out.dying F06) (own_none H0.out.dead F06)
    have H8 := hid (And.intro e0 (And.intro e1 (And.intro F08 ref8)))
    clear c0 c1 c2 c3 c4 c5 c6 cz cl p0 p1 p2 p3 p4 p5 p6 pz pl q0 k1 hW8 F78 e1 F06 F08 ref8 hfv F7
    obtain ⟨c0, c1, c2, c3, c4, c5, c6, cz, cl⟩ := cells7 e0
    clear e0
    go_wp2_with (go_at_call 165; refine (rclear_ok H8.out.2.2.2.taken ht r.hand m hmt).mono ?_)
    rintro _ W9 ⟨tv, bb, rfl, htv, F9⟩
    obtain ⟨ta9, tc9, rfl, -, -, -, -⟩ := own_slice htv
    have q0 := F9.heap H8.out.1 (fun h => h)
    have q1 := F9.heap H8.out.2.1 (fun h => h)
    clear c0 c1 c2 c3 c4 c5 c6 cz cl
    obtain ⟨c0, c1, c2, c3, c4, c5, c6, cz, cl⟩ := cells7 q0
    obtain ⟨y0, y1, y2, y3, y4, y5, y6, yz, yl⟩ := cells7 q1
    have H9 := hid (And.intro q0 (And.intro q1 (And.intro htv F9)))
    clear q0 q1 htv F9
    go_wp2_with fail
    refine bodyPost_ret (v := refV { r with live := r.live.eraseIdx i, fresh := withoutL r.fresh m, taken := r.taken.set m false } (.slice ta9 r.taken.length tc9) (.slice la3 (r.live.eraseIdx i).length lc3) (.slice fa7 (withoutL r.fresh ↑m).length fc7) (.slice ya r.dying.length yc) (.slice da r.dead.length dc)) (by simp [results, go_sem, *]) rfl ⟨?_, ?_⟩
    · have F09 : Fr (fun _ => False) w W9 := H8.out.2.2.1.trans H9.out.2.2.2 (fun _ _ h => h)
      with_reducible (repeat (first | exact F09 | apply Fr.drew | apply Fr.alloc | refine Fr.setNew ?_ (by omega) _))
    · rw [drop_in hi HM.out.1 HIN.out]
      refine ⟨_, _, _, _, _, rfl, ref_two (w := W9) (B := w.heap.size) ?_ H9.out.1 H9.out.2.1 (by simpa using H9.out.2.2.1) (own_none H8.out.2.2.2.live H9.out.2.2.2) (own_none H8.out.2.2.2.fresh H9.out.2.2.2) (own_none H8.out.2.2.2.dying H9.out.2.2.2) (own_none H8.out.2.2.2.dead H9.out.2.2.2), ?_⟩
      · with_reducible (repeat (first | exact Fr.refl _ _ | apply Fr.drew | apply Fr.alloc | refine Fr.setCell ?_ (fun _ => by simp) _))
      · have hh := own_none (own_none (own_none H6.out.1 H7.out.2) (Fr.refl (fun _ => False) _)) (Fr.refl (fun _ => False) _)
        have h8 := own_above hh (show Fr (fun k => k < w.heap.size + 2) W7 W8 from H8x.out)
        have h9 := own_none h8 H9.out.2.2.2
        refine own_le (own_above h9 ?_) (Nat.le_add_right _ 2)
        with_reducible (repeat (first | exact Fr.refl _ _ | apply Fr.drew | apply Fr.alloc | refine Fr.setCell ?_ (fun _ => by simp) _))
  · have hdec : decide ((m : Int) ∈ r.fresh) = false := decide_eq_false hin
    have HIN := hid hin
    clear hin
    go_upto_region 9 with (first
      | (go_at_call 163; refine (rin_ok (own_none H0.out.fresh H6.out.2.1) hf m).mono ?_; rintro _ _ ⟨rfl, rfl⟩)
      | (go_at_call 167; refine (rwithI_ok (own_none H0.out.dying H6.out.2.1) hy m).mono ?_; rintro _ W7 ⟨fv, rfl, hfv, F7⟩; obtain ⟨fa7, fc7, he7, -, -, -, -⟩ := own_slice hfv; subst he7; have q0 := F7.heap H6.out.2.2.1 (fun h => h); obtain ⟨p0, p1, p2, p3, p4, p5, p6, pz, pl⟩ := cells7 q0))
    have q1 := F7.heap H6.out.2.2.2 (fun h => h)
    obtain ⟨y0, y1, y2, y3, y4, y5, y6, yz, yl⟩ := cells7 q1
    have H7 := hid (And.intro hfv (And.intro F7 (And.intro q0 q1)))
    clear c0 c1 c2 c3 c4 c5 c6 cz cl q0 q1 hfv F7
    go_wp2_with fail
    refine bodyPost_ret (v := refV { r with live := r.live.eraseIdx i, dying := withL r.dying m } (.slice ta r.taken.length tc) (.slice la3 (r.live.eraseIdx i).length lc3) (.slice fa r.fresh.length fc) (.slice fa7 (withL r.dying ↑m).length fc7) (.slice da r.dead.length dc)) (by simp [results, go_sem, *]) rfl ⟨?_, ?_⟩
    · have F07 : Fr (fun _ => False) w W7 := H6.out.2.1.trans H7.out.2.1 (fun _ _ h => h)
      with_reducible (repeat (first | exact F07 | apply Fr.drew | apply Fr.alloc | refine Fr.setNew ?_ (by omega) _))
    · rw [drop_out hi HM.out.1 HIN.out]
      have F06 := H6.out.2.1.trans H7.out.2.1 (fun _ _ h => h)
      refine ⟨_, _, _, _, _, rfl, ref_two (w := W7) (B := w.heap.size) ?_ H7.out.2.2.1 H7.out.2.2.2 (own_none H0.out.taken F06) (own_base (own_none H6.out.1 H7.out.2.1)) (own_none H0.out.fresh F06) H7.out.1 (own_none H0.out.dead F06), ?_⟩
      · with_reducible (repeat (first | exact Fr.refl _ _ | apply Fr.drew | apply Fr.alloc | refine Fr.setCell ?_ (fun _ => by simp) _))
      · refine own_le (own_above (own_none H6.out.1 H7.out.2.1) ?_) (Nat.le_add_right _ 2)
        with_reducible (repeat (first | exact Fr.refl _ _ | apply Fr.drew | apply Fr.alloc | refine Fr.setCell ?_ (fun _ => by simp) _))
end Go.Proofs.YtgdhaaokolfdoaaGreatDoor

/- The document's store (chapter 13): New, Free. Conditions: the rows lie in the world. -/
namespace Go.Proofs.YtgdhaaokolfdoaaGreatDoor
open Go.RowKit Go.Sg
theorem ref_64 {S : Nat → Prop} {w w' : World} {r : R13} {t l f y d : Value} (h : RefAt w r t l f y d) (F : Fr S w w') (hS : ∀ k, S k → ∃ x, w.heap[k]? = some (.cells x 64)) : RefAt w' r t l f y d := by
  have key : ∀ {e size n : Nat} {v : Value} {xs : List Value}, e ≠ 64 → w.ownsRow 0 e size v n xs → w'.ownsRow 0 e size v n xs := by
    intro e size n v xs h1 h
    refine ownsRow_fr h F fun g c hg hs => ?_
    obtain ⟨x, hx⟩ := hS _ hs
    rw [hx] at hg; cases hg; exact h1 rfl
  exact ⟨key (by decide) h.taken, key (by decide) h.live, key (by decide) h.fresh, key (by decide) h.dying, key (by decide) h.dead⟩
theorem RefIs.slices {w : World} {r : R13} {v : Value} (h : RefIs w r v) : ∃ ta tc la lc fa fc ya yc da dc, v = refV r (.slice ta r.taken.length tc) (.slice la r.live.length lc) (.slice fa r.fresh.length fc) (.slice ya r.dying.length yc) (.slice da r.dead.length dc) ∧
    RefAt w r (.slice ta r.taken.length tc) (.slice la r.live.length lc) (.slice fa r.fresh.length fc) (.slice ya r.dying.length yc) (.slice da r.dead.length dc) := by
  obtain ⟨t, l, f, y, d, rfl, h⟩ := h
  obtain ⟨ta, tc, rfl, -, -, -, -⟩ := own_slice h.taken
  obtain ⟨la, lc, rfl, -, -, -, -⟩ := own_slice h.live
  obtain ⟨fa, fc, rfl, -, -, -, -⟩ := own_slice h.fresh
  obtain ⟨ya, yc, rfl, -, -, -, -⟩ := own_slice h.dying
  obtain ⟨da, dc, rfl, -, -, -, -⟩ := own_slice h.dead
  exact ⟨ta, tc, la, lc, fa, fc, ya, yc, da, dc, rfl, h⟩
def RNew (n : Nat) (w : World) (e : Ending) (w' : World) : Prop := Fr (fun _ => False) w w' ∧ ∃ v, e = .returned v ∧ RefIs w' (R13.new n) v
set_option maxHeartbeats 2000000 in
set_option maxRecDepth 100000 in
theorem rnew13_ok (n : Nat) (hn : n ≤ 65536) (w : World) : Calls Tryz.prog 35 #[.int .i64 n] w (RNew n w) := by
  go_enter Tryz.func35, Tryz.ntmps35
  go_wp2_with (go_at_call 101; refine (rnew_ok n hn _).mono ?_)
  rintro _ W1 ⟨v, rfl, hv, F1⟩
  obtain ⟨va, vc, rfl, -, -, -, -⟩ := own_slice hv
  have b0 := F1.heap (heap_alloc_new w _) (fun h => h)
  have H1 := hid (And.intro hv (And.intro F1 b0))
  obtain ⟨c0, c1, c2, c3, c4, c5, c6, cz, cl⟩ := cells7 b0
  clear hv F1 b0
  go_wp2_with fail
  have hl : (List.replicate n false).length = n := List.length_replicate
  refine bodyPost_ret (v := refV (R13.new n) (.slice va (List.replicate n false).length vc) (.slice none 0 0) (.slice none 0 0) (.slice none 0 0) (.slice none 0 0)) (by simp [results, go_sem, R13.new, *]) rfl ⟨?_, ?_⟩
  · have F : Fr (fun _ => False) w W1 := ((Fr.refl _ _).alloc _).trans H1.out.2.1 (fun _ _ h => h)
    with_reducible (repeat (first | exact F | apply Fr.drew | apply Fr.alloc | refine Fr.setNew ?_ (by omega) _))
  · refine ⟨_, rfl, _, _, _, _, _, rfl, ?_⟩
    have hT : RefAt W1 (R13.new n) (.slice va (List.replicate n false).length vc) (.slice none 0 0) (.slice none 0 0) (.slice none 0 0) (.slice none 0 0) := ⟨H1.out.1, World.ownsRow_nil _ _ _ _, World.ownsRow_nil _ _ _ _, World.ownsRow_nil _ _ _ _, World.ownsRow_nil _ _ _ _⟩
    refine ref_64 (S := fun k => k = w.heap.size) hT ?_ (fun k hk => by subst hk; exact ⟨_, H1.out.2.2⟩)
    with_reducible (repeat (first | exact Fr.refl _ _ | apply Fr.drew | apply Fr.alloc | refine Fr.setCell ?_ (fun _ => by simp) _))
/-! ### Free -/
set_option maxHeartbeats 2000000 in
set_option maxRecDepth 100000 in
theorem rfree_ok {w : World} {r : R13} {t l f y d : Value} (h : RefAt w r t l f y d) (ht : r.taken.length ≤ 65536) (hl : r.live.length ≤ 65536) (hf : r.fresh.length ≤ 65536) (hy : r.dying.length ≤ 65536) (i : Nat) (hi : i < r.live.length) (m : Nat) (hm : r.live[i].page = m) (hmt : m < r.taken.length) :
    Calls Tryz.prog 104 #[refV r t l f y d, .int .i64 i] w (RDrop r i w) := by
  obtain ⟨ta, tc, rfl, -, -, -, -⟩ := own_slice h.taken
  obtain ⟨la, lc, rfl, -, -, -, -⟩ := own_slice h.live
  obtain ⟨fa, fc, rfl, -, -, -, -⟩ := own_slice h.fresh
  obtain ⟨ya, yc, rfl, -, -, -, -⟩ := own_slice h.dying
  obtain ⟨da, dc, rfl, -, -, -, -⟩ := own_slice h.dead
  obtain ⟨w1, hw1⟩ : ∃ w1, ((w.alloc (.cells #[.slice ta r.taken.length tc, .int .i64 r.hand, .int .i64 r.gen, .slice la r.live.length lc, .slice fa r.fresh.length fc, .slice ya r.dying.length yc, .slice da r.dead.length dc] 64)).alloc (.cells z64 64)) = w1 := ⟨_, rfl⟩
  obtain ⟨b0, b1, F1⟩ := heap_two hw1
  have HW := hid hw1
  have H1 := hid (And.intro b0 (And.intro b1 F1))
  have H0 := hid h
  have HM := hid hm
  unfold z64 at HW
  obtain ⟨c0, c1, c2, c3, c4, c5, c6, cz, cl⟩ := cells7 b0
  obtain ⟨y0, y1, y2, y3, y4, y5, y6, yz, yl⟩ := cells7 b1
  clear hw1 b0 b1 F1 h hm
  go_enter Tryz.func104, Tryz.ntmps104
  go_upto_region 1 with fail
  rw [HW.out]
  go_wp2_with (go_at_call 164; refine (rdrop_ok (H0.out.fr H1.out.2.2) ht hl hf hy i hi m HM.out hmt).mono ?_)
  rintro _ W2 ⟨F2, t2, l2, f2, y2', d2, rfl, h2, ho2⟩
  obtain ⟨ta2, tc2, rfl, -, -, -, -⟩ := own_slice h2.taken
  obtain ⟨la2, lc2, rfl, -, -, -, -⟩ := own_slice h2.live
  obtain ⟨fa2, fc2, rfl, -, -, -, -⟩ := own_slice h2.fresh
  obtain ⟨ya2, yc2, rfl, -, -, -, -⟩ := own_slice h2.dying
  obtain ⟨da2, dc2, rfl, -, -, -, -⟩ := own_slice h2.dead
  have HO2 := hid ho2
  clear ho2
  have b1 := F2.heap H1.out.2.1 (fun h => h)
  clear c0 c1 c2 c3 c4 c5 c6 cz cl y0 y1 y2 y3 y4 y5 y6 yz yl
  obtain ⟨y0, y1, y2, y3, y4, y5, y6, yz, yl⟩ := cells7 b1
  have H2 := hid (And.intro F2 (And.intro h2 b1))
  clear F2 h2 b1
  go_wp2_with fail
  refine bodyPost_ret (v := refV (r.drop i) (.slice ta2 (r.drop i).taken.length tc2) (.slice la2 (r.drop i).live.length lc2) (.slice fa2 (r.drop i).fresh.length fc2) (.slice ya2 (r.drop i).dying.length yc2) (.slice da2 (r.drop i).dead.length dc2)) (by simp [results, go_sem, *]) rfl ⟨?_, ?_⟩
  · have F : Fr (fun _ => False) w W2 := H1.out.2.2.trans H2.out.1 (fun _ _ h => h)
    with_reducible (repeat (first | exact F | apply Fr.drew | apply Fr.alloc | refine Fr.setNew ?_ (by omega) _))
  · refine ⟨_, _, _, _, _, rfl, ?_, ?_⟩
    · refine ref_64 (S := fun k => k = w.heap.size + 1) H2.out.2.1 ?_ (fun k hk => by subst hk; exact ⟨_, H2.out.2.2⟩)
      with_reducible (repeat (first | exact Fr.refl _ _ | apply Fr.drew | apply Fr.alloc | refine Fr.setCell ?_ (fun _ => by simp) _))
    · have h9 := own_le HO2.out (show w.heap.size + 2 ≤ w1.heap.size by have := lt_of_heap H1.out.2.1; omega)
      refine own_le (own_above h9 ?_) (Nat.le_add_right _ 2)
      with_reducible (repeat (first | exact Fr.refl _ _ | apply Fr.drew | apply Fr.alloc | refine Fr.setCell ?_ (fun _ => by simp) _))
end Go.Proofs.YtgdhaaokolfdoaaGreatDoor

/- The document's store (chapter 13): Commit. Conditions: the rows lie in the world. -/
namespace Go.Proofs.YtgdhaaokolfdoaaGreatDoor
open Go.RowKit Go.Sg
/-! ### Commit -/
theorem clearAll_snoc (l : List Int) (x : Int) : ∀ t : List Bool, clearAll (l ++ [x]) t = (clearAll l t).set x.toNat false := by
  induction l with
  | nil => intro t; rfl
  | cons y l ih => intro t; exact ih _
def rCm (r : R13) (k : Nat) : R13 := { r with taken := clearAll (r.dead.take k) r.taken }
def RCom (r : R13) (w : World) (e : Ending) (w' : World) : Prop := Fr (fun _ => False) w w' ∧ ∃ v, e = .returned v ∧ RefIs w' r.commit v
/-- The loop of Commit behind k rounds. -/
def CmAt (w : World) (r : R13) (k : Nat) (wr : World) : Prop :=
  ∃ ta tc la lc fa fc ya yc da dc, wr.heap[w.heap.size]? = some (.cells #[.slice ta r.taken.length tc, .int .i64 r.hand, .int .i64 r.gen, .slice la r.live.length lc, .slice fa r.fresh.length fc, .slice ya r.dying.length yc, .slice da r.dead.length dc] 64) ∧
    wr.heap[w.heap.size + 1]? = some (.cells z64 64) ∧ Fr (fun _ => False) w wr ∧ RefAt wr (rCm r k) (.slice ta r.taken.length tc) (.slice la r.live.length lc) (.slice fa r.fresh.length fc) (.slice ya r.dying.length yc) (.slice da r.dead.length dc)
/-- Behind Clear in a round: what it gave lies in a box. -/
def CmBox (w : World) (r : R13) (k : Nat) (T L F Y D v4 : Value) (wx : World) : Prop :=
  ∃ b ta tc, v4 = .pointer (some ⟨b, 0, none⟩) ∧ w.heap.size + 2 ≤ b ∧ wx.heap[b]? = some (.cells #[.slice ta r.taken.length tc, .int .i64 r.hand] 61) ∧ BoolR wx (.slice ta r.taken.length tc) (clearAll (r.dead.take (k + 1)) r.taken) ∧
    wx.heap[w.heap.size]? = some (.cells #[T, .int .i64 r.hand, .int .i64 r.gen, L, F, Y, D] 64) ∧ wx.heap[w.heap.size + 1]? = some (.cells z64 64) ∧ Fr (fun _ => False) w wx ∧ RefAt wx (rCm r k) T L F Y D
theorem clearAll_step {r : R13} {k m : Nat} (hk : k < r.dead.length) (hx : r.dead[k] = (m : Int)) : clearAll (r.dead.take (k + 1)) r.taken = (rCm r k).taken.set m false := by
  rw [List.take_add_one, List.getElem?_eq_getElem hk, hx]
  exact clearAll_snoc _ _ _
theorem cm_a {w wr W2 : World} {r : R13} {k m : Nat} {T L F Y D : Value} {ta : Option Addr} {tc : Nat} (e0 : wr.heap[w.heap.size]? = some (.cells #[T, .int .i64 r.hand, .int .i64 r.gen, L, F, Y, D] 64)) (e1 : wr.heap[w.heap.size + 1]? = some (.cells z64 64)) (hF : Fr (fun _ => False) w wr) (hR : RefAt wr (rCm r k) T L F Y D)
    (hk : k < r.dead.length) (hx : r.dead[k] = (m : Int)) (F2 : Fr (fun _ => False) wr W2) (htv : BoolR W2 (.slice ta ((rCm r k).taken.set m false).length tc) ((rCm r k).taken.set m false)) :
    CmBox w r k T L F Y D (.pointer (some ⟨W2.heap.size, 0, none⟩)) (W2.alloc (.cells #[.slice ta (rCm r k).taken.length tc, .int .i64 r.hand] 61)) := by
  have hl : (rCm r k).taken.length = r.taken.length := clearAll_length _ _
  have s1 := lt_of_heap e1
  have FA : Fr (fun _ => False) wr (W2.alloc (.cells #[.slice ta (rCm r k).taken.length tc, .int .i64 r.hand] 61)) := F2.alloc _
  refine ⟨_, ta, tc, rfl, by have := F2.size; omega, by rw [heap_alloc_new, hl], ?_, FA.heap e0 (fun h => h), FA.heap e1 (fun h => h), hF.trans FA (fun _ _ h => h), hR.fr FA⟩
  have := own_none htv ((Fr.refl _ _).alloc (.cells #[.slice ta (rCm r k).taken.length tc, .int .i64 r.hand] 61))
  rw [clearAll_step hk hx, ← hl]
  unfold BoolR
  rw [List.length_set] at this ⊢
  exact this
theorem cm_b {w wr W2 : World} {r : R13} {k m : Nat} {T L F Y D : Value} {ta : Option Addr} {tc : Nat} (e0 : wr.heap[w.heap.size]? = some (.cells #[T, .int .i64 r.hand, .int .i64 r.gen, L, F, Y, D] 64)) (e1 : wr.heap[w.heap.size + 1]? = some (.cells z64 64)) (hF : Fr (fun _ => False) w wr) (hR : RefAt wr (rCm r k) T L F Y D)
    (hk : k < r.dead.length) (hx : r.dead[k] = (m : Int)) (F2 : Fr (fun _ => False) wr W2) (q9 : W2.heap[wr.heap.size]? = some (.cells #[.slice none 0 0, .int .i64 0] 61)) (htv : BoolR W2 (.slice ta ((rCm r k).taken.set m false).length tc) ((rCm r k).taken.set m false)) :
    CmBox w r k T L F Y D (.pointer (some ⟨wr.heap.size, 0, none⟩)) ((W2.setCell ⟨wr.heap.size, 0, none⟩ (.slice ta (rCm r k).taken.length tc)).setCell ⟨wr.heap.size, 1, none⟩ (.int .i64 r.hand)) := by
  have hl : (rCm r k).taken.length = r.taken.length := clearAll_length _ _
  have s1 := lt_of_heap e1
  have FX : Fr (fun b => b = wr.heap.size) W2 ((W2.setCell ⟨wr.heap.size, 0, none⟩ (.slice ta (rCm r k).taken.length tc)).setCell ⟨wr.heap.size, 1, none⟩ (.int .i64 r.hand)) := ((Fr.refl (fun b => b = wr.heap.size) _).setCell (a := ⟨wr.heap.size, 0, none⟩) (fun _ => rfl) _).setCell (a := ⟨wr.heap.size, 1, none⟩) (fun _ => rfl) _
  have FA := F2.trans FX (fun b hb h => absurd h (by omega))
  refine ⟨_, ta, tc, rfl, by omega, ?_, ?_, FA.heap e0 (fun h => h), FA.heap e1 (fun h => h), hF.trans FA (fun _ _ h => h), hR.fr FA⟩
  · rw [heap_setCell_cells _ _ _ _ (heap_setCell_cells _ _ _ _ q9), hl]; simp
  · have := own_cellK FX htv q9 (by decide)
    rw [clearAll_step hk hx, ← hl]
    unfold BoolR
    rw [List.length_set] at this ⊢
    exact this
theorem cm_next {w wx : World} {r : R13} {k : Nat} {T : Value} {ta la fa ya da : Option Addr} {tc lc fc yc dc : Nat} (e0 : wx.heap[w.heap.size]? = some (.cells #[T, .int .i64 r.hand, .int .i64 r.gen, .slice la r.live.length lc, .slice fa r.fresh.length fc, .slice ya r.dying.length yc, .slice da r.dead.length dc] 64)) (e1 : wx.heap[w.heap.size + 1]? = some (.cells z64 64))
    (ht : BoolR wx (.slice ta r.taken.length tc) (clearAll (r.dead.take (k + 1)) r.taken)) (hF : Fr (fun _ => False) w wx) (hR : RefAt wx (rCm r k) T (.slice la r.live.length lc) (.slice fa r.fresh.length fc) (.slice ya r.dying.length yc) (.slice da r.dead.length dc)) :
    CmAt w r (k + 1) ((wx.setCell ⟨w.heap.size, 0, none⟩ (.slice ta r.taken.length tc)).setCell ⟨w.heap.size, 1, none⟩ (.int .i64 r.hand)) := by
  have FX : Fr (fun b => b = w.heap.size) wx ((wx.setCell ⟨w.heap.size, 0, none⟩ (.slice ta r.taken.length tc)).setCell ⟨w.heap.size, 1, none⟩ (.int .i64 r.hand)) := ((Fr.refl (fun b => b = w.heap.size) _).setCell (a := ⟨w.heap.size, 0, none⟩) (fun _ => rfl) _).setCell (a := ⟨w.heap.size, 1, none⟩) (fun _ => rfl) _
  have h2 : RefAt wx (rCm r (k + 1)) (.slice ta r.taken.length tc) (.slice la r.live.length lc) (.slice fa r.fresh.length fc) (.slice ya r.dying.length yc) (.slice da r.dead.length dc) := ⟨ht, hR.live, hR.fresh, hR.dying, hR.dead⟩
  refine ⟨ta, tc, la, lc, fa, fc, ya, yc, da, dc, ?_, FX.heap e1 (by omega), (hF.setNew (Nat.le_refl _) _).setNew (Nat.le_refl _) _, ref_64 h2 FX fun b hb => ?_⟩
  · rw [heap_setCell_cells _ _ _ _ (heap_setCell_cells _ _ _ _ e0)]; simp
  · subst hb; exact ⟨_, e0⟩
set_option maxHeartbeats 4000000 in
set_option maxRecDepth 100000 in
theorem rcommit_ok {w : World} {r : R13} {t l f y d : Value} (h : RefAt w r t l f y d) (ht : r.taken.length ≤ 65536) (hd : r.dead.length ≤ 65536) (hg : 0 ≤ r.gen) (hg' : r.gen ≤ 1000000000) (hdd : ∀ x ∈ r.dead, ∃ m : Nat, x = m ∧ m < r.taken.length) :
    Calls Tryz.prog 105 #[refV r t l f y d] w (RCom r w) := by
  obtain ⟨ta, tc, rfl, -, -, -, -⟩ := own_slice h.taken
  obtain ⟨la, lc, rfl, -, -, -, -⟩ := own_slice h.live
  obtain ⟨fa, fc, rfl, -, -, -, -⟩ := own_slice h.fresh
  obtain ⟨ya, yc, rfl, -, -, -, -⟩ := own_slice h.dying
  obtain ⟨da, dc, rfl, -, -, -, -⟩ := own_slice h.dead
  obtain ⟨w1, hw1⟩ : ∃ w1, ((w.alloc (.cells #[.slice ta r.taken.length tc, .int .i64 r.hand, .int .i64 r.gen, .slice la r.live.length lc, .slice fa r.fresh.length fc, .slice ya r.dying.length yc, .slice da r.dead.length dc] 64)).alloc (.cells z64 64)) = w1 := ⟨_, rfl⟩
  obtain ⟨b0, b1, F1⟩ := heap_two hw1
  have h0 : CmAt w r 0 w1 := ⟨ta, tc, la, lc, fa, fc, ya, yc, da, dc, b0, b1, F1, h.fr F1⟩
  have HW := hid hw1
  have H1 := hid h0
  have HD := hid hdd
  have hwr : IntKind.i64.wrap (r.gen + 1) = r.gen + 1 := by rw [IntKind.wrap_i64]; omega
  unfold z64 at HW
  clear hw1 b0 b1 F1 h h0 hdd
  go_enter Tryz.func105, Tryz.ntmps105
  go_upto_region 1 with fail
  rw [HW.out]
  go_wp2_with fail
  go_loopw [3, 4, 5] (fun i a b wr => ∃ k : Nat, k ≤ r.dead.length ∧ i = .int .i64 k ∧ CmAt w r k wr) (fun i _ _ _ => r.dead.length - (intOf i).toNat)
  case atStart => exact ⟨0, Nat.zero_le _, rfl, H1.out⟩
  case round =>
    obtain ⟨k, hk, rfl, ta, tc, la, lc, fa, fc, ya, yc, da, dc, e0, e1, F, hR⟩ := hrel
    obtain ⟨c0, c1, c2, c3, c4, c5, c6, cz, cl⟩ := cells7 e0
    have H2 := hid (And.intro e0 (And.intro e1 (And.intro F hR)))
    clear e0 e1 F hR
    by_cases hlt : k < r.dead.length
    · obtain ⟨m, hxm, hmt⟩ := HD.out _ (List.getElem_mem hlt)
      obtain ⟨g, rfl, hgl, hc⟩ := own_cell H2.out.2.2.2.dead (show ((rCm r k).dead.map (Value.int .i64))[k]? = some (.int .i64 m) by simp [rCm, hlt, hxm])
      have HX := hid hxm
      have HC := hid (clearAll_length (r.dead.take k) r.taken)
      clear hxm
      have hdc : decide ((k : Int) < (r.dead.length : Int)) = true := by simp; omega
      go_upto_region 4 with fail
      go_cut [3, 4] from 5 to 25 (fun v3 v4 wx => v3 = .int .i64 k ∧ CmBox w r k (.slice ta r.taken.length tc) (.slice la r.live.length lc) (.slice fa r.fresh.length fc) (.slice ya r.dying.length yc) (.slice (some ⟨g, 0, none⟩) r.dead.length dc) v4 wx)
      case first =>
        go_region_with (first
          | (go_at_call 165; refine (rclear_ok (own_none H2.out.2.2.2.taken ((Fr.refl _ _).drew)) (by have := HC.out; show (clearAll _ _).length ≤ _; omega) r.hand m (by have := HC.out; show _ < (clearAll _ _).length; omega)).mono ?_; rintro _ W2 ⟨tv, bb, rfl, htv, F2⟩; obtain ⟨ta9, tc9, rfl, -, -, -, -⟩ := own_slice htv)
          | (go_at_call 165; refine (rclear_ok (own_none H2.out.2.2.2.taken (((Fr.refl _ _).alloc _).drew)) (by have := HC.out; show (clearAll _ _).length ≤ _; omega) r.hand m (by have := HC.out; show _ < (clearAll _ _).length; omega)).mono ?_; rintro _ W2 ⟨tv, bb, rfl, htv, F2⟩; obtain ⟨ta9, tc9, rfl, -, -, -, -⟩ := own_slice htv; have q9 := F2.heap (hp1d wr _) (fun h => h); obtain ⟨p0, p1, pz, pl⟩ := cells2 q9))
        all_goals (go_wp2_with fail)
        all_goals go_meet
        all_goals first
          | (with_reducible refine ⟨rfl, cm_b (m := m) H2.out.1 H2.out.2.1 H2.out.2.2.1 H2.out.2.2.2 hlt HX.out ?_ q9 htv⟩)
          | (with_reducible refine ⟨rfl, cm_a (m := m) H2.out.1 H2.out.2.1 H2.out.2.2.1 H2.out.2.2.2 hlt HX.out ?_ htv⟩)
        all_goals first
          | exact ((Fr.refl _ wr).drew).trans F2 (fun _ _ h => h)
          | exact (((Fr.refl _ wr).alloc _).drew).trans F2 (fun _ _ h => h)
      obtain ⟨rfl, b, ta9, tc9, rfl, hb, e9, ht9, e0, e1, F9, R9⟩ := hcut
      clear c0 c1 c2 c3 c4 c5 c6 cz cl hc
      obtain ⟨c0, c1, c2, c3, c4, c5, c6, cz, cl⟩ := cells7 e0
      obtain ⟨p0, p1, pz, pl⟩ := cells2 e9
      have H9 := hid (And.intro e0 (And.intro e1 (And.intro ht9 (And.intro F9 R9))))
      clear e0 e1 ht9 F9 R9 e9
      go_wp2_with fail
      go_roundw
      case rel =>
        exact ⟨k + 1, hlt, by go_num, cm_next H9.out.1 H9.out.2.1 H9.out.2.2.1 H9.out.2.2.2.1 H9.out.2.2.2.2⟩
      case measure => simp [intOf]; omega
    · obtain rfl : k = r.dead.length := by omega
      obtain ⟨y0, y1, y2, y3, y4, y5, y6, yz, yl⟩ := cells7 H2.out.2.1
      go_wp2_with fail
      have hRC : RefAt wr r.commit (.slice ta r.taken.length tc) (.slice la r.live.length lc) (.slice none 0 0) (.slice none 0 0) (.slice ya r.dying.length yc) := by
        have h9 := H2.out.2.2.2
        have ht9 := h9.taken
        simp only [rCm, List.take_length] at ht9
        exact ⟨ht9, h9.live, World.ownsRow_nil _ _ _ _, World.ownsRow_nil _ _ _ _, h9.dying⟩
      have HRC := hid hRC
      clear hRC
      refine bodyPost_ret (v := refV r.commit (.slice ta r.taken.length tc) (.slice la r.live.length lc) (.slice none 0 0) (.slice none 0 0) (.slice ya r.dying.length yc)) (by simp [results, go_sem, R13.commit, *]) rfl ⟨?_, ?_⟩
      · have F0 : Fr (fun _ => False) w wr := H2.out.2.2.1
        with_reducible (repeat (first | exact F0 | apply Fr.drew | apply Fr.alloc | refine Fr.setNew ?_ (by omega) _))
      · refine ⟨_, rfl, _, _, _, _, _, rfl, ref_64 (S := fun k => k = w.heap.size ∨ k = w.heap.size + 1) HRC.out ?_ (fun k hk => ?_)⟩
        · with_reducible (repeat (first | exact Fr.refl _ _ | apply Fr.drew | apply Fr.alloc | refine Fr.setCell ?_ (fun _ => by simp) _))
        · rcases hk with rfl | rfl
          · exact ⟨_, H2.out.1⟩
          · exact ⟨_, H2.out.2.1⟩
end Go.Proofs.YtgdhaaokolfdoaaGreatDoor

/- The document's store (chapter 13): Write. Conditions: the rows lie in the world. -/
namespace Go.Proofs.YtgdhaaokolfdoaaGreatDoor
open Go.RowKit Go.Sg
def RWrite (r : R13) (i : Nat) (bs : List Int) (w : World) (e : Ending) (w' : World) : Prop :=
  Fr (fun _ => False) w w' ∧ match r.write i bs with
  | none => ∃ v, e = .returned (.tuple #[v, pg0, .bool false]) ∧ RefIs w' r v
  | some (r', p) => ∃ v, e = .returned (.tuple #[v, pgV p, .bool true]) ∧ RefIs w' r' v
theorem make_some {r r2 : R13} {q : RPg} {bs : List Int} (h : r.make bs = some (r2, q)) : ∃ n : Nat, r2 = { r with taken := r.taken.set n true, hand := (((n + 1) % r.taken.length : Nat) : Int), live := r.live ++ [⟨n, r.gen, bs⟩], fresh := withL r.fresh n } ∧ q = ⟨n, r.gen, bs⟩ := by
  unfold R13.make at h
  split at h
  · cases h
  · rename_i n _
    cases h
    exact ⟨n, rfl, rfl⟩
theorem withL_length (l : List Int) (n : Int) : (withL l n).length = l.length + 1 := by
  induction l with
  | nil => rfl
  | cons x l ih => unfold withL; split <;> simp [ih]
theorem write_out {r : R13} {i m : Nat} (hi : i < r.live.length) (hm : r.live[i].page = m) (h : ¬ (m : Int) ∈ r.fresh) (bs : List Int) : r.write i bs = match r.make bs with
    | none => none
    | some (next, q) => some (next.drop i, q) := by
  simp only [R13.write, drop_page hi hm, if_neg h]
  all_goals rfl
theorem size_drew (w : World) : w.drew.heap.size = w.heap.size := rfl
theorem write_end {w W5 W' : World} {B : Nat} {r rd : R13} {q : RPg} {i : Nat} {bs : List Int} {t l f y d : Value} {x0 x1 x2 : Array Value} (hw : r.write i bs = some (rd, q)) (F : Fr (fun _ => False) w W') (F5 : Fr (fun k => k = B + 1 ∨ k = B + 1 + 1) W5 W')
    (b0 : W5.heap[B]? = some (.cells x0 64)) (b1 : W5.heap[B + 1]? = some (.cells x1 64)) (b2 : W5.heap[B + 1 + 1]? = some (.cells x2 71)) (h : RefAt W5 rd t l f y d) (ho : W5.ownsRow (B + 3) 71 3 l rd.live.length (rd.live.flatMap pgCells)) :
    RWrite r i bs w (.returned (.tuple #[refV rd t l f y d, pgV q, .bool true])) W' := by
  refine ⟨F, ?_⟩
  rw [hw]
  exact ⟨_, rfl, _, _, _, _, _, rfl, ref_three (F5.mono fun k _ hk => .inr hk) b0 b1 b2 h.taken ho h.fresh h.dying h.dead⟩
theorem pgs_set (l : List RPg) (i : Nat) (hi : i < l.length) (bs : List Int) : (l.flatMap pgCells).set (i * 3 + 2) (.string (strOfNums bs)) = (l.set i { l[i] with load := bs }).flatMap pgCells := by
  induction l generalizing i with
  | nil => simp at hi
  | cons p l ih =>
    cases i with
    | zero => simp [pgCells]
    | succ i =>
      simp only [List.set_cons_succ, List.flatMap_cons, List.getElem_cons_succ]
      rw [← ih i (by simpa using hi)]
      rw [show (i + 1) * 3 + 2 = (pgCells p).length + (i * 3 + 2) by simp [pgCells]; omega, List.set_append_right _ _ (by omega)]
      congr 2
      omega
theorem write_in {r : R13} {i m : Nat} {st : Int} {ld : List Int} (hi : i < r.live.length) (hp : r.live[i] = ⟨m, st, ld⟩) (h : (m : Int) ∈ r.fresh) (bs : List Int) : r.write i bs = some ({ r with live := r.live.set i ⟨m, st, bs⟩ }, ⟨m, st, bs⟩) := by
  have hd : r.live.getD i ⟨0, 0, []⟩ = ⟨m, st, ld⟩ := by simp [List.getD, List.getElem?_eq_getElem hi, hp]
  simp only [R13.write, hd, if_pos h]
set_option maxHeartbeats 2000000 in
set_option maxRecDepth 100000 in
theorem rwrite_ok {w : World} {r : R13} {t l f y d : Value} (h : RefAt w r t l f y d) (ht : r.taken.length ≤ 65536) (hh : 0 ≤ r.hand) (hh' : r.hand < r.taken.length) (hl : r.live.length ≤ 65535) (hf : r.fresh.length ≤ 65535) (hy : r.dying.length ≤ 65535)
    (i : Nat) (hi : i < r.live.length) (m : Nat) (hm : r.live[i].page = m) (hmt : m < r.taken.length) (bs : List Int) :
    Calls Tryz.prog 102 #[refV r t l f y d, .int .i64 i, .string (strOfNums bs)] w (RWrite r i bs w) := by
  obtain ⟨ta, tc, rfl, -, -, -, -⟩ := own_slice h.taken
  obtain ⟨la, lc, rfl, -, -, -, -⟩ := own_slice h.live
  obtain ⟨fa, fc, rfl, -, -, -, -⟩ := own_slice h.fresh
  obtain ⟨ya, yc, rfl, -, -, -, -⟩ := own_slice h.dying
  obtain ⟨da, dc, rfl, -, -, -, -⟩ := own_slice h.dead
  obtain ⟨i0, hi0, hz0, hz1, hz2⟩ := info_parts Tryz.info71
  obtain ⟨g, rfl, hg, hcg0⟩ := own_cell h.live (show (r.live.flatMap pgCells)[i * 3 + 0]? = some (.int .i64 m) by rw [pgs_get _ _ hi _ (by decide)]; simp [pgCells, hm])
  obtain ⟨g', eg', _, hcg1⟩ := own_cell h.live (show (r.live.flatMap pgCells)[i * 3 + 1]? = some (.int .i64 r.live[i].stamp) by rw [pgs_get _ _ hi _ (by decide)]; simp [pgCells])
  cases eg'
  obtain ⟨g', eg', _, hcg2⟩ := own_cell h.live (show (r.live.flatMap pgCells)[i * 3 + 2]? = some (.string (strOfNums r.live[i].load)) by rw [pgs_get _ _ hi _ (by decide)]; simp [pgCells])
  cases eg'
  obtain ⟨w1, hw1⟩ : ∃ w1, ((w.alloc (.cells #[.slice ta r.taken.length tc, .int .i64 r.hand, .int .i64 r.gen, .slice (some ⟨g, 0, none⟩) r.live.length lc, .slice fa r.fresh.length fc, .slice ya r.dying.length yc, .slice da r.dead.length dc] 64)).alloc (.cells z64 64)).alloc (.cells #[.int .i64 0, .int .i64 0, .string ⟨#[]⟩] 71) = w1 := ⟨_, rfl⟩
  obtain ⟨b0, b1, b2, F1⟩ := heap_three hw1
  have k0 : w1.cell? ⟨g, i * 3, none⟩ = some (.int .i64 m) := (F1.cell (p := ⟨g, i * 3, none⟩) hg (fun h => h)).trans hcg0
  have k1 : w1.cell? ⟨g, i * 3 + 1, none⟩ = some (.int .i64 r.live[i].stamp) := (F1.cell (p := ⟨g, i * 3 + 1, none⟩) hg (fun h => h)).trans hcg1
  have k2 : w1.cell? ⟨g, i * 3 + 2, none⟩ = some (.string (strOfNums r.live[i].load)) := (F1.cell (p := ⟨g, i * 3 + 2, none⟩) hg (fun h => h)).trans hcg2
  have hgs : g < w1.heap.size := Nat.lt_of_lt_of_le hg F1.size
  have HW := hid hw1
  have H1 := hid (And.intro b0 (And.intro b1 (And.intro b2 F1)))
  have H0 := hid h
  have HR := hid (And.intro hm (And.intro hg (And.intro hh hh')))
  unfold z64 at HW
  obtain ⟨c0, c1, c2, c3, c4, c5, c6, cz, cl⟩ := cells7 b0
  clear hw1 b0 b1 b2 F1 h hm hg hh hh' hcg0 hcg1 hcg2
  generalize hst : r.live[i].stamp = st at k1
  generalize hld : r.live[i].load = ld at k2
  have HP := hid (And.intro hst hld)
  clear hst hld
  go_enter Tryz.func102, Tryz.ntmps102
  go_upto_region 1 with fail
  rw [HW.out]
  go_upto_region 2 with fail
  obtain ⟨W2, hW2⟩ : ∃ W2, w1.alloc (.cells #[.int .i64 m, .int .i64 st, .string (strOfNums ld)] 71) = W2 := ⟨_, rfl⟩
  rw [hW2]
  have F2 : Fr (fun _ => False) w1 W2 := by rw [← hW2]; exact (Fr.refl _ _).alloc _
  have e0 := F2.heap H1.out.1 (fun h => h)
  have e9 : W2.heap[w1.heap.size]? = some (.cells #[.int .i64 m, .int .i64 st, .string (strOfNums ld)] 71) := by rw [← hW2]; exact heap_alloc_new _ _
  have H2 := hid (And.intro e0 (And.intro (F2.heap H1.out.2.1 (fun h => h)) (And.intro (F2.heap H1.out.2.2.1 (fun h => h)) (And.intro e9 (H1.out.2.2.2.trans F2 (fun _ _ h => h))))))
  clear c0 c1 c2 c3 c4 c5 c6 cz cl k0 k1 k2 hgs F2 hW2
  obtain ⟨c0, c1, c2, c3, c4, c5, c6, cz, cl⟩ := cells7 e0
  obtain ⟨p0, p1, p2, pz, pl⟩ := cells3 e9
  clear e0 e9
  by_cases hin : (m : Int) ∈ r.fresh
  · have hdec : decide ((m : Int) ∈ r.fresh) = true := decide_eq_true hin
    have HIN := hid hin
    clear hin
    go_upto_region 3 with (go_at_call 163; refine (rin_ok (own_none H0.out.fresh H2.out.2.2.2.2) (Nat.le_succ_of_le hf) m).mono ?_; rintro _ _ ⟨rfl, rfl⟩)
    have HV := hid (own_none H0.out.live H2.out.2.2.2.2)
    have hm1 : 0 + r.live.length ≤ maxLen := by simp [maxLen]; omega
    have hm2 : (0 + r.live.length) * 32 ≤ 140737488355328 := by omega
    go_wp2_with (at_builtin; refine wpList_append_src rfl (.tmp 23) (.tmp 25) 62 rfl W2.heap.size 71 i0 _ 3 32 Tryz.underlying62 hi0 hz0 hz1 hz2 rfl (Nat.succ_pos 2) _ 0 [] rfl (own_at (Nat.le_refl _) (heap_alloc_new _ _)) _ r.live.length _ rfl (own_src (own_none HV.out ((Fr.refl _ _).alloc _))) (pgs_length _) (pgs_one _) hm1 hm2 (by simp) ?_)
    intro v3 W3 hown3 hg3 hne3
    try simp only [List.nil_append, Nat.zero_add] at hown3
    obtain ⟨g3, cap3, cur3, rfl, hgb3, hgc3⟩ := own_some hown3 (by first | exact hne3 | exact hne3 (by simp))
    have F23 : Fr (fun _ => False) W2 W3 := ((Fr.refl (fun _ => False) W2).alloc _).trans (S' := fun b => b = W2.heap.size) (Fr.of_grownBy hg3) (fun b hb h => by omega)
    have b0 := F23.heap H2.out.1 (fun h => h)
    have sz2 := lt_of_heap H2.out.2.2.1
    have ne1 : ¬ g3 = w.heap.size := by omega
    have ne2 : ¬ w.heap.size = g3 := by omega
    have z2 : W3.cell? ⟨g3, i * 3 + 2, none⟩ = some (.string (strOfNums ld)) := by
      rw [hown3.cellAt (i * 3 + 2) (by omega), pgs_get _ _ hi _ (by decide)]; simp [pgCells, HP.out.2]
    have zf := hown3.frozenAt (i * 3 + 2)
    have zl := lt_of_heap hgc3
    have H3 := hid (And.intro hown3 (And.intro F23 (And.intro b0 hgc3)))
    clear c0 c1 c2 c3 c4 c5 c6 cz cl p0 p1 p2 pz pl hg3 hne3 F23 hgc3 hown3 hm1 hm2
    obtain ⟨c0, c1, c2, c3, c4, c5, c6, cz, cl⟩ := cells7 b0
    clear b0
    go_upto_region 5 with fail
    obtain ⟨W4, hW4⟩ : ∃ W4, (W3.setCell ⟨w.heap.size, 3, none⟩ (.slice (some ⟨g3, 0, none⟩) r.live.length cap3)).setCell ⟨g3, i * 3 + 2, none⟩ (.string (strOfNums bs)) = W4 := ⟨_, rfl⟩
    rw [hW4]
    have e0 : W4.heap[w.heap.size]? = some (.cells #[.slice ta r.taken.length tc, .int .i64 r.hand, .int .i64 r.gen, .slice (some ⟨g3, 0, none⟩) r.live.length cap3, .slice fa r.fresh.length fc, .slice ya r.dying.length yc, .slice da r.dead.length dc] 64) := by
      rw [← hW4, heap_setCell_ne _ _ _ _ (by simpa using ne1), heap_setCell_cells _ _ _ _ H3.out.2.2.1]; simp
    have FB : Fr (fun b => b = w.heap.size) W3 (W3.setCell ⟨w.heap.size, 3, none⟩ (.slice (some ⟨g3, 0, none⟩) r.live.length cap3)) := (Fr.refl (fun b => b = w.heap.size) _).setCell (a := ⟨w.heap.size, 3, none⟩) (fun _ => rfl) _
    have F24 : Fr (fun b => b = w.heap.size) W2 W4 := by
      rw [← hW4]; exact ((H3.out.2.1.mono (S' := fun b => b = w.heap.size) fun _ _ h => h.elim).trans FB (fun _ _ h => h)).setCell (a := ⟨g3, i * 3 + 2, none⟩) (fun h => absurd h (by simp; omega)) _
    have F04 : Fr (fun _ => False) w W4 := H2.out.2.2.2.2.trans F24 (fun b hb h => by omega)
    have e1 := F24.heap H2.out.2.1 (by omega)
    have e2 := F24.heap H2.out.2.2.1 (by omega)
    have own4 : W4.ownsRow W2.heap.size 71 3 (.slice (some ⟨g3, 0, none⟩) r.live.length cap3) r.live.length ((r.live.set i ⟨m, st, bs⟩).flatMap pgCells) := by
      have h1 := ((own_cellK FB H3.out.1 H3.out.2.2.1 (by decide)).stored (i * 3 + 2) (.string (strOfNums bs))).1
      rw [pgs_set _ _ hi] at h1
      rw [← hW4]
      have hp : ({ r.live[i] with load := bs } : RPg) = ⟨m, st, bs⟩ := by
        have := HR.out.1; have := HP.out.1; cases hh : r.live[i]; simp_all
      rw [hp] at h1
      exact h1
    have hl4 : (r.live.set i ⟨m, st, bs⟩).length = r.live.length := List.length_set
    have hg4 : (r.live.set i (⟨m, st, bs⟩ : RPg))[i]'(by omega) = ⟨m, st, bs⟩ := by simp
    have k0 : W4.cell? ⟨g3, i * 3, none⟩ = some (.int .i64 m) := by
      have := own4.cellAt (i * 3 + 0) (by omega); rw [pgs_get _ _ (by omega) _ (by decide), hg4] at this; exact this
    have k1 : W4.cell? ⟨g3, i * 3 + 1, none⟩ = some (.int .i64 st) := by
      have := own4.cellAt (i * 3 + 1) (by omega); rw [pgs_get _ _ (by omega) _ (by decide), hg4] at this; exact this
    have k2 : W4.cell? ⟨g3, i * 3 + 2, none⟩ = some (.string (strOfNums bs)) := by
      have := own4.cellAt (i * 3 + 2) (by omega); rw [pgs_get _ _ (by omega) _ (by decide), hg4] at this; exact this
    have ne3 : ¬ w.heap.size + 1 = g3 := by omega
    have ne4 : ¬ g3 = w.heap.size + 1 := by omega
    have ne5 : ¬ w.heap.size + 1 + 1 = g3 := by omega
    have ne6 : ¬ g3 = w.heap.size + 1 + 1 := by omega
    have HWI := hid (write_in (m := m) (st := st) (ld := ld) hi (by have := HR.out.1; have := HP.out.1; have := HP.out.2; cases hh : r.live[i]; simp_all) HIN.out bs)
    have H4 := hid (And.intro F04 (And.intro own4 (And.intro e0 (And.intro e1 (And.intro e2 (H0.out.fr F04))))))
    clear c0 c1 c2 c3 c4 c5 c6 cz cl z2 zf zl hW4 FB F24 F04 own4 hl4 hg4 hdec
    obtain ⟨c0, c1, c2, c3, c4, c5, c6, cz, cl⟩ := cells7 e0
    obtain ⟨y0, y1, y2, y3, y4, y5, y6, yz, yl⟩ := cells7 e1
    obtain ⟨x0, x1, x2, xz, xl⟩ := cells3 e2
    clear e0 e1 e2
    go_region
    all_goals (go_wp2_with fail)
    all_goals refine bodyPost_ret (v := .tuple #[refV { r with live := r.live.set i ⟨m, st, bs⟩ } (.slice ta r.taken.length tc) (.slice (some ⟨g3, 0, none⟩) r.live.length cap3) (.slice fa r.fresh.length fc) (.slice ya r.dying.length yc) (.slice da r.dead.length dc), pgV ⟨m, st, bs⟩, .bool true]) (by simp [results, go_sem, *]) rfl ?_
    all_goals (
      have F04 := H4.out.1
      have sz2 := H2.out.2.2.2.2.size
      have hr := H4.out.2.2.2.2.2
      refine write_end (W5 := W4) (B := w.heap.size) HWI.out ?_ ?_ H4.out.2.2.1 H4.out.2.2.2.1 H4.out.2.2.2.2.1 ⟨hr.taken, ?_, hr.fresh, hr.dying, hr.dead⟩ ?_
      · with_reducible (repeat (first | exact F04 | apply Fr.drew | apply Fr.alloc | refine Fr.setNew ?_ (by omega) _))
      · with_reducible (repeat (first | exact Fr.refl _ _ | apply Fr.drew | apply Fr.alloc | refine Fr.setCell ?_ (fun _ => by simp) _))
      · show W4.ownsRow 0 71 3 _ (List.set _ _ _).length _
        rw [List.length_set]; exact own_base H4.out.2.1
      · show W4.ownsRow _ 71 3 _ (List.set _ _ _).length _
        rw [List.length_set]; exact own_le H4.out.2.1 (show w.heap.size + 3 ≤ W2.heap.size by have := lt_of_heap H2.out.2.2.1; omega))
  · have hdec : decide ((m : Int) ∈ r.fresh) = false := decide_eq_false hin
    have HIN := hid hin
    clear hin
    have hW := H0.out.fr H2.out.2.2.2.2
    go_upto_region 7 with (first
      | (go_at_call 163; refine (rin_ok (own_none H0.out.fresh H2.out.2.2.2.2) (Nat.le_succ_of_le hf) m).mono ?_; rintro _ _ ⟨rfl, rfl⟩)
      | (go_at_call 106; refine (rmake_ok hW ht HR.out.2.2.1 HR.out.2.2.2 (Nat.le_succ_of_le hl) (Nat.le_succ_of_le hf) bs).mono ?_))
    rintro e W3 ⟨F3, hmk⟩
    have b0 := F3.heap H2.out.1 (fun h => h)
    have b1 := F3.heap H2.out.2.1 (fun h => h)
    have b2 := F3.heap H2.out.2.2.1 (fun h => h)
    have F03 : Fr (fun _ => False) w W3 := H2.out.2.2.2.2.trans F3 (fun _ _ h => h)
    clear c0 c1 c2 c3 c4 c5 c6 cz cl p0 p1 p2 pz pl hW
    obtain ⟨c0, c1, c2, c3, c4, c5, c6, cz, cl⟩ := cells7 b0
    obtain ⟨y0, y1, y2, y3, y4, y5, y6, yz, yl⟩ := cells7 b1
    obtain ⟨x0, x1, x2, xz, xl⟩ := cells3 b2
    have H3 := hid (And.intro b0 (And.intro b1 (And.intro b2 F03)))
    clear b0 b1 b2 F3 F03
    have HWO := hid (write_out hi HR.out.1 HIN.out bs)
    rcases hmake : r.make bs with _ | ⟨r2, q⟩
    · rw [hmake] at hmk
      obtain ⟨v, rfl, hv⟩ := hmk
      obtain ⟨ta2, tc2, la2, lc2, fa2, fc2, ya2, yc2, da2, dc2, rfl, -⟩ := hv.slices
      have HMK := hid hmake
      clear hmake hv
      unfold pg0
      go_wp2_with fail
      refine bodyPost_ret (v := .tuple #[refV r (.slice ta r.taken.length tc) (.slice (some ⟨g, 0, none⟩) r.live.length lc) (.slice fa r.fresh.length fc) (.slice ya r.dying.length yc) (.slice da r.dead.length dc), pg0, .bool false]) (by simp [results, go_sem, pg0, *]) rfl ?_
      have FF : ∀ W, Fr (fun _ => False) w W → RWrite r i bs w (.returned (.tuple #[refV r (.slice ta r.taken.length tc) (.slice (some ⟨g, 0, none⟩) r.live.length lc) (.slice fa r.fresh.length fc) (.slice ya r.dying.length yc) (.slice da r.dead.length dc), pg0, .bool false])) W := fun W F => ⟨F, by
        rw [HWO.out, HMK.out]
        exact ⟨_, rfl, _, _, _, _, _, rfl, H0.out.fr F⟩⟩
      refine FF _ ?_
      have F03 : Fr (fun _ => False) w W3 := H3.out.2.2.2
      with_reducible (repeat (first | exact F03 | apply Fr.drew | apply Fr.alloc | refine Fr.setNew ?_ (by omega) _))
    · rw [hmake] at hmk
      obtain ⟨v, rfl, hv⟩ := hmk
      obtain ⟨ta2, tc2, la2, lc2, fa2, fc2, ya2, yc2, da2, dc2, rfl, hv2⟩ := hv.slices
      have HV := hid hv2
      have HMK := hid hmake
      clear hmake hv hv2
      go_upto_region 9 with fail
      obtain ⟨n, hr2, hq⟩ := make_some HMK.out
      have t2 : r2.taken.length = r.taken.length := by rw [hr2]; simp
      have l2 : r2.live.length = r.live.length + 1 := by rw [hr2]; simp
      have f2 : r2.fresh.length = r.fresh.length + 1 := by rw [hr2]; simp [withL_length]
      have y2 : r2.dying.length = r.dying.length := by rw [hr2]
      have hi2 : i < r2.live.length := by omega
      have hm2 : r2.live[i].page = m := by
        have : r2.live[i]? = r.live[i]? := by rw [hr2]; simp [List.getElem?_append_left hi]
        rw [List.getElem?_eq_getElem hi2, List.getElem?_eq_getElem hi] at this
        rw [Option.some.inj this]; exact HR.out.1
      have HS := hid (And.intro t2 (And.intro l2 (And.intro f2 (And.intro y2 hm2))))
      clear hr2 hq t2 l2 f2 y2 hm2
      obtain ⟨W4, hW4⟩ : ∃ W4, ((W3.alloc (.cells #[.slice ta2 r2.taken.length tc2, .int .i64 r2.hand, .int .i64 r2.gen, .slice la2 r2.live.length lc2, .slice fa2 r2.fresh.length fc2, .slice ya2 r2.dying.length yc2, .slice da2 r2.dead.length dc2] 64)).alloc (.cells #[.int .i64 q.page, .int .i64 q.stamp, .string (strOfNums q.load)] 71)) = W4 := ⟨_, rfl⟩
      rw [hW4]
      obtain ⟨z10, z11, F4⟩ := heap_two hW4
      have z1 := F4.heap H3.out.2.1 (fun h => h)
      have z2 := F4.heap H3.out.2.2.1 (fun h => h)
      have H4 := hid (And.intro z11 (And.intro z1 (And.intro z2 F4)))
      clear c0 c1 c2 c3 c4 c5 c6 cz cl y0 y1 y2 y3 y4 y5 y6 yz yl x0 x1 x2 xz xl hW4 F4
      obtain ⟨c0, c1, c2, c3, c4, c5, c6, cz, cl⟩ := cells7 z10
      obtain ⟨y0, y1, y2, y3, y4, y5, y6, yz, yl⟩ := cells7 z1
      obtain ⟨x0, x1, x2, xz, xl⟩ := cells3 z2
      obtain ⟨p0, p1, p2, pz, pl⟩ := cells3 z11
      clear z10 z11 z1 z2
      have hRD := (rdrop_ok ((HV.out.fr H4.out.2.2.2).fr ((Fr.refl _ _).drew)) (by have := HS.out.1; omega) (by have := HS.out.2.1; omega) (by have := HS.out.2.2.1; omega) (by have := HS.out.2.2.2.1; omega) i hi2 m HS.out.2.2.2.2 (by have := HS.out.1; omega))
      unfold RDrop at hRD
      generalize hrd : r2.drop i = rd at hRD
      have hz1 : w.heap.size + 1 + 1 < W3.heap.size := lt_of_heap H3.out.2.2.1
      have ne1 : ¬ w.heap.size = W3.heap.size := by omega
      have ne2 : ¬ W3.heap.size = w.heap.size := by omega
      have ne3 : ¬ w.heap.size + 1 = W3.heap.size := by omega
      have ne4 : ¬ W3.heap.size = w.heap.size + 1 := by omega
      have HRD := hid hRD
      have HDR := hid hrd
      clear hRD hrd
      have HK := hid (And.intro H3 (And.intro H2 (And.intro H1 (And.intro H0 (And.intro HR (And.intro HIN (And.intro HWO HMK)))))))
      clear H3 H2 H1 HW HP HIN HWO HMK HR H0
      go_region_law (go_simp; go_at_call 164; refine HRD.out.mono ?_; rintro _ W5 ⟨F5, t5', l5', f5', y5', d5', rfl, hv5, ho5⟩; obtain ⟨ta5, tc5, rfl, -, -, -, -⟩ := own_slice hv5.taken; obtain ⟨la5, lc5, rfl, -, -, -, -⟩ := own_slice hv5.live; obtain ⟨fa5, fc5, rfl, -, -, -, -⟩ := own_slice hv5.fresh; obtain ⟨ya5, yc5, rfl, -, -, -, -⟩ := own_slice hv5.dying; obtain ⟨da5, dc5, rfl, -, -, -, -⟩ := own_slice hv5.dead; have F5 := ((Fr.refl (fun _ => False) W4).drew).trans F5 (fun _ _ h => h); have q1 := F5.heap H4.out.2.1 (fun h => h); have q2 := F5.heap H4.out.2.2.1 (fun h => h); have q9 := F5.heap H4.out.1 (fun h => h); obtain ⟨r0, r1, r2', r3, r4, r5, r6, rz, rl⟩ := cells7 q1; obtain ⟨s0, s1, s2, sz, sl⟩ := cells3 q2; obtain ⟨t0, t1, t2, tz, tl⟩ := cells3 q9; have HV5 := hid (And.intro hv5 (And.intro F5 (And.intro ho5 (And.intro q1 q2)))); clear hv5 ho5 F5 q1 q2 q9 c0 c1 c2 c3 c4 c5 c6 cz cl y0 y1 y2 y3 y4 y5 y6 yz yl x0 x1 x2 xz xl p0 p1 p2 pz pl hdec)
      all_goals (go_wp2_with fail)
      all_goals refine bodyPost_ret (v := .tuple #[refV rd (.slice ta5 rd.taken.length tc5) (.slice la5 rd.live.length lc5) (.slice fa5 rd.fresh.length fc5) (.slice ya5 rd.dying.length yc5) (.slice da5 rd.dead.length dc5), pgV q, .bool true]) (by simp [results, go_sem, *]) rfl ?_
      all_goals (
        have F05 : Fr (fun _ => False) w W5 := (HK.out.1.out.2.2.2.trans H4.out.2.2.2 (fun _ _ h => h)).trans HV5.out.2.1 (fun _ _ h => h)
        have s3 := H4.out.2.2.2.size
        refine write_end (B := w.heap.size) (by rw [HK.out.2.2.2.2.2.2.1.out, HK.out.2.2.2.2.2.2.2.out, ← HDR.out]) ?_ ?_ (HV5.out.2.1.heap (H4.out.2.2.2.heap HK.out.1.out.1 (fun h => h)) (fun h => h)) HV5.out.2.2.2.1 HV5.out.2.2.2.2 HV5.out.1 (own_le HV5.out.2.2.1 (by simp only [size_drew]; omega))
        · with_reducible (repeat (first | exact F05 | apply Fr.drew | apply Fr.alloc | refine Fr.setNew ?_ (by omega) _))
        · with_reducible (repeat (first | exact Fr.refl _ _ | apply Fr.drew | apply Fr.alloc | refine Fr.setCell ?_ (fun _ => by simp) _)))
end Go.Proofs.YtgdhaaokolfdoaaGreatDoor

/- The store: Write where no page is left. Conditions: the store lies in the world as StoreAt says, the page is of the last commit, all are taken. -/
namespace Go.Proofs.YtgdhaaokolfdoaaGreatDoor
open Go.RowKit Go.Sg Go.Sg.Bits Go.Sg.Clk CP
namespace SF
set_option maxHeartbeats 2000000 in
theorem write_full {w : World} {B : Blk} {x : Sto} (h : StoreAt w B x) (hTb : Tab w) (n : Nat) (st : Int) (la : Option Addr) (ll lc : Nat) (hl : ll ≤ x.room) (hp : n < x.pages) (ht : x.taken n = true) (hf : x.fresh n = false) (hall : allTaken x.taken x.pages 0 x.pages) :
    Calls Tryz.prog 26 #[B.ptr, .agg #[.int .i64 n, .int .i64 st], .slice la ll lc] w fun e w' => e = .returned (.tuple #[.agg #[.int .i64 0, .int .i64 0], .int .i64 6]) ∧ Fr (fun _ => False) w w' := by
  obtain ⟨w1, hw1⟩ : ∃ w1, (w.alloc (.cells #[.int .i64 n, .int .i64 st] 35)).alloc (.cells #[.int .i64 0, .int .i64 0] 35) = w1 := ⟨_, rfl⟩
  obtain ⟨b0, b1, F1⟩ := heap_two hw1
  obtain ⟨d0, d1, dz, dl⟩ := cells2 b0
  have c11 := h.sc.c11
  have l := h.sc.lt
  have HI := hid (in_ok (h.fr0 F1) n st (by omega) (by omega))
  have H1 := hid (h.fr0 F1)
  have HTB := hid (hTb.fr F1 (fun h => h))
  have HT := hid ht
  have HF := hid hf
  have HW := hid hw1
  have HB0 := hid b0
  have HB1 := hid b1
  have HF1 := hid F1
  have HA := hid hall
  clear hw1 b0 b1 F1 h ht hf hall hTb
  go_enter Tryz.func26, Tryz.ntmps26
  go_wp2_with fail
  rw [HW.out]
  refine HI.out.mono ?_
  rintro e w2 ⟨rfl, F2⟩
  obtain ⟨e0, e1, ez, el⟩ := cells2 (F2.heap HB1.out (fun h => h))
  obtain ⟨f0, f1, fz, fl⟩ := cells2 (F2.heap HB0.out (fun h => h))
  have h2 := H1.out.fr0 F2
  have g13 := h2.sc.c13
  have g14 := h2.sc.c14
  have HH := hid (fun W (F : Fr (fun _ => False) w2 W) => (has_at (h2.bits.fr F (fun h => h) (fun h => h)) n hp))
  rw [HT.out] at HH
  obtain ⟨lf, cf, hfm, hfs⟩ := h2.fr.ex
  have hlk := fun (W : World) (hW : W.heap[B.fr]? = some (.map (ents lf) cf)) => run_lookup (P := Tryz.prog) (T := 153) false Tryz.underlying153 Tryz.underlying3 Tryz.zero4 hW n
  rw [hfs.at_, HF.out] at hlk
  simp only [Bool.false_eq_true, if_false, Option.getD_none] at hlk
  have HF2 := hid F2
  have H2 := hid h2
  have HTB2 := hid (HTB.out.fr F2 (fun h => h))
  clear F2 h2 hfs
  go_wp2
  go_quiet ((go_at_call 88; exact quiet_left (HH.out _ ((Fr.refl _ _).drewN _))))
  go_wp2
  go_quiet (fail)
  go_wp2_with fail
  have HBB := hid (And.intro (HF2.out.heap HB0.out (fun h => h)) (HF2.out.heap HB1.out (fun h => h)))
  have HNF := hid (fun W (F : Fr (fun _ => False) w2 W) => (new_full (H2.out.fr0 F) (HTB2.out.fr F (fun h => h)) la ll lc hl HA.out).mono (fun (e : Ending) W' ⟨he, hF⟩ => (⟨he, F.trans hF (fun _ _ h => h)⟩ : e = Ending.returned (.tuple #[.agg #[.int .i64 0, .int .i64 0], .int .i64 6]) ∧ Fr (fun _ => False) w2 W')))
  clear hlk hfm HB0 HB1 d0 d1 dz c11 g13 g14 fz
  refine (HNF.out _ (by first | exact (Fr.refl _ _).drewN _ | exact ((Fr.refl _ _).drewN _).drew)).mono ?_
  rintro e w5 ⟨rfl, F5⟩
  have hb5 := F5.heap HBB.out.2 (fun h => h)
  obtain ⟨k0, k1, kz, kl⟩ := cells2 hb5
  have HF5 := hid F5
  have ms5 : ¬ w5.heap.size = w.heap.size + 1 := by omega
  clear F5 hb5 e0 e1 ez el
  go_wp2
  refine bodyPost_ret (v := .tuple #[.agg #[.int .i64 0, .int .i64 0], .int .i64 6]) (by simp [results, go_sem, *]) rfl ⟨rfl, ?_⟩
  exact ((((HF1.out.trans HF2.out (fun _ _ h => h)).trans HF5.out (fun _ _ h => h)).setNew (b := w.heap.size + 1) (by omega) _).setNew (b := w.heap.size + 1) (by omega) _).alloc _
end SF
theorem wfull_c {w : World} {B : Blk} {y : Cs} {P : Prot} {a : Bool} {N : Nat} (h : StoreC w B y P a N) (n : Nat) (st : Int) (la : Option Addr) (ll lc : Nat) (hl : ll ≤ y.room) (hp : n < y.pages) (ht : y.taken n = true) (hf : y.fresh n = false) (hall : allTaken y.taken y.pages 0 y.pages) :
    Calls Tryz.prog 26 #[B.ptr, .agg #[.int .i64 n, .int .i64 st], .slice la ll lc] w fun e w' => e = .returned (.tuple #[.agg #[.int .i64 0, .int .i64 0], .int .i64 6]) ∧ Fr (fun _ => False) w w' := by
  obtain ⟨⟨x, c, hS, rfl, hi⟩, hT, hb⟩ := h
  exact SF.write_full hS hT n st la ll lc hl hp ht hf hall
end Go.Proofs.YtgdhaaokolfdoaaGreatDoor
