/- ClockLast's plain law: what was put last does not go next, where two places or more are kept; no program in sight. -/
import Derived.Test.YtfeemnhkdjkgpaaPut
namespace Go.Sg.Clk
open Go.RowKit

/-- A number's thing is taken out. -/
def dropM (z : Value) (pl : List Pl) (key : Int) : List Pl := match find pl key with
  | some i => pl.set i (Pl.none z)
  | none => pl

theorem spin_after (n e : Nat) : ∀ (f t : Nat) (pl : List Pl), pl.length = n → t + f + 2 ≤ n → e < n → (spin f pl ((e + 1 + t) % n)).2 ≠ e := by
  have pos : ∀ t, t + 2 ≤ n → e < n → (e + 1 + t) % n ≠ e := by
    intro t ht he h
    rcases Nat.lt_or_ge (e + 1 + t) n with h' | h'
    · rw [Nat.mod_eq_of_lt h'] at h; omega
    · rw [Nat.mod_eq_sub_mod h', Nat.mod_eq_of_lt (by omega)] at h; omega
  intro f
  induction f with
  | zero => intro t pl hl ht he; exact pos t (by omega) he
  | succ f ih =>
    intro t pl hl ht he
    unfold spin
    split
    · split
      · have := ih (t + 1) (pl.set ((e + 1 + t) % n) { ‹Pl› with marked := false }) (by simpa using hl) (by omega) he
        have e2 : ((e + 1 + t) % n + 1) % pl.length = (e + 1 + (t + 1)) % n := by rw [hl, Nat.mod_add_mod]; congr 1
        rw [e2]; exact this
      · exact pos t (by omega) he
    · exact pos t (by omega) he

theorem spin_ne (n e : Nat) (he : e < n) (hn : 2 ≤ n) : ∀ (d f : Nat) (pl : List Pl) (h : Nat), pl.length = n → h < n → (h + d) % n = e → 1 ≤ d → d < n → d < f → f ≤ n + d - 1 → (pl[e]?).any (·.marked) = true → (spin f pl h).2 ≠ e := by
  intro d
  induction d with
  | zero => intro f pl h _ _ _ h1; omega
  | succ d ih =>
    intro f pl h hl hh hd _ hdn hdf hfn hm
    have hne : h ≠ e := by
      rintro rfl
      rcases Nat.lt_or_ge (h + (d + 1)) n with h' | h'
      · rw [Nat.mod_eq_of_lt h'] at hd; omega
      · rw [Nat.mod_eq_sub_mod h', Nat.mod_eq_of_lt (by omega)] at hd; omega
    obtain ⟨f, rfl⟩ : ∃ g, f = g + 1 := ⟨f - 1, by omega⟩
    unfold spin
    split
    · rename_i p hp
      split
      · have hm2 : ((pl.set h { p with marked := false })[e]?).any (·.marked) = true := by rw [get_set hp, if_neg hne]; exact hm
        by_cases h0 : d = 0
        · subst h0
          have hhe : (h + 1) % pl.length = e := by rw [hl]; exact hd
          rw [hhe]
          obtain ⟨g, rfl⟩ : ∃ g, f = g + 1 := ⟨f - 1, by omega⟩
          unfold spin
          split
          · rename_i q hq
            have hqm : q.marked = true := by rw [hq] at hm2; simpa using hm2
            rw [if_pos hqm]
            have := spin_after n e g 0 ((pl.set h { p with marked := false }).set e { q with marked := false }) (by simpa using hl) (by omega) he
            simpa [hl] using this
          · rename_i hq
            rw [hq] at hm2; cases hm2
        · exact ih f (pl.set h { p with marked := false }) ((h + 1) % pl.length) (by simpa using hl) (by rw [hl]; exact Nat.mod_lt _ (by omega)) (by rw [hl, Nat.mod_add_mod]; rw [← hd]; congr 1; omega) (by omega) (by omega) (by omega) (by omega) hm2
      · exact hne
    · exact hne

theorem isFull_set {pl : List Pl} {i : Nat} {p : Pl} (hp : pl[i]? = some p) (q : Pl) (j : Nat) : isFull (pl.set i q) j = if i = j then q.full else isFull pl j := by
  unfold isFull
  rw [get_set hp]
  split <;> rfl

def Small (pl : List Pl) : Prop := ∀ (i : Nat) (p : Pl), pl[i]? = some p → p.full = true → -100 < p.key ∧ p.key < 100

/-- What holds between two rounds: all places from m on are empty and the hand stands at the first; or just one place is empty, and the hand stands at another. -/
def Inv (pl : List Pl) (hand : Nat) : Prop :=
  (∃ m, m < pl.length ∧ hand = 0 ∧ ∀ i, i < pl.length → (isFull pl i = true ↔ i < m)) ∨ (∃ v, v < pl.length ∧ hand ≠ v ∧ ∀ i, i < pl.length → (isFull pl i = true ↔ i ≠ v))

theorem Inv.same {pl pl' : List Pl} {hand : Nat} (h : Inv pl hand) (hl : pl'.length = pl.length) (hf : ∀ i, isFull pl' i = isFull pl i) : Inv pl' hand := by
  unfold Inv at *
  simp only [hl, hf]
  exact h

theorem Inv.empty {pl : List Pl} {hand : Nat} (h : Inv pl hand) : ∃ e p, empty pl = some e ∧ pl[e]? = some p ∧ p.full = false := by
  obtain ⟨e, he⟩ : ∃ e, Clk.empty pl = some e := by
    cases hE : Clk.empty pl with
    | some e => exact ⟨e, rfl⟩
    | none =>
      exfalso
      have all : ∀ i, i < pl.length → isFull pl i = true := fun i hi => by
        have := full_of_empty hE (List.getElem?_eq_getElem hi)
        simp [isFull, hi, this]
      rcases h with ⟨m, hm, _, h⟩ | ⟨v, hv, _, h⟩
      · have := (h m hm).1 (all m hm); omega
      · exact (h v hv).1 (all v hv) rfl
  have he' := he
  rw [Clk.empty, List.findIdx?_eq_some_iff_getElem] at he'
  obtain ⟨hi, h1, _⟩ := he'
  exact ⟨e, pl[e], he, by simp, by simpa using h1⟩

theorem find_small {pl : List Pl} (hs : Small pl) {k : Int} (hk : 100 ≤ k) : find pl k = none := by
  cases h : find pl k with
  | none => rfl
  | some i => obtain ⟨p, hp, hf, he⟩ := find_some h; have := hs i p hp hf; omega

structure Step (pl : List Pl) (hand : Nat) (k1 : Int) (M2 : Put) (D : List Pl) : Prop where
  gone : ∀ g, M2.gone = some g → g.key ≠ k1
  inv : Inv D M2.hand
  small : Small D

theorem step {pl : List Pl} {hand : Nat} (hn : Nd pl) (hh : hand < pl.length) (h2 : 2 ≤ pl.length) (hI : Inv pl hand) (hS : Small pl) {k1 k2 : Int} (hk1 : -100 < k1 ∧ k1 < 100) (hk2 : 100 ≤ k2) (v1 v2 z : Value) :
    Step pl hand k1 (putM (putM pl hand k1 v1).pl (putM pl hand k1 v1).hand k2 v2) (dropM z (putM (putM pl hand k1 v1).pl (putM pl hand k1 v1).hand k2 v2).pl k2) := by
  have sml : ∀ (l : List Pl) (i : Nat) (p q : Pl), Small l → l[i]? = some p → (q.full = true → -100 < q.key ∧ q.key < 100) → Small (l.set i q) := by
    intro l i p q hs hp hq j r hr hf
    rw [get_set hp] at hr
    split at hr
    · cases hr; exact hq hf
    · exact hs j r hr hf
  -- a put at a place e that is empty, of a number that is not there, and its dropping
  have fill : ∀ (l : List Pl) (e : Nat) (p : Pl), Small l → Nd l → l[e]? = some p → p.full = false → dropM z (l.set e ⟨k2, v2, true, true⟩) k2 = l.set e (Pl.none z) := by
    intro l e p hs hnl hp hf
    have hq : (⟨k2, v2, true, true⟩ : Pl).full = true → (p.full = true ∧ (⟨k2, v2, true, true⟩ : Pl).key = p.key) ∨ find l (⟨k2, v2, true, true⟩ : Pl).key = none := fun _ => .inr (find_small hs hk2)
    have : find (l.set e ⟨k2, v2, true, true⟩) k2 = some e := by rw [find_set hnl hp ⟨k2, v2, true, true⟩ hq]; simp
    rw [dropM, this]
    simp
  have hdid := did hn hh k1 v1
  cases hf : find pl k1 with
  | some i =>
    obtain ⟨p, hp, hfu, hk⟩ := find_some hf
    have e1 : putM pl hand k1 v1 = ⟨pl.set i ⟨k1, v1, true, true⟩, hand, none⟩ := by simp [putM, hf]
    rw [e1] at hdid
    obtain ⟨e, q, he, hq, hqf⟩ := hI.empty
    have hie : i ≠ e := by rintro rfl; rw [hp] at hq; cases hq; rw [hfu] at hqf; cases hqf
    have hS1 : Small (pl.set i ⟨k1, v1, true, true⟩) := sml _ _ _ _ hS hp (fun _ => hk1)
    have hF1 : ∀ j, isFull (pl.set i ⟨k1, v1, true, true⟩) j = isFull pl j := fun j => by
      rw [isFull_set hp]; split
      · rename_i h; subst h; simp [isFull, hp, hfu]
      · rfl
    have hI1 : Inv (pl.set i ⟨k1, v1, true, true⟩) hand := hI.same (by simp) hF1
    obtain ⟨e', q', he', hq', hqf'⟩ := hI1.empty
    have e2 : putM (pl.set i ⟨k1, v1, true, true⟩) hand k2 v2 = ⟨(pl.set i ⟨k1, v1, true, true⟩).set e' ⟨k2, v2, true, true⟩, hand, none⟩ := by simp [putM, find_small hS1 hk2, he']
    rw [e1]
    simp only
    rw [e2]
    simp only
    rw [fill _ _ _ hS1 hdid.nd hq' hqf']
    refine ⟨fun g hg => (by cases hg), hI1.same (by simp) (fun j => ?_), sml _ _ _ (Pl.none z) hS1 hq' (fun h => (by cases h))⟩
    rw [isFull_set hq']; split
    · rename_i h; subst h; simp [isFull, hq', hqf', Pl.none]
    · rfl
  | none =>
    obtain ⟨e, q, he, hq, hqf⟩ := hI.empty
    have e1 : putM pl hand k1 v1 = ⟨pl.set e ⟨k1, v1, true, true⟩, hand, none⟩ := by simp [putM, hf, he]
    rw [e1] at hdid
    have hel := (List.getElem?_eq_some_iff.1 hq).1
    have hS1 : Small (pl.set e ⟨k1, v1, true, true⟩) := sml _ _ _ _ hS hq (fun _ => hk1)
    have hF1 : ∀ j, isFull (pl.set e ⟨k1, v1, true, true⟩) j = if e = j then true else isFull pl j := fun j => by rw [isFull_set hq]
    have hE : isFull pl e = false := by simp [isFull, hq, hqf]
    rw [e1]
    simp only
    cases he2 : empty (pl.set e ⟨k1, v1, true, true⟩) with
    | some e' =>
      obtain ⟨q', hq', hqf'⟩ : ∃ q', (pl.set e ⟨k1, v1, true, true⟩)[e']? = some q' ∧ q'.full = false := by
        have h' := he2
        rw [empty, List.findIdx?_eq_some_iff_getElem] at h'
        obtain ⟨hi, h1, _⟩ := h'
        exact ⟨_, List.getElem?_eq_getElem hi, by simpa using h1⟩
      have e2 : putM (pl.set e ⟨k1, v1, true, true⟩) hand k2 v2 = ⟨(pl.set e ⟨k1, v1, true, true⟩).set e' ⟨k2, v2, true, true⟩, hand, none⟩ := by simp [putM, find_small hS1 hk2, he2]
      rw [e2]
      simp only
      rw [fill _ _ _ hS1 hdid.nd hq' hqf']
      have hel' : e' < pl.length := by simpa using (List.getElem?_eq_some_iff.1 hq').1
      have hE' : isFull (pl.set e ⟨k1, v1, true, true⟩) e' = false := by simp [isFull, hq', hqf']
      have hF2 : ∀ j, isFull ((pl.set e ⟨k1, v1, true, true⟩).set e' (Pl.none z)) j = if e = j then true else isFull pl j := fun j => by
        rw [isFull_set hq', hF1]
        split
        · rename_i h; subst h
          rw [hF1] at hE'
          split at hE'
          · cases hE'
          · rename_i h; rw [if_neg h, hE']; rfl
        · rfl
      refine ⟨fun g hg => (by cases hg), .inl ?_, sml _ _ _ (Pl.none z) hS1 hq' (fun h => (by cases h))⟩
      have hne : e ≠ e' := by rintro rfl; rw [hF1, if_pos rfl] at hE'; cases hE'
      rw [hF1, if_neg hne] at hE'
      rcases hI with ⟨m, hm, h0, h⟩ | ⟨v, hv, _, h⟩
      · have a1 : ¬ e < m := fun h' => by rw [(h e hel).2 h'] at hE; cases hE
        have a2 : ¬ e' < m := fun h' => by rw [(h e' hel').2 h'] at hE'; cases hE'
        have a3 : e = m := by
          rcases Nat.lt_or_ge m e with h' | h'
          · exfalso
            have h'' := he
            rw [empty, List.findIdx?_eq_some_iff_getElem] at h''
            obtain ⟨_, _, h3⟩ := h''
            have h4 := h3 m h'
            have h5 : isFull pl m = true := by simpa [isFull, hm] using h4
            have := (h m hm).1 h5; omega
          · omega
        refine ⟨m + 1, by simp; omega, h0, fun i hi => ?_⟩
        rw [hF2]
        simp only [List.length_set] at hi
        split
        · simp; omega
        · rw [h i hi]; omega
      · exfalso
        have b1 : e = v := by
          rcases Decidable.em (e = v) with h' | h'
          · exact h'
          · rw [(h e hel).2 h'] at hE; cases hE
        have b2 : e' = v := by
          rcases Decidable.em (e' = v) with h' | h'
          · exact h'
          · rw [(h e' hel').2 h'] at hE'; cases hE'
        exact hne (b1.trans b2.symm)
    | none =>
      have hfull : ∀ i, i < pl.length → isFull (pl.set e ⟨k1, v1, true, true⟩) i = true := fun i hi => by
        have := full_of_empty he2 (List.getElem?_eq_getElem (show i < (pl.set e ⟨k1, v1, true, true⟩).length by simpa using hi))
        unfold isFull
        rw [List.getElem?_eq_getElem (show i < (pl.set e ⟨k1, v1, true, true⟩).length by simpa using hi)]
        exact this
      have hhe : hand ≠ e := by
        rcases hI with ⟨m, hm, h0, h⟩ | ⟨v, hv, hne, h⟩
        · rintro rfl
          have h1 := hfull 1 (by omega)
          rw [hF1, if_neg (by omega)] at h1
          have := (h 1 (by omega)).1 h1
          have h4 := (h hand hel).2 (by omega)
          rw [hE] at h4; cases h4
        · rintro rfl
          rw [(h hand hel).2 hne] at hE; cases hE
      have e2 := putM_full (hand := hand) (v := v2) (find_small hS1 hk2) he2
      have hlen : (pl.set e ⟨k1, v1, true, true⟩).length = pl.length := by simp
      have hvic : (spin (pl.set e ⟨k1, v1, true, true⟩).length (pl.set e ⟨k1, v1, true, true⟩) hand).2 ≠ e := by
        rcases Nat.lt_or_ge hand e with h' | h'
        · exact spin_ne pl.length e hel h2 (e - hand) _ _ hand hlen hh (by rw [Nat.mod_eq_of_lt (by omega)]; omega) (by omega) (by omega) (by rw [hlen]; omega) (by rw [hlen]; omega) (by rw [get_set hq, if_pos rfl]; rfl)
        · exact spin_ne pl.length e hel h2 (e + pl.length - hand) _ _ hand hlen hh (by rw [show hand + (e + pl.length - hand) = e + pl.length by omega, Nat.add_mod_right, Nat.mod_eq_of_lt hel]) (by omega) (by omega) (by rw [hlen]; omega) (by rw [hlen]; omega) (by rw [get_set hq, if_pos rfl]; rfl)
      have hsl := spin_len (pl.set e ⟨k1, v1, true, true⟩).length (pl.set e ⟨k1, v1, true, true⟩) hand
      have hlt := spin_lt (pl.set e ⟨k1, v1, true, true⟩).length (pl.set e ⟨k1, v1, true, true⟩) hand (by rw [hlen]; exact hh)
      have hget : ∀ j, ((spin (pl.set e ⟨k1, v1, true, true⟩).length (pl.set e ⟨k1, v1, true, true⟩) hand).1[j]?).map Pl.unmark = ((pl.set e ⟨k1, v1, true, true⟩)[j]?).map Pl.unmark := fun j => spin_get j
      have hfin : ∀ k, find (spin (pl.set e ⟨k1, v1, true, true⟩).length (pl.set e ⟨k1, v1, true, true⟩) hand).1 k = find (pl.set e ⟨k1, v1, true, true⟩) k := fun k => spin_find _ _ _ k
      rw [e2]
      simp only
      generalize spin (pl.set e ⟨k1, v1, true, true⟩).length (pl.set e ⟨k1, v1, true, true⟩) hand = s at *
      rw [hlen] at hsl hlt
      have hsF : ∀ j, isFull s.1 j = isFull (pl.set e ⟨k1, v1, true, true⟩) j := fun j => by
        have := hget j
        unfold isFull
        cases h1 : s.1[j]? <;> cases h3 : (pl.set e ⟨k1, v1, true, true⟩)[j]? <;> rw [h1, h3] at this <;> simp [Pl.unmark] at this ⊢
        exact this.2.2
      have hS2 : Small s.1 := fun i p hp hpf => by
        have := hget i
        rw [hp] at this
        cases h3 : (pl.set e ⟨k1, v1, true, true⟩)[i]? with
        | none => rw [h3] at this; cases this
        | some r => rw [h3] at this; simp [Pl.unmark] at this; have := hS1 i r h3 (by rw [← this.2.2, hpf]); omega
      have hN2 : Nd s.1 := by
        intro a b x y hx hy hxf hyf hk
        have gx := hget a
        have gy := hget b
        rw [hx] at gx
        rw [hy] at gy
        cases hxa : (pl.set e ⟨k1, v1, true, true⟩)[a]? with
        | none => rw [hxa] at gx; cases gx
        | some x' =>
          cases hyb : (pl.set e ⟨k1, v1, true, true⟩)[b]? with
          | none => rw [hyb] at gy; cases gy
          | some y' =>
            rw [hxa] at gx
            rw [hyb] at gy
            simp only [Option.map_some, Option.some.injEq, Pl.unmark, Pl.mk.injEq] at gx gy
            exact hdid.nd a b x' y' hxa hyb (by rw [← gx.2.2.1, hxf]) (by rw [← gy.2.2.1, hyf]) (by rw [← gx.1, ← gy.1, hk])
      obtain ⟨p, hp⟩ : ∃ p, s.1[s.2]? = some p := ⟨_, List.getElem?_eq_getElem (by omega)⟩
      have hpf : p.full = true := by
        have := hsF s.2
        rw [hfull s.2 hlt] at this
        simpa [isFull, hp] using this
      have hqq : (⟨k2, v2, true, true⟩ : Pl).full = true → (p.full = true ∧ (⟨k2, v2, true, true⟩ : Pl).key = p.key) ∨ find s.1 (⟨k2, v2, true, true⟩ : Pl).key = none := fun _ => .inr (find_small hS2 hk2)
      have hfd : find (s.1.set s.2 ⟨k2, v2, true, true⟩) k2 = some s.2 := by rw [find_set hN2 hp ⟨k2, v2, true, true⟩ hqq]; simp
      have hdr : dropM z (s.1.set s.2 ⟨k2, v2, true, true⟩) k2 = s.1.set s.2 (Pl.none z) := by rw [dropM, hfd]; simp
      rw [hdr]
      refine ⟨fun g hg => ?_, .inr ⟨s.2, by simp; omega, ?_, fun i hi => ?_⟩, sml _ _ _ (Pl.none z) hS2 hp (fun h => (by cases h))⟩
      · rw [hp] at hg
        cases hg
        intro hk
        have f1 : find s.1 k1 = some s.2 := (find_iff hN2 _ _).2 ⟨p, hp, hpf, hk⟩
        rw [hfin] at f1
        have f2 : find (pl.set e ⟨k1, v1, true, true⟩) k1 = some e := (find_iff hdid.nd _ _).2 ⟨_, by rw [get_set hq, if_pos rfl], rfl, rfl⟩
        rw [f2] at f1
        exact hvic (Option.some.inj f1).symm
      · show (s.2 + 1) % _ ≠ s.2
        rw [hlen]
        intro hmod
        rcases Nat.lt_or_ge (s.2 + 1) pl.length with h' | h'
        · rw [Nat.mod_eq_of_lt h'] at hmod; omega
        · rw [show s.2 + 1 = pl.length by omega, Nat.mod_self] at hmod; omega
      · simp only [List.length_set, hsl] at hi
        rw [isFull_set hp, hsF]
        split
        · rename_i h; subst h; simp [Pl.none]
        · rename_i h; rw [hfull i hi]; simp; exact fun h' => h h'.symm
end Go.Sg.Clk
