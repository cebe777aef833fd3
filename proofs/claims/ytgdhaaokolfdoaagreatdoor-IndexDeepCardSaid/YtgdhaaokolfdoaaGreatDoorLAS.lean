/- A pack of texts: HA, SYN, SYC, APX. Conditions: those that each text names. -/
import Derived.Test.YtgdhaaokolfdoaaGreatDoorLAM
import Derived.Test.YtgdhaaokolfdoaaGreatDoorLAN
import Derived.Test.YtgdhaaokolfdoaaGreatDoorLAQ
import Derived.Deep.RegionLaw
set_option linter.unusedVariables false
set_option linter.unusedSimpArgs false
set_option linter.unnecessarySimpa false
namespace Go.Sg
open Go.RowKit
structure CrashOf (D D' : Dev) : Prop where
  sectors : D'.sectors = D.sectors
  size : D'.size = D.size
  acts : D'.acts = D.acts
  loose : D'.loose = []
  armed : D'.armed = 0
  down : D'.down = false
  fast : ∀ k, (∀ y ∈ D.loose, y.1 ≠ k) → D'.fast k = D.fast k
  byt : ((∀ y ∈ D.loose, ∀ x ∈ y.2, 0 ≤ x ∧ x < 256) ∧ ∀ k bs, D.fast k = some bs → ∀ x ∈ bs, 0 ≤ x ∧ x < 256) → ∀ k bs, D'.fast k = some bs → ∀ x ∈ bs, 0 ≤ x ∧ x < 256
end Go.Sg
namespace Go.Proofs.YtgdhaaokolfdoaaGreatDoor
open Go.RowKit Go.Sg Go.Sg.Bits Go.Sg.Clk CP SF
end Go.Proofs.YtgdhaaokolfdoaaGreatDoor

namespace Go.Proofs.YtgdhaaokolfdoaaGreatDoor
open Go.RowKit Go.Sg
end Go.Proofs.YtgdhaaokolfdoaaGreatDoor

namespace Go.Proofs.YtgdhaaokolfdoaaGreatDoor
open Go.RowKit Go.Sg Go.Sg.Bits Go.Sg.Clk CP SF
end Go.Proofs.YtgdhaaokolfdoaaGreatDoor

namespace Go.Proofs.YtgdhaaokolfdoaaGreatDoor
open Go.RowKit Go.Sg
theorem own_mono {w : World} {b b' e size n : Nat} {v : Value} {xs : List Value} (h : w.ownsRow b e size v n xs) (hb : b' ≤ b) : w.ownsRow b' e size v n xs := by
  obtain ⟨hl, h0 | ⟨g, cap, cur, hv, hg, r⟩⟩ := h
  · exact ⟨hl, .inl h0⟩
  · exact ⟨hl, .inr ⟨g, cap, cur, hv, Nat.le_trans hb hg, r⟩⟩
theorem sli_of_own {w : World} {b n c : Nat} {a : Option Addr} {l : List Int} (h : w.ownsRow b 3 1 (.slice a n c) n (l.map (Value.int .i64))) (hl : l.length = n) : SlI w a n c l := by
  subst hl
  obtain ⟨a', c', e, -, -, hnil, -⟩ := own_slice h
  cases e
  refine ⟨rfl, fun i k hk => ?_, hnil⟩
  obtain ⟨g, e', hg, h1⟩ := own_cell h (j := i) (u := .int .i64 k) (by rw [List.getElem?_map, hk]; rfl)
  exact ⟨g, 0, e', hg, by rw [Nat.zero_add]; exact h1⟩
end Go.Proofs.YtgdhaaokolfdoaaGreatDoor
namespace Go.Sg
structure Bt where
  hash : Nat
  rg : Int
  at_ : Int
  sz : Int
  deriving DecidableEq
inductive Tr where
  | leaf (r : Int × Int) (es : List Bt)
  | node (l r : Tr)
namespace Tr
def high : Tr → Nat
  | leaf _ _ => 0
  | node l r => max l.high r.high + 1
def slots : Tr → Nat → List (Int × Int)
  | leaf r _, g => List.replicate (2 ^ g) r
  | node l r, g => l.slots (g - 1) ++ r.slots (g - 1)
def refs : Tr → List (Int × Int)
  | leaf r _ => [r]
  | node l r => l.refs ++ r.refs
def at_ : Tr → Nat → Nat → Nat → Nat → Nat × Nat × (Int × Int) × List Bt
  | leaf r es, _, _, d, p => (d, p, r, es)
  | node l r, g, k, d, p => if k < 2 ^ (g - 1) then l.at_ (g - 1) k (d + 1) (2 * p) else r.at_ (g - 1) (k - 2 ^ (g - 1)) (d + 1) (2 * p + 1)
def put : Tr → Nat → Nat → ((Int × Int) → List Bt → Tr) → Tr
  | leaf r es, _, _, f => f r es
  | node l r, g, k, f => if k < 2 ^ (g - 1) then node (l.put (g - 1) k f) r else node l (r.put (g - 1) (k - 2 ^ (g - 1)) f)
theorem slots_len : ∀ (t : Tr) (g : Nat), t.high ≤ g → (t.slots g).length = 2 ^ g
  | leaf _ _, g, _ => by simp [slots]
  | node l r, g, h => by
    simp only [high] at h
    rw [slots, List.length_append, slots_len l (g - 1) (by omega), slots_len r (g - 1) (by omega)]
    obtain ⟨k, rfl⟩ : ∃ k, g = k + 1 := ⟨g - 1, by omega⟩
    simp only [Nat.add_sub_cancel, Nat.pow_succ]; omega
theorem two_pow {g : Nat} (h : 1 ≤ g) : 2 ^ g = 2 ^ (g - 1) + 2 ^ (g - 1) := by
  obtain ⟨k, rfl⟩ : ∃ k, g = k + 1 := ⟨g - 1, by omega⟩
  simp only [Nat.add_sub_cancel, Nat.pow_succ]; omega
theorem slots_at : ∀ (t : Tr) (g k d p : Nat), t.high ≤ g → k < 2 ^ g → (t.slots g)[k]? = some (t.at_ g k d p).2.2.1
  | leaf r es, g, k, d, p, _, hk => by
    simp only [slots, at_]
    rw [List.getElem?_replicate, if_pos hk]
  | node l r, g, k, d, p, h, hk => by
    simp only [high] at h
    have h2 := two_pow (g := g) (by omega)
    have hl := slots_len l (g - 1) (by omega)
    simp only [slots, at_]
    by_cases hlt : k < 2 ^ (g - 1)
    · rw [if_pos hlt, List.getElem?_append_left (by rw [hl]; exact hlt)]
      exact slots_at l (g - 1) k _ _ (by omega) hlt
    · rw [if_neg hlt, List.getElem?_append_right (by rw [hl]; omega), hl]
      exact slots_at r (g - 1) _ _ _ (by omega) (by omega)
theorem at_depth : ∀ (t : Tr) (g k d p : Nat), (t.at_ g k d p).1 ≤ d + t.high
  | leaf _ _, _, _, d, _ => by simp [at_, high]
  | node l r, g, k, d, p => by
    simp only [at_, high]
    split
    · have := at_depth l (g - 1) k (d + 1) (2 * p); omega
    · have := at_depth r (g - 1) (k - 2 ^ (g - 1)) (d + 1) (2 * p + 1); omega
theorem at_ge : ∀ (t : Tr) (g k d p : Nat), d ≤ (t.at_ g k d p).1
  | leaf _ _, _, _, d, _ => by simp [at_]
  | node l r, g, k, d, p => by
    simp only [at_]
    split
    · have := at_ge l (g - 1) k (d + 1) (2 * p); omega
    · have := at_ge r (g - 1) (k - 2 ^ (g - 1)) (d + 1) (2 * p + 1); omega
theorem at_pre : ∀ (t : Tr) (g k d p : Nat), t.high ≤ g → k < 2 ^ g → (t.at_ g k d p).2.1 = (p * 2 ^ g + k) / 2 ^ (d + g - (t.at_ g k d p).1)
  | leaf _ _, g, k, d, p, _, hk => by
    simp only [at_]
    rw [show d + g - d = g by omega, Nat.mul_comm, Nat.mul_add_div (Nat.pow_pos (by decide)), Nat.div_eq_of_lt hk]; omega
  | node l r, g, k, d, p, h, hk => by
    simp only [high] at h
    have h2 := two_pow (g := g) (by omega)
    simp only [at_]
    by_cases hlt : k < 2 ^ (g - 1)
    · rw [if_pos hlt]
      have := at_pre l (g - 1) k (d + 1) (2 * p) (by omega) hlt
      rw [this, show d + 1 + (g - 1) = d + g by omega]
      congr 1
      rw [h2, Nat.mul_add, Nat.mul_comm 2 p, Nat.mul_assoc, Nat.two_mul, Nat.mul_add]
    · rw [if_neg hlt]
      have := at_pre r (g - 1) (k - 2 ^ (g - 1)) (d + 1) (2 * p + 1) (by omega) (by omega)
      rw [this, show d + 1 + (g - 1) = d + g by omega]
      congr 1
      rw [h2, Nat.add_mul, Nat.mul_add, Nat.mul_comm 2 p, Nat.mul_assoc, Nat.two_mul, Nat.mul_add]
      omega
theorem slots_dbl : ∀ (t : Tr) (g : Nat), t.high ≤ g → t.slots (g + 1) = (t.slots g).flatMap fun r => [r, r]
  | leaf r _, g, _ => by
    simp only [slots]
    rw [Nat.pow_succ]
    generalize 2 ^ g = n
    induction n with
    | zero => rfl
    | succ n ih => rw [List.replicate_succ, List.flatMap_cons, ← ih, show (n + 1) * 2 = n * 2 + 1 + 1 by omega]; rfl
  | node l r, g, h => by
    simp only [high] at h
    obtain ⟨k, rfl⟩ : ∃ k, g = k + 1 := ⟨g - 1, by omega⟩
    simp only [slots, Nat.add_sub_cancel, List.flatMap_append]
    rw [slots_dbl l k (by omega), slots_dbl r k (by omega)]
end Tr
end Go.Sg
namespace Go.Sg
namespace Tr
def lo : Tr → Nat → Nat → Nat
  | leaf _ _, _, _ => 0
  | node l r, g, k => if k < 2 ^ (g - 1) then l.lo (g - 1) k else 2 ^ (g - 1) + r.lo (g - 1) (k - 2 ^ (g - 1))
def wd : Tr → Nat → Nat → Nat
  | leaf _ _, g, _ => g
  | node l r, g, k => if k < 2 ^ (g - 1) then l.wd (g - 1) k else r.wd (g - 1) (k - 2 ^ (g - 1))
theorem wd_depth : ∀ (t : Tr) (g k d p : Nat), t.high ≤ g → (t.at_ g k d p).1 + t.wd g k = d + g
  | leaf _ _, g, _, d, _, _ => rfl
  | node l r, g, k, d, p, h => by
    simp only [high] at h
    simp only [at_, wd]
    split
    · have := wd_depth l (g - 1) k (d + 1) (2 * p) (by omega); omega
    · have := wd_depth r (g - 1) (k - 2 ^ (g - 1)) (d + 1) (2 * p + 1) (by omega); omega
theorem lo_pre : ∀ (t : Tr) (g k d p : Nat), t.high ≤ g → p * 2 ^ g + t.lo g k = (t.at_ g k d p).2.1 * 2 ^ t.wd g k
  | leaf _ _, g, _, d, p, _ => by simp [at_, lo, wd]
  | node l r, g, k, d, p, h => by
    simp only [high] at h
    have h2 := two_pow (g := g) (by omega)
    simp only [at_, wd, lo]
    split
    · have := lo_pre l (g - 1) k (d + 1) (2 * p) (by omega)
      rw [← this, h2, Nat.mul_add, Nat.mul_comm 2 p, Nat.mul_assoc, Nat.two_mul, Nat.mul_add]
    · have := lo_pre r (g - 1) (k - 2 ^ (g - 1)) (d + 1) (2 * p + 1) (by omega)
      rw [← this, h2, Nat.add_mul, Nat.mul_add, Nat.mul_comm 2 p, Nat.mul_assoc, Nat.two_mul, Nat.mul_add]
      omega
theorem lo_le : ∀ (t : Tr) (g k : Nat), t.high ≤ g → k < 2 ^ g → t.lo g k ≤ k ∧ k < t.lo g k + 2 ^ t.wd g k ∧ t.lo g k + 2 ^ t.wd g k ≤ 2 ^ g
  | leaf _ _, g, k, _, hk => by simp [lo, wd]; exact hk
  | node l r, g, k, h, hk => by
    simp only [high] at h
    have h2 := two_pow (g := g) (by omega)
    simp only [lo, wd]
    split
    · have := lo_le l (g - 1) k (by omega) (by assumption); omega
    · have := lo_le r (g - 1) (k - 2 ^ (g - 1)) (by omega) (by omega); omega
theorem slots_put (f : (Int × Int) → List Bt → Tr) : ∀ (t : Tr) (g k : Nat), t.high ≤ g → k < 2 ^ g →
    (t.put g k f).slots g = (t.slots g).take (t.lo g k) ++ (f (t.at_ g k 0 0).2.2.1 (t.at_ g k 0 0).2.2.2).slots (t.wd g k) ++ (t.slots g).drop (t.lo g k + 2 ^ t.wd g k) := by
  suffices H : ∀ (t : Tr) (g k d p : Nat), t.high ≤ g → k < 2 ^ g →
      (t.put g k f).slots g = (t.slots g).take (t.lo g k) ++ (f (t.at_ g k d p).2.2.1 (t.at_ g k d p).2.2.2).slots (t.wd g k) ++ (t.slots g).drop (t.lo g k + 2 ^ t.wd g k) from fun t g k => H t g k 0 0
  intro t
  induction t with
  | leaf r es =>
    intro g k d p _ hk
    simp only [put, slots, lo, wd, at_, List.take_zero, List.nil_append]
    rw [List.drop_eq_nil_of_le (by simp), List.append_nil]
  | node l r ihl ihr =>
    intro g k d p h hk
    simp only [high] at h
    have h2 := two_pow (g := g) (by omega)
    have hl := slots_len l (g - 1) (by omega)
    simp only [put, slots, lo, wd, at_]
    by_cases hlt : k < 2 ^ (g - 1)
    · have hle := lo_le l (g - 1) k (by omega) hlt
      rw [if_pos hlt, if_pos hlt, if_pos hlt, if_pos hlt]
      simp only [slots]
      rw [ihl (g - 1) k (d + 1) (2 * p) (by omega) hlt, List.take_append_of_le_length (by omega), List.drop_append_of_le_length (by omega)]
      simp only [List.append_assoc]
    · have hle := lo_le r (g - 1) (k - 2 ^ (g - 1)) (by omega) (by omega)
      rw [if_neg hlt, if_neg hlt, if_neg hlt, if_neg hlt]
      simp only [slots]
      rw [ihr (g - 1) (k - 2 ^ (g - 1)) (d + 1) (2 * p + 1) (by omega) (by omega), ← hl, List.take_length_add_append, Nat.add_assoc, List.drop_length_add_append]
      simp only [List.append_assoc]
theorem slots_own : ∀ (t : Tr) (g k j : Nat), t.high ≤ g → k < 2 ^ g → t.lo g k ≤ j → j < t.lo g k + 2 ^ t.wd g k → t.at_ g j 0 0 = t.at_ g k 0 0 := by
  suffices H : ∀ (t : Tr) (g k j d p : Nat), t.high ≤ g → k < 2 ^ g → t.lo g k ≤ j → j < t.lo g k + 2 ^ t.wd g k → t.at_ g j d p = t.at_ g k d p from fun t g k j => H t g k j 0 0
  intro t
  induction t with
  | leaf r es => intros; rfl
  | node l r ihl ihr =>
    intro g k j d p h hk h1 h2'
    simp only [high] at h
    have h2 := two_pow (g := g) (by omega)
    simp only [lo, wd] at h1 h2'
    simp only [at_]
    by_cases hlt : k < 2 ^ (g - 1)
    · rw [if_pos hlt] at h1
      rw [if_pos hlt, if_pos hlt] at h2'
      have hle := lo_le l (g - 1) k (by omega) hlt
      rw [if_pos hlt, if_pos (by omega)]
      exact ihl (g - 1) k j _ _ (by omega) hlt h1 h2'
    · rw [if_neg hlt] at h1
      rw [if_neg hlt, if_neg hlt] at h2'
      have hle := lo_le r (g - 1) (k - 2 ^ (g - 1)) (by omega) (by omega)
      rw [if_neg hlt, if_neg (by omega)]
      exact ihr (g - 1) _ _ _ _ (by omega) (by omega) (by omega) (by omega)
end Tr
end Go.Sg

namespace Go.Proofs.YtgdhaaokolfdoaaGreatDoor
open Go.RowKit Go.Sg CP SF
abbrev btC (e : Bt) : List Value := [.int .u64 e.hash, .int .i64 e.rg, .int .i64 e.at_, .int .i64 e.sz]
abbrev btV (e : Bt) : Value := .agg #[.int .u64 e.hash, .int .i64 e.rg, .int .i64 e.at_, .int .i64 e.sz]
abbrev bkV (d p : Int) (v : Value) : Value := .agg #[.int .i64 d, .int .i64 p, v]
abbrev OwnE (w : World) (base : Nat) (v : Value) (es : List Bt) : Prop := w.ownsRow base 118 4 v es.length (es.flatMap btC)
theorem btC_len (l : List Bt) : (l.flatMap btC).length = l.length * 4 := by
  induction l with
  | nil => rfl
  | cons x l ih => simp only [List.flatMap_cons, List.length_append, ih, List.length_cons]; simp; omega
theorem btC_at (l : List Bt) : ∀ (i : Nat) (x : Bt), l[i]? = some x → (l.flatMap btC)[i * 4]? = some (.int .u64 x.hash) ∧ (l.flatMap btC)[i * 4 + 1]? = some (.int .i64 x.rg) ∧ (l.flatMap btC)[i * 4 + 2]? = some (.int .i64 x.at_) ∧ (l.flatMap btC)[i * 4 + 3]? = some (.int .i64 x.sz) := by
  induction l with
  | nil => intro i x h; simp at h
  | cons y l ih =>
    intro i x h
    cases i with
    | zero => simp at h; subst h; simp [btC]
    | succ i =>
      rw [List.getElem?_cons_succ] at h
      have := ih i x h
      rw [show (i + 1) * 4 = i * 4 + 4 by omega]
      simpa [List.flatMap_cons, btC] using this
theorem ownE_at {w : World} {base c : Nat} {a : Option Addr} {l : List Bt} (h : OwnE w base (.slice a l.length c) l) {k : Nat} {x : Bt} (hx : l[k]? = some x) :
    ∃ g, a = some ⟨g, 0, none⟩ ∧ g < w.heap.size ∧ w.cell? ⟨g, k * 4, none⟩ = some (.int .u64 x.hash) ∧ w.cell? ⟨g, k * 4 + 1, none⟩ = some (.int .i64 x.rg) ∧ w.cell? ⟨g, k * 4 + 2, none⟩ = some (.int .i64 x.at_) ∧ w.cell? ⟨g, k * 4 + 3, none⟩ = some (.int .i64 x.sz) := by
  obtain ⟨f0, f1, f2, f3⟩ := btC_at l k x hx
  obtain ⟨g, e, hg, h0⟩ := own_cell h f0
  obtain ⟨g1, e1, _, h1⟩ := own_cell h f1
  obtain ⟨g2, e2, _, h2⟩ := own_cell h f2
  obtain ⟨g3, e3, _, h3⟩ := own_cell h f3
  rw [e] at e1 e2 e3; cases e1; cases e2; cases e3
  exact ⟨g, e, hg, h0, h1, h2, h3⟩
def plI (es : List Bt) (h : Nat) : Nat := (es.takeWhile fun e => decide (e.hash < h)).length
def hasB (es : List Bt) (h : Nat) : Bool := es.any fun e => decide (e.hash = h)
def SortedB (es : List Bt) : Prop := es.Pairwise fun x y => x.hash < y.hash
theorem plI_le (es : List Bt) (h : Nat) : plI es h ≤ es.length := (List.takeWhile_prefix _).length_le
theorem plI_lt {es : List Bt} {h k : Nat} {x : Bt} (hs : SortedB es) (hx : es[k]? = some x) : k < plI es h ↔ x.hash < h := by
  induction es generalizing k with
  | nil => simp at hx
  | cons e es ih =>
    have hs' : SortedB es := (List.pairwise_cons.1 hs).2
    have h1 := (List.pairwise_cons.1 hs).1
    unfold plI
    rw [List.takeWhile_cons]
    cases k with
    | zero =>
      simp at hx; subst hx
      by_cases hh : e.hash < h
      · simp [hh]
      · simp [hh]
    | succ k =>
      rw [List.getElem?_cons_succ] at hx
      by_cases hh : e.hash < h
      · simp only [hh, decide_true, if_true, List.length_cons, Nat.add_lt_add_iff_right]
        exact ih hs' hx
      · have := h1 x (List.mem_of_getElem? hx)
        simp only [hh, decide_false, Bool.false_eq_true, if_false, List.length_nil, Nat.not_lt_zero, false_iff]
        omega
theorem plI_eq {es : List Bt} {h j : Nat} (hs : SortedB es) (hj : j ≤ es.length) (h1 : ∀ (k : Nat) (x : Bt), k < j → es[k]? = some x → x.hash < h) (h2 : ∀ (k : Nat) (x : Bt), j ≤ k → es[k]? = some x → ¬ x.hash < h) : plI es h = j := by
  have hle := plI_le es h
  rcases Nat.lt_trichotomy (plI es h) j with hlt | rfl | hlt
  · obtain ⟨x, hx⟩ : ∃ x, es[plI es h]? = some x := ⟨_, List.getElem?_eq_getElem (by omega)⟩
    have := (plI_lt hs hx).2 (h1 _ x hlt hx)
    omega
  · rfl
  · obtain ⟨x, hx⟩ : ∃ x, es[j]? = some x := ⟨_, List.getElem?_eq_getElem (by omega)⟩
    exact absurd ((plI_lt hs hx).1 hlt) (h2 j x (Nat.le_refl _) hx)
theorem hasB_iff {es : List Bt} {h : Nat} (hs : SortedB es) : hasB es h = true ↔ ∃ x, es[plI es h]? = some x ∧ x.hash = h := by
  unfold hasB
  rw [List.any_eq_true]
  constructor
  · rintro ⟨x, hx, he⟩
    simp at he
    obtain ⟨k, hk, hkx⟩ := List.getElem_of_mem hx
    have hx' : es[k]? = some x := by rw [List.getElem?_eq_getElem hk, hkx]
    have e : plI es h = k := plI_eq hs (by omega) (fun j y hj hy => by
      have := List.pairwise_iff_getElem.1 hs j k (by omega) hk hj
      rw [List.getElem?_eq_getElem (by omega)] at hy; cases hy
      rw [hkx] at this; omega) (fun j y hj hy => by
      rcases Nat.lt_or_ge k j with hlt | hge
      · have hjl := (List.getElem?_eq_some_iff.1 hy).1
        have := List.pairwise_iff_getElem.1 hs k j hk hjl hlt
        rw [List.getElem?_eq_getElem hjl] at hy; cases hy
        rw [hkx] at this; omega
      · obtain rfl : j = k := by omega
        rw [hx'] at hy; cases hy; omega)
    rw [e]; exact ⟨x, hx', he⟩
  · rintro ⟨x, hx, he⟩
    exact ⟨x, List.mem_of_getElem? hx, by simpa using he⟩
theorem sorted_lt {es : List Bt} (hs : SortedB es) {i j : Nat} {x y : Bt} (hx : es[i]? = some x) (hy : es[j]? = some y) (h : i < j) : x.hash < y.hash := by
  obtain ⟨h1, e1⟩ := List.getElem?_eq_some_iff.1 hx
  obtain ⟨h2, e2⟩ := List.getElem?_eq_some_iff.1 hy
  have := List.pairwise_iff_getElem.1 hs i j h1 h2 h
  rw [e1, e2] at this; exact this
def BoolP (b : Bool) (w : World) (e : Ending) (w' : World) : Prop := e = .returned (.bool b) ∧ w = w'
theorem within_b_ok (n m : Int) (w : World) : Calls Tryz.prog 241 #[.int .i64 n, .int .i64 m] w (BoolP (decide (0 ≤ n) && decide (n ≤ m)) w) := by
  by_cases h1 : 0 ≤ n
  · have d1 : decide ((0 : Int) ≤ n) = true := decide_eq_true h1
    by_cases h2 : n ≤ m
    · have d2 : decide (n ≤ m) = true := decide_eq_true h2
      rw [d1, d2]
      go_enter Tryz.func241, Tryz.ntmps241
      go_wp2_with fail
      go_ret
      exact ⟨rfl, rfl⟩
    · have d2 : decide (n ≤ m) = false := decide_eq_false h2
      rw [d1, d2]
      go_enter Tryz.func241, Tryz.ntmps241
      go_wp2_with fail
      go_ret
      exact ⟨rfl, rfl⟩
  · have d1 : decide ((0 : Int) ≤ n) = false := decide_eq_false h1
    rw [d1]
    go_enter Tryz.func241, Tryz.ntmps241
    go_wp2_with fail
    go_ret
    exact ⟨rfl, rfl⟩
theorem nan_u_ok (n : Nat) (w : World) : Calls Tryz.prog 277 #[.int .u64 n] w (BoolP false w) := by
  go_enter Tryz.func277, Tryz.ntmps277
  go_wp2_with fail
  go_ret
  exact ⟨rfl, rfl⟩
def cmpI (x y : Nat) : Int := if x < y then -1 else if y < x then 1 else 0
set_option maxHeartbeats 1000000 in
theorem cmp_u_ok (x y : Nat) (w : World) : Calls Tryz.prog 252 #[.int .u64 x, .int .u64 y] w (IntP (cmpI x y) w) := by
  have key : (decide (x < y) = true ∧ cmpI x y = -1) ∨ (decide (x < y) = false ∧ decide (y < x) = true ∧ cmpI x y = 1) ∨ (decide (x < y) = false ∧ decide (y < x) = false ∧ cmpI x y = 0) := by
    unfold cmpI
    by_cases h1 : x < y
    · left; rw [if_pos h1]; exact ⟨by simp; omega, rfl⟩
    · right
      by_cases h2 : y < x
      · left; rw [if_neg h1, if_pos h2]; exact ⟨by simp; omega, by simp; omega, rfl⟩
      · right; rw [if_neg h1, if_neg h2]; exact ⟨by simp; omega, by simp; omega, rfl⟩
  rcases key with ⟨d1, e⟩ | ⟨d1, d2, e⟩ | ⟨d1, d2, e⟩
  all_goals
    rw [e]
    clear e
    go_enter Tryz.func252, Tryz.ntmps252
    go_wp2_with fail
    refine (nan_u_ok x w).mono ?_
    rintro e _ ⟨rfl, rfl⟩
    go_wp2_with fail
    refine (nan_u_ok y w).mono ?_
    rintro e _ ⟨rfl, rfl⟩
    go_wp2_with fail
    go_ret
    exact ⟨rfl, rfl⟩
def ValP (v : Value) (w : World) (e : Ending) (w' : World) : Prop := e = .returned v ∧ Fr (fun _ => False) w w'
set_option maxHeartbeats 1000000 in
theorem cmp_e_ok (x : Bt) (h : Nat) (w : World) : Calls Tryz.prog 251 #[btV x, .int .u64 h] w (ValP (.int .i64 (cmpI x.hash h)) w) := by
  obtain ⟨w1, hw1⟩ : ∃ w1, w.alloc (.cells #[.int .u64 x.hash, .int .i64 x.rg, .int .i64 x.at_, .int .i64 x.sz] 118) = w1 := ⟨_, rfl⟩
  have b1 : w1.heap[w.heap.size]? = some (.cells #[.int .u64 x.hash, .int .i64 x.rg, .int .i64 x.at_, .int .i64 x.sz] 118) := by rw [← hw1]; exact heap_alloc_new _ _
  have HF := hid (show Fr (fun _ => False) w w1 by rw [← hw1]; exact (Fr.refl _ _).alloc _)
  have c0 : w1.cell? ⟨w.heap.size, 0, none⟩ = some (.int .u64 x.hash) := by simpa using cell_of_heap b1 0
  have HW := hid hw1
  clear hw1 b1
  go_enter Tryz.func251, Tryz.ntmps251
  go_upto_region 1 with fail
  rw [HW.out]
  go_wp2_with fail
  refine (cmp_u_ok x.hash h w1).mono ?_
  rintro e _ ⟨rfl, rfl⟩
  go_wp2_with fail
  go_ret
  exact ⟨rfl, HF.out⟩
def SearchP (es : List Bt) (h : Nat) (w : World) (e : Ending) (w' : World) : Prop := e = .returned (.tuple #[.int .i64 (plI es h), .bool (hasB es h)]) ∧ Fr (fun _ => False) w w'
theorem cmpI_lt {x y : Nat} : decide (cmpI x y < 0) = decide (x < y) := by
  unfold cmpI
  by_cases h1 : x < y
  · simp [h1]
  · by_cases h2 : y < x <;> simp [h1, h2]
theorem cmpI_eq {x y : Nat} : decide (cmpI x y = 0) = decide (x = y) := by
  unfold cmpI
  by_cases h1 : x < y
  · have : ¬ x = y := by omega
    simp [h1, this]
  · by_cases h2 : y < x
    · have : ¬ x = y := by omega
      simp [h1, h2, this]
    · have : x = y := by omega
      simp [this]
set_option maxHeartbeats 4000000 in
set_option maxRecDepth 100000 in
theorem search_ok {w : World} {v : Value} {es : List Bt} (hE : OwnE w 0 v es) (hs : SortedB es) (hl : es.length ≤ 255) (h : Nat) :
    Calls Tryz.prog 250 #[v, .int .u64 h, .func (.func 251) #[] #[]] w (SearchP es h w) := by
  obtain ⟨va, vc, rfl, -, -, -, -⟩ := own_slice hE
  obtain ⟨n, hn⟩ : ∃ n, es.length = n := ⟨_, rfl⟩
  have hn9 : n ≤ 255 := by omega
  have HE := hid hE
  have HN := hid hn
  have HS := hid hs
  rw [hn]
  clear hE hn hs hl
  go_enter Tryz.func250, Tryz.ntmps250
  go_wp2_with fail
  go_loopw [9, 10] (fun iv jv wr => ∃ i j : Nat, iv = .int .i64 i ∧ jv = .int .i64 j ∧ i ≤ j ∧ j ≤ n ∧ (∀ (k : Nat) (x : Bt), k < i → es[k]? = some x → x.hash < h) ∧ (∀ (k : Nat) (x : Bt), j ≤ k → es[k]? = some x → ¬ x.hash < h) ∧ Fr (fun _ => False) w wr) (fun iv jv _ => (intOf jv).toNat - (intOf iv).toNat)
  case atStart => exact ⟨0, n, rfl, rfl, Nat.zero_le _, Nat.le_refl _, fun k x hk => by omega, fun k x hk hx => by have := (List.getElem?_eq_some_iff.1 hx).1; rw [HN.out] at this; omega, Fr.refl _ _⟩
  case round =>
    obtain ⟨i, j, rfl, rfl, hij, hj, h1, h2, hF⟩ := hrel
    have H12 := hid (And.intro h1 (And.intro h2 hF))
    clear h1 h2 hF
    by_cases hlt : i < j
    · have hd : decide (i < j) = true := by simp [hlt]
      obtain ⟨m, hm⟩ : ∃ m : Nat, (i + j) / 2 = m := ⟨_, rfl⟩
      have hmi : i ≤ m ∧ m < j := by omega
      obtain ⟨x, hx⟩ : ∃ x, es[m]? = some x := ⟨_, List.getElem?_eq_getElem (by rw [HN.out]; omega)⟩
      have hmI : ((i : Int) + (j : Int)) / 2 = (m : Int) := by omega
      have hmn : (m : Int) < (n : Int) := by omega
      obtain ⟨g, rfl, hg, u0, u1, u2, u3⟩ := ownE_at (own_none HE.out H12.out.2.2) hx
      have HX := hid hx
      have HM := hid hm
      clear hx hm
      by_cases hlx : x.hash < h
      · have hdc : decide (cmpI x.hash h < 0) = true := by rw [cmpI_lt]; simp [hlx]
        have HC := hid hlx
        clear hlx
        go_wp2_with fail
        refine (cmp_e_ok x h wr).mono ?_
        rintro e w2 ⟨rfl, F2⟩
        have HF2 := hid F2
        clear F2
        go_wp2_with fail
        go_roundw
        case rel =>
          obtain ⟨h1, h2, hF⟩ := H12.out
          refine ⟨m + 1, j, by go_num, rfl, by omega, hj, fun k y hk hy => ?_, h2, hF.trans HF2.out (fun _ _ h => h)⟩
          rcases Nat.lt_or_ge k m with hkm | hkm
          · exact Nat.lt_trans (sorted_lt HS.out hy HX.out hkm) HC.out
          · obtain rfl : k = m := by omega
            rw [HX.out] at hy; cases hy; exact HC.out
        case measure => simp [intOf]; omega
      · have hdc : decide (cmpI x.hash h < 0) = false := by rw [cmpI_lt]; simp; omega
        have HC := hid hlx
        clear hlx
        go_wp2_with fail
        refine (cmp_e_ok x h wr).mono ?_
        rintro e w2 ⟨rfl, F2⟩
        have HF2 := hid F2
        clear F2
        go_wp2_with fail
        go_roundw
        case rel =>
          obtain ⟨h1, h2, hF⟩ := H12.out
          refine ⟨i, m, rfl, rfl, by omega, by omega, h1, fun k y hk hy => ?_, hF.trans HF2.out (fun _ _ h => h)⟩
          rcases Nat.lt_or_ge m k with hkm | hkm
          · have := sorted_lt HS.out HX.out hy hkm
            have := HC.out
            omega
          · obtain rfl : k = m := by omega
            rw [HX.out] at hy; cases hy; exact HC.out
        case measure => simp [intOf]; omega
    · obtain rfl : i = j := by omega
      have hd : decide (i < i) = false := by simp
      have hp : plI es h = i := plI_eq HS.out (by rw [HN.out]; exact hj) H12.out.1 H12.out.2.1
      by_cases hin : i < n
      · have hd2 : decide (i < n) = true := by simp [hin]
        obtain ⟨x, hx⟩ : ∃ x, es[i]? = some x := ⟨_, List.getElem?_eq_getElem (by rw [HN.out]; omega)⟩
        have hmn : (i : Int) < (n : Int) := by omega
        obtain ⟨g, rfl, hg, u0, u1, u2, u3⟩ := ownE_at (own_none HE.out H12.out.2.2) hx
        have hb : hasB es h = decide (x.hash = h) := by
          rw [Bool.eq_iff_iff, hasB_iff HS.out, hp, hx]
          simp
        have HP := hid (And.intro hp hb)
        obtain ⟨bb, hbb⟩ : ∃ bb, decide (x.hash = h) = bb := ⟨_, rfl⟩
        have hce : (cmpI x.hash h == 0) = bb := by rw [← hbb, ← cmpI_eq]; rfl
        have HBB := hid hbb
        clear hx hp hb hbb
        go_wp2_with fail
        refine (cmp_e_ok x h wr).mono ?_
        rintro e w2 ⟨rfl, F2⟩
        have HF2 := hid F2
        clear F2
        go_wp2_with fail
        go_ret2
        exact ⟨by rw [HP.out.1, HP.out.2, ← HBB.out]; rfl, H12.out.2.2.trans HF2.out (fun _ _ h => h)⟩
      · have hd2 : decide (i < n) = false := by simp; omega
        have hb : hasB es h = false := by
          rw [Bool.eq_false_iff]
          intro hb
          obtain ⟨x, hx, -⟩ := (hasB_iff HS.out).1 hb
          rw [hp] at hx
          have := (List.getElem?_eq_some_iff.1 hx).1
          rw [HN.out] at this; omega
        have HP := hid (And.intro hp hb)
        clear hp hb
        go_wp2_with fail
        go_ret2
        exact ⟨by rw [HP.out.1, HP.out.2]; rfl, H12.out.2.2⟩
theorem place_ok {w : World} {v : Value} {es : List Bt} (hE : OwnE w 0 v es) (hs : SortedB es) (hl : es.length ≤ 255) (d p : Int) (h : Nat) :
    Calls Tryz.prog 199 #[bkV d p v, .int .u64 h] w (SearchP es h w) := by
  obtain ⟨w1, hw1⟩ : ∃ w1, w.alloc (.cells #[.int .i64 d, .int .i64 p, v] 129) = w1 := ⟨_, rfl⟩
  have b1 : w1.heap[w.heap.size]? = some (.cells #[.int .i64 d, .int .i64 p, v] 129) := by rw [← hw1]; exact heap_alloc_new _ _
  have F1 : Fr (fun _ => False) w w1 := by rw [← hw1]; exact (Fr.refl _ _).alloc _
  have HF := hid F1
  have c2 : w1.cell? ⟨w.heap.size, 2, none⟩ = some v := by simpa using cell_of_heap b1 2
  have HS := hid (search_ok (own_none hE F1) hs hl h)
  have HW := hid hw1
  clear hw1 b1 F1 hE hs hl
  go_enter Tryz.func199, Tryz.ntmps199
  go_upto_region 1 with fail
  rw [HW.out]
  go_wp2_with fail
  refine HS.out.mono ?_
  rintro e w2 ⟨rfl, F2⟩
  have HF2 := hid F2
  clear F2
  go_wp2_with fail
  go_ret2
  exact ⟨rfl, HF.out.trans HF2.out (fun _ _ h => h)⟩
end Go.Proofs.YtgdhaaokolfdoaaGreatDoor

namespace Go.Proofs.YtgdhaaokolfdoaaGreatDoor
open Go.RowKit Go.Sg CP SF
theorem Tryz.info118 : (Tryz.prog.info? 118).map (fun i => (i.zero, i.size, i.bytes)) = some (some (.agg #[.int .u64 0, .int .i64 0, .int .i64 0, .int .i64 0]), 4, 32) := by kernel_rfl
theorem cells3 {w : World} {b : Nat} {x0 x1 x2 : Value} {t : TypeId} (h : w.heap[b]? = some (.cells #[x0, x1, x2] t)) :
    w.cell? ⟨b, 0, none⟩ = some x0 ∧ w.cell? ⟨b, 1, none⟩ = some x1 ∧ w.cell? ⟨b, 2, none⟩ = some x2 ∧ (∀ o, w.frozen? ⟨b, o, none⟩ = false) ∧ b < w.heap.size :=
  ⟨by simpa using cell_of_heap h 0, by simpa using cell_of_heap h 1, by simpa using cell_of_heap h 2, fun o => frozen_of_heap h o, lt_of_heap h⟩
set_option maxHeartbeats 1000000 in
theorem with_ok (d p : Int) (va : Option Addr) (vn vc : Nat) (ua : Option Addr) (un uc : Nat) (w : World) : Calls Tryz.prog 195 #[bkV d p (.slice va vn vc), .slice ua un uc] w (ValP (bkV d p (.slice ua un uc)) w) := by
  obtain ⟨w1, hw1⟩ : ∃ w1, (w.alloc (.cells #[.int .i64 d, .int .i64 p, .slice va vn vc] 129)).alloc (.cells #[.int .i64 0, .int .i64 0, .slice none 0 0] 129) = w1 := ⟨_, rfl⟩
  obtain ⟨b0, b1, F1⟩ := heap_two hw1
  obtain ⟨x0, x1, x2, xz, xl⟩ := cells3 b0
  obtain ⟨y0, y1, y2, yz, yl⟩ := cells3 b1
  have HF := hid F1
  have HW := hid hw1
  have hs : w1.heap.size = w.heap.size + 2 := by rw [← hw1]; simp
  have HS := hid hs
  clear hw1 b0 b1 F1 hs
  go_enter Tryz.func195, Tryz.ntmps195
  go_upto_region 1 with fail
  rw [HW.out]
  go_wp2_with fail
  refine bodyPost_ret (v := bkV d p (.slice ua un uc)) (by simp [results, go_sem, *]) rfl ⟨rfl, ?_⟩
  exact ((HF.out.setNew (by omega) _).setNew (by omega) _).setNew (by omega) _
def MadeE (es : List Bt) (w : World) (e : Ending) (w' : World) : Prop := ∃ v, e = .returned v ∧ OwnE w' w.heap.size v es ∧ Fr (fun _ => False) w w'
set_option maxHeartbeats 2000000 in
set_option maxRecDepth 100000 in
theorem clone_e_ok {w : World} {v : Value} {es : List Bt} (hE : OwnE w 0 v es) (hl : es.length ≤ 255) : Calls Tryz.prog 200 #[v] w (MadeE es w) := by
  obtain ⟨i0, hi0, hz0, hz1, hz2⟩ := info_parts Tryz.info118
  obtain ⟨va, vc, rfl, -, -, hnil, -⟩ := own_slice hE
  have q127 : ∀ (w : World) (a : Option Addr) (n c n' c' : Nat), (binOp .eql 127 (.slice a n c) (.slice none n' c')).run Tryz.prog w = .ok (.bool a.isNone) w := fun w a n c n' c' => Lib.run_eql_slice_nil w _ _ a n c n' c' Tryz.underlying127
  obtain ⟨n, hn⟩ : ∃ n, es.length = n := ⟨_, rfl⟩
  have hn9 : n ≤ 255 := by omega
  have HE := hid hE
  have HN := hid hn
  have HSr := hid (fun W (F : Fr (fun _ => False) w W) => own_src (own_none hE F))
  cases va with
  | none =>
    have h0 : n = 0 := by rw [← hn]; exact (hnil rfl).1
    have he : es = [] := List.eq_nil_of_length_eq_zero (by rw [hn]; exact h0)
    have hc : vc = 0 := (hnil rfl).2
    subst h0 hc
    rw [hn]
    have HEm := hid he
    clear hE hn hnil hl he
    go_enter Tryz.func200, Tryz.ntmps200
    go_wp2_with fail
    go_ret
    exact ⟨_, rfl, by rw [HEm.out]; exact World.ownsRow_nil _ _ _ _, Fr.refl _ _⟩
  | some ad =>
    rw [hn]
    clear hE hn hnil hl
    go_enter Tryz.func200, Tryz.ntmps200
    go_wp2_with (at_builtin; refine wpList_append_src rfl (.tmp 5) (.tmp 6) 127 rfl w.heap.size 118 i0 _ 4 32 Tryz.underlying127 hi0 hz0 hz1 hz2 rfl (by decide) _ _ _ rfl (own_litB _ _ (Nat.le_refl _) _ _ _ (by simp [go_sem])) (.slice (some ad) n vc) n (es.flatMap btC) rfl (by have := HSr.out _ ((Fr.refl _ _).alloc (.cells #[] 118)); rw [HN.out] at this; exact this) (by rw [btC_len, HN.out]) (by intro u hu; obtain ⟨x, _, hx⟩ := List.mem_flatMap.1 hu; simp [btC] at hx; rcases hx with rfl | rfl | rfl | rfl <;> rfl) (by simp [maxLen]; omega) (by omega) (by simp) ?_)
    intro v3 W3 hown3 hg3 hne3
    try simp only [List.nil_append, Nat.zero_add] at hown3
    have F3 : Fr (fun _ => False) w W3 := ((Fr.refl (fun b => b = w.heap.size) _).alloc _).trans (Fr.of_grownBy hg3) (fun b _ h => h) |>.mono (fun b hb h => by omega)
    have H3 := hid (And.intro (show OwnE W3 w.heap.size v3 es by unfold OwnE; rw [HN.out]; exact hown3) F3)
    clear hown3 hg3 hne3 F3
    go_wp2_with fail
    go_ret
    exact ⟨_, rfl, H3.out.1, H3.out.2⟩
end Go.Proofs.YtgdhaaokolfdoaaGreatDoor

namespace Go.Proofs.YtgdhaaokolfdoaaGreatDoor
open Go.RowKit Go.Sg CP SF
def locV : Option Bt → Value
  | none => .agg #[.int .i64 0, .int .i64 0, .int .i64 0]
  | some e => .agg #[.int .i64 e.rg, .int .i64 e.at_, .int .i64 e.sz]
def atB (es : List Bt) (h : Nat) : Option Bt := if hasB es h = true then es[plI es h]? else none
def FindP (es : List Bt) (h : Nat) (w : World) (e : Ending) (w' : World) : Prop := e = .returned (.tuple #[locV (atB es h), .bool (hasB es h)]) ∧ Fr (fun _ => False) w w'
set_option maxHeartbeats 2000000 in
theorem find_ok {w : World} {v : Value} {es : List Bt} (hE : OwnE w 0 v es) (hs : SortedB es) (hl : es.length ≤ 255) (d p : Int) (h : Nat) :
    Calls Tryz.prog 138 #[bkV d p v, .int .u64 h] w (FindP es h w) := by
  obtain ⟨va, vc, rfl, -, -, -, -⟩ := own_slice hE
  obtain ⟨n, hn⟩ : ∃ n, es.length = n := ⟨_, rfl⟩
  obtain ⟨w1, hw1⟩ : ∃ w1, (w.alloc (.cells #[.int .i64 d, .int .i64 p, .slice va n vc] 129)).alloc (.cells #[.int .i64 0, .int .i64 0, .int .i64 0] 116) = w1 := ⟨_, rfl⟩
  obtain ⟨b0, b1, F1⟩ := heap_two hw1
  have HB := hid (fun W (F : Fr (fun _ => False) w1 W) => And.intro (cells3 (F.heap b0 (fun h => h))) (cells3 (F.heap b1 (fun h => h))))
  have HPl := hid (place_ok (own_none hE F1) hs hl d p h)
  have HE := hid (own_none hE F1)
  have HF1 := hid F1
  have HN := hid hn
  have HS := hid hs
  have hsz : w1.heap.size = w.heap.size + 2 := by rw [← hw1]; simp
  have HSz := hid hsz
  obtain ⟨⟨x0, x1, x2, xz, xl⟩, ⟨y0, y1, y2, yz, yl⟩⟩ := HB.out _ (Fr.refl _ _)
  have HW := hid hw1
  rw [hn] at HPl ⊢
  clear hw1 b0 b1 F1 hE hs hl hn hsz
  go_enter Tryz.func138, Tryz.ntmps138
  go_upto_region 1 with fail
  rw [HW.out]
  go_wp2_with fail
  refine HPl.out.mono ?_
  rintro e w2 ⟨rfl, F2⟩
  have HF2 := hid F2
  clear F2 x0 x1 x2 xz xl y0 y1 y2 yz yl
  obtain ⟨⟨x0, x1, x2, xz, xl⟩, ⟨y0, y1, y2, yz, yl⟩⟩ := HB.out _ HF2.out
  cases hb : hasB es h with
  | false =>
    have HH := hid hb
    clear hb
    go_wp2_with fail
    refine bodyPost_ret (v := .tuple #[.agg #[.int .i64 0, .int .i64 0, .int .i64 0], .bool false]) (by simp [results, go_sem, *]) rfl ⟨?_, ?_⟩
    · unfold atB; rw [HH.out]; rfl
    · exact ((((HF1.out.trans HF2.out (fun _ _ h => h))).setNew (by omega) _).setNew (by omega) _).setNew (by omega) _
  | true =>
    obtain ⟨x, hx, hxh⟩ := (hasB_iff HS.out).1 hb
    obtain ⟨g, rfl, hg, u0, u1, u2, u3⟩ := ownE_at (own_none HE.out HF2.out) hx
    have hpl : plI es h < n := by rw [← HN.out]; exact (List.getElem?_eq_some_iff.1 hx).1
    obtain ⟨q, hq⟩ : ∃ q, plI es h = q := ⟨_, rfl⟩
    rw [hq] at hpl u0 u1 u2 u3
    have hqi : (q : Int) < (n : Int) := by omega
    have HX := hid (And.intro hb (And.intro hx hq))
    rw [hq]
    clear hb hx hxh hq
    go_wp2_with fail
    refine bodyPost_ret (v := .tuple #[.agg #[.int .i64 x.rg, .int .i64 x.at_, .int .i64 x.sz], .bool true]) (by simp [results, go_sem, *]) rfl ⟨?_, ?_⟩
    · unfold atB; rw [HX.out.1, if_pos rfl, HX.out.2.1]; rfl
    · exact ((((HF1.out.trans HF2.out (fun _ _ h => h))).setNew (by omega) _).setNew (by omega) _).setNew (by omega) _
end Go.Proofs.YtgdhaaokolfdoaaGreatDoor

namespace Go.Proofs.YtgdhaaokolfdoaaGreatDoor
open Go.RowKit Go.Sg CP SF
def PartR (b0 : Nat) (f : Bt → Bool) (es : List Bt) (w0 : World) (v1 v2 : Value) (w : World) : Prop :=
  (OwnE w b0 v1 (es.filter f) ∧ OwnE w b0 v2 (es.filter fun x => !f x)) ∧ (∀ g, v1.ownBlock = some g → v2.ownBlock ≠ some g) ∧ Fr (fun _ => False) w0 w
def PartP (f : Bt → Bool) (es : List Bt) (w : World) (e : Ending) (w' : World) : Prop := ∃ v1 v2, e = .returned (.tuple #[v1, v2]) ∧ PartR w.heap.size f es w v1 v2 w'
theorem cells4b {w : World} {b : Nat} {x0 x1 x2 x3 : Value} {t : TypeId} (h : w.heap[b]? = some (.cells #[x0, x1, x2, x3] t)) :
    w.cell? ⟨b, 0, none⟩ = some x0 ∧ w.cell? ⟨b, 1, none⟩ = some x1 ∧ w.cell? ⟨b, 2, none⟩ = some x2 ∧ w.cell? ⟨b, 3, none⟩ = some x3 ∧ (∀ o, w.frozen? ⟨b, o, none⟩ = false) ∧ b < w.heap.size :=
  ⟨by simpa using cell_of_heap h 0, by simpa using cell_of_heap h 1, by simpa using cell_of_heap h 2, by simpa using cell_of_heap h 3, fun o => frozen_of_heap h o, lt_of_heap h⟩
theorem own_blkT {w : World} {b e size n g : Nat} {v : Value} {xs : List Value} (h : w.ownsRow b e size v n xs) (hv : v.ownBlock = some g) : b ≤ g ∧ g < w.heap.size := by
  obtain ⟨_, ⟨h0, _⟩ | ⟨g', cap', cur', h1, hb, hg', _⟩⟩ := h
  · rw [h0] at hv; cases hv
  · rw [h1] at hv
    have e' : g' = g := Option.some.inj hv
    subst e'
    exact ⟨hb, lt_of_heap hg'⟩
theorem own_fr1 {S : Nat → Prop} {w w' : World} {base e size n : Nat} {v : Value} {xs : List Value} (h : w.ownsRow base e size v n xs) (F : Fr S w w') (hS : ∀ g, v.ownBlock = some g → ¬ S g) : w'.ownsRow base e size v n xs := by
  obtain ⟨hl, h0 | ⟨g, cap, cur, hv, hb, hg, r⟩⟩ := h
  · exact ⟨hl, .inl h0⟩
  · exact ⟨hl, .inr ⟨g, cap, cur, hv, hb, F.heap hg (hS g (by rw [hv]; rfl)), r⟩⟩
theorem part_step {b0 : Nat} {w0 w w1 : World} {v1 v2 v3 : Value} {l1 l2 : List Bt} (h1 : OwnE w b0 v1 l1) (h2 : OwnE w b0 v2 l2) (hd : ∀ g, v1.ownBlock = some g → v2.ownBlock ≠ some g) (F : Fr (fun _ => False) w0 w) (hb : w0.heap.size ≤ b0) (o : Obj)
    (hg : (w.alloc o).grownBy w1 v1.ownBlock) (hat : v3.ownBlock = v1.ownBlock ∨ v3.ownBlock = some (w.alloc o).heap.size) : OwnE w1 b0 v2 l2 ∧ (∀ g, v3.ownBlock = some g → v2.ownBlock ≠ some g) ∧ Fr (fun _ => False) w0 w1 := by
  have F1 : Fr (fun b => v1.ownBlock = some b) (w.alloc o) w1 := ⟨hg.os, hg.tape, hg.output, hg.size, fun b hb hn => hg.block b hb (fun e => hn e.symm)⟩
  have FA : Fr (fun _ => False) w (w.alloc o) := (Fr.refl _ _).alloc _
  refine ⟨own_fr1 (own_none h2 FA) F1 (fun g e2 e1 => hd g e1 e2), fun g hg3 hg2 => ?_, (F.trans FA (fun _ _ h => h)).trans F1 (fun b hb' hs => ?_)⟩
  · rcases hat with hat | hat
    · exact hd g (by rw [← hat]; exact hg3) hg2
    · rw [hg3] at hat
      have e := Option.some.inj hat
      have := (own_blkT h2 hg2).2
      simp at e; omega
  · have := (own_blkT h1 hs).1
    omega
set_option maxHeartbeats 4000000 in
set_option maxRecDepth 100000 in
theorem parted194_ok {w : World} {v : Value} {es : List Bt} (hE : OwnE w 0 v es) (hl : es.length ≤ 255) (cap : Addr) (f : Bt → Bool) (hf : ∀ (x : Bt), x ∈ es → ∀ (W : World), Fr (fun _ => False) w W → Calls Tryz.prog 194 #[btV x, .pointer (some cap)] W (ValP (.bool (f x)) W)) :
    Calls Tryz.prog 193 #[v, .func (.func 194) #[] #[.pointer (some cap)]] w (PartP f es w) := by
  obtain ⟨i0, hi0, hz0, hz1, hz2⟩ := info_parts Tryz.info118
  obtain ⟨va, vc, rfl, -, -, -, -⟩ := own_slice hE
  obtain ⟨n, hn⟩ : ∃ n, es.length = n := ⟨_, rfl⟩
  have hn9 : n ≤ 255 := by omega
  have HE := hid hE
  have HN := hid hn
  have HC := hid hf
  rw [hn]
  clear hE hn hl hf
  go_enter Tryz.func193, Tryz.ntmps193
  go_wp2_with fail
  go_loopw [4, 5, 10] (fun v1 v2 iv wr => ∃ k : Nat, k ≤ n ∧ iv = .int .i64 k ∧ PartR w.heap.size f (es.take k) w v1 v2 wr) (fun _ _ iv _ => n - (intOf iv).toNat)
  case atStart => exact ⟨0, Nat.zero_le _, rfl, ⟨World.ownsRow_nil _ _ _ _, World.ownsRow_nil _ _ _ _⟩, (fun g h => by cases h), Fr.refl _ _⟩
  case round =>
    obtain ⟨k, hk, rfl, hP⟩ := hrel
    have HP := hid hP
    by_cases hlt : k < n
    · have hd : decide (k < n) = true := by simp [hlt]
      have hki : (k : Int) < (n : Int) := by omega
      obtain ⟨x, hx⟩ : ∃ x, es[k]? = some x := ⟨_, List.getElem?_eq_getElem (by rw [HN.out]; exact hlt)⟩
      obtain ⟨g, rfl, hg, u0, u1, u2, u3⟩ := ownE_at (own_none HE.out hP.2.2) hx
      obtain ⟨W, hW⟩ : ∃ W, wr.alloc (.cells #[.int .u64 x.hash, .int .i64 x.rg, .int .i64 x.at_, .int .i64 x.sz] 118) = W := ⟨_, rfl⟩
      have bW : W.heap[wr.heap.size]? = some (.cells #[.int .u64 x.hash, .int .i64 x.rg, .int .i64 x.at_, .int .i64 x.sz] 118) := by rw [← hW]; exact heap_alloc_new _ _
      have HFW := hid (show Fr (fun _ => False) wr W by rw [← hW]; exact (Fr.refl _ _).alloc _)
      have HX := hid hx
      have HW := hid hW
      have HBW := hid bW
      have HCx := hid (HC.out x (List.mem_of_getElem? hx) W (hP.2.2.trans HFW.out (fun _ _ h => h)))
      clear hx hW bW hP
      go_upto_region 4 with fail
      rw [HW.out]
      obtain ⟨t0, t1, t2, t3, tz, tl⟩ := cells4b HBW.out
      clear u0 u1 u2 u3
      go_wp2_with fail
      refine HCx.out.mono ?_
      rintro e W2 ⟨rfl, F2⟩
      obtain ⟨⟨h1, h2⟩, hdj, hFr⟩ := HP.out
      have F02 : Fr (fun _ => False) wr W2 := HFW.out.trans F2 (fun _ _ h => h)
      have h1' := own_none h1 F02
      have h2' := own_none h2 F02
      obtain ⟨a1, c1, rfl, -, -, -, -⟩ := own_slice h1'
      obtain ⟨a2, c2, rfl, -, -, -, -⟩ := own_slice h2'
      obtain ⟨t0, t1, t2, t3, tz, tl⟩ := cells4b (F2.heap HBW.out (fun h => h))
      have hle1 : ((es.take k).filter f).length ≤ 255 := Nat.le_trans (List.length_filter_le _ _) (by rw [List.length_take]; omega)
      have hle2 : ((es.take k).filter (fun x => !f x)).length ≤ 255 := Nat.le_trans (List.length_filter_le _ _) (by rw [List.length_take]; omega)
      have hb0 : w.heap.size ≤ W2.heap.size := Nat.le_trans hFr.size F02.size
      have htk : es.take (k + 1) = es.take k ++ [x] := by rw [List.take_add_one, HX.out]; rfl
      have HT := hid htk
      have H12 := hid (And.intro h1' (And.intro h2' (And.intro hdj (hFr.trans F02 (fun _ _ h => h)))))
      have HO1 := hid h1'
      have HO2 := hid h2'
      have HL1 := hid hle1
      have HL2 := hid hle2
      clear h1 h2 h1' h2' hdj hFr F2 F02 htk hle1 hle2
      cases hfx : f x with
      | true =>
        have HFX := hid hfx
        clear hfx
        go_wp2_with (at_builtin; refine wpList_append_own_at _ rfl (.tmp 17) (.tmp 19) 127 rfl w.heap.size 118 i0 _ 4 32 Tryz.underlying127 hi0 hz0 hz1 hz2 rfl (by decide) _ _ _ rfl (HO1.out.alloc _) ⟨W2.heap.size, 0, none⟩ 1 1 (btC x) rfl rfl (World.news_of_block (cs := #[.int .u64 x.hash, .int .i64 x.rg, .int .i64 x.at_, .int .i64 x.sz]) (t := 118) (fr := (0, 0)) (heap_alloc_new _ _)) (by simp [Value.oneCell']) (by have := HL1.out; simp only [maxLen]; omega) (by have := HL1.out; omega) (by simp; omega) ?_)
        intro v3 W3 hown3 hg3 hnil3 hat3
        have hst := part_step (v3 := v3) H12.out.1 H12.out.2.1 H12.out.2.2.1 H12.out.2.2.2 (Nat.le_refl _) _ hg3 (by simpa using hat3)
        have HQ := hid (show PartR w.heap.size f (es.take (k + 1)) w v3 (.slice a2 ((es.take k).filter (fun x => !f x)).length c2) W3 by
          have e1 : (es.take (k + 1)).filter f = (es.take k).filter f ++ [x] := by rw [HT.out, List.filter_append]; simp [HFX.out]
          have e2 : (es.take (k + 1)).filter (fun x => !f x) = (es.take k).filter (fun x => !f x) := by rw [HT.out, List.filter_append]; simp [HFX.out]
          refine ⟨⟨?_, by rw [e2]; exact hst.1⟩, hst.2.1, hst.2.2⟩
          unfold OwnE
          rw [e1, List.length_append, List.flatMap_append]
          simpa using hown3)
        clear hst hown3 hg3 hnil3 hat3
        go_wp2_with fail
        go_roundw
        case rel => exact ⟨k + 1, hlt, by go_num, HQ.out⟩
        case measure => simp [intOf]; omega
      | false =>
        have HFX := hid hfx
        clear hfx
        go_wp2_with (at_builtin; refine wpList_append_own_at _ rfl (.tmp 21) (.tmp 23) 127 rfl w.heap.size 118 i0 _ 4 32 Tryz.underlying127 hi0 hz0 hz1 hz2 rfl (by decide) _ _ _ rfl (HO2.out.alloc _) ⟨W2.heap.size, 0, none⟩ 1 1 (btC x) rfl rfl (World.news_of_block (cs := #[.int .u64 x.hash, .int .i64 x.rg, .int .i64 x.at_, .int .i64 x.sz]) (t := 118) (fr := (0, 0)) (heap_alloc_new _ _)) (by simp [Value.oneCell']) (by have := HL2.out; simp only [maxLen]; omega) (by have := HL2.out; omega) (by simp; omega) ?_)
        intro v3 W3 hown3 hg3 hnil3 hat3
        have hst := part_step (v3 := v3) H12.out.2.1 H12.out.1 (fun g e2 e1 => H12.out.2.2.1 g e1 e2) H12.out.2.2.2 (Nat.le_refl _) _ hg3 (by simpa using hat3)
        have HQ := hid (show PartR w.heap.size f (es.take (k + 1)) w (.slice a1 ((es.take k).filter f).length c1) v3 W3 by
          have e1 : (es.take (k + 1)).filter f = (es.take k).filter f := by rw [HT.out, List.filter_append]; simp [HFX.out]
          have e2 : (es.take (k + 1)).filter (fun x => !f x) = (es.take k).filter (fun x => !f x) ++ [x] := by rw [HT.out, List.filter_append]; simp [HFX.out]
          refine ⟨⟨by rw [e1]; exact hst.1, ?_⟩, (fun g e1 e2 => hst.2.1 g e2 e1), hst.2.2⟩
          unfold OwnE
          rw [e2, List.length_append, List.flatMap_append]
          simpa using hown3)
        clear hst hown3 hg3 hnil3 hat3
        go_wp2_with fail
        go_roundw
        case rel => exact ⟨k + 1, hlt, by go_num, HQ.out⟩
        case measure => simp [intOf]; omega
    · obtain rfl : k = n := by omega
      have hd : decide (k < k) = false := by simp
      go_wp2_with fail
      go_ret2
      rw [List.take_of_length_le (by rw [HN.out]; exact Nat.le_refl _)] at HP
      exact ⟨_, _, rfl, HP.out⟩
set_option maxHeartbeats 4000000 in
set_option maxRecDepth 100000 in
theorem parted247_ok {w : World} {v : Value} {es : List Bt} (hE : OwnE w 0 v es) (hl : es.length ≤ 255) (cap : Addr) (f : Bt → Bool) (hf : ∀ (x : Bt), x ∈ es → ∀ (W : World), Fr (fun _ => False) w W → Calls Tryz.prog 247 #[btV x, .pointer (some cap)] W (ValP (.bool (f x)) W)) :
    Calls Tryz.prog 193 #[v, .func (.func 247) #[] #[.pointer (some cap)]] w (PartP f es w) := by
  obtain ⟨i0, hi0, hz0, hz1, hz2⟩ := info_parts Tryz.info118
  obtain ⟨va, vc, rfl, -, -, -, -⟩ := own_slice hE
  obtain ⟨n, hn⟩ : ∃ n, es.length = n := ⟨_, rfl⟩
  have hn9 : n ≤ 255 := by omega
  have HE := hid hE
  have HN := hid hn
  have HC := hid hf
  rw [hn]
  clear hE hn hl hf
  go_enter Tryz.func193, Tryz.ntmps193
  go_wp2_with fail
  go_loopw [4, 5, 10] (fun v1 v2 iv wr => ∃ k : Nat, k ≤ n ∧ iv = .int .i64 k ∧ PartR w.heap.size f (es.take k) w v1 v2 wr) (fun _ _ iv _ => n - (intOf iv).toNat)
  case atStart => exact ⟨0, Nat.zero_le _, rfl, ⟨World.ownsRow_nil _ _ _ _, World.ownsRow_nil _ _ _ _⟩, (fun g h => by cases h), Fr.refl _ _⟩
  case round =>
    obtain ⟨k, hk, rfl, hP⟩ := hrel
    have HP := hid hP
    by_cases hlt : k < n
    · have hd : decide (k < n) = true := by simp [hlt]
      have hki : (k : Int) < (n : Int) := by omega
      obtain ⟨x, hx⟩ : ∃ x, es[k]? = some x := ⟨_, List.getElem?_eq_getElem (by rw [HN.out]; exact hlt)⟩
      obtain ⟨g, rfl, hg, u0, u1, u2, u3⟩ := ownE_at (own_none HE.out hP.2.2) hx
      obtain ⟨W, hW⟩ : ∃ W, wr.alloc (.cells #[.int .u64 x.hash, .int .i64 x.rg, .int .i64 x.at_, .int .i64 x.sz] 118) = W := ⟨_, rfl⟩
      have bW : W.heap[wr.heap.size]? = some (.cells #[.int .u64 x.hash, .int .i64 x.rg, .int .i64 x.at_, .int .i64 x.sz] 118) := by rw [← hW]; exact heap_alloc_new _ _
      have HFW := hid (show Fr (fun _ => False) wr W by rw [← hW]; exact (Fr.refl _ _).alloc _)
      have HX := hid hx
      have HW := hid hW
      have HBW := hid bW
      have HCx := hid (HC.out x (List.mem_of_getElem? hx) W (hP.2.2.trans HFW.out (fun _ _ h => h)))
      clear hx hW bW hP
      go_upto_region 4 with fail
      rw [HW.out]
      obtain ⟨t0, t1, t2, t3, tz, tl⟩ := cells4b HBW.out
      clear u0 u1 u2 u3
      go_wp2_with fail
      refine HCx.out.mono ?_
      rintro e W2 ⟨rfl, F2⟩
      obtain ⟨⟨h1, h2⟩, hdj, hFr⟩ := HP.out
      have F02 : Fr (fun _ => False) wr W2 := HFW.out.trans F2 (fun _ _ h => h)
      have h1' := own_none h1 F02
      have h2' := own_none h2 F02
      obtain ⟨a1, c1, rfl, -, -, -, -⟩ := own_slice h1'
      obtain ⟨a2, c2, rfl, -, -, -, -⟩ := own_slice h2'
      obtain ⟨t0, t1, t2, t3, tz, tl⟩ := cells4b (F2.heap HBW.out (fun h => h))
      have hle1 : ((es.take k).filter f).length ≤ 255 := Nat.le_trans (List.length_filter_le _ _) (by rw [List.length_take]; omega)
      have hle2 : ((es.take k).filter (fun x => !f x)).length ≤ 255 := Nat.le_trans (List.length_filter_le _ _) (by rw [List.length_take]; omega)
      have hb0 : w.heap.size ≤ W2.heap.size := Nat.le_trans hFr.size F02.size
      have htk : es.take (k + 1) = es.take k ++ [x] := by rw [List.take_add_one, HX.out]; rfl
      have HT := hid htk
      have H12 := hid (And.intro h1' (And.intro h2' (And.intro hdj (hFr.trans F02 (fun _ _ h => h)))))
      have HO1 := hid h1'
      have HO2 := hid h2'
      have HL1 := hid hle1
      have HL2 := hid hle2
      clear h1 h2 h1' h2' hdj hFr F2 F02 htk hle1 hle2
      cases hfx : f x with
      | true =>
        have HFX := hid hfx
        clear hfx
        go_wp2_with (at_builtin; refine wpList_append_own_at _ rfl (.tmp 17) (.tmp 19) 127 rfl w.heap.size 118 i0 _ 4 32 Tryz.underlying127 hi0 hz0 hz1 hz2 rfl (by decide) _ _ _ rfl (HO1.out.alloc _) ⟨W2.heap.size, 0, none⟩ 1 1 (btC x) rfl rfl (World.news_of_block (cs := #[.int .u64 x.hash, .int .i64 x.rg, .int .i64 x.at_, .int .i64 x.sz]) (t := 118) (fr := (0, 0)) (heap_alloc_new _ _)) (by simp [Value.oneCell']) (by have := HL1.out; simp only [maxLen]; omega) (by have := HL1.out; omega) (by simp; omega) ?_)
        intro v3 W3 hown3 hg3 hnil3 hat3
        have hst := part_step (v3 := v3) H12.out.1 H12.out.2.1 H12.out.2.2.1 H12.out.2.2.2 (Nat.le_refl _) _ hg3 (by simpa using hat3)
        have HQ := hid (show PartR w.heap.size f (es.take (k + 1)) w v3 (.slice a2 ((es.take k).filter (fun x => !f x)).length c2) W3 by
          have e1 : (es.take (k + 1)).filter f = (es.take k).filter f ++ [x] := by rw [HT.out, List.filter_append]; simp [HFX.out]
          have e2 : (es.take (k + 1)).filter (fun x => !f x) = (es.take k).filter (fun x => !f x) := by rw [HT.out, List.filter_append]; simp [HFX.out]
          refine ⟨⟨?_, by rw [e2]; exact hst.1⟩, hst.2.1, hst.2.2⟩
          unfold OwnE
          rw [e1, List.length_append, List.flatMap_append]
          simpa using hown3)
        clear hst hown3 hg3 hnil3 hat3
        go_wp2_with fail
        go_roundw
        case rel => exact ⟨k + 1, hlt, by go_num, HQ.out⟩
        case measure => simp [intOf]; omega
      | false =>
        have HFX := hid hfx
        clear hfx
        go_wp2_with (at_builtin; refine wpList_append_own_at _ rfl (.tmp 21) (.tmp 23) 127 rfl w.heap.size 118 i0 _ 4 32 Tryz.underlying127 hi0 hz0 hz1 hz2 rfl (by decide) _ _ _ rfl (HO2.out.alloc _) ⟨W2.heap.size, 0, none⟩ 1 1 (btC x) rfl rfl (World.news_of_block (cs := #[.int .u64 x.hash, .int .i64 x.rg, .int .i64 x.at_, .int .i64 x.sz]) (t := 118) (fr := (0, 0)) (heap_alloc_new _ _)) (by simp [Value.oneCell']) (by have := HL2.out; simp only [maxLen]; omega) (by have := HL2.out; omega) (by simp; omega) ?_)
        intro v3 W3 hown3 hg3 hnil3 hat3
        have hst := part_step (v3 := v3) H12.out.2.1 H12.out.1 (fun g e2 e1 => H12.out.2.2.1 g e1 e2) H12.out.2.2.2 (Nat.le_refl _) _ hg3 (by simpa using hat3)
        have HQ := hid (show PartR w.heap.size f (es.take (k + 1)) w (.slice a1 ((es.take k).filter f).length c1) v3 W3 by
          have e1 : (es.take (k + 1)).filter f = (es.take k).filter f := by rw [HT.out, List.filter_append]; simp [HFX.out]
          have e2 : (es.take (k + 1)).filter (fun x => !f x) = (es.take k).filter (fun x => !f x) ++ [x] := by rw [HT.out, List.filter_append]; simp [HFX.out]
          refine ⟨⟨by rw [e1]; exact hst.1, ?_⟩, (fun g e1 e2 => hst.2.1 g e2 e1), hst.2.2⟩
          unfold OwnE
          rw [e2, List.length_append, List.flatMap_append]
          simpa using hown3)
        clear hst hown3 hg3 hnil3 hat3
        go_wp2_with fail
        go_roundw
        case rel => exact ⟨k + 1, hlt, by go_num, HQ.out⟩
        case measure => simp [intOf]; omega
    · obtain rfl : k = n := by omega
      have hd : decide (k < k) = false := by simp
      go_wp2_with fail
      go_ret2
      rw [List.take_of_length_le (by rw [HN.out]; exact Nat.le_refl _)] at HP
      exact ⟨_, _, rfl, HP.out⟩
end Go.Proofs.YtgdhaaokolfdoaaGreatDoor

namespace Go.Proofs.YtgdhaaokolfdoaaGreatDoor
open Go.RowKit Go.Sg CP SF
def freshB (oldest : Int) (x : Bt) : Bool := decide (oldest ≤ x.rg)
set_option maxHeartbeats 1000000 in
theorem bfresh1_ok {w : World} {b3 : Nat} {oldest : Int} (hb : w.heap[b3]? = some (.cells #[.int .i64 oldest] 3)) (x : Bt) :
    Calls Tryz.prog 194 #[btV x, .pointer (some ⟨b3, 0, none⟩)] w (ValP (.bool (freshB oldest x)) w) := by
  obtain ⟨w1, hw1⟩ : ∃ w1, w.alloc (.cells #[.int .u64 x.hash, .int .i64 x.rg, .int .i64 x.at_, .int .i64 x.sz] 118) = w1 := ⟨_, rfl⟩
  have b1 : w1.heap[w.heap.size]? = some (.cells #[.int .u64 x.hash, .int .i64 x.rg, .int .i64 x.at_, .int .i64 x.sz] 118) := by rw [← hw1]; exact heap_alloc_new _ _
  have F1 : Fr (fun _ => False) w w1 := by rw [← hw1]; exact (Fr.refl _ _).alloc _
  have HF := hid F1
  obtain ⟨t0, t1, t2, t3, tz, tl⟩ := cells4b b1
  have c0 := cell_of_heap (F1.heap hb (fun h => h)) 0
  simp at c0
  obtain ⟨bb, hbb⟩ : ∃ bb, decide (oldest ≤ x.rg) = bb := ⟨_, rfl⟩
  have hfb : freshB oldest x = bb := hbb
  have HB := hid hfb
  have HW := hid hw1
  clear hw1 b1 F1 hb hfb
  go_enter Tryz.func194, Tryz.ntmps194
  go_upto_region 1 with fail
  rw [HW.out]
  go_wp2_with fail
  go_ret
  exact ⟨by rw [HB.out]; rfl, HF.out⟩
def BkP (d p : Int) (es : List Bt) (w : World) (e : Ending) (w' : World) : Prop := ∃ a c, e = .returned (bkV d p (.slice a es.length c)) ∧ OwnE w' w.heap.size (.slice a es.length c) es ∧ Fr (fun _ => False) w w'
set_option maxHeartbeats 2000000 in
theorem bfresh_ok {w : World} {v : Value} {es : List Bt} (hE : OwnE w 0 v es) (hl : es.length ≤ 255) (d p oldest : Int) :
    Calls Tryz.prog 132 #[bkV d p v, .int .i64 oldest] w (BkP d p (es.filter (freshB oldest)) w) := by
  obtain ⟨va, vc, rfl, -, -, -, -⟩ := own_slice hE
  obtain ⟨n, hn⟩ : ∃ n, es.length = n := ⟨_, rfl⟩
  obtain ⟨w1, hw1⟩ : ∃ w1, ((w.alloc (.cells #[.int .i64 d, .int .i64 p, .slice va n vc] 129)).alloc (.cells #[.int .i64 oldest] 3)).alloc (.cells #[.int .i64 0, .int .i64 0, .slice none 0 0] 129) = w1 := ⟨_, rfl⟩
  obtain ⟨b0, b1, b2, F1⟩ := heap_three hw1
  have HB := hid (fun W (F : Fr (fun _ => False) w1 W) => And.intro (cells3 (F.heap b0 (fun h => h))) (cells3 (F.heap b2 (fun h => h))))
  have hE1 := own_none hE F1
  have HPt := hid (parted194_ok hE1 hl ⟨w.heap.size + 1, 0, none⟩ (freshB oldest) (fun x _ W F => bfresh1_ok (F.heap b1 (fun h => h)) x))
  have HF1 := hid F1
  have HN := hid hn
  have hsz : w1.heap.size = w.heap.size + 3 := by rw [← hw1]; simp
  have HSz := hid hsz
  obtain ⟨⟨x0, x1, x2, xz, xl⟩, ⟨y0, y1, y2, yz, yl⟩⟩ := HB.out _ (Fr.refl _ _)
  have HW := hid hw1
  rw [hn] at HPt ⊢
  clear hw1 b0 b1 b2 F1 hE hl hn hsz hE1
  go_enter Tryz.func132, Tryz.ntmps132
  go_upto_region 1 with fail
  rw [HW.out]
  go_wp2_with fail
  refine HPt.out.mono ?_
  rintro e w2 ⟨v1, v2, rfl, ⟨h1, -⟩, -, F2⟩
  obtain ⟨a1, c1, rfl, -, -, -, -⟩ := own_slice h1
  have H2 := hid (And.intro h1 F2)
  clear h1 F2 x0 x1 x2 xz xl y0 y1 y2 yz yl
  obtain ⟨⟨x0, x1, x2, xz, xl⟩, ⟨y0, y1, y2, yz, yl⟩⟩ := HB.out _ H2.out.2
  go_wp2_with fail
  refine (with_ok d p va n vc a1 (es.filter (freshB oldest)).length c1 w2).mono ?_
  rintro e w3 ⟨rfl, F3⟩
  have HF3 := hid F3
  have hs3 : w.heap.size + 2 < w3.heap.size := Nat.lt_of_lt_of_le yl F3.size
  clear F3 x0 x1 x2 xz xl y0 y1 y2 yz yl
  obtain ⟨⟨x0, x1, x2, xz, xl⟩, ⟨y0, y1, y2, yz, yl⟩⟩ := HB.out _ (H2.out.2.trans HF3.out (fun _ _ h => h))
  go_wp2_with fail
  have FS : ∀ (W : World) (o : Nat) (u : Value), Fr (fun b => b = w.heap.size + 2) W (W.setCell ⟨w.heap.size + 2, o, none⟩ u) := fun W o u => (Fr.refl (fun b => b = w.heap.size + 2) _).setCell (a := ⟨w.heap.size + 2, o, none⟩) (fun _ => rfl) u
  refine bodyPost_ret (v := bkV d p (.slice a1 (es.filter (freshB oldest)).length c1)) (by simp [results, go_sem, *]) rfl ⟨a1, c1, rfl, ?_, ?_⟩
  · have hs := HSz.out
    exact own_fr1 (own_mono (own_none H2.out.1 HF3.out) (by omega)) (((FS _ _ _).trans (FS _ _ _) (fun _ _ h => h)).trans (FS _ _ _) (fun _ _ h => h)) (fun g hg e => by
      have := (own_blkT H2.out.1 hg).1
      omega)
  · exact ((((HF1.out.trans H2.out.2 (fun _ _ h => h)).trans HF3.out (fun _ _ h => h)).setNew (by omega) _).setNew (by omega) _).setNew (by omega) _
end Go.Proofs.YtgdhaaokolfdoaaGreatDoor

namespace Go.Proofs.YtgdhaaokolfdoaaGreatDoor
open Go.RowKit Go.Sg CP SF
def preM (h bits : Nat) : Nat := if bits < 1 ∨ 30 < bits then 0 else h / 2 ^ (64 - bits)
theorem pre_lt {h bits : Nat} (hh : h < 18446744073709551616) (hb : bits ≤ 20) : preM h bits < 1048576 := by
  unfold preM
  split
  · omega
  · have h1 : h / 2 ^ (64 - bits) ≤ h / 2 ^ 44 := Nat.div_le_div_left (Nat.pow_le_pow_right (by decide) (by omega)) (by decide)
    have h2 : h / 2 ^ 44 < 1048576 := by
      rw [show (2 : Nat) ^ 44 = 17592186044416 by decide]; omega
    omega
theorem pre_wrap {h bits : Nat} (hh : h < 18446744073709551616) (hb : bits ≤ 20) (h0 : ¬ bits < 1) : wrap64 ((h : Int) / 2 ^ (64 - bits)) = (preM h bits : Int) := by
  have h1 := pre_lt hh hb
  have e : (h : Int) / 2 ^ (64 - bits) = (preM h bits : Int) := by
    unfold preM
    rw [if_neg (by omega)]
    simp
  rw [e]
  generalize preM h bits = z at *
  simp only [wrap64]; omega
set_option maxHeartbeats 1000000 in
theorem prefix_ok (h bits : Nat) (hh : h < 18446744073709551616) (hb : bits ≤ 20) (w : World) : Calls Tryz.prog 191 #[.int .u64 h, .int .i64 bits] w (IntP (preM h bits) w) := by
  by_cases h0 : bits < 1
  · have d0 : decide (bits < 1) = true := by simp; omega
    have hp : preM h bits = 0 := by unfold preM; rw [if_pos (.inl h0)]
    rw [hp]
    obtain rfl : bits = 0 := by omega
    go_enter Tryz.func191, Tryz.ntmps191
    go_wp2_with fail
    go_ret
    exact ⟨rfl, rfl⟩
  · have d0 : decide ((bits : Int) < 1) = false := by simp; omega
    have d1 : decide ((30 : Int) < (bits : Int)) = false := by simp; omega
    have hp : preM h bits = h / 2 ^ (64 - bits) := by unfold preM; rw [if_neg (by omega)]
    have HP := hid hp
    clear hp
    go_enter Tryz.func191, Tryz.ntmps191
    go_wp2_with fail
    go_ret
    exact ⟨by rw [← pre_wrap hh hb h0]; rfl, rfl⟩
def halfB (d : Nat) (x : Bt) : Bool := decide (preM x.hash (d + 1) % 2 = 1)
set_option maxHeartbeats 1000000 in
theorem split1_ok {w : World} {b3 d : Nat} {p : Int} {v : Value} (hb : w.heap[b3]? = some (.cells #[.int .i64 d, .int .i64 p, v] 129)) (hd : d < 20) (x : Bt) (hx : x.hash < 18446744073709551616) :
    Calls Tryz.prog 247 #[btV x, .pointer (some ⟨b3, 0, none⟩)] w (ValP (.bool (halfB d x)) w) := by
  obtain ⟨w1, hw1⟩ : ∃ w1, w.alloc (.cells #[.int .u64 x.hash, .int .i64 x.rg, .int .i64 x.at_, .int .i64 x.sz] 118) = w1 := ⟨_, rfl⟩
  have b1 : w1.heap[w.heap.size]? = some (.cells #[.int .u64 x.hash, .int .i64 x.rg, .int .i64 x.at_, .int .i64 x.sz] 118) := by rw [← hw1]; exact heap_alloc_new _ _
  have F1 : Fr (fun _ => False) w w1 := by rw [← hw1]; exact (Fr.refl _ _).alloc _
  have HF := hid F1
  obtain ⟨t0, t1, t2, t3, tz, tl⟩ := cells4b b1
  obtain ⟨c0, c1, c2, cz, cl⟩ := cells3 (F1.heap hb (fun h => h))
  have HP := hid (prefix_ok x.hash (d + 1) hx (by omega) w1)
  obtain ⟨q, hq⟩ : ∃ q, preM x.hash (d + 1) = q := ⟨_, rfl⟩
  obtain ⟨bb, hbb⟩ : ∃ bb, decide (q % 2 = 1) = bb := ⟨_, rfl⟩
  have hbq : ((q : Int) % 2 == 1) = bb := by
    rw [← hbb, Bool.eq_iff_iff]
    simp
    omega
  have hbt : ((q : Int).tmod 2 == 1) = bb := by
    rw [Int.tmod_eq_emod_of_nonneg (by omega)]; exact hbq
  have HB := hid (show halfB d x = bb by unfold halfB; rw [hq]; exact hbb)
  rw [hq] at HP
  have HW := hid hw1
  clear hw1 b1 F1 hb hq hbb
  go_enter Tryz.func247, Tryz.ntmps247
  go_upto_region 1 with fail
  rw [HW.out]
  go_wp2_with fail
  refine HP.out.mono ?_
  rintro e _ ⟨rfl, rfl⟩
  go_wp2_with fail
  go_ret
  exact ⟨by rw [HB.out]; rfl, HF.out⟩
def SplitP (d p : Nat) (es : List Bt) (w : World) (e : Ending) (w' : World) : Prop :=
  ∃ a0 c0 a1 c1, e = .returned (.agg #[.int .i64 ((d + 1 : Nat) : Int), .int .i64 ((2 * p : Nat) : Int), .slice a0 (es.filter fun x => !halfB d x).length c0, .int .i64 ((d + 1 : Nat) : Int), .int .i64 ((2 * p + 1 : Nat) : Int), .slice a1 (es.filter (halfB d)).length c1]) ∧
    OwnE w' w.heap.size (.slice a0 (es.filter fun x => !halfB d x).length c0) (es.filter fun x => !halfB d x) ∧ OwnE w' w.heap.size (.slice a1 (es.filter (halfB d)).length c1) (es.filter (halfB d)) ∧ Fr (fun _ => False) w w'
set_option maxHeartbeats 4000000 in
set_option maxRecDepth 100000 in
theorem bsplit_ok {w : World} {v : Value} {es : List Bt} (hE : OwnE w 0 v es) (hl : es.length ≤ 255) (hx : ∀ x ∈ es, x.hash < 18446744073709551616) (d p : Nat) (hd : d < 20) (hp : p < 1048576) :
    Calls Tryz.prog 196 #[bkV d p v] w (SplitP d p es w) := by
  obtain ⟨va, vc, rfl, -, -, -, -⟩ := own_slice hE
  obtain ⟨n, hn⟩ : ∃ n, es.length = n := ⟨_, rfl⟩
  obtain ⟨w1, hw1⟩ : ∃ w1, (w.alloc (.cells #[.int .i64 d, .int .i64 p, .slice va n vc] 129)).alloc (.cells #[.int .i64 0, .int .i64 0, .slice none 0 0, .int .i64 0, .int .i64 0, .slice none 0 0] 301) = w1 := ⟨_, rfl⟩
  obtain ⟨b0, b1, F1⟩ := heap_two hw1
  have HB := hid (fun W (F : Fr (fun _ => False) w1 W) => And.intro (cells3 (F.heap b0 (fun h => h))) (cells6 (F.heap b1 (fun h => h))))
  have hE1 := own_none hE F1
  have HPt := hid (parted247_ok hE1 hl ⟨w.heap.size, 0, none⟩ (halfB d) (fun x hxm W F => split1_ok (F.heap b0 (fun h => h)) hd x (hx x hxm)))
  have HF1 := hid F1
  have HN := hid hn
  have hsz : w1.heap.size = w.heap.size + 2 := by rw [← hw1]; simp
  have HSz := hid hsz
  obtain ⟨⟨x0, x1, x2, xz, xl⟩, ⟨y0, y1, y2, y3, y4, y5, yz, yl⟩⟩ := HB.out _ (Fr.refl _ _)
  have HW := hid hw1
  rw [hn] at HPt ⊢
  clear hw1 b0 b1 F1 hE hl hn hsz hE1 hx
  go_enter Tryz.func196, Tryz.ntmps196
  go_upto_region 1 with fail
  rw [HW.out]
  go_wp2_with fail
  refine HPt.out.mono ?_
  rintro e w2 ⟨v1, v2, rfl, ⟨h1, h2⟩, -, F2⟩
  obtain ⟨a1, c1, rfl, -, -, -, -⟩ := own_slice h1
  obtain ⟨a0, c0, rfl, -, -, -, -⟩ := own_slice h2
  have H2 := hid (And.intro h1 (And.intro h2 F2))
  clear h1 h2 F2 x0 x1 x2 xz xl y0 y1 y2 y3 y4 y5 yz yl
  obtain ⟨⟨x0, x1, x2, xz, xl⟩, ⟨y0, y1, y2, y3, y4, y5, yz, yl⟩⟩ := HB.out _ H2.out.2.2
  go_wp2_with fail
  have FS : ∀ (W : World) (o : Nat) (u : Value), Fr (fun b => b = w.heap.size + 1) W (W.setCell ⟨w.heap.size + 1, o, none⟩ u) := fun W o u => (Fr.refl (fun b => b = w.heap.size + 1) _).setCell (a := ⟨w.heap.size + 1, o, none⟩) (fun _ => rfl) u
  have hs := HSz.out
  have F6 : ∀ u0 u1 u2 u3 u4 u5 : Value, Fr (fun b => b = w.heap.size + 1) w2 ((((((w2.setCell ⟨w.heap.size + 1, 0, none⟩ u0).setCell ⟨w.heap.size + 1, 1, none⟩ u1).setCell ⟨w.heap.size + 1, 2, none⟩ u2).setCell ⟨w.heap.size + 1, 3, none⟩ u3).setCell ⟨w.heap.size + 1, 4, none⟩ u4).setCell ⟨w.heap.size + 1, 5, none⟩ u5) := fun u0 u1 u2 u3 u4 u5 =>
    ((((((FS _ _ _).trans (FS _ _ _) (fun _ _ h => h)).trans (FS _ _ _) (fun _ _ h => h)).trans (FS _ _ _) (fun _ _ h => h)).trans (FS _ _ _) (fun _ _ h => h)).trans (FS _ _ _) (fun _ _ h => h))
  have F0 := HF1.out.trans H2.out.2.2 (fun _ _ h => h)
  have HO := hid (fun (v : Value) (l : List Bt) (h : OwnE w2 w1.heap.size v l) (u0 u1 u2 u3 u4 u5 : Value) => (own_fr1 (own_mono h (by omega)) (F6 u0 u1 u2 u3 u4 u5) (fun g hg e => by
      have := (own_blkT h hg).1
      omega) : OwnE _ w.heap.size v l))
  have HA := hid H2.out.1
  have HB2 := hid H2.out.2.1
  have HF6 := hid (fun u0 u1 u2 u3 u4 u5 => F0.trans (F6 u0 u1 u2 u3 u4 u5) (fun b hb e => by omega))
  clear FS F6 F0 hs
  refine bodyPost_ret (v := .agg #[.int .i64 ((d : Int) + 1), .int .i64 (2 * (p : Int)), .slice a0 (es.filter fun x => !halfB d x).length c0, .int .i64 ((d : Int) + 1), .int .i64 (2 * (p : Int) + 1), .slice a1 (es.filter (halfB d)).length c1]) (by simp [results, go_sem, *]) rfl ⟨a0, c0, a1, c1, by simp, HO.out _ _ HB2.out _ _ _ _ _ _, HO.out _ _ HA.out _ _ _ _ _ _, HF6.out _ _ _ _ _ _⟩
end Go.Proofs.YtgdhaaokolfdoaaGreatDoor
