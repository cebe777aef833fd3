/- Sets of numbers as maps from int to bool; slices of bytes that are kept. Conditions: none. -/
import Derived.Test.YtgdhaaokolfdoaaGreatDoorBy
import Derived.Maps.RangeWalk
import Derived.Lib.SlKeysI
namespace Go.Sg
open Go.RowKit
theorem borns_put (l : List Ent) (k : Int) (v : Value) (c : Nat) : (put l k v c).map (·.born) = if (look l k).isSome then l.map (·.born) else l.map (·.born) ++ [c] := by
  induction l with
  | nil => rfl
  | cons e l ih =>
    unfold put
    by_cases hk : (e.k == k) = true
    · have hk' : e.k = k := by simpa using hk
      simp [look, hk, hk']
    · have hk' : (e.k == k) = false := by simpa using hk
      have e1 : look (e :: l) k = look l k := by simp [look, List.find?_cons, hk']
      rw [hk', e1]
      simp only [Bool.false_eq_true, if_false, List.map_cons]
      rw [ih]
      split <;> rfl
theorem del_sub (l : List Ent) (k : Int) : (del l k).Sublist l := by
  induction l with
  | nil => exact List.Sublist.refl _
  | cons e l ih =>
    unfold del
    split
    · exact List.sublist_cons_self _ _
    · exact ih.cons_cons _
theorem look_mem {l : List Ent} (h : (keys l).Nodup) {e : Ent} (he : e ∈ l) : look l e.k = some e.v := by
  induction l with
  | nil => cases he
  | cons a l ih =>
    have hn : (keys l).Nodup := by simp [keys] at h ⊢; exact h.2
    have ha : a.k ∉ keys l := by simp [keys] at h ⊢; exact h.1
    rcases List.mem_cons.1 he with rfl | he'
    · simp [look]
    · have : a.k ≠ e.k := by
        intro x
        exact ha (by rw [x]; exact List.mem_map.2 ⟨e, he', rfl⟩)
      have := ih hn he'
      simp [look] at this ⊢
      simp [List.find?_cons, *]
/-- A row of entries is the set f. -/
structure SetIs (l : List Ent) (ck : Nat) (f : Int → Bool) : Prop where
  nd : (keys l).Nodup
  born : ∀ x ∈ l.map (·.born), x < ck
  bnd : (l.map (·.born)).Nodup
  at_ : ∀ k, look l k = if f k then some (.bool true) else none
def updI (f : Int → Bool) (k : Int) (b : Bool) : Int → Bool := fun j => if j = k then b else f j
theorem SetIs.made : SetIs [] 0 (fun _ => false) := ⟨by simp [keys], by simp, by simp, fun k => rfl⟩
theorem SetIs.isSome {l : List Ent} {ck : Nat} {f : Int → Bool} (h : SetIs l ck f) (k : Int) : (look l k).isSome = f k := by
  rw [h.at_]; cases f k <;> rfl
theorem SetIs.put {l : List Ent} {ck : Nat} {f : Int → Bool} (h : SetIs l ck f) (k : Int) : SetIs (put l k (.bool true) ck) (bump l k ck) (updI f k true) := by
  refine ⟨nodup_put h.nd _ _ _, ?_, ?_, fun j => ?_⟩
  · rw [borns_put]
    unfold bump
    split
    · exact h.born
    · intro x hx
      rcases List.mem_append.1 hx with hx | hx
      · have := h.born x hx; omega
      · simp at hx; omega
  · rw [borns_put]
    split
    · exact h.bnd
    · rw [List.nodup_append]
      refine ⟨h.bnd, by simp, ?_⟩
      rintro a ha b hb rfl
      simp at hb
      subst hb
      exact absurd (h.born _ ha) (Nat.lt_irrefl _)
  · rw [look_put, h.at_, updI]
    by_cases e : k = j
    · subst e; simp
    · have e' : ¬ j = k := fun x => e x.symm
      simp [e, e']
theorem SetIs.del {l : List Ent} {ck : Nat} {f : Int → Bool} (h : SetIs l ck f) (k : Int) : SetIs (del l k) ck (updI f k false) := by
  have hs := (del_sub l k).map (·.born)
  refine ⟨nodup_del h.nd _, fun x hx => h.born x (hs.subset hx), h.bnd.sublist hs, fun j => ?_⟩
  rw [look_del h.nd, h.at_, updI]
  by_cases e : k = j
  · subst e; simp
  · have e' : ¬ j = k := fun x => e x.symm
    simp [e, e']
theorem SetIs.len {l : List Ent} {ck : Nat} {f : Int → Bool} (h : SetIs l ck f) {n : Nat} (hn : ∀ k, f k = true → 0 ≤ k ∧ k < n) : l.length ≤ n := by
  rw [← length_keys]
  have hsub : ∀ k ∈ keys l, k.toNat ∈ List.range n ∧ 0 ≤ k := fun k hk => by
    have h1 : look l k ≠ none := fun e => (look_none l k).1 e hk
    rw [h.at_] at h1
    have h2 : f k = true := by
      cases hf : f k with
      | true => rfl
      | false => rw [hf] at h1; simp at h1
    have := hn k h2
    simp; omega
  have h1 : ((keys l).map Int.toNat).Nodup := by
    rw [List.Nodup, List.pairwise_map]
    refine List.Pairwise.imp_of_mem ?_ h.nd
    intro a b ha hb hab
    have := (hsub a ha).2
    have := (hsub b hb).2
    omega
  have h2 : ((keys l).map Int.toNat).length ≤ (List.range n).length := by
    refine List.Nodup.length_le_of_subset h1 ?_
    intro x hx
    obtain ⟨k, hk, rfl⟩ := List.mem_map.1 hx
    exact (hsub k hk).1
  simpa using h2
/-- A map lies in the world that is the set f. -/
structure SetAt (w : World) (b : Nat) (f : Int → Bool) : Prop where
  ex : ∃ l ck, w.heap[b]? = some (.map (ents l) ck) ∧ SetIs l ck f
theorem SetAt.fr {S : Nat → Prop} {w w' : World} {b : Nat} {f : Int → Bool} (h : SetAt w b f) (F : Fr S w w') (hn : ¬ S b) : SetAt w' b f := by
  obtain ⟨l, ck, hm, hs⟩ := h.ex
  exact ⟨l, ck, F.heap hm hn, hs⟩
theorem SetAt.lt {w : World} {b : Nat} {f : Int → Bool} (h : SetAt w b f) : b < w.heap.size := by
  obtain ⟨l, ck, hm, _⟩ := h.ex
  exact lt_of_heap hm
theorem SetAt.ne {w : World} {b b' : Nat} {f : Int → Bool} (h : SetAt w b f) {c : Array Value} {t : TypeId} {fz : Nat × Nat} (h' : w.heap[b']? = some (.cells c t fz)) : b ≠ b' := by
  obtain ⟨l, ck, hm, _⟩ := h.ex
  exact heap_ne hm h' (by simp)
theorem SetAt.made {w : World} {b : Nat} (h : w.heap[b]? = some (.map #[] 0)) : SetAt w b (fun _ => false) := ⟨[], 0, h, SetIs.made⟩

/-! ### A set as the kit reads it -/
theorem insert_perm {H : Type} (x : Lit × DataW H) (l : List (Lit × DataW H)) : (DataW.insert x l).Perm (x :: l) := by
  induction l with
  | nil => exact List.Perm.refl _
  | cons y r ih =>
    unfold DataW.insert
    split
    · exact List.Perm.refl _
    · exact (ih.cons y).trans (List.Perm.swap _ _ _)
theorem foldr_perm {H : Type} (l : List (Lit × DataW H)) : (l.foldr DataW.insert []).Perm l := by
  induction l with
  | nil => exact List.Perm.refl _
  | cons x l ih => exact (insert_perm _ _).trans (ih.cons x)
def boolD {H : Type} : DataW H := .lit (.bool true)
def setD {H : Type} (l : List Ent) : DataW H := .map ((l.map fun e => (Lit.int .i64 e.k, boolD)).foldr DataW.insert [])
theorem setD_keys {H : Type} (l : List Ent) : (intKeys (setD (H := H) l)).Perm (keys l) := by
  unfold setD intKeys
  refine ((foldr_perm _).map _).trans ?_
  rw [List.map_map]
  exact List.Perm.of_eq rfl
theorem setD_size {H : Type} (l : List Ent) : Maps.size (setD (H := H) l) = l.length := by
  rw [setD, Maps.size_eq, (foldr_perm _).length_eq, List.length_map]
theorem setD_has {H : Type} (l : List Ent) (k : Int) : Maps.has (setD (H := H) l) (.int .i64 k) = decide (k ∈ keys l) := by
  rw [setD, Maps.has_eq, Bool.eq_iff_iff]
  rw [List.any_eq_true]
  constructor
  · rintro ⟨p, hp, hs⟩
    have hp' := (foldr_perm _).mem_iff.1 hp
    obtain ⟨e, he, rfl⟩ := List.mem_map.1 hp'
    have : e.k = k := by simpa [Lit.sameKey] using hs
    simp
    rw [← this]
    exact List.mem_map.2 ⟨e, he, rfl⟩
  · intro h
    have h' : k ∈ keys l := by simpa using h
    obtain ⟨e, he, rfl⟩ := List.mem_map.1 h'
    exact ⟨_, (foldr_perm _).mem_iff.2 (List.mem_map.2 ⟨e, he, rfl⟩), by simp [Lit.sameKey]⟩
open Go.WideElems in
theorem set_owns {H : Type} {P : Program} {w : World} {b K E : Nat} {l : List Ent} {ck : Nat} {f : Int → Bool} (hK : P.underlying K = some (.int .i64)) (hE : P.underlying E = some .bool)
    (hb : w.heap[b]? = some (.map (ents l) ck)) (hs : SetIs l ck f) (hw : ∀ k, f k = true → (Lit.int .i64 k).wf = true) (hl : l.length ≤ maxLen) :
    w.ownsMap P K (plainElem (H := H) P E) b l.length (setD l) := by
  have hrd : ∀ e ∈ l, rd P K (plainElem (H := H) P E) e.entry = some (.int .i64 e.k, boolD) := fun e he => by
    have h1 := look_mem hs.nd he
    rw [hs.at_] at h1
    have hf : f e.k = true := by
      cases hf : f e.k with
      | true => rfl
      | false => rw [hf] at h1; simp at h1
    rw [hf] at h1
    simp at h1
    have : e.entry = ⟨.int .i64 e.k, .bool true, e.born⟩ := by rw [Ent.entry, ← h1]
    rw [this]
    exact rd_mk (Maps.keyOf_int_mk hK (hw _ hf)) (plainElem_bool hE true)
  refine ⟨ents l, ck, hb, ⟨by simp [ents]; exact hl, (MapKept.stamped_iff _ _).2 ⟨?_, ?_, ?_⟩, ?_⟩, by simp [ents], ?_⟩
  · intro x hx
    simp [ents] at hx
    obtain ⟨e, he, rfl⟩ := hx
    exact hs.born _ (List.mem_map.2 ⟨e, he, rfl⟩)
  · have := hs.bnd
    simpa [ents, Ent.entry, List.map_map, Function.comp_def] using this
  · have := hs.nd
    rw [keys, List.Nodup, List.pairwise_map] at this
    simp only [ents, List.toList_toArray, List.pairwise_map, Ent.entry]
    refine this.imp ?_
    intro a c h h'
    exact h (by simpa using h')
  · intro x hx
    simp [ents] at hx
    obtain ⟨e, he, rfl⟩ := hx
    exact ⟨_, hrd e he⟩
  · rw [setD]
    congr 2
    simp only [ents, List.toList_toArray, List.map_map]
    refine List.map_congr_left fun e he => ?_
    simp only [Function.comp]
    rw [rg_of (hrd e he)]

/-! ### Slices of bytes as values -/
/-- A slice's value reads as bs. -/
structure SlB (w : World) (a : Option Addr) (n c : Nat) (bs : List Int) : Prop where
  by_ : Byts w a n bs
  at_ : (a = none ∧ n = 0 ∧ c = 0) ∨ ∃ b off, a = some ⟨b, off, none⟩
/-- .. and lies in a block of bytes alone. -/
structure ByV (w : World) (a : Option Addr) (n c : Nat) (bs : List Int) : Prop where
  by_ : Byts w a n bs
  at_ : (a = none ∧ n = 0 ∧ c = 0) ∨ ∃ b off cs, a = some ⟨b, off, none⟩ ∧ w.heap[b]? = some (.cells cs 5)
theorem ByV.slb {w : World} {a : Option Addr} {n c : Nat} {bs : List Int} (h : ByV w a n c bs) : SlB w a n c bs := by
  refine ⟨h.by_, ?_⟩
  rcases h.at_ with h0 | ⟨b, off, cs, h1, _⟩
  · exact .inl h0
  · exact .inr ⟨b, off, h1⟩
theorem ByV.fr {S : Nat → Prop} {w w' : World} {a : Option Addr} {n c : Nat} {bs : List Int} (h : ByV w a n c bs) (F : Fr S w w') (hS : ∀ b c, w.heap[b]? = some (.cells c 5) → ¬ S b) : ByV w' a n c bs := by
  refine ⟨h.by_.fr F (fun b off e hb => ?_), ?_⟩
  · rcases h.at_ with ⟨h0, _⟩ | ⟨b', off', cs, h1, h2⟩
    · rw [h0] at e; cases e
    · rw [h1] at e; cases e; exact hS _ _ h2
  · rcases h.at_ with h0 | ⟨b', off', cs, h1, h2⟩
    · exact .inl h0
    · exact .inr ⟨b', off', cs, h1, F.heap h2 (hS _ _ h2)⟩
theorem ByV.nil (w : World) : ByV w none 0 0 [] := ⟨⟨rfl, fun i x h => by simp at h⟩, .inl ⟨rfl, rfl, rfl⟩⟩
theorem ByV.len {w : World} {a : Option Addr} {n c : Nat} {bs : List Int} (h : ByV w a n c bs) : bs.length = n := h.by_.len
end Go.Sg
namespace Go.Proofs.YtgdhaaokolfdoaaGreatDoor
open Go.RowKit Go.Sg
theorem clone_v {w : World} {a : Option Addr} {n c : Nat} {bs : List Int} (h : SlB w a n c bs) (hn : n ≤ 65536) :
    Calls Tryz.prog 83 #[.slice a n c] w fun e w' => ∃ a' c', e = .returned (.slice a' n c') ∧ ByV w' a' n c' bs ∧ Fr (fun _ => False) w w' := by
  rcases h.at_ with ⟨rfl, rfl, rfl⟩ | ⟨b, off, rfl⟩
  · refine (clone_nil w).mono fun e w' ⟨he, hw⟩ => ⟨none, 0, he, ?_, by rw [hw]; exact Fr.refl _ _⟩
    have : bs = [] := List.eq_nil_of_length_eq_zero h.by_.len
    rw [this]; exact ByV.nil w'
  · exact (clone_at h.by_ hn).mono fun e w' ⟨g, c', cs, he, hg, hB, _, hF⟩ => ⟨_, _, he, ⟨hB, .inr ⟨g, 0, cs, rfl, hg⟩⟩, hF⟩
end Go.Proofs.YtgdhaaokolfdoaaGreatDoor
