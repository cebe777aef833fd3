/- A pack of texts: IM0, IT2, MXS, XPT. Conditions: those that each text names. -/
import Derived.Test.YtgdhaaokolfdoaaGreatDoorJCB
import Derived.Test.YtgdhaaokolfdoaaGreatDoorJBJ
import Derived.Test.YtgdhaaokolfdoaaGreatDoorJCC
import Derived.Test.YtgdhaaokolfdoaaGreatDoorJAV
import Derived.Test.YtgdhaaokolfdoaaGreatDoorJBA
set_option linter.unusedVariables false
set_option linter.unusedSimpArgs false
set_option linter.unnecessarySimpa false
namespace Go.Proofs.YtgdhaaokolfdoaaGreatDoor
open Go.RowKit Go.Sg Go.Sg.Bits Go.Sg.Clk CP SF
abbrev FrI (base : Nat) (w w' : World) : Prop := Fr (fun b => base ≤ b ∧ ∀ c t f, w.heap[b]? = some (.cells c t f) → t ∈ 227 :: 209 :: mutT) w w'
theorem FrI.heap {base : Nat} {w w' : World} (h : FrI base w w') {b : Nat} {c : Array Value} {t : TypeId} {f : Nat × Nat} (hb : w.heap[b]? = some (.cells c t f)) (ht : t ∉ 227 :: 209 :: mutT) : w'.heap[b]? = some (.cells c t f) :=
  Fr.heap h hb fun hs => ht (hs.2 c t f hb)
theorem frB_frI {B : Blk} {w w' : World} (h : FrB B w w') : FrI B.base w w' := Fr.mono h fun b _ hs => ⟨hs.1, fun c t f hc => List.mem_cons_of_mem _ (List.mem_cons_of_mem _ (hs.2.1 c t f hc))⟩
theorem FrI.fr0 {base : Nat} {w0 w w' : World} (h : FrI base w w') (hb : w0.heap.size ≤ base) (F : Fr (fun _ => False) w0 w) : Fr (fun _ => False) w0 w' := F.trans h fun b hb' hs => by omega
theorem idxAt_frX {B : Blk} {w w' : World} {bx s bd sl most : Nat} {sp : Int} {X : Nat → Prop} (h : IdxAt w bx s bd sl most sp) (F : FrX B X w w') (hX : ¬ X bx) : IdxAt w' bx s bd sl most sp :=
  Fr.heap F h fun hs => by
    rcases hs with hs | hs
    · exact absurd (hs.2.1 _ _ _ h) (by decide)
    · exact hX hs
theorem idxAt_frB {B : Blk} {w w' : World} {bx s bd sl most : Nat} {sp : Int} (h : IdxAt w bx s bd sl most sp) (F : FrB B w w') : IdxAt w' bx s bd sl most sp := F.heap h (by decide)
abbrev Bp := Rf × List Int
abbrev bpg (L : List Bp) : List Nat := L.map fun q => q.1.1.toNat
structure IdxM (w : World) (B : Blk) (bx bd : Nat) (y : Cs) (P : Prot) (a : Bool) (N : Nat) (x : DirD) (tops slots : List Rf) (L : List Bp) (sp : Int) : Prop where
  st : StoreC w B y P a N
  idx : IdxAt w bx B.s bd 3 3 sp
  dir : DirAt w bd B.s x
  c : DirC y x tops slots
  live : Live y (pgs x.rp tops ++ bpg L) 11
  bk : ∀ q ∈ L, rightR q.1 ∧ y.cont q.1.1 = some (q.1.2.toNat, q.2)
  len : L.length ≤ 10
  plan : y.plan = small17
  pages : y.pages = 108
  room : y.room = 77
  places : y.places = 8
  per : x.per = 6 ∧ x.most = 3
  base : B.base ≤ bd ∧ B.base ≤ bx
section
variable {w w' : World} {B : Blk} {bx bd : Nat} {y : Cs} {P : Prot} {a : Bool} {N N' : Nat} {x : DirD} {tops slots : List Rf} {L : List Bp} {sp : Int}
theorem IdxM.frB (h : IdxM w B bx bd y P a N x tops slots L sp) (F : FrB B w w') (hS : StoreC w' B y P a N') : IdxM w' B bx bd y P a N' x tops slots L sp :=
  { h with st := hS, idx := idxAt_frB h.idx F, dir := h.dir.frB F }
theorem IdxM.fr0 (h : IdxM w B bx bd y P a N x tops slots L sp) (F : Fr (fun _ => False) w w') : IdxM w' B bx bd y P a N x tops slots L sp :=
  { h with st := h.st.fr0 F, idx := F.heap h.idx (fun h => h), dir := F.heap h.dir (fun h => h) }
theorem IdxM.mono (h : IdxM w B bx bd y P a N x tops slots L sp) (hN : N ≤ N') (h9 : N' ≤ 90000) : IdxM w B bx bd y P a N' x tops slots L sp := { h with st := h.st.mono hN h9 }
theorem leaves8 {x : DirD} (h : x.per = 6 ∧ x.most = 3) (hd : x.depth ≤ x.most) : x.leaves ≤ 2 ∧ x.slots ≤ 8 := by
  have h5 : x.depth ≤ 3 := by omega
  have h1 : 2 ^ x.depth ≤ 2 ^ 3 := Nat.pow_le_pow_right (by decide) h5
  unfold DirD.leaves DirD.slots
  rw [h.1]
  omega
theorem IdxM.small (h : IdxM w B bx bd y P a N x tops slots L sp) : x.leaves ≤ 2 ∧ x.slots ≤ 8 ∧ x.depth ≤ 3 := by
  have h1 := leaves8 h.per h.c.z.most.1
  have h2 := h.c.z.most.1
  have h3 := h.per.2
  exact ⟨h1.1, h1.2, by omega⟩
theorem IdxM.own_len (h : IdxM w B bx bd y P a N x tops slots L sp) : (pgs x.rp tops ++ bpg L).length ≤ 13 := by
  have h1 := h.small
  have h2 := h.c.tlen
  have h3 := h.len
  simp only [pgs, bpg, List.length_append, List.length_cons, List.length_map]
  omega
theorem IdxM.free (h : IdxM w B bx bd y P a N x tops slots L sp) : ∃ j, j < y.pages ∧ y.taken j = false := h.live.free (by have := h.own_len; rw [h.pages]; omega)
theorem DirC.keeps {y y' : Cs} {x : DirD} {tops slots : List Rf} (h : DirC y x tops slots) (hz : y'.room = y.room) (h0 : y'.cont x.rp = y.cont x.rp) (h1 : ∀ r ∈ tops, y'.cont r.1 = y.cont r.1) : DirC y' x tops slots :=
  ⟨⟨h.z.most, by rw [hz]; exact h.z.per, fun d hd => by rw [hz]; exact h.z.fits d hd, by rw [hz]; exact h.z.room⟩, h.slen, h.tlen, ⟨h.leaf.sr, h.leaf.tr, fun i r hi => by rw [h1 r (List.mem_of_getElem? hi)]; exact h.leaf.at_ i r hi⟩, h.rr, by rw [h0]; exact h.root⟩
def MidU (B : Blk) (bx bd : Nat) (y : Cs) (P : Prot) (a : Bool) (N : Nat) (depth : Nat) (slots : List Rf) (L : List Bp) (sp : Int) (w : World) (e : Ending) (w' : World) : Prop :=
  ∃ err, e = .returned (.int .i64 err) ∧ FrX B (fun b => b = bd) w w' ∧ ((err = 0 ∧ ∃ y' x' tops', IdxM w' B bx bd y' P a N x' tops' slots L sp ∧ x'.depth = depth ∧ (Like y y' ∧ y'.gen = y.gen ∧ y'.dead = y.dead)) ∨ (err = 4 ∧ a = true ∧ DownC w' B y P N))
theorem IdxM.of_dirU (h : IdxM w B bx bd y P a N x tops slots L sp) {x1 : DirD} {sl' : List Rf} {e : Ending} (hx : x1.per = x.per ∧ x1.most = x.most) (hu : DirU B bd x1 y P a N' (bpg L) 11 False y.cont sl' w e w') : MidU B bx bd y P a N' x1.depth sl' L sp w e w' := by
  obtain ⟨err, rfl, F, ⟨rfl, y', tk, m, e1, e2, e3, e4, e5, e6, e7⟩ | ⟨rfl, ha, hd⟩⟩ := hu
  · refine ⟨0, rfl, F, .inl ⟨rfl, y', _, tk, ⟨e2, idxAt_frX h.idx F (fun e => ?_), e1, e3, e4, fun q hq => ⟨(h.bk q hq).1, ?_⟩, h.len, e7.1.plan.trans h.plan, e7.1.pages.trans h.pages, e7.1.room.trans h.room, e7.1.places.trans h.places, ⟨hx.1.trans h.per.1, hx.2.trans h.per.2⟩, h.base⟩, rfl, e7⟩⟩
    · have h1 := h.dir
      have h2 := h.idx
      unfold DirAt at h1
      unfold IdxAt at h2
      rw [e, h1] at h2
      cases h2
    · have hr := (h.bk q hq).1
      have := e6 q.1.1.toNat (List.mem_map.2 ⟨q, hq, rfl⟩)
      rw [Int.toNat_of_nonneg hr.1] at this
      rw [this]
      exact (h.bk q hq).2
  · exact ⟨4, rfl, F, .inr ⟨rfl, ha, hd⟩⟩
theorem IdxM.set (h : IdxM w B bx bd y P a N x tops slots L sp) {n c : Nat} {sa : Option Addr} {l : List Int} {r : Rf} (hl : SlI w sa n c l) (hlF : ∀ W, FrB B w W → SlI W sa n c l) (hn : n ≤ 8) (hany : l.any (outB x.slots) = false) (hr : rightR r) (hN : N + 19 ≤ 90000) :
    Calls Tryz.prog 50 #[dptr bd, .slice sa n c, ref2 r.1 r.2] w (MidU B bx bd y P a (N + 19) x.depth (setM slots (l.map Int.toNat) r) L sp w) := by
  have hs := h.small
  have ho := h.own_len
  have hlen := h.len
  refine (set_ok (K := False) (c0 := y.cont) (M := 11) (rest := bpg L) h.st h.dir h.c (by rw [h.pages]; omega) h.live (fun h => h.elim) (fun _ _ => rfl) (by rw [h.pages]; simp only [bpg, List.length_map]; omega) hl hlF (by omega) hany hr (by omega)).mono ?_
  rintro e w' hu
  obtain ⟨err, h1, h2, h3⟩ := h.of_dirU ⟨rfl, rfl⟩ hu
  refine ⟨err, h1, h2, ?_⟩
  rcases h3 with ⟨h3, y', x', t', h4, h5⟩ | ⟨h3, ha, hd⟩
  · exact .inl ⟨h3, y', x', t', h4.mono (by omega) hN, h5⟩
  · exact .inr ⟨h3, ha, hd.mono (by omega)⟩
theorem IdxM.double (h : IdxM w B bx bd y P a N x tops slots L sp) (hd : x.depth < 3) (hN : N + 100 ≤ 90000) :
    Calls Tryz.prog 49 #[dptr bd] w (MidU B bx bd y P a (N + 100) (x.depth + 1) (dblM slots) L sp w) := by
  have hm := h.per.2
  have hs := leaves8 (x := { x with depth := x.depth + 1 }) h.per (by show x.depth + 1 ≤ x.most; omega)
  have hlen := h.len
  refine (double_ok (K := False) (c0 := y.cont) (M := 11) (rest := bpg L) h.st h.dir h.c (by omega) (by rw [h.pages]; omega) h.live (fun h => h.elim) (fun _ _ => rfl) (by rw [h.pages]; simp only [bpg, List.length_map]; omega) hN).mono ?_
  rintro e w' hu
  exact h.of_dirU (x1 := { x with depth := x.depth + 1 }) ⟨rfl, rfl⟩ hu
theorem IdxM.after_new (h : IdxM w B bx bd y P a N x tops slots L sp) {m : Nat} {bs : List Int} (ht : TakeIs y.taken y.pages y.hand m) (F : FrB B w w') (hS : StoreC w' B (y.new m bs) P a N') (hL : L.length < 10) :
    IdxM w' B bx bd (y.new m bs) P a N' x tops slots (L ++ [(((m : Int), (y.gen : Int)), bs)]) sp := by
  have hno : m ∉ pgs x.rp tops ++ bpg L := fun hm => by have := (h.live.tk m hm).1; rw [ht.2.1] at this; cases this
  have hne : ∀ k ∈ pgs x.rp tops ++ bpg L, ((y.new m bs).cont (k : Int)) = y.cont k := fun k hk => by
    show updC y.cont m (some (y.gen, bs)) k = _
    rw [updC_ne (fun he => hno (by have : k = m := by omega
                                   rw [← this]; exact hk))]
  have hg := gen_small h.st
  have hm := ht.1
  rw [h.pages] at hm
  refine ⟨hS, idxAt_frB h.idx F, h.dir.frB F, h.c.keeps rfl ?_ (fun r hr => ?_), ?_, fun q hq => ?_, by simp; omega, h.plan, h.pages, h.room, h.places, h.per, h.base⟩
  · have := hne x.rp.toNat (by simp [pgs])
    rwa [Int.toNat_of_nonneg h.c.rr.1] at this
  · have := hne r.1.toNat (by simp only [pgs, List.mem_append, List.mem_cons, List.mem_map]; exact .inl (.inr ⟨r, hr, rfl⟩))
    rwa [Int.toNat_of_nonneg (h.c.leaf.tr r hr).1] at this
  · have := h.live.new (bs := bs) h.st.apart ht
    rw [show pgs x.rp tops ++ bpg L ++ [m] = pgs x.rp tops ++ bpg (L ++ [(((m : Int), (y.gen : Int)), bs)]) by simp [bpg]] at this
    exact this
  · rcases List.mem_append.1 hq with hq | hq
    · have hr := (h.bk q hq).1
      have := hne q.1.1.toNat (List.mem_append_right _ (List.mem_map.2 ⟨q, hq, rfl⟩))
      rw [Int.toNat_of_nonneg hr.1] at this
      exact ⟨hr, by rw [this]; exact (h.bk q hq).2⟩
    · simp at hq
      subst hq
      exact ⟨right_of (by omega) hg, by simp [Cs.new, updC]⟩
theorem IdxM.page (h : IdxM w B bx bd y P a N x tops slots L sp) {j : Nat} {q : Bp} (hj : L[j]? = some q) : (pgs x.rp tops ++ bpg L)[(pgs x.rp tops).length + j]? = some q.1.1.toNat := by
  rw [List.getElem?_append_right (by omega), Nat.add_sub_cancel_left]
  simp [bpg, hj]
theorem IdxM.after_put (h : IdxM w B bx bd y P a N x tops slots L sp) {j m : Nat} {q : Bp} {bs : List Int} (hj : L[j]? = some q) (hm : PutIs y q.1.1.toNat m) (F : FrB B w w') (hS : StoreC w' B (y.put q.1.1.toNat m bs) P a N') :
    IdxM w' B bx bd (y.put q.1.1.toNat m bs) P a N' x tops slots (L.set j (((m : Int), (y.gen : Int)), bs)) sp := by
  have hmi := h.page hj
  have hmem := List.mem_of_getElem? hmi
  have hjl := (List.getElem?_eq_some_iff.1 hj).1
  have hl := (put_like y q.1.1.toNat m bs)
  have hne : ∀ k ∈ pgs x.rp tops ++ bpg L, k ≠ q.1.1.toNat → (y.put q.1.1.toNat m bs).cont (k : Int) = y.cont k := fun k hk hkn => put_other h.live hm hk hkn bs
  have hnd := List.nodup_append.1 h.live.nd
  have hqm : q.1.1.toNat ∈ bpg L := List.mem_map.2 ⟨q, List.mem_of_getElem? hj, rfl⟩
  have hg := gen_small h.st
  have hlt := hm.lt (h.live.lt _ hmem)
  rw [h.pages] at hlt
  refine ⟨hS, idxAt_frB h.idx F, h.dir.frB F, h.c.keeps hl.1.room ?_ (fun r hr => ?_), ?_, fun z hz => ?_, by simp; exact h.len, hl.1.plan.trans h.plan, hl.1.pages.trans h.pages, hl.1.room.trans h.room, hl.1.places.trans h.places, h.per, h.base⟩
  · have hp : x.rp.toNat ∈ pgs x.rp tops := by simp [pgs]
    have := hne x.rp.toNat (List.mem_append_left _ hp) (hnd.2.2 _ hp _ hqm)
    rwa [Int.toNat_of_nonneg h.c.rr.1] at this
  · have hp : r.1.toNat ∈ pgs x.rp tops := by simp only [pgs, List.mem_cons, List.mem_map]; exact .inr ⟨r, hr, rfl⟩
    have := hne r.1.toNat (List.mem_append_left _ hp) (hnd.2.2 _ hp _ hqm)
    rwa [Int.toNat_of_nonneg (h.c.leaf.tr r hr).1] at this
  · have hL := h.live.put (bs := bs) h.st.apart hmem hm
    rw [map_sw_set h.live.nd hmi, List.set_append_right _ _ (by omega), Nat.add_sub_cancel_left] at hL
    rw [show (bpg L).set j m = bpg (L.set j (((m : Int), (y.gen : Int)), bs)) by simp [bpg, List.map_set]] at hL
    exact hL
  · obtain ⟨i, hi⟩ := List.mem_iff_getElem?.1 hz
    rw [List.getElem?_set] at hi
    by_cases e : j = i
    · subst e
      rw [if_pos rfl, if_pos hjl] at hi
      cases hi
      exact ⟨right_of (by omega) hg, by rw [hm.cont]; simp [updC]⟩
    · rw [if_neg e] at hi
      have hzL := List.mem_of_getElem? hi
      have hr := (h.bk z hzL).1
      have hne' : z.1.1.toNat ≠ q.1.1.toNat := fun he => by
        have h1 := h.page hi
        rw [he] at h1
        have := (List.getElem?_inj (List.getElem?_eq_some_iff.1 h1).1 h.live.nd).1 (h1.trans hmi.symm)
        omega
      have := hne z.1.1.toNat (List.mem_append_right _ (List.mem_map.2 ⟨z, hzL, rfl⟩)) hne'
      rw [Int.toNat_of_nonneg hr.1] at this
      exact ⟨hr, by rw [this]; exact (h.bk z hzL).2⟩
end
end Go.Proofs.YtgdhaaokolfdoaaGreatDoor

namespace Go.Proofs.YtgdhaaokolfdoaaGreatDoor
open Go.RowKit Go.Sg CP SF
def BkOk (d p : Nat) (es : List Bt) : Prop := es.length ≤ 3 ∧ SortedB es ∧ ∀ x ∈ es, goodE x ∧ preM x.hash d = p
def okT : Tr → Nat → Nat → Prop
  | .leaf _ es, d, p => BkOk d p es
  | .node l r, d, p => okT l (d + 1) (2 * p) ∧ okT r (d + 1) (2 * p + 1)
def lds : Tr → Nat → Nat → List Bp
  | .leaf r es, d, p => [(r, packM d p es)]
  | .node l r, d, p => lds l (d + 1) (2 * p) ++ lds r (d + 1) (2 * p + 1)
theorem lds_at : ∀ (t : Tr) (g k d p : Nat), ∃ A C, ∀ f, lds (t.put g k f) d p = A ++ (lds (f (t.at_ g k d p).2.2.1 (t.at_ g k d p).2.2.2) (t.at_ g k d p).1 (t.at_ g k d p).2.1 ++ C)
  | .leaf r es, g, k, d, p => ⟨[], [], fun f => by simp [Tr.put, Tr.at_]⟩
  | .node l r, g, k, d, p => by
    by_cases hlt : k < 2 ^ (g - 1)
    · obtain ⟨A, C, h⟩ := lds_at l (g - 1) k (d + 1) (2 * p)
      refine ⟨A, C ++ lds r (d + 1) (2 * p + 1), fun f => ?_⟩
      simp only [Tr.put, Tr.at_, if_pos hlt, lds]
      rw [h f]
      simp
    · obtain ⟨A, C, h⟩ := lds_at r (g - 1) (k - 2 ^ (g - 1)) (d + 1) (2 * p + 1)
      refine ⟨lds l (d + 1) (2 * p) ++ A, C, fun f => ?_⟩
      simp only [Tr.put, Tr.at_, if_neg hlt, lds]
      rw [h f]
      simp
theorem put_same : ∀ (t : Tr) (g k : Nat), t.put g k Tr.leaf = t
  | .leaf r es, g, k => rfl
  | .node l r, g, k => by
    simp only [Tr.put]
    split
    · rw [put_same l]
    · rw [put_same r]
theorem ok_at : ∀ (t : Tr) (g k d p : Nat), okT t d p → BkOk (t.at_ g k d p).1 (t.at_ g k d p).2.1 (t.at_ g k d p).2.2.2
  | .leaf r es, g, k, d, p, h => h
  | .node l r, g, k, d, p, h => by
    simp only [Tr.at_]
    split
    · exact ok_at l _ _ _ _ h.1
    · exact ok_at r _ _ _ _ h.2
theorem ok_put (f : Rf → List Bt → Tr) : ∀ (t : Tr) (g k d p : Nat), okT t d p → okT (f (t.at_ g k d p).2.2.1 (t.at_ g k d p).2.2.2) (t.at_ g k d p).1 (t.at_ g k d p).2.1 → okT (t.put g k f) d p
  | .leaf r es, g, k, d, p, _, h => h
  | .node l r, g, k, d, p, h0, h => by
    simp only [Tr.at_] at h
    simp only [Tr.put]
    split at h
    · rename_i hlt; rw [if_pos hlt]; exact ⟨ok_put f l _ _ _ _ h0.1 h, h0.2⟩
    · rename_i hlt; rw [if_neg hlt]; exact ⟨h0.1, ok_put f r _ _ _ _ h0.2 h⟩
theorem at_dbl : ∀ (t : Tr) (g k d p : Nat), t.high ≤ g → t.at_ (g + 1) (2 * k) d p = t.at_ g k d p
  | .leaf r es, g, k, d, p, _ => rfl
  | .node l r, g, k, d, p, h => by
    simp only [Tr.high] at h
    have h2 := Tr.two_pow (g := g) (by omega)
    simp only [Tr.at_, Nat.add_sub_cancel]
    obtain ⟨m, rfl⟩ : ∃ m, g = m + 1 := ⟨g - 1, by omega⟩
    simp only [Nat.add_sub_cancel] at h2 ⊢
    by_cases hlt : k < 2 ^ m
    · rw [if_pos hlt, if_pos (by omega)]
      exact at_dbl l m k _ _ (by omega)
    · rw [if_neg hlt, if_neg (by omega), show 2 * k - 2 ^ (m + 1) = 2 * (k - 2 ^ m) by omega]
      exact at_dbl r m _ _ _ (by omega)
theorem high_leaf (f : Rf → List Bt → Tr) (hf : ∀ r es, (f r es).high = 0) : ∀ (t : Tr) (g k : Nat), (t.put g k f).high = t.high
  | .leaf r es, g, k => by simp [Tr.put, Tr.high, hf]
  | .node l r, g, k => by
    simp only [Tr.put]
    split
    · simp only [Tr.high]; rw [high_leaf f hf l]
    · simp only [Tr.high]; rw [high_leaf f hf r]
theorem high_node (f : Rf → List Bt → Tr) (hf : ∀ r es, (f r es).high = 1) : ∀ (t : Tr) (g k d p : Nat), (t.put g k f).high = max t.high ((t.at_ g k d p).1 - d + 1)
  | .leaf r es, g, k, d, p => by simp [Tr.put, Tr.high, Tr.at_, hf]
  | .node l r, g, k, d, p => by
    simp only [Tr.put, Tr.at_]
    split
    · have h1 := high_node f hf l (g - 1) k (d + 1) (2 * p)
      have h2 := Tr.at_ge l (g - 1) k (d + 1) (2 * p)
      simp only [Tr.high]; rw [h1]; omega
    · have h1 := high_node f hf r (g - 1) (k - 2 ^ (g - 1)) (d + 1) (2 * p + 1)
      have h2 := Tr.at_ge r (g - 1) (k - 2 ^ (g - 1)) (d + 1) (2 * p + 1)
      simp only [Tr.high]; rw [h1]; omega
theorem lds_len : ∀ (t : Tr) (d p : Nat), (lds t d p).length = t.refs.length
  | .leaf _ _, _, _ => rfl
  | .node l r, d, p => by simp only [lds, Tr.refs, List.length_append, lds_len l, lds_len r]
theorem refs_le : ∀ t : Tr, t.refs.length ≤ 2 ^ t.high
  | .leaf _ _ => by simp [Tr.refs, Tr.high]
  | .node l r => by
    have h1 := refs_le l
    have h2 := refs_le r
    have h3 : 2 ^ l.high ≤ 2 ^ max l.high r.high := Nat.pow_le_pow_right (by decide) (Nat.le_max_left _ _)
    have h4 : 2 ^ r.high ≤ 2 ^ max l.high r.high := Nat.pow_le_pow_right (by decide) (Nat.le_max_right _ _)
    simp only [Tr.refs, Tr.high, List.length_append, Nat.pow_succ]
    omega
theorem pre_zero (h : Nat) : preM h 0 = 0 := by simp [preM]
theorem pre_div {h g d : Nat} (hg : g ≤ 20) (hd : d ≤ g) (hh : h < 18446744073709551616) : preM h g / 2 ^ (g - d) = preM h d := by
  by_cases h0 : d = 0
  · subst h0
    rw [pre_zero]
    by_cases g0 : g = 0
    · subst g0; simp [pre_zero]
    · unfold preM
      rw [if_neg (by omega), Nat.div_div_eq_div_mul, ← Nat.pow_add, show 64 - g + (g - 0) = 64 by omega]
      exact Nat.div_eq_of_lt hh
  · unfold preM
    rw [if_neg (by omega), if_neg (by omega), Nat.div_div_eq_div_mul, ← Nat.pow_add, show 64 - g + (g - d) = 64 - d by omega]
theorem pre_lt2 {h g : Nat} (hg : g ≤ 20) (hh : h < 18446744073709551616) : preM h g < 2 ^ g := by
  by_cases g0 : g = 0
  · subst g0; rw [pre_zero]; decide
  · unfold preM
    rw [if_neg (by omega)]
    refine Nat.div_lt_of_lt_mul ?_
    rw [← Nat.pow_add, show 64 - g + g = 64 by omega]
    exact hh
def slN (lo n : Nat) : List Nat := (List.range n).map (lo + ·)
theorem mem_slN {lo n i : Nat} : i ∈ slN lo n ↔ lo ≤ i ∧ i < lo + n := by
  simp only [slN, List.mem_map, List.mem_range]
  constructor
  · rintro ⟨j, hj, rfl⟩; omega
  · rintro ⟨h1, h2⟩; exact ⟨i - lo, by omega, by omega⟩
theorem mid_get {α : Type} (l m : List α) (lo n : Nat) (h : lo + n ≤ l.length) (hm : m.length = n) (i : Nat) : (l.take lo ++ m ++ l.drop (lo + n))[i]? = if i < lo then l[i]? else if i < lo + n then m[i - lo]? else l[i]? := by
  have hl : (l.take lo).length = lo := by rw [List.length_take]; omega
  rw [List.append_assoc]
  by_cases h1 : i < lo
  · rw [if_pos h1, List.getElem?_append_left (by omega), List.getElem?_take, if_pos h1]
  · rw [if_neg h1, List.getElem?_append_right (by omega), hl]
    by_cases h2 : i < lo + n
    · rw [if_pos h2, List.getElem?_append_left (by omega)]
    · rw [if_neg h2, List.getElem?_append_right (by omega), hm, List.getElem?_drop]
      congr 1; omega
theorem setM_mid (l : List Rf) (lo n : Nat) (h : lo + n ≤ l.length) (r : Rf) : setM l (slN lo n) r = l.take lo ++ List.replicate n r ++ l.drop (lo + n) := by
  refine setM_ext fun i => ?_
  rw [setM_get, mid_get _ _ _ _ h (by simp)]
  simp only [mem_slN]
  by_cases h1 : i < lo
  · rw [if_neg (by omega), if_pos h1]
  · rw [if_neg h1]
    by_cases h2 : i < lo + n
    · rw [if_pos (by omega), if_pos h2, List.getElem?_replicate, if_pos (by omega), List.getElem?_eq_getElem (by omega)]; rfl
    · rw [if_neg (by omega), if_neg h2]
theorem slots_leaf {t : Tr} {g k : Nat} (hh : t.high ≤ g) (hk : k < 2 ^ g) (r : Rf) (f : Rf → List Bt → Tr) (hf : ∀ r' es', ∃ es, f r' es' = .leaf r es) : setM (t.slots g) (slN (t.lo g k) (2 ^ t.wd g k)) r = (t.put g k f).slots g := by
  obtain ⟨h1, h2, h3⟩ := Tr.lo_le t g k hh hk
  rw [setM_mid _ _ _ (by rw [Tr.slots_len t g hh]; exact h3), Tr.slots_put f t g k hh hk]
  obtain ⟨es, he⟩ := hf (t.at_ g k 0 0).2.2.1 (t.at_ g k 0 0).2.2.2
  rw [he]; rfl
theorem slots_node {t : Tr} {g k : Nat} (hh : t.high ≤ g) (hk : k < 2 ^ g) (hw : 0 < t.wd g k) (r0 r1 : Rf) (f : Rf → List Bt → Tr) (hf : ∀ r' es', ∃ e0 e1, f r' es' = .node (.leaf r0 e0) (.leaf r1 e1)) :
    setM (setM (t.slots g) (slN (t.lo g k + 2 ^ (t.wd g k - 1)) (2 ^ (t.wd g k - 1))) r1) (slN (t.lo g k) (2 ^ (t.wd g k - 1))) r0 = (t.put g k f).slots g := by
  obtain ⟨h1, h2, h3⟩ := Tr.lo_le t g k hh hk
  obtain ⟨m, hm⟩ : ∃ m, t.wd g k = m + 1 := ⟨t.wd g k - 1, by omega⟩
  have hl := Tr.slots_len t g hh
  rw [Tr.slots_put f t g k hh hk]
  obtain ⟨e0, e1, he⟩ := hf (t.at_ g k 0 0).2.2.1 (t.at_ g k 0 0).2.2.2
  rw [he]
  rw [hm] at h3 ⊢
  simp only [Tr.slots, Nat.add_sub_cancel]
  have hp : 2 ^ (m + 1) = 2 ^ m + 2 ^ m := by rw [Nat.pow_succ]; omega
  generalize 2 ^ m = q at *
  generalize t.lo g k = lo at *
  generalize t.slots g = l at *
  rw [hp] at h3 ⊢
  refine setM_ext fun i => ?_
  rw [setM_get, setM_get, mid_get _ _ _ _ (by omega) (by simp)]
  simp only [mem_slN]
  by_cases h1 : i < lo
  · rw [if_neg (by omega), if_neg (by omega), if_pos h1]
  · rw [if_neg h1]
    by_cases h2 : i < lo + (q + q)
    · rw [if_pos h2]
      have hil : l[i]? = some (l[i]'(by omega)) := List.getElem?_eq_getElem _
      by_cases h4 : i < lo + q
      · rw [if_pos (by omega), if_neg (by omega), List.getElem?_append_left (by simp; omega), List.getElem?_replicate, if_pos (by omega), hil]; rfl
      · rw [if_neg (by omega), if_pos (by omega), List.getElem?_append_right (by simp; omega), List.getElem?_replicate, if_pos (by simp; omega), hil]; rfl
    · rw [if_neg (by omega), if_neg (by omega), if_neg h2]
theorem set_perm {α : Type} {L A C : List α} {q q' : α} {j : Nat} (hp : L.Perm (A ++ (q :: C))) (hj : L[j]? = some q) : (L.set j q').Perm (A ++ (q' :: C)) := by
  have hjl := (List.getElem?_eq_some_iff.1 hj).1
  have e1 : L = L.take j ++ q :: L.drop (j + 1) := by
    conv => lhs; rw [← List.take_append_drop j L]
    rw [List.drop_eq_getElem_cons hjl, (List.getElem?_eq_some_iff.1 hj).2]
  have e2 : L.set j q' = L.take j ++ q' :: L.drop (j + 1) := by rw [List.set_eq_take_append_cons_drop, if_pos hjl]
  have h1 : (q :: (L.take j ++ L.drop (j + 1))).Perm (q :: (A ++ C)) := (List.perm_middle.symm.trans (by rw [← e1]; exact hp)).trans List.perm_middle
  have h2 := (List.perm_cons q).1 h1
  rw [e2]
  exact List.perm_middle.trans (((List.perm_cons q').2 h2).trans List.perm_middle.symm)
structure IdxT (w : World) (B : Blk) (bx bd : Nat) (y : Cs) (P : Prot) (a : Bool) (N : Nat) (x : DirD) (t : Tr) (sp : Int) : Prop where
  ex : ∃ tops L, IdxM w B bx bd y P a N x tops (t.slots x.depth) L sp ∧ L.Perm (lds t 0 0)
  high : t.high = x.depth
  ok : okT t 0 0
theorem IdxT.depth {w : World} {B : Blk} {bx bd : Nat} {y : Cs} {P : Prot} {a : Bool} {N : Nat} {x : DirD} {t : Tr} {sp : Int} (h : IdxT w B bx bd y P a N x t sp) : x.depth ≤ 3 := by
  obtain ⟨tops, L, h1, -⟩ := h.ex
  exact h1.small.2.2
theorem IdxT.fr0 {w w' : World} {B : Blk} {bx bd : Nat} {y : Cs} {P : Prot} {a : Bool} {N : Nat} {x : DirD} {t : Tr} {sp : Int} (h : IdxT w B bx bd y P a N x t sp) (F : Fr (fun _ => False) w w') : IdxT w' B bx bd y P a N x t sp := by
  obtain ⟨tops, L, h1, h2⟩ := h.ex
  exact ⟨⟨tops, L, h1.fr0 F, h2⟩, h.high, h.ok⟩
end Go.Proofs.YtgdhaaokolfdoaaGreatDoor

namespace Go.Proofs.YtgdhaaokolfdoaaGreatDoor
open Go.RowKit Go.Sg Go.Sg.Bits Go.Shelf CP SF
attribute [local go_sem] Oper.semAt_some
theorem mslots_any (p d g : Int) (w : World) :
    Calls Tryz.prog 266 #[.int .i64 p, .int .i64 d, .int .i64 g] w fun e w' => e = .returned (.func (.func 284) #[] #[.pointer (some ⟨w.heap.size + 1, 0, none⟩), .pointer (some ⟨w.heap.size + 1 + 1, 0, none⟩), .pointer (some ⟨w.heap.size, 0, none⟩)]) ∧ ((w.alloc (.cells #[.int .i64 p] 3)).alloc (.cells #[.int .i64 d] 3)).alloc (.cells #[.int .i64 g] 3) = w' := by
  go_enter Tryz.func266, Tryz.ntmps266
  go_wp2
  go_ret
  exact ⟨rfl, rfl⟩
def slZ (p q m : Nat) : List Int := (List.range m).map fun i => ((p * q + i : Nat) : Int)
theorem slZ_succ (p q m : Nat) : slZ p q (m + 1) = slZ p q m ++ [((p * q + m : Nat) : Int)] := by simp [slZ, List.range_succ]
theorem slZ_len (p q m : Nat) : (slZ p q m).length = m := by simp [slZ]
theorem slZ_pre (p q : Nat) {a b : Nat} (h : a ≤ b) : slZ p q a <+: slZ p q b := by
  obtain ⟨c, rfl⟩ : ∃ c, b = a + c := ⟨b - a, by omega⟩
  unfold slZ
  rw [List.range_add, List.map_append]
  exact List.prefix_append _ _
theorem wrap_small20 {n : Nat} (h : n ≤ 1048576) : wrap64 (n : Int) = (n : Int) := by simp only [wrap64]; omega
def KpM (b : Nat) (A C : World) : Prop := C.heap[b]? = A.heap[b]? ∧ C.heap[b + 1]? = A.heap[b + 1]? ∧ C.heap[b + 2]? = A.heap[b + 2]?
theorem KpM.trans {b : Nat} {A C D : World} (h : KpM b A C) (k : KpM b C D) : KpM b A D := ⟨k.1.trans h.1, k.2.1.trans h.2.1, k.2.2.trans h.2.2⟩
set_option maxRecDepth 100000 in
set_option maxHeartbeats 4000000 in
theorem mslotsf_stops {w : World} {p d g b : Nat} (h0 : w.heap[b]? = some (.cells #[.int .i64 p] 3)) (h1 : w.heap[b + 1]? = some (.cells #[.int .i64 d] 3)) (h2 : w.heap[b + 2]? = some (.cells #[.int .i64 g] 3)) (hd : d ≤ g) (hg : g ≤ 20) (hp : p < 2 ^ d) :
    SeqStopsK Fence.wide 9 Tryz.prog 284 #[.pointer (some ⟨b + 1, 0, none⟩), .pointer (some ⟨b + 1 + 1, 0, none⟩), .pointer (some ⟨b, 0, none⟩)] encT (KpM b) (fun xs => xs = slZ p (2 ^ (g - d)) (2 ^ (g - d))) (fun pre => pre <+: slZ p (2 ^ (g - d)) (2 ^ (g - d))) (2 ^ (g - d)) w := fun l J Jx W hW hJ _ hY hJ0 => by
  have FW : Fr (fun _ => False) w W := Fr.of_below hW
  have HB := hid (fun C (K : KpM b W C) => show C.cell? ⟨b, 0, none⟩ = some (.int .i64 p) ∧ C.cell? ⟨b + 1, 0, none⟩ = some (.int .i64 d) ∧ C.cell? ⟨b + 1 + 1, 0, none⟩ = some (.int .i64 g) from
    ⟨by simpa using cell_of_heap (K.1.trans (FW.heap h0 (fun h => h))) 0, by simpa using cell_of_heap (K.2.1.trans (FW.heap h1 (fun h => h))) 0, by simpa using cell_of_heap (K.2.2.trans (FW.heap h2 (fun h => h))) 0⟩)
  obtain ⟨c0, c1, c2⟩ := HB.out W ⟨rfl, rfl, rfl⟩
  obtain ⟨k, hk⟩ : ∃ k, g - d = k := ⟨_, rfl⟩
  have hk20 : k ≤ 20 := by omega
  have hd1 : decide ((d : Int) < 0) = false := by simp
  have hd2 : decide (g < d) = false := by simp; omega
  have hd2' : decide ((g : Int) < (d : Int)) = false := by simp; omega
  have hd3 : decide ((20 : Int) < (g : Int)) = false := by simp; omega
  have hd3' : decide (20 < g) = false := by simp; omega
  have hd4 : decide ((p : Int) < 0) = false := by simp
  have hsub : wrap64 ((g : Int) - (d : Int)) = (k : Int) := by simp only [wrap64]; omega
  obtain ⟨q, hq⟩ : ∃ q, 2 ^ k = q := ⟨_, rfl⟩
  have hq9 : q ≤ 1048576 := by rw [← hq]; exact Nat.le_trans (Nat.pow_le_pow_right (by decide) hk20) (by decide)
  have hpq : p * q + q ≤ 1048576 := by
    have e1 : p * 2 ^ k + 2 ^ k ≤ 2 ^ d * 2 ^ k := by rw [← Nat.succ_mul]; exact Nat.mul_le_mul_right _ hp
    rw [← Nat.pow_add, hq] at e1
    exact Nat.le_trans e1 (Nat.le_trans (Nat.pow_le_pow_right (by decide) (by omega)) (by decide : (2:Nat) ^ 20 ≤ 1048576))
  have hp9 : p < 1048576 := by
    have := Nat.le_mul_of_pos_right p (show 0 < q by rw [← hq]; exact Nat.pow_pos (by decide))
    have hq0 : 0 < q := by rw [← hq]; exact Nat.pow_pos (by decide)
    omega
  have hshl : wrap64 ((2 : Int) ^ (g - d)) = (q : Int) := by
    have e : (2 : Int) ^ (g - d) = ((2 ^ (g - d) : Nat) : Int) := by simp
    rw [e, hk, hq]
    simp only [wrap64]; omega
  obtain ⟨pq, hpqe⟩ : ∃ pq, p * q = pq := ⟨_, rfl⟩
  rw [hpqe] at hpq
  have hmul : wrap64 ((p : Int) * (q : Int)) = (pq : Int) := by
    rw [← Int.natCast_mul, hpqe]
    exact wrap_small20 (Nat.le_trans (Nat.le_add_right _ _) hpq)
  have hshr : (p : Int) / 2 ^ d = 0 := by
    have : p / 2 ^ d = 0 := Nat.div_eq_of_lt hp
    have e : ((p : Int) / 2 ^ d) = ((p / 2 ^ d : Nat) : Int) := by simp
    rw [e, this]; rfl
  have HK := hid (And.intro hk (And.intro hq hpqe))
  have HJ0 := hid hJ0
  rw [hk, hq]
  rw [hk, hq] at hY
  clear hW FW h0 h1 h2 hk hJ0 hq hpqe
  refine callsIn_of_wp Tryz.func284 rfl trivial ?_ rfl
  simp only [Tryz.ntmps284, List.size_toArray, List.length_cons, List.length_nil, Nat.reduceAdd, Nat.reduceSub, Array.replicate_succ, Array.replicate_zero, List.push_toArray, List.append_toArray, List.nil_append, List.cons_append]
  gi_wp2
  rw [hshl]
  clear hshl
  gi_loopw [33] (fun iv wr => ∃ i : Nat, i ≤ q ∧ iv = .int .i64 i ∧ J (slZ p q i) wr ∧ KpM b W wr) (fun iv _ => q - (intOf iv).toNat)
  case atStart => exact ⟨0, Nat.zero_le _, rfl, HJ0.out, rfl, rfl, rfl⟩
  case round =>
    obtain ⟨i, hi, rfl, hJi, hkp⟩ := hrel
    obtain ⟨c0, c1, c2⟩ := HB.out wr hkp
    by_cases hlt : i < q
    · have hdl : decide (i < q) = true := by simp [hlt]
      obtain ⟨fn, tmps, assign, body, hy, hR⟩ := hY _ ((pq : Int) + (i : Int)) wr hJi (by rw [slZ_len]; exact hlt)
      dsimp only [encT] at hy
      have HZ := hid (show slZ p q (i + 1) = slZ p q i ++ [(pq : Int) + (i : Int)] by rw [slZ_succ, HK.out.2.2]; simp)
      have HKp := hid hkp
      clear hkp hJi
      gi_wp2
      refine hR.mono ?_
      rintro e W3 (⟨rfl, hJ3, hk3⟩ | ⟨rfl, hJx3⟩)
      · have HJ3 := hid hJ3
        have HK3 := hid (HKp.out.trans hk3)
        clear hJ3 hk3
        gi_wp2
        go_roundw
        case rel => exact ⟨i + 1, hlt, by go_num, by rw [HZ.out]; exact HJ3.out, HK3.out⟩
        case measure => simp [intOf]; omega
      · have HJX := hid hJx3
        clear hJx3
        gi_wp2
        refine bodyPost_ret (results_none rfl _ _ _) rfl ?_
        exact ⟨⟨_, rfl⟩, .inr ⟨_, by rw [← HZ.out]; exact slZ_pre p q hlt, HJX.out⟩⟩
    · obtain rfl : i = q := by omega
      have hdl : decide (i < i) = false := by simp
      gi_wp2
      go_end0
      exact ⟨⟨_, rfl⟩, .inl ⟨_, rfl, hJi⟩⟩
def HoldsM (B n0 : Nat) (pre : List Int) (W : World) : Prop :=
  ∃ v, Boxed W B 52 v ∧ W.ownsRow n0 3 1 v pre.length (pre.map (fun x => Value.int .i64 x)) ∧ True
theorem own_blkT' {w : World} {b e size n g : Nat} {v : Value} {xs : List Value} (h : w.ownsRow b e size v n xs) (hv : v.ownBlock = some g) : b ≤ g ∧ g < w.heap.size := by
  obtain ⟨_, ⟨h0, _⟩ | ⟨g', cap', cur', h1, hb, hg', _⟩⟩ := h
  · rw [h0] at hv; cases hv
  · rw [h1] at hv
    have e' : g' = g := Option.some.inj hv
    subst e'
    exact ⟨hb, lt_of_heap hg'⟩
theorem own_set52 {w : World} {n0 B n : Nat} {v u : Value} {xs : List Value} (h : w.ownsRow n0 3 1 v n xs) (hb : Boxed w B 52 u) (z : Value) : (w.setCell ⟨B, 0, none⟩ z).ownsRow n0 3 1 v n xs :=
  h.kept (grownBy_setCell' w B z) (.inr (hb.not_row (by decide) h).symm)
theorem own_monoM {w : World} {b b' e size n : Nat} {v : Value} {xs : List Value} (h : w.ownsRow b e size v n xs) (hb : b' ≤ b) : w.ownsRow b' e size v n xs := by
  obtain ⟨hl, h0 | ⟨g, cap, cur, hv, hg, r⟩⟩ := h
  · exact ⟨hl, .inl h0⟩
  · exact ⟨hl, .inr ⟨g, cap, cur, hv, Nat.le_trans hb hg, r⟩⟩
def MSlP (l : List Int) (w : World) (e : Ending) (w' : World) : Prop := ∃ va vc, e = .returned (.slice va l.length vc) ∧ w'.ownsRow w.heap.size 3 1 (.slice va l.length vc) l.length (l.map (Value.int .i64)) ∧ Fr (fun _ => False) w w'
set_option maxRecDepth 100000 in
set_option maxHeartbeats 4000000 in
theorem mslots_ok {p d g : Nat} (hd : d ≤ g) (hg : g ≤ 20) (hp : p < 2 ^ d) (w : World) :
    Calls Tryz.prog 213 #[.int .i64 p, .int .i64 d, .int .i64 g] w (MSlP (slZ p (2 ^ (g - d)) (2 ^ (g - d))) w) := by
  obtain ⟨i0, hi0, hz0, hz1, hz2⟩ := info_parts Tryz.info3
  refine (callsIn_wide (n := 10)).1 ?_
  have F := hid (mslots_any p d g (w.alloc (.cells #[.slice none 0 0] 52)))
  have hmany : 2 ^ (g - d) ≤ 1048576 := Nat.le_trans (Nat.pow_le_pow_right (by decide) (by omega : g - d ≤ 20)) (by decide)
  refine callsIn_of_wp_marks Tryz.func213 rfl trivial ?_ rfl
  simp only [Tryz.ntmps213, List.size_toArray, List.length_cons, List.length_nil, Nat.reduceAdd, Nat.reduceSub, Array.replicate_succ, Array.replicate_zero, List.push_toArray, List.append_toArray, List.nil_append, List.cons_append]
  gi_wp2_with (gi_at_call 266; refine (callsIn_wide.2 F.out).mono ?_; rintro e w' ⟨rfl, rfl⟩)
  obtain ⟨W0, hW0⟩ : ∃ W0, (((w.alloc (.cells #[.slice none 0 0] 52)).alloc (.cells #[.int .i64 p] 3)).alloc (.cells #[.int .i64 d] 3)).alloc (.cells #[.int .i64 g] 3) = W0 := ⟨_, rfl⟩
  have hF0 : Fr (fun _ => False) w W0 := by rw [← hW0]; exact ((((Fr.refl _ w).alloc _).alloc _).alloc _).alloc _
  have hsz : W0.heap.size = w.heap.size + 1 + 1 + 1 + 1 := by rw [← hW0]; simp
  obtain ⟨q0, q1, q2, hF1⟩ := heap_three hW0
  have hnx : W0.heap[w.heap.size]? = some (.cells #[.slice none 0 0] 52) := hF1.heap (heap_alloc_new _ _) (fun h => h)
  have e1 : (w.alloc (.cells #[.slice none 0 0] 52)).heap.size = w.heap.size + 1 := by simp
  rw [e1] at q0 q1 q2
  simp only [hW0]
  have hq1 : w.heap.size + 1 + 2 = w.heap.size + 1 + 1 + 1 := by omega
  refine wpIn_rangeFunc_ownG (F := Fence.wide) rfl (by omega) (gf := 284) (lb := #[.pointer (some ⟨w.heap.size + 1 + 1, 0, none⟩), .pointer (some ⟨w.heap.size + 1 + 1 + 1, 0, none⟩), .pointer (some ⟨w.heap.size + 1, 0, none⟩)]) rfl trivial (enters_of Tryz.func284 (by kernel_rfl) rfl)
    (mslotsf_stops (b := w.heap.size + 1) q0 q1 (by rw [hq1]; exact q2) hd hg hp) (fun h k => h.trans k) (fun W l o o' hl _ _ _ => ⟨heap_putObj_ne _ _ _ _ (by omega), heap_putObj_ne _ _ _ _ (by omega), heap_putObj_ne _ _ _ _ (by omega)⟩) (Below.refl _ _) (fun _ => rfl)
    (fun pre W => HoldsM w.heap.size W0.heap.size pre W ∧ Fr (fun b => b = w.heap.size) W0 W)
    (fun _ _ _ => False)
    (own_and ((holdsRow_own W0.heap.size w.heap.size 52 3 1 (fun pre : List Int => pre.length) (fun pre => pre.map (fun x => Value.int .i64 x)) (fun _ _ => True)).from _) (own_fr (Nat.le_refl _)))
    (fun _ _ _ _ _ h => h.elim)
    ⟨⟨_, hnx, World.ownsRow_nil _ _ _ _, trivial⟩, Fr.refl _ _⟩
    (fun x => { tmps := #[.int .i64 p, .int .i64 d, .int .i64 g, undef, undef, undef, .slice none 0 0, .pointer (some ⟨w.heap.size, 0, none⟩), .int .i64 x, .int .i64 p, .int .i64 d, .int .i64 g, .func (.func 284) #[] #[.pointer (some ⟨w.heap.size + 1 + 1, 0, none⟩), .pointer (some ⟨w.heap.size + 1 + 1 + 1, 0, none⟩), .pointer (some ⟨w.heap.size + 1, 0, none⟩)], .int .i64 x, undef, undef, undef, undef, undef], defers := [] }) ?assign ?body ?done ?stop
  case assign =>
    intro l x W K hK
    gi_wp2
    exact hK
  case body =>
    rintro l pre x W ⟨⟨v, hv, hown, -⟩, hF⟩ hlen
    have e0 := hv.cell
    have e1 := hv.frozen
    have l1 := hv.lt
    have hWW := hF.size
    have hsW : w.heap.size ≤ W.heap.size := Nat.le_trans hF0.size hWW
    have HSZ := hid hsz
    have HFF := hid hF
    have HV := hid hv
    have HO := hid hown
    have hlen9 : pre.length ≤ 1048576 := Nat.le_trans (Nat.le_of_lt hlen) hmany
    clear hv hown hnx q0 q1 q2 hF1 hlen hmany hp hsz hF hF0 hq1
    gi_wp2_with (gi_at_builtin; refine wpListIn_append_own _ rfl (.tmp 14) (.tmp 16) 52 rfl W0.heap.size 3 i0 _ 1 8 Tryz.underlying52 hi0 hz0 hz1 hz2 rfl (by decide) _ _ _ rfl (HO.out.alloc _) ⟨W.heap.size, 0, none⟩ 1 1 [.int .i64 x] rfl rfl (cell_one_new _ _ _) (by simp [Value.oneCell']) ?c3 ?c4 ?c5 ?_)
    case c3 => simp [maxLen]; omega
    case c4 => omega
    case c5 => exact Nat.le_trans hWW (by simp)
    intro v1 w2 hown2 hgrow hnil
    obtain ⟨g', cap, rfl⟩ := ownsRow_succ hown2
    obtain ⟨d1, d2, -, d4, d5⟩ := HV.out.appended (by decide) (own_monoM HO.out (by have := HSZ.out; omega : w.heap.size ≤ W0.heap.size)) hsW (Nat.le_refl _) (own_monoM hown2 (by have := HSZ.out; omega)) hgrow
    have d3 := own_set52 hown2 d1 (.slice (some ⟨g', 0, none⟩) (pre.length + 1) cap)
    have hk : ∀ j, w.heap.size < j → j < W0.heap.size → (w2.setCell ⟨w.heap.size, 0, none⟩ (.slice (some ⟨g', 0, none⟩) (pre.length + 1) cap)).heap[j]? = W.heap[j]? := fun j h1 h2 => by
      rw [heap_setCell_ne _ _ _ _ (by show w.heap.size ≠ j; omega), hgrow.block j (by simp; omega) (fun e => by
        have := (own_blkT' HO.out e.symm).1
        omega), heap_alloc_lt _ _ _ (by omega)]
    have HKm := hid hk
    have HF5 := hid (show Fr (fun b => w.heap.size ≤ b ∧ (b = w.heap.size ∨ W0.heap.size ≤ b)) W (w2.setCell ⟨w.heap.size, 0, none⟩ (.slice (some ⟨g', 0, none⟩) (pre.length + 1) cap)) from ⟨d5.os, d5.tape, d5.output, d5.size, fun b hb hn => by
      rcases Nat.lt_or_ge b w.heap.size with h | h
      · exact d5.block b h
      · exact hk b (by
          rcases Nat.lt_or_ge w.heap.size b with h2 | h2
          · exact h2
          · exact absurd ⟨h, .inl (by omega)⟩ hn) (by
          rcases Nat.lt_or_ge b W0.heap.size with h2 | h2
          · exact h2
          · exact absurd ⟨h, .inr h2⟩ hn)⟩)
    have f0 := d1.cell
    have f1 := d1.frozen
    have D2 := hid d2
    have D3 := hid d3
    clear hown2 hgrow hnil d1 d2 d3 hk
    gi_wp2
    refine ⟨d4.from _, ⟨HKm.out _ (by omega) (by have := HSZ.out; omega), HKm.out _ (by omega) (by have := HSZ.out; omega), HKm.out _ (by omega) (by have := HSZ.out; omega)⟩, ⟨_, D2.out, by simpa using D3.out, trivial⟩, ?_⟩
    exact HFF.out.trans (S' := fun b => w.heap.size ≤ b ∧ (b = w.heap.size ∨ W0.heap.size ≤ b)) HF5.out (fun b hb h => by rcases h.2 with h | h <;> omega)
  case done =>
    rintro D ys W hD rfl ⟨⟨v, hv, hown, -⟩, hF⟩ hK
    obtain ⟨va, vc, rfl, -, -, -, -⟩ := own_slice hown
    have e0 := hv.cell
    have HO := hid hown
    clear hown hv hnx q0 q1 q2 hF1
    gi_wp2
    have hI := own_monoM (ownsRow_putObj HO.out (.deferred none) hK rfl) (by omega : w.heap.size ≤ W0.heap.size)
    refine marks_ret1 (t := 6) rfl hK ⟨va, vc, rfl, hI, (hF0.trans hF (fun b hb h => by omega)).putObj (fun hh => by omega) _⟩
  case stop => exact fun _ _ _ _ _ _ h => h.elim
end Go.Proofs.YtgdhaaokolfdoaaGreatDoor

namespace Go.Proofs.YtgdhaaokolfdoaaGreatDoor
open Go.RowKit Go.Sg Go.Sg.Bits Go.Sg.Clk CP SF
theorem frX_heap {B : Blk} {X : Nat → Prop} {w w' : World} (F : FrX B X w w') {b : Nat} {c : Array Value} {t : TypeId} {f : Nat × Nat} (hb : w.heap[b]? = some (.cells c t f)) (ht : t ∉ mutT) (hX : ¬ X b) : w'.heap[b]? = some (.cells c t f) :=
  Fr.heap F hb fun hs => by
    rcases hs with hs | hs
    · exact ht (hs.2.1 c t f hb)
    · exact hX hs
theorem setM_same {l : List Rf} {S : List Nat} {r : Rf} (h : ∀ i ∈ S, l[i]? = some r) : setM l S r = l := by
  refine setM_ext fun i => ?_
  rw [setM_get]
  split
  · rename_i hi; rw [h i hi]; rfl
  · rfl
theorem slN_of {g d p : Nat} (hd : d ≤ g) (hp : p < 2 ^ d) : p * 2 ^ (g - d) + 2 ^ (g - d) ≤ 2 ^ g := by
  have h1 : 2 ^ g = 2 ^ d * 2 ^ (g - d) := by rw [← Nat.pow_add]; congr 1; omega
  rw [h1, ← Nat.succ_mul]
  exact Nat.mul_le_mul_right _ hp
theorem slZ_nat (p q m : Nat) : (slZ p q m).map Int.toNat = slN (p * q) m := by
  simp only [slZ, slN, List.map_map]
  refine List.map_congr_left fun i _ => ?_
  simp only [Function.comp_apply, Int.toNat_natCast]
theorem IdxM.bd_lt {w : World} {B : Blk} {bx bd : Nat} {y : Cs} {P : Prot} {a : Bool} {N : Nat} {x : DirD} {tops slots : List Rf} {L : List Bp} {sp : Int} (h : IdxM w B bx bd y P a N x tops slots L sp) : bd < w.heap.size ∧ bx < w.heap.size ∧ bx ≠ bd := by
  refine ⟨lt_of_heap h.dir, lt_of_heap h.idx, fun e => ?_⟩
  have h1 := h.dir
  have h2 := h.idx
  unfold DirAt at h1
  unfold IdxAt at h2
  rw [e, h1] at h2
  cases h2
set_option maxHeartbeats 8000000 in
set_option maxRecDepth 100000 in
theorem xpoint_ok {w : World} {B : Blk} {bx bd : Nat} {y : Cs} {P : Prot} {a : Bool} {N : Nat} {x : DirD} {tops slots : List Rf} {L : List Bp} {sp : Int} (h : IdxM w B bx bd y P a N x tops slots L sp) {r : Rf} {d p : Nat} (vo : Option Addr) (vn vc0 : Nat) (hd : d ≤ x.depth) (hp : p < 2 ^ d) (hr : rightR r) (hN : N + 19 ≤ 90000) :
    Calls Tryz.prog 197 #[xptr bx, bkV d p (.slice vo vn vc0), ref2 r.1 r.2] w (MidU B bx bd y P a (N + 19) x.depth (setM slots (slN (p * 2 ^ (x.depth - d)) (2 ^ (x.depth - d))) r) L sp w) := by
  obtain ⟨w1, hw1⟩ : ∃ w1, (w.alloc (.cells #[.int .i64 d, .int .i64 p, .slice vo vn vc0] 129)).alloc (.cells #[.int .i64 r.1, .int .i64 r.2] 35) = w1 := ⟨_, rfl⟩
  obtain ⟨b4, b5, F1⟩ := heap_two hw1
  obtain ⟨hbd, hbx, hne⟩ := h.bd_lt
  have hs := h.small
  have hB := hid (fun (V : World) (F : FrX B (fun b => b = bd) w1 V) => And.intro (cells3 (frX_heap F b4 (by decide) (by omega))) (And.intro (cells2 (frX_heap F b5 (by decide) (by omega))) (cells5 (frX_heap F (F1.heap h.idx (fun h => h)) (by decide) hne))))
  have HB := hB
  obtain ⟨g, hg⟩ : ∃ g, x.depth = g := ⟨_, rfl⟩
  have HDp := hid (fun V (F : Fr (fun _ => False) w1 V) => depth_ok (F.heap (F1.heap h.dir (fun h => h)) (fun h => h) : DirAt V bd B.s x))
  rw [hg] at hd hs HDp ⊢
  have HSl := hid (fun V => mslots_ok (p := p) (d := d) (g := g) hd (by omega) hp V)
  have hsl := slN_of hd hp
  have hsx : x.slots = 2 ^ g := by unfold DirD.slots; rw [hg]
  obtain ⟨q, hq⟩ : ∃ q, 2 ^ (g - d) = q := ⟨_, rfl⟩
  rw [hq] at HSl hsl ⊢
  have hq8 : q ≤ 8 := by have := hs.2.1; omega
  have HSet := hid (fun V (F : Fr (fun _ => False) w1 V) (a4 : Option Addr) (c4 : Nat) (ho : V.ownsRow w1.heap.size 3 1 (.slice a4 (slZ p q q).length c4) (slZ p q q).length ((slZ p q q).map (Value.int .i64))) => by
    have := (h.fr0 (F1.trans F (fun _ _ h => h))).set (sa := a4) (n := (slZ p q q).length) (c := c4) (l := slZ p q q) (r := r) (sli_of_own ho rfl) (fun W' G => sli_of_own (own_frB ho (by decide) G) rfl) (by rw [slZ_len]; exact hq8) (by
      rw [List.any_eq_false]
      intro z hz
      obtain ⟨i, hi, rfl⟩ := List.mem_map.1 hz
      have := List.mem_range.1 hi
      simp [outB]
      omega) hr hN
    rw [slZ_nat, hg] at this
    exact this)
  have HLn := hid (slZ_len p q q)
  have HF1 := hid F1
  have FG : Fr (fun _ => False) w1 w1.drew := (Fr.refl _ _).drew
  have HW := hid hw1
  have hdi : (d : Int) = d := rfl
  clear hw1 b4 b5 F1 h hB hr hsl hsx hg hq
  go_enter Tryz.func197, Tryz.ntmps197
  go_upto_region 1 with fail
  rw [HW.out]
  refine wp_region_noPanic ?_
  refine region_plan (fun V => FrX B (fun b => b = bd) w1 V) (.rd 0 (.rd 1 (.rd 2 (.rd 3 (.rd 4 (.rd 5 (.rd 6 (.rd 7 (.rd 8 (.rd 9 (.rd 10 (.rd 11 (.rd 14 (.op 12 (.op 13 (.op 15 (.rd 16 .done))))))))))))))))) (by kernel_rfl) (by kernel_rfl) (by kernel_rfl) (fun _ _ _ _ _ h => h) (FrX.none FG) ?_
  iterate 13
    try simp only [Act.put, List.setIfInBounds_toArray, List.set_cons_zero, List.set_cons_succ]
    refine plan_rd _ ?_ (by simp only [List.getElem?_toArray, List.getElem?_cons_zero, List.getElem?_cons_succ]; rfl) (by rfl) ?_ ?_
    rotate_left
    · intro V hV
      obtain ⟨⟨x0, x1, x2, xz, xl⟩, ⟨t0, t1, tz, tl⟩, ⟨i0, i1, i2, i3, i4, iz, il⟩⟩ := HB.out V hV
      go_simp
      try with_reducible rfl
  try simp only [Act.put, List.setIfInBounds_toArray, List.set_cons_zero, List.set_cons_succ]
  refine plan_op _ (by simp only [List.getElem?_toArray, List.getElem?_cons_zero, List.getElem?_cons_succ]; rfl) (by rfl) (fun K hK => ?_)
  go_simp
  refine (HDp.out _ FG).mono ?_
  rintro _ _ ⟨rfl, rfl⟩
  try go_simp
  refine hK _ _ (FrX.none FG) ?_
  clear hK K
  try simp only [Act.put, List.setIfInBounds_toArray, List.set_cons_zero, List.set_cons_succ]
  refine plan_op _ (by simp only [List.getElem?_toArray, List.getElem?_cons_zero, List.getElem?_cons_succ]; rfl) (by rfl) (fun K hK => ?_)
  go_simp
  refine (HSl.out _).mono ?_
  rintro _ V2 ⟨va, vc, rfl, hown, F2⟩
  have FG2 := FG.trans F2 (fun _ _ h => h)
  have HSe := hid (HSet.out V2 FG2 va vc hown)
  have HF2 := hid FG2
  rw [HLn.out]
  try go_simp
  refine hK _ _ (FrX.none FG2) ?_
  clear hK K hown F2 FG2
  try simp only [Act.put, List.setIfInBounds_toArray, List.set_cons_zero, List.set_cons_succ]
  refine plan_op _ (by simp only [List.getElem?_toArray, List.getElem?_cons_zero, List.getElem?_cons_succ]; rfl) (by rfl) (fun K hK => ?_)
  go_simp
  rw [HLn.out] at HSe
  refine HSe.out.mono ?_
  rintro _ V3 ⟨err, rfl, F3, hr⟩
  have FG3 : FrX B (fun b => b = bd) w1 V3 := FrX.trans (FrX.none HF2.out) F3
  have H3 := hid (And.intro FG3 hr)
  try go_simp
  refine hK _ _ FG3 ?_
  clear hK K F3 hr FG3
  try simp only [Act.put, List.setIfInBounds_toArray, List.set_cons_zero, List.set_cons_succ]
  refine plan_rd _ ?_ (by simp only [List.getElem?_toArray, List.getElem?_cons_zero, List.getElem?_cons_succ]; rfl) (by rfl) ?_ ?_
  rotate_left
  · intro V hV
    go_simp
    try with_reducible rfl
  try simp only [Act.put, List.setIfInBounds_toArray, List.set_cons_zero, List.set_cons_succ]
  refine plan_done ?_
  refine NoPanic.normal ?_
  go_wp2_with fail
  go_ret
  refine ⟨err, rfl, FrX.trans (FrX.none HF1.out) H3.out.1, H3.out.2⟩
end Go.Proofs.YtgdhaaokolfdoaaGreatDoor
