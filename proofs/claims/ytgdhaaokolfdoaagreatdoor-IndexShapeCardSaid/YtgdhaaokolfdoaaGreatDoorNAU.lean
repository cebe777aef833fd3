/- A pack of texts: IM0, IT2, MXS, XPT. Conditions: those that each text names. -/
import Derived.Test.YtgdhaaokolfdoaaGreatDoorNAT
import Derived.Test.YtgdhaaokolfdoaaGreatDoorNAR
import Derived.Test.YtgdhaaokolfdoaaGreatDoorNAK
import Derived.Test.YtgdhaaokolfdoaaGreatDoorNAN
import Derived.Test.YtgdhaaokolfdoaaGreatDoorNAO
import Derived.Test.YtgdhaaokolfdoaaGreatDoorNAQ
import Derived.Shelf.RegionOpen
set_option maxHeartbeats 16000000
set_option maxRecDepth 100000
set_option linter.all false
namespace Go.Proofs.YtgdhaaokolfdoaaGreatDoor
section
open Go.RowKit Go.Sg Go.Sg.Bits Go.Sg.Clk CP SF
abbrev FrI (base : Nat) (w w' : World) : Prop := Fr (fun b => base <= b /\ ∀ c t f, w.heap[b]? = some (.cells c t f) -> t ∈ 227 :: 209 :: mutT) w w'
variable {base bd bx most s sl : Nat} {w w' : World} {sp : Int}
theorem FrI.trans {w1 w2 : World} (h : FrI base w w1) (k : FrI base w1 w2) : FrI base w w2 := by
 refine Fr.trans h k fun b hb hs => ?_
 rcases Classical.em (base <= b /\ ∀ c t f, w.heap[b]? = some (.cells c t f) -> t ∈ 227 :: 209 :: mutT) with hm | hm
 ·exact hm
 ·have e := Fr.block h b hb hm;exact ⟨hs.1, fun c t f hc => hs.2 c t f (e.trans hc)⟩
theorem FrI.heap (h : FrI base w w') {b : Nat} {c : Array Value} {t : TypeId} {f : Nat × Nat} (hb : w.heap[b]? = some (.cells c t f)) (ht : t ∉ 227 :: 209 :: mutT) : w'.heap[b]? = some (.cells c t f) :=
 Fr.heap h hb fun hs => ht (hs.2 c t f hb)
theorem FrI.none (F : Fq w w') : FrI base w w' := Fr.mono F fun _ _ h => h.elim
variable {B : Blk}
theorem frB_frI (h : FrB B w w') : FrI B.base w w' := Fr.mono h fun b _ hs => ⟨hs.1, fun c t f hc => List.mem_cons_of_mem _ (List.mem_cons_of_mem _ (hs.2.1 c t f hc))⟩
theorem FrI.fr0 {w0 : World} (h : FrI base w w') (hb : w0.heap.size <= base) (F : Fq w0 w) : Fq w0 w' := F.trans h fun b hb' hs => by omega
theorem idxAt_frX {X : Nat -> Prop} (h : IdxAt w bx s bd sl most sp) (F : FrX B X w w') (hX : ¬ X bx) : IdxAt w' bx s bd sl most sp :=
 Fr.heap F h fun hs => by
  rcases hs with hs | hs
  ·exact absurd (hs.2.1 _ _ _ h) (by decide)
  ·exact hX hs
theorem idxAt_frB (h : IdxAt w bx s bd sl most sp) (F : FrB B w w') : IdxAt w' bx s bd sl most sp := F.heap h (by decide)
abbrev Bp := Rf × List Int
abbrev bpg (L : List Bp) : List Nat := L.map fun q => q.1.1.toNat
structure IdxM (w : World) (B : Blk) (bx bd : Nat) (y : Cs) (P : Prot) (a : Bool) (N : Nat) (x : DirD) (tops slots : List Rf) (L : List Bp) (sp : Int) : Prop where
 st : StoreC w B y P a N
 idx : IdxAt w bx B.s bd 3 3 sp
 dir : DirAt w bd B.s x
 c : DirC y x tops slots
 live : Live y (pgs x.rp tops ++ bpg L) 11
 bk : ∀ q ∈ L, rightR q.1 /\ y.cont q.1.1 = some (q.1.2.toNat, q.2)
 len : L.length <= 10
 plan : y.plan = small17
 pages : y.pages = 108
 room : y.room = 77
 places : y.places = 8
 per : x.per = 6 /\ x.most = 3
 base : B.base <= bd /\ B.base <= bx
section
variable {w w' : World} {B : Blk} {bx bd : Nat} {y : Cs} {P : Prot} {a : Bool} {N N' : Nat} {x : DirD} {tops slots : List Rf} {L : List Bp} {sp : Int}
theorem IdxM.frB (h : IdxM w B bx bd y P a N x tops slots L sp) (F : FrB B w w') (hS : StoreC w' B y P a N') : IdxM w' B bx bd y P a N' x tops slots L sp :=
 { h with st := hS, idx := idxAt_frB h.idx F, dir := h.dir.frB F }
theorem IdxM.fr0 (h : IdxM w B bx bd y P a N x tops slots L sp) (F : Fq w w') : IdxM w' B bx bd y P a N x tops slots L sp :=
 { h with st := h.st.fr0 F, idx := F.heap h.idx (fun h => h), dir := F.heap h.dir (fun h => h) }
theorem IdxM.mono (h : IdxM w B bx bd y P a N x tops slots L sp) (hN : N <= N') (h9 : N' <= 90000) : IdxM w B bx bd y P a N' x tops slots L sp := { h with st := h.st.mono hN h9 }
variable {x : DirD} {j m : Nat} {bs : List Int}
theorem leaves8 (h : x.per = 6 /\ x.most = 3) (hd : x.depth <= x.most) : x.leaves <= 2 /\ x.slots <= 8 := by
 have h5 : x.depth <= 3 := by omega
 have h1 : 2 ^ x.depth <= 2 ^ 3 := Nat.pow_le_pow_right (by decide) h5;unfold DirD.leaves DirD.slots;rw [h.1];omega
theorem IdxM.small (h : IdxM w B bx bd y P a N x tops slots L sp) : x.leaves <= 2 /\ x.slots <= 8 /\ x.depth <= 3 := by
 have h1 := leaves8 h.per h.c.z.most.1;have h2 := h.c.z.most.1;have h3 := h.per.2;exact ⟨h1.1, h1.2, by omega⟩
theorem IdxM.own_len (h : IdxM w B bx bd y P a N x tops slots L sp) : (pgs x.rp tops ++ bpg L).length <= 13 := by
 have h1 := h.small;have h2 := h.c.tlen;have h3 := h.len;simp only [pgs, bpg, lA, lC, List.length_map];omega
theorem IdxM.free (h : IdxM w B bx bd y P a N x tops slots L sp) : ∃ j, j < y.pages /\ y.taken j = false := h.live.free (by have := h.own_len; rw [h.pages]; omega)
theorem DirC.keeps {y y' : Cs} {tops slots : List Rf} (h : DirC y x tops slots) (hz : y'.room = y.room) (h0 : y'.cont x.rp = y.cont x.rp) (h1 : ∀ r ∈ tops, y'.cont r.1 = y.cont r.1) : DirC y' x tops slots :=
 ⟨⟨h.z.most, by rw [hz]; exact h.z.per, fun d hd => by rw [hz]; exact h.z.fits d hd, by rw [hz]; exact h.z.room⟩, h.slen, h.tlen, ⟨h.leaf.sr, h.leaf.tr, fun i r hi => by rw [h1 r (gM hi)]; exact h.leaf.at_ i r hi⟩, h.rr, by rw [h0]; exact h.root⟩
def MidU (B : Blk) (bx bd : Nat) (y : Cs) (P : Prot) (a : Bool) (N : Nat) (depth : Nat) (slots : List Rf) (L : List Bp) (sp : Int) (w : World) (e : Ending) (w' : World) : Prop :=
 ∃ err, e = .returned (.int .i64 err) /\ FrX B (fun b => b = bd) w w' /\ ((err = 0 /\ ∃ y' x' tops', IdxM w' B bx bd y' P a N x' tops' slots L sp /\ x'.depth = depth /\ (Like y y' /\ y'.gen = y.gen /\ y'.dead = y.dead)) \/ (err = 4 /\ a = true /\ DownC w' B y P N))
theorem IdxM.of_dirU (h : IdxM w B bx bd y P a N x tops slots L sp) {x1 : DirD} {sl' : List Rf} {e : Ending} (hx : x1.per = x.per /\ x1.most = x.most) (hu : DirU B bd x1 y P a N' (bpg L) 11 False y.cont sl' w e w') : MidU B bx bd y P a N' x1.depth sl' L sp w e w' := by
 obtain ⟨err, rfl, F, ⟨rfl, y', tk, m, e1, e2, e3, e4, e5, e6, e7⟩ | ⟨rfl, ha, hd⟩⟩ := hu
 ·refine ⟨0, rfl, F, .inl ⟨rfl, y', _, tk, ⟨e2, idxAt_frX h.idx F (fun e => ?_), e1, e3, e4, fun q hq => ⟨(h.bk q hq).1, ?_⟩, h.len, e7.1.plan.trans h.plan, e7.1.pages.trans h.pages, e7.1.room.trans h.room, e7.1.places.trans h.places, ⟨hx.1.trans h.per.1, hx.2.trans h.per.2⟩, h.base⟩, rfl, e7⟩⟩
  ·have h1 := h.dir;have h2 := h.idx;unfold DirAt at h1;unfold IdxAt at h2;rw [e, h1] at h2;cases h2
  ·have hr := (h.bk q hq).1;have := e6 q.1.1.toNat (List.mem_map.2 ⟨q, hq, rfl⟩);rw [Int.toNat_of_nonneg hr.1] at this;rw [this];exact (h.bk q hq).2
 ·exact ⟨4, rfl, F, .inr ⟨rfl, ha, hd⟩⟩
theorem IdxM.set (h : IdxM w B bx bd y P a N x tops slots L sp) {n c : Nat} {sa : Option Addr} {l : List Int} {r : Rf} (hl : SlI w sa n c l) (hlF : ∀ W, FrB B w W -> SlI W sa n c l) (hn : n <= 8) (hany : l.any (outB x.slots) = false) (hr : rightR r) (hN : N + 19 <= 90000) :
  Calls Tryz.prog 50 #[dptr bd, .slice sa n c, ref2 r.1 r.2] w (MidU B bx bd y P a (N + 19) x.depth (setM slots (l.map Int.toNat) r) L sp w) := by
 have hs := h.small;have ho := h.own_len;have hlen := h.len;refine (set_ok (K := False) (c0 := y.cont) (M := 11) (rest := bpg L) h.st h.dir h.c (by rw [h.pages]; omega) h.live (fun h => h.elim) (fun _ _ => rfl) (by rw [h.pages]; simp only [bpg, List.length_map]; omega) hl hlF (by omega) hany hr (by omega)).mono ?_;rintro e w' hu;obtain ⟨err, h1, h2, h3⟩ := h.of_dirU ⟨rfl, rfl⟩ hu;refine ⟨err, h1, h2, ?_⟩;rcases h3 with ⟨h3, y', x', t', h4, h5⟩ | ⟨h3, ha, hd⟩
 ·exact .inl ⟨h3, y', x', t', h4.mono (by omega) hN, h5⟩
 ·exact .inr ⟨h3, ha, hd.mono (by omega)⟩
theorem IdxM.double (h : IdxM w B bx bd y P a N x tops slots L sp) (hd : x.depth < 3) (hN : N + 100 <= 90000) :
  Calls Tryz.prog 49 #[dptr bd] w (MidU B bx bd y P a (N + 100) (x.depth + 1) (dblM slots) L sp w) := by
 have hm := h.per.2;have hs := leaves8 (x := { x with depth := x.depth + 1 }) h.per (by show x.depth + 1 <= x.most; omega);have hlen := h.len;refine (double_ok (K := False) (c0 := y.cont) (M := 11) (rest := bpg L) h.st h.dir h.c (by omega) (by rw [h.pages]; omega) h.live (fun h => h.elim) (fun _ _ => rfl) (by rw [h.pages]; simp only [bpg, List.length_map]; omega) hN).mono ?_;rintro e w' hu;exact h.of_dirU (x1 := { x with depth := x.depth + 1 }) ⟨rfl, rfl⟩ hu
theorem IdxM.after_new (h : IdxM w B bx bd y P a N x tops slots L sp) (ht : TakeIs y.taken y.pages y.hand m) (F : FrB B w w') (hS : StoreC w' B (y.new m bs) P a N') (hL : L.length < 10) :
    IdxM w' B bx bd (y.new m bs) P a N' x tops slots (L ++ [(((m : Int), (y.gen : Int)), bs)]) sp := by
  have hno : m ∉ pgs x.rp tops ++ bpg L := fun hm => by have := (h.live.tk m hm).1; rw [ht.2.1] at this; cases this
  have hne : ∀ k ∈ pgs x.rp tops ++ bpg L, ((y.new m bs).cont (k : Int)) = y.cont k := fun k hk => by
    show updC y.cont m (some (y.gen, bs)) k = _
    rw [updC_ne (fun he => hno (by have : k = m := by omega
                                   rw [<- this]; exact hk))]
  have hg := gen_small h.st;have hm := ht.1;rw [h.pages] at hm;refine ⟨hS, idxAt_frB h.idx F, h.dir.frB F, h.c.keeps rfl ?_ (fun r hr => ?_), ?_, fun q hq => ?_, by simp; omega, h.plan, h.pages, h.room, h.places, h.per, h.base⟩
  · have := hne x.rp.toNat (by simp [pgs]);rwa [Int.toNat_of_nonneg h.c.rr.1] at this
  · have := hne r.1.toNat (by simp only [pgs, List.mem_append, List.mem_cons, List.mem_map]; exact .inl (.inr ⟨r, hr, rfl⟩));rwa [Int.toNat_of_nonneg (h.c.leaf.tr r hr).1] at this
  · have := h.live.new (bs := bs) h.st.apart ht;rw [show pgs x.rp tops ++ bpg L ++ [m] = pgs x.rp tops ++ bpg (L ++ [(((m : Int), (y.gen : Int)), bs)]) by simp [bpg]] at this;exact this
  · rcases List.mem_append.1 hq with hq | hq
    · have hr := (h.bk q hq).1;have := hne q.1.1.toNat (List.mem_append_right _ (List.mem_map.2 ⟨q, hq, rfl⟩));rw [Int.toNat_of_nonneg hr.1] at this;exact ⟨hr, by rw [this]; exact (h.bk q hq).2⟩
    · simp at hq;subst hq;exact ⟨right_of (by omega) hg, by simp [Cs.new, updC]⟩
variable {q : Bp}
theorem IdxM.page (h : IdxM w B bx bd y P a N x tops slots L sp) (hj : L[j]? = some q) : (pgs x.rp tops ++ bpg L)[(pgs x.rp tops).length + j]? = some q.1.1.toNat := by
 rw [List.getElem?_append_right (by omega), Nat.add_sub_cancel_left];simp [bpg, hj]
theorem IdxM.after_put (h : IdxM w B bx bd y P a N x tops slots L sp) (hj : L[j]? = some q) (hm : PutIs y q.1.1.toNat m) (F : FrB B w w') (hS : StoreC w' B (y.put q.1.1.toNat m bs) P a N') :
  IdxM w' B bx bd (y.put q.1.1.toNat m bs) P a N' x tops slots (L.set j (((m : Int), (y.gen : Int)), bs)) sp := by
 have hmi := h.page hj;have hmem := gM hmi;have hjl := (gI.1 hj).1;have hl := (put_like y q.1.1.toNat m bs);have hne : ∀ k ∈ pgs x.rp tops ++ bpg L, k ≠ q.1.1.toNat -> (y.put q.1.1.toNat m bs).cont (k : Int) = y.cont k := fun k hk hkn => put_other h.live hm hk hkn bs
 have hnd := List.nodup_append.1 h.live.nd;have hqm : q.1.1.toNat ∈ bpg L := List.mem_map.2 ⟨q, gM hj, rfl⟩;have hg := gen_small h.st;have hlt := hm.lt (h.live.lt _ hmem);rw [h.pages] at hlt;refine ⟨hS, idxAt_frB h.idx F, h.dir.frB F, h.c.keeps hl.1.room ?_ (fun r hr => ?_), ?_, fun z hz => ?_, by simp; exact h.len, hl.1.plan.trans h.plan, hl.1.pages.trans h.pages, hl.1.room.trans h.room, hl.1.places.trans h.places, h.per, h.base⟩
 ·have hp : x.rp.toNat ∈ pgs x.rp tops := by simp [pgs]
  have := hne x.rp.toNat (List.mem_append_left _ hp) (hnd.2.2 _ hp _ hqm);rwa [Int.toNat_of_nonneg h.c.rr.1] at this
 ·have hp : r.1.toNat ∈ pgs x.rp tops := by simp only [pgs, List.mem_cons, List.mem_map]; exact .inr ⟨r, hr, rfl⟩
  have := hne r.1.toNat (List.mem_append_left _ hp) (hnd.2.2 _ hp _ hqm);rwa [Int.toNat_of_nonneg (h.c.leaf.tr r hr).1] at this
 ·have hL := h.live.put (bs := bs) h.st.apart hmem hm;rw [map_sw_set h.live.nd hmi, List.set_append_right _ _ (by omega), Nat.add_sub_cancel_left] at hL;rw [show (bpg L).set j m = bpg (L.set j (((m : Int), (y.gen : Int)), bs)) by simp [bpg, List.map_set]] at hL;exact hL
 ·obtain ⟨i, hi⟩ := List.mem_iff_getElem?.1 hz;rw [List.getElem?_set] at hi;by_cases e : j = i
  ·subst e;rw [if_pos rfl, if_pos hjl] at hi;cases hi;exact ⟨right_of (by omega) hg, by rw [hm.cont]; simp [updC]⟩
  ·rw [if_neg e] at hi;have hzL := gM hi;have hr := (h.bk z hzL).1;have hne' : z.1.1.toNat ≠ q.1.1.toNat := fun he => by
    have h1 := h.page hi;rw [he] at h1;have := (List.getElem?_inj (gI.1 h1).1 h.live.nd).1 (h1.trans hmi.symm);omega
   have := hne z.1.1.toNat (List.mem_append_right _ (List.mem_map.2 ⟨z, hzL, rfl⟩)) hne';rw [Int.toNat_of_nonneg hr.1] at this;exact ⟨hr, by rw [this]; exact (h.bk z hzL).2⟩
end
end
section
open Go.RowKit Go.Sg CP SF
def BkOk (d p : Nat) (es : List Bt) : Prop := es.length <= 3 /\ SortedB es /\ ∀ x ∈ es, goodE x /\ preM x.hash d = p
def okT : Tr -> Nat -> Nat -> Prop
 | .leaf _ es, d, p => BkOk d p es
 | .node l r, d, p => okT l (d + 1) (2 * p) /\ okT r (d + 1) (2 * p + 1)
def lds : Tr -> Nat -> Nat -> List Bp
 | .leaf r es, d, p => [(r, packM d p es)]
 | .node l r, d, p => lds l (d + 1) (2 * p) ++ lds r (d + 1) (2 * p + 1)
theorem lds_at : ∀ (t : Tr) (g k d p : Nat), ∃ A C, ∀ f, lds (t.put g k f) d p = A ++ (lds (f (t.at_ g k d p).2.2.1 (t.at_ g k d p).2.2.2) (t.at_ g k d p).1 (t.at_ g k d p).2.1 ++ C)
 | .leaf r es, g, k, d, p => ⟨[], [], fun f => by simp [Tr.put, Tr.at_]⟩
 | .node l r, g, k, d, p => by
  by_cases hlt : k < 2 ^ (g - 1)
  ·obtain ⟨A, C, h⟩ := lds_at l (g - 1) k (d + 1) (2 * p);refine ⟨A, C ++ lds r (d + 1) (2 * p + 1), fun f => ?_⟩;simp only [Tr.put, Tr.at_, if_pos hlt, lds];rw [h f];simp
  ·obtain ⟨A, C, h⟩ := lds_at r (g - 1) (k - 2 ^ (g - 1)) (d + 1) (2 * p + 1);refine ⟨lds l (d + 1) (2 * p) ++ A, C, fun f => ?_⟩;simp only [Tr.put, Tr.at_, if_neg hlt, lds];rw [h f];simp
theorem put_same : ∀ (t : Tr) (g k : Nat), t.put g k Tr.leaf = t
 | .leaf r es, g, k => rfl
 | .node l r, g, k => by
  simp only [Tr.put];split
  ·rw [put_same l]
  ·rw [put_same r]
theorem ok_at : ∀ (t : Tr) (g k d p : Nat), okT t d p -> BkOk (t.at_ g k d p).1 (t.at_ g k d p).2.1 (t.at_ g k d p).2.2.2
 | .leaf r es, g, k, d, p, h => h
 | .node l r, g, k, d, p, h => by
  simp only [Tr.at_];split
  ·exact ok_at l _ _ _ _ h.1
  ·exact ok_at r _ _ _ _ h.2
theorem ok_put (f : Rf -> List Bt -> Tr) : ∀ (t : Tr) (g k d p : Nat), okT t d p -> okT (f (t.at_ g k d p).2.2.1 (t.at_ g k d p).2.2.2) (t.at_ g k d p).1 (t.at_ g k d p).2.1 -> okT (t.put g k f) d p
 | .leaf r es, g, k, d, p, _, h => h
 | .node l r, g, k, d, p, h0, h => by
  simp only [Tr.at_] at h;simp only [Tr.put];split at h
  ·rename_i hlt; rw [if_pos hlt]; exact ⟨ok_put f l _ _ _ _ h0.1 h, h0.2⟩
  ·rename_i hlt; rw [if_neg hlt]; exact ⟨h0.1, ok_put f r _ _ _ _ h0.2 h⟩
theorem at_dbl : ∀ (t : Tr) (g k d p : Nat), t.high <= g -> t.at_ (g + 1) (2 * k) d p = t.at_ g k d p
 | .leaf r es, g, k, d, p, _ => rfl
 | .node l r, g, k, d, p, h => by
  simp only [Tr.high] at h;have h2 := Tr.two_pow (g := g) (by omega);simp only [Tr.at_, Nat.add_sub_cancel];obtain ⟨m, rfl⟩ : ∃ m, g = m + 1 := ⟨g - 1, by omega⟩
  simp only [Nat.add_sub_cancel] at h2 ⊢;by_cases hlt : k < 2 ^ m
  ·rw [if_pos hlt, if_pos (by omega)];exact at_dbl l m k _ _ (by omega)
  ·rw [if_neg hlt, if_neg (by omega), show 2 * k - 2 ^ (m + 1) = 2 * (k - 2 ^ m) by omega];exact at_dbl r m _ _ _ (by omega)
theorem high_leaf (f : Rf -> List Bt -> Tr) (hf : ∀ r es, (f r es).high = 0) : ∀ (t : Tr) (g k : Nat), (t.put g k f).high = t.high
 | .leaf r es, g, k => by simp [Tr.put, Tr.high, hf]
 | .node l r, g, k => by
  simp only [Tr.put];split
  ·simp only [Tr.high]; rw [high_leaf f hf l]
  ·simp only [Tr.high]; rw [high_leaf f hf r]
theorem high_node (f : Rf -> List Bt -> Tr) (hf : ∀ r es, (f r es).high = 1) : ∀ (t : Tr) (g k d p : Nat), (t.put g k f).high = max t.high ((t.at_ g k d p).1 - d + 1)
 | .leaf r es, g, k, d, p => by simp [Tr.put, Tr.high, Tr.at_, hf]
 | .node l r, g, k, d, p => by
  simp only [Tr.put, Tr.at_];split
  ·have h1 := high_node f hf l (g - 1) k (d + 1) (2 * p);have h2 := Tr.at_ge l (g - 1) k (d + 1) (2 * p);simp only [Tr.high]; rw [h1]; omega
  ·have h1 := high_node f hf r (g - 1) (k - 2 ^ (g - 1)) (d + 1) (2 * p + 1);have h2 := Tr.at_ge r (g - 1) (k - 2 ^ (g - 1)) (d + 1) (2 * p + 1);simp only [Tr.high]; rw [h1]; omega
theorem lds_len : ∀ (t : Tr) (d p : Nat), (lds t d p).length = t.refs.length
 | .leaf _ _, _, _ => rfl
 | .node l r, d, p => by simp only [lds, Tr.refs, lA, lds_len l, lds_len r]
theorem refs_le : ∀ t : Tr, t.refs.length <= 2 ^ t.high
 | .leaf _ _ => by simp [Tr.refs, Tr.high]
 | .node l r => by
  have h1 := refs_le l;have h2 := refs_le r;have h3 : 2 ^ l.high <= 2 ^ max l.high r.high := Nat.pow_le_pow_right (by decide) (Nat.le_max_left _ _);have h4 : 2 ^ r.high <= 2 ^ max l.high r.high := Nat.pow_le_pow_right (by decide) (Nat.le_max_right _ _);simp only [Tr.refs, Tr.high, lA, Nat.pow_succ];omega
theorem pre_zero (h : Nat) : preM h 0 = 0 := by simp [preM]
variable {N bd bx g h k : Nat} {w : World} {a : Bool} {sp : Int}
theorem pre_div {d : Nat} (hg : g <= 20) (hd : d <= g) (hh : h < 18446744073709551616) : preM h g / 2 ^ (g - d) = preM h d := by
 by_cases h0 : d = 0
 ·subst h0;rw [pre_zero];by_cases g0 : g = 0
  ·subst g0; simp [pre_zero]
  ·unfold preM;rw [if_neg (by omega), Nat.div_div_eq_div_mul, <- Nat.pow_add, show 64 - g + (g - 0) = 64 by omega];exact Nat.div_eq_of_lt hh
 ·unfold preM;rw [if_neg (by omega), if_neg (by omega), Nat.div_div_eq_div_mul, <- Nat.pow_add, show 64 - g + (g - d) = 64 - d by omega]
theorem pre_lt2 (hg : g <= 20) (hh : h < 18446744073709551616) : preM h g < 2 ^ g := by
 by_cases g0 : g = 0
 ·subst g0; rw [pre_zero]; decide
 ·unfold preM;rw [if_neg (by omega)];refine Nat.div_lt_of_lt_mul ?_;rw [<- Nat.pow_add, show 64 - g + g = 64 by omega];exact hh
def slN (lo n : Nat) : List Nat := (List.range n).map (lo + ·)
theorem mem_slN {lo n i : Nat} : i ∈ slN lo n ↔ lo <= i /\ i < lo + n := by
 simp only [slN, List.mem_map, List.mem_range];constructor
 ·rintro ⟨j, hj, rfl⟩; omega
 ·rintro ⟨h1, h2⟩; exact ⟨i - lo, by omega, by omega⟩
theorem mid_get {α : Type} (l m : List α) (lo n : Nat) (h : lo + n <= l.length) (hm : m.length = n) (i : Nat) : (l.take lo ++ m ++ l.drop (lo + n))[i]? = if i < lo then l[i]? else if i < lo + n then m[i - lo]? else l[i]? := by
 have hl : (l.take lo).length = lo := by rw [lT]; omega
 rw [List.append_assoc];by_cases h1 : i < lo
 ·rw [if_pos h1, List.getElem?_append_left (by omega), gT, if_pos h1]
 ·rw [if_neg h1, List.getElem?_append_right (by omega), hl];by_cases h2 : i < lo + n
  ·rw [if_pos h2, List.getElem?_append_left (by omega)]
  ·rw [if_neg h2, List.getElem?_append_right (by omega), hm, List.getElem?_drop];congr 1; omega
theorem setM_mid (l : List Rf) (lo n : Nat) (h : lo + n <= l.length) (r : Rf) : setM l (slN lo n) r = l.take lo ++ List.replicate n r ++ l.drop (lo + n) := by
 refine setM_ext fun i => ?_
 rw [setM_get, mid_get _ _ _ _ h (by simp)];simp only [mem_slN];by_cases h1 : i < lo
 ·rw [if_neg (by omega), if_pos h1]
 ·rw [if_neg h1];by_cases h2 : i < lo + n
  ·rw [if_pos (by omega), if_pos h2, List.getElem?_replicate, if_pos (by omega), gE (by omega)]; rfl
  ·rw [if_neg (by omega), if_neg h2]
variable {t : Tr}
theorem slots_leaf (hh : t.high <= g) (hk : k < 2 ^ g) (r : Rf) (f : Rf -> List Bt -> Tr) (hf : ∀ r' es', ∃ es, f r' es' = .leaf r es) : setM (t.slots g) (slN (t.lo g k) (2 ^ t.wd g k)) r = (t.put g k f).slots g := by
 obtain ⟨h1, h2, h3⟩ := Tr.lo_le t g k hh hk;rw [setM_mid _ _ _ (by rw [Tr.slots_len t g hh]; exact h3), Tr.slots_put f t g k hh hk];obtain ⟨es, he⟩ := hf (t.at_ g k 0 0).2.2.1 (t.at_ g k 0 0).2.2.2;rw [he]; rfl
theorem slots_node (hh : t.high <= g) (hk : k < 2 ^ g) (hw : 0 < t.wd g k) (r0 r1 : Rf) (f : Rf -> List Bt -> Tr) (hf : ∀ r' es', ∃ e0 e1, f r' es' = .node (.leaf r0 e0) (.leaf r1 e1)) :
  setM (setM (t.slots g) (slN (t.lo g k + 2 ^ (t.wd g k - 1)) (2 ^ (t.wd g k - 1))) r1) (slN (t.lo g k) (2 ^ (t.wd g k - 1))) r0 = (t.put g k f).slots g := by
 obtain ⟨h1, h2, h3⟩ := Tr.lo_le t g k hh hk;obtain ⟨m, hm⟩ : ∃ m, t.wd g k = m + 1 := ⟨t.wd g k - 1, by omega⟩
 have hl := Tr.slots_len t g hh;rw [Tr.slots_put f t g k hh hk];obtain ⟨e0, e1, he⟩ := hf (t.at_ g k 0 0).2.2.1 (t.at_ g k 0 0).2.2.2;rw [he];rw [hm] at h3 ⊢;simp only [Tr.slots, Nat.add_sub_cancel];have hp : 2 ^ (m + 1) = 2 ^ m + 2 ^ m := by rw [Nat.pow_succ]; omega
 generalize 2 ^ m = q at *
 generalize t.lo g k = lo at *
 generalize t.slots g = l at *
 rw [hp] at h3 ⊢;refine setM_ext fun i => ?_
 rw [setM_get, setM_get, mid_get _ _ _ _ (by omega) (by simp)];simp only [mem_slN];by_cases h1 : i < lo
 ·rw [if_neg (by omega), if_neg (by omega), if_pos h1]
 ·rw [if_neg h1];by_cases h2 : i < lo + (q + q)
  ·rw [if_pos h2];have hil : l[i]? = some (l[i]'(by omega)) := gE _;by_cases h4 : i < lo + q
   ·rw [if_pos (by omega), if_neg (by omega), List.getElem?_append_left (by simp; omega), List.getElem?_replicate, if_pos (by omega), hil]; rfl
   ·rw [if_neg (by omega), if_pos (by omega), List.getElem?_append_right (by simp; omega), List.getElem?_replicate, if_pos (by simp; omega), hil]; rfl
  ·rw [if_neg (by omega), if_neg (by omega), if_neg h2]
theorem set_perm {α : Type} {L A C : List α} {q q' : α} {j : Nat} (hp : L.Perm (A ++ (q :: C))) (hj : L[j]? = some q) : (L.set j q').Perm (A ++ (q' :: C)) := by
 have hjl := (gI.1 hj).1;have e1 : L = L.take j ++ q :: L.drop (j + 1) := by
  conv => lhs; rw [<- List.take_append_drop j L]
  rw [List.drop_eq_getElem_cons hjl, (gI.1 hj).2]
 have e2 : L.set j q' = L.take j ++ q' :: L.drop (j + 1) := by rw [List.set_eq_take_append_cons_drop, if_pos hjl]
 have h1 : (q :: (L.take j ++ L.drop (j + 1))).Perm (q :: (A ++ C)) := (List.perm_middle.symm.trans (by rw [<- e1]; exact hp)).trans List.perm_middle;have h2 := (List.perm_cons q).1 h1;rw [e2];exact List.perm_middle.trans (((List.perm_cons q').2 h2).trans List.perm_middle.symm)
structure IdxT (w : World) (B : Blk) (bx bd : Nat) (y : Cs) (P : Prot) (a : Bool) (N : Nat) (x : DirD) (t : Tr) (sp : Int) : Prop where
 ex : ∃ tops L, IdxM w B bx bd y P a N x tops (t.slots x.depth) L sp /\ L.Perm (lds t 0 0)
 high : t.high = x.depth
 ok : okT t 0 0
variable {B : Blk} {y : Cs} {P : Prot} {x : DirD}
theorem IdxT.depth (h : IdxT w B bx bd y P a N x t sp) : x.depth <= 3 := by
 obtain ⟨tops, L, h1, -⟩ := h.ex;exact h1.small.2.2
theorem IdxT.fr0 {w' : World} (h : IdxT w B bx bd y P a N x t sp) (F : Fq w w') : IdxT w' B bx bd y P a N x t sp := by
 obtain ⟨tops, L, h1, h2⟩ := h.ex;exact ⟨⟨tops, L, h1.fr0 F, h2⟩, h.high, h.ok⟩
end
section
open Go.RowKit Go.Sg Go.Sg.Bits Go.Shelf CP SF
attribute [local go_sem] Oper.semAt_some
theorem mslots_any (p d g : Int) (w : World) :
  Calls Tryz.prog 266 #[.int .i64 p, .int .i64 d, .int .i64 g] w fun e w' => e = .returned (.func (.func 284) #[] #[.pointer (some ⟨w.heap.size + 1, 0, none⟩), .pointer (some ⟨w.heap.size + 1 + 1, 0, none⟩), .pointer (some ⟨w.heap.size, 0, none⟩)]) /\ ((w.alloc (.cells #[.int .i64 p] 3)).alloc (.cells #[.int .i64 d] 3)).alloc (.cells #[.int .i64 g] 3) = w' := by
 go_enter Tryz.func266, Tryz.ntmps266;go_wp2
 go_ret;exact ⟨rfl, rfl⟩
def slZ (p q m : Nat) : List Int := (List.range m).map fun i => ((p * q + i : Nat) : Int)
theorem slZ_succ (p q m : Nat) : slZ p q (m + 1) = slZ p q m ++ [((p * q + m : Nat) : Int)] := by simp [slZ, List.range_succ]
theorem slZ_len (p q m : Nat) : (slZ p q m).length = m := by simp [slZ]
variable {b d e g n p size : Nat} {w : World} {v : Value} {xs : List Value}
theorem slZ_pre (p q : Nat) {a : Nat} (h : a <= b) : slZ p q a <+: slZ p q b := by
 obtain ⟨c, rfl⟩ : ∃ c, b = a + c := ⟨b - a, by omega⟩
 unfold slZ;rw [List.range_add, List.map_append];exact List.prefix_append _ _
theorem wrap_small20 (h : n <= 1048576) : wrap64 (n : Int) = (n : Int) := by simp only [wrap64]; omega
def KpM (b : Nat) (A C : World) : Prop := C.heap[b]? = A.heap[b]? /\ C.heap[b + 1]? = A.heap[b + 1]? /\ C.heap[b + 2]? = A.heap[b + 2]?
theorem KpM.trans {A C D : World} (h : KpM b A C) (k : KpM b C D) : KpM b A D := ⟨k.1.trans h.1, k.2.1.trans h.2.1, k.2.2.trans h.2.2⟩
theorem mslotsf_stops (h0 : w.heap[b]? = some (.cells #[.int .i64 p] 3)) (h1 : w.heap[b + 1]? = some (.cells #[.int .i64 d] 3)) (h2 : w.heap[b + 2]? = some (.cells #[.int .i64 g] 3)) (hd : d <= g) (hg : g <= 20) (hp : p < 2 ^ d) :
  SeqStopsK Fence.wide 9 Tryz.prog 284 #[.pointer (some ⟨b + 1, 0, none⟩), .pointer (some ⟨b + 1 + 1, 0, none⟩), .pointer (some ⟨b, 0, none⟩)] encT (KpM b) (fun xs => xs = slZ p (2 ^ (g - d)) (2 ^ (g - d))) (fun pre => pre <+: slZ p (2 ^ (g - d)) (2 ^ (g - d))) (2 ^ (g - d)) w := fun l J Jx W hW hJ _ hY hJ0 => by
 have FW : Fq w W := Fr.of_below hW;have HB := hid (fun C (K : KpM b W C) => show C.cell? ⟨b, 0, none⟩ = some (.int .i64 p) /\ C.cell? ⟨b + 1, 0, none⟩ = some (.int .i64 d) /\ C.cell? ⟨b + 1 + 1, 0, none⟩ = some (.int .i64 g) from
  ⟨by simpa using coh (K.1.trans (FW.heap h0 (fun h => h))) 0, by simpa using coh (K.2.1.trans (FW.heap h1 (fun h => h))) 0, by simpa using coh (K.2.2.trans (FW.heap h2 (fun h => h))) 0⟩)
 obtain ⟨c0, c1, c2⟩ := HB.out W ⟨rfl, rfl, rfl⟩;obtain ⟨k, hk⟩ : ∃ k, g - d = k := ⟨_, rfl⟩
 have hk20 : k <= 20 := by omega
 have hd1 : decide ((d : Int) < 0) = false := by simp
 have hd2 : decide (g < d) = false := by simp; omega
 have hd2' : decide ((g : Int) < (d : Int)) = false := by simp; omega
 have hd3 : decide ((20 : Int) < (g : Int)) = false := by simp; omega
 have hd3' : decide (20 < g) = false := by simp; omega
 have hd4 : decide ((p : Int) < 0) = false := by simp
 have hsub : wrap64 ((g : Int) - (d : Int)) = (k : Int) := by simp only [wrap64]; omega
 obtain ⟨q, hq⟩ : ∃ q, 2 ^ k = q := ⟨_, rfl⟩
 have hq9 : q <= 1048576 := by rw [<- hq]; exact nT (Nat.pow_le_pow_right (by decide) hk20) (by decide)
 have hpq : p * q + q <= 1048576 := by
  have e1 : p * 2 ^ k + 2 ^ k <= 2 ^ d * 2 ^ k := by rw [<- Nat.succ_mul]; exact Nat.mul_le_mul_right _ hp
  rw [<- Nat.pow_add, hq] at e1;exact nT e1 (nT (Nat.pow_le_pow_right (by decide) (by omega)) (by decide : (2:Nat) ^ 20 <= 1048576))
 have hp9 : p < 1048576 := by
  have := Nat.le_mul_of_pos_right p (show 0 < q by rw [<- hq]; exact Nat.pow_pos (by decide));have hq0 : 0 < q := by rw [<- hq]; exact Nat.pow_pos (by decide)
  omega
 have hshl : wrap64 ((2 : Int) ^ (g - d)) = (q : Int) := by
  have e : (2 : Int) ^ (g - d) = ((2 ^ (g - d) : Nat) : Int) := by simp
  rw [e, hk, hq];simp only [wrap64]; omega
 obtain ⟨pq, hpqe⟩ : ∃ pq, p * q = pq := ⟨_, rfl⟩
 rw [hpqe] at hpq;have hmul : wrap64 ((p : Int) * (q : Int)) = (pq : Int) := by
  rw [<- Int.natCast_mul, hpqe];exact wrap_small20 (nT (Nat.le_add_right _ _) hpq)
 have hshr : (p : Int) / 2 ^ d = 0 := by
  have : p / 2 ^ d = 0 := Nat.div_eq_of_lt hp;have e : ((p : Int) / 2 ^ d) = ((p / 2 ^ d : Nat) : Int) := by simp
  rw [e, this]; rfl
 have HK := hi2 hk (aI hq hpqe);have HJ0 := hid hJ0;rw [hk, hq];rw [hk, hq] at hY;clear hW FW h0 h1 h2 hk hJ0 hq hpqe;refine callsIn_of_wp Tryz.func284 rfl trivial ?_ rfl;simp only [Tryz.ntmps284, zA, lC, List.length_nil, Nat.reduceAdd, Nat.reduceSub, Array.replicate_succ, Array.replicate_zero, List.push_toArray, List.append_toArray, List.nil_append, List.cons_append];gi_wp2
 rw [hshl];clear hshl;gi_loopw [33] (fun iv wr => ∃ i : Nat, i <= q /\ iv = .int .i64 i /\ J (slZ p q i) wr /\ KpM b W wr) (fun iv _ => q - (intOf iv).toNat)
 case atStart => exact ⟨0, Nat.zero_le _, rfl, HJ0.out, rfl, rfl, rfl⟩
 case round =>
  obtain ⟨i, hi, rfl, hJi, hkp⟩ := hrel;obtain ⟨c0, c1, c2⟩ := HB.out wr hkp;by_cases hlt : i < q
  ·have hdl : decide (i < q) = true := by simp [hlt]
   obtain ⟨fn, tmps, assign, body, hy, hR⟩ := hY _ ((pq : Int) + (i : Int)) wr hJi (by rw [slZ_len]; exact hlt);dsimp only [encT] at hy;have HZ := hid (show slZ p q (i + 1) = slZ p q i ++ [(pq : Int) + (i : Int)] by rw [slZ_succ, HK.out.2.2]; simp);have HKp := hid hkp;clear hkp hJi;gi_wp2
   refine hR.mono ?_;rintro e W3 (⟨rfl, hJ3, hk3⟩ | ⟨rfl, hJx3⟩)
   ·have HJ3 := hid hJ3;have HK3 := hid (HKp.out.trans hk3);clear hJ3 hk3;gi_wp2
    go_roundw;case rel => exact ⟨i + 1, hlt, by go_num, by rw [HZ.out]; exact HJ3.out, HK3.out⟩
    case measure => simp [intOf]; omega
   ·have HJX := hid hJx3;clear hJx3;gi_wp2
    refine bodyPost_ret (results_none rfl _ _ _) rfl ?_;exact ⟨⟨_, rfl⟩, .inr ⟨_, by rw [<- HZ.out]; exact slZ_pre p q hlt, HJX.out⟩⟩
  ·obtain rfl : i = q := by omega
   have hdl : decide (i < i) = false := by simp
   gi_wp2
   go_end0
   exact ⟨⟨_, rfl⟩, .inl ⟨_, rfl, hJi⟩⟩
def HoldsM (B n0 : Nat) (pre : List Int) (W : World) : Prop :=
 ∃ v, Boxed W B 52 v /\ W.ownsRow n0 3 1 v pre.length (pre.map (fun x => Value.int .i64 x)) /\ True
theorem own_blkT' (h : w.ownsRow b e size v n xs) (hv : v.ownBlock = some g) : b <= g /\ g < w.heap.size := by
 obtain ⟨_, ⟨h0, _⟩ | ⟨g', cap', cur', h1, hb, hg', _⟩⟩ := h
 ·rw [h0] at hv; cases hv
 ·rw [h1] at hv;have e' : g' = g := Option.some.inj hv;subst e';exact ⟨hb, loh hg'⟩
theorem own_set52 {n0 B : Nat} {u : Value} (h : w.ownsRow n0 3 1 v n xs) (hb : Boxed w B 52 u) (z : Value) : (w.setCell ⟨B, 0, none⟩ z).ownsRow n0 3 1 v n xs :=
 h.kept (grownBy_setCell' w B z) (.inr (hb.not_row (by decide) h).symm)
theorem own_monoM {b' : Nat} (h : w.ownsRow b e size v n xs) (hb : b' <= b) : w.ownsRow b' e size v n xs := by
 obtain ⟨hl, h0 | ⟨g, cap, cur, hv, hg, r⟩⟩ := h
 ·exact ⟨hl, .inl h0⟩
 ·exact ⟨hl, .inr ⟨g, cap, cur, hv, nT hb hg, r⟩⟩
def MSlP (l : List Int) (w : World) (e : Ending) (w' : World) : Prop := ∃ va vc, e = .returned (.slice va l.length vc) /\ w'.ownsRow w.heap.size 3 1 (.slice va l.length vc) l.length (l.map (Value.int .i64)) /\ Fq w w'
theorem mslots_ok (hd : d <= g) (hg : g <= 20) (hp : p < 2 ^ d) (w : World) :
  Calls Tryz.prog 213 #[.int .i64 p, .int .i64 d, .int .i64 g] w (MSlP (slZ p (2 ^ (g - d)) (2 ^ (g - d))) w) := by
 obtain ⟨i0, hi0, hz0, hz1, hz2⟩ := info_parts Tryz.info3;refine (callsIn_wide (n := 10)).1 ?_;have F := hid (mslots_any p d g (w.alloc (.cells #[.slice none 0 0] 52)));have hmany : 2 ^ (g - d) <= 1048576 := nT (Nat.pow_le_pow_right (by decide) (by omega : g - d <= 20)) (by decide);refine callsIn_of_wp_marks Tryz.func213 rfl trivial ?_ rfl;simp only [Tryz.ntmps213, zA, lC, List.length_nil, Nat.reduceAdd, Nat.reduceSub, Array.replicate_succ, Array.replicate_zero, List.push_toArray, List.append_toArray, List.nil_append, List.cons_append];gi_wp2_with (gi_at_call 266; refine (callsIn_wide.2 F.out).mono ?_; rintro e w' ⟨rfl, rfl⟩)
 obtain ⟨W0, hW0⟩ : ∃ W0, (((w.alloc (.cells #[.slice none 0 0] 52)).alloc (.cells #[.int .i64 p] 3)).alloc (.cells #[.int .i64 d] 3)).alloc (.cells #[.int .i64 g] 3) = W0 := ⟨_, rfl⟩
 have hF0 : Fq w W0 := by rw [<- hW0]; exact ((((Fr.refl _ w).alloc _).alloc _).alloc _).alloc _
 have hsz : W0.heap.size = w.heap.size + 1 + 1 + 1 + 1 := by rw [<- hW0]; simp
 obtain ⟨q0, q1, q2, hF1⟩ := heap_three hW0;have hnx : W0.heap[w.heap.size]? = some (.cells #[.slice none 0 0] 52) := hF1.heap (han _ _) (fun h => h);have e1 : (w.alloc (.cells #[.slice none 0 0] 52)).heap.size = w.heap.size + 1 := by simp
 rw [e1] at q0 q1 q2;simp only [hW0];have hq1 : w.heap.size + 1 + 2 = w.heap.size + 1 + 1 + 1 := by omega
 refine wpIn_rangeFunc_ownG (F := Fence.wide) rfl (by omega) (gf := 284) (lb := #[.pointer (some ⟨w.heap.size + 1 + 1, 0, none⟩), .pointer (some ⟨w.heap.size + 1 + 1 + 1, 0, none⟩), .pointer (some ⟨w.heap.size + 1, 0, none⟩)]) rfl trivial (enters_of Tryz.func284 (by kernel_rfl) rfl)
  (mslotsf_stops (b := w.heap.size + 1) q0 q1 (by rw [hq1]; exact q2) hd hg hp) (fun h k => h.trans k) (fun W l o o' hl _ _ _ => ⟨hpj _ _ _ _ (by omega), hpj _ _ _ _ (by omega), hpj _ _ _ _ (by omega)⟩) (Below.refl _ _) (fun _ => rfl)
  (fun pre W => HoldsM w.heap.size W0.heap.size pre W /\ Fr (fun b => b = w.heap.size) W0 W)
  (fun _ _ _ => False)
  (own_and ((holdsRow_own W0.heap.size w.heap.size 52 3 1 (fun pre : List Int => pre.length) (fun pre => pre.map (fun x => Value.int .i64 x)) (fun _ _ => True)).from _) (own_fr (nR _)))
  (fun _ _ _ _ _ h => h.elim)
  ⟨⟨_, hnx, World.ownsRow_nil _ _ _ _, trivial⟩, Fr.refl _ _⟩
  (fun x => { tmps := #[.int .i64 p, .int .i64 d, .int .i64 g, undef, undef, undef, .slice none 0 0, .pointer (some ⟨w.heap.size, 0, none⟩), .int .i64 x, .int .i64 p, .int .i64 d, .int .i64 g, .func (.func 284) #[] #[.pointer (some ⟨w.heap.size + 1 + 1, 0, none⟩), .pointer (some ⟨w.heap.size + 1 + 1 + 1, 0, none⟩), .pointer (some ⟨w.heap.size + 1, 0, none⟩)], .int .i64 x, undef, undef, undef, undef, undef], defers := [] }) ?assign ?body ?done ?stop
 case assign =>
  intro l x W K hK;gi_wp2
  exact hK
 case body =>
  rintro l pre x W ⟨⟨v, hv, hown, -⟩, hF⟩ hlen;have e0 := hv.cell;have e1 := hv.frozen;have l1 := hv.lt;have hWW := hF.size;have hsW : w.heap.size <= W.heap.size := nT hF0.size hWW;have HSZ := hid hsz;have HFF := hid hF;have HV := hid hv;have HO := hid hown;have hlen9 : pre.length <= 1048576 := nT (Nat.le_of_lt hlen) hmany;clear hv hown hnx q0 q1 q2 hF1 hlen hmany hp hsz hF hF0 hq1;gi_wp2_with (gi_at_builtin; refine wpListIn_append_own _ rfl (.tmp 14) (.tmp 16) 52 rfl W0.heap.size 3 i0 _ 1 8 Tryz.underlying52 hi0 hz0 hz1 hz2 rfl (by decide) _ _ _ rfl (HO.out.alloc _) ⟨W.heap.size, 0, none⟩ 1 1 [.int .i64 x] rfl rfl (cell_one_new _ _ _) (by simp [Value.oneCell']) ?c3 ?c4 ?c5 ?_)
  case c3 => simp [maxLen]; omega
  case c4 => omega
  case c5 => exact nT hWW (by simp)
  intro v1 w2 hown2 hgrow hnil;obtain ⟨g', cap, rfl⟩ := ownsRow_succ hown2;obtain ⟨d1, d2, -, d4, d5⟩ := HV.out.appended (by decide) (own_monoM HO.out (by have := HSZ.out; omega : w.heap.size <= W0.heap.size)) hsW (nR _) (own_monoM hown2 (by have := HSZ.out; omega)) hgrow;have d3 := own_set52 hown2 d1 (.slice (some ⟨g', 0, none⟩) (pre.length + 1) cap);have hk : ∀ j, w.heap.size < j -> j < W0.heap.size -> (w2.setCell ⟨w.heap.size, 0, none⟩ (.slice (some ⟨g', 0, none⟩) (pre.length + 1) cap)).heap[j]? = W.heap[j]? := fun j h1 h2 => by
   rw [heap_setCell_ne _ _ _ _ (by show w.heap.size ≠ j; omega), hgrow.block j (by simp; omega) (fun e => by
    have := (own_blkT' HO.out e.symm).1;omega), heap_alloc_lt _ _ _ (by omega)]
  have HKm := hid hk;have HF5 := hid (show Fr (fun b => w.heap.size <= b /\ (b = w.heap.size \/ W0.heap.size <= b)) W (w2.setCell ⟨w.heap.size, 0, none⟩ (.slice (some ⟨g', 0, none⟩) (pre.length + 1) cap)) from ⟨d5.os, d5.tape, d5.output, d5.size, fun b hb hn => by
   rcases Nat.lt_or_ge b w.heap.size with h | h
   ·exact d5.block b h
   ·exact hk b (by
     rcases Nat.lt_or_ge w.heap.size b with h2 | h2
     ·exact h2
     ·exact absurd ⟨h, .inl (by omega)⟩ hn) (by
     rcases Nat.lt_or_ge b W0.heap.size with h2 | h2
     ·exact h2
     ·exact absurd ⟨h, .inr h2⟩ hn)⟩)
  have f0 := d1.cell;have f1 := d1.frozen;have D2 := hid d2;have D3 := hid d3;clear hown2 hgrow hnil d1 d2 d3 hk;gi_wp2
  refine ⟨d4.from _, ⟨HKm.out _ (by omega) (by have := HSZ.out; omega), HKm.out _ (by omega) (by have := HSZ.out; omega), HKm.out _ (by omega) (by have := HSZ.out; omega)⟩, ⟨_, D2.out, by simpa using D3.out, trivial⟩, ?_⟩;exact HFF.out.trans (S' := fun b => w.heap.size <= b /\ (b = w.heap.size \/ W0.heap.size <= b)) HF5.out (fun b hb h => by rcases h.2 with h | h <;> omega)
 case done =>
  rintro D ys W hD rfl ⟨⟨v, hv, hown, -⟩, hF⟩ hK;obtain ⟨va, vc, rfl, -, -, -, -⟩ := oSl hown;have e0 := hv.cell;have HO := hid hown;clear hown hv hnx q0 q1 q2 hF1;gi_wp2
  have hI := own_monoM (ownsRow_putObj HO.out (.deferred none) hK rfl) (by omega : w.heap.size <= W0.heap.size);refine marks_ret1 (t := 6) rfl hK ⟨va, vc, rfl, hI, (hF0.trans hF (fun b hb h => by omega)).putObj (fun hh => by omega) _⟩
 case stop => exact fun _ _ _ _ _ _ h => h.elim
end
section
open Go.RowKit Go.Sg Go.Sg.Bits Go.Sg.Clk CP SF
variable {B : Blk} {w : World} {N bd bx d p : Nat} {a : Bool} {sp : Int}
theorem frX_heap {X : Nat -> Prop} {w' : World} (F : FrX B X w w') {b : Nat} {c : Array Value} {t : TypeId} {f : Nat × Nat} (hb : w.heap[b]? = some (.cells c t f)) (ht : t ∉ mutT) (hX : ¬ X b) : w'.heap[b]? = some (.cells c t f) :=
 Fr.heap F hb fun hs => by
  rcases hs with hs | hs
  ·exact ht (hs.2.1 c t f hb)
  ·exact hX hs
variable {r : Rf}
theorem setM_same {l : List Rf} {S : List Nat} (h : ∀ i ∈ S, l[i]? = some r) : setM l S r = l := by
 refine setM_ext fun i => ?_
 rw [setM_get];split
 ·rename_i hi; rw [h i hi]; rfl
 ·rfl
theorem slN_of {g : Nat} (hd : d <= g) (hp : p < 2 ^ d) : p * 2 ^ (g - d) + 2 ^ (g - d) <= 2 ^ g := by
 have h1 : 2 ^ g = 2 ^ d * 2 ^ (g - d) := by rw [<- Nat.pow_add]; congr 1; omega
 rw [h1, <- Nat.succ_mul];exact Nat.mul_le_mul_right _ hp
theorem slZ_nat (p q m : Nat) : (slZ p q m).map Int.toNat = slN (p * q) m := by
 simp only [slZ, slN, List.map_map];refine List.map_congr_left fun i _ => ?_
 simp only [Function.comp_apply, Int.toNat_natCast]
variable {y : Cs} {P : Prot} {x : DirD} {slots tops : List Rf} {L : List Bp}
theorem IdxM.bd_lt (h : IdxM w B bx bd y P a N x tops slots L sp) : bd < w.heap.size /\ bx < w.heap.size /\ bx ≠ bd := by
 refine ⟨loh h.dir, loh h.idx, fun e => ?_⟩;have h1 := h.dir;have h2 := h.idx;unfold DirAt at h1;unfold IdxAt at h2;rw [e, h1] at h2;cases h2
theorem xpoint_ok (h : IdxM w B bx bd y P a N x tops slots L sp) (vo : Option Addr) (vn vc0 : Nat) (hd : d <= x.depth) (hp : p < 2 ^ d) (hr : rightR r) (hN : N + 19 <= 90000) :
  Calls Tryz.prog 197 #[xptr bx, bkV d p (.slice vo vn vc0), ref2 r.1 r.2] w (MidU B bx bd y P a (N + 19) x.depth (setM slots (slN (p * 2 ^ (x.depth - d)) (2 ^ (x.depth - d))) r) L sp w) := by
 obtain ⟨w1, hw1⟩ : ∃ w1, (w.alloc (.cells #[.int .i64 d, .int .i64 p, .slice vo vn vc0] 129)).alloc (.cells #[.int .i64 r.1, .int .i64 r.2] 35) = w1 := ⟨_, rfl⟩
 obtain ⟨b4, b5, F1⟩ := heap_two hw1;obtain ⟨hbd, hbx, hne⟩ := h.bd_lt;have hs := h.small;have hB := hid (fun (V : World) (F : FrX B (fun b => b = bd) w1 V) => aI (cells3 (frX_heap F b4 (by decide) (by omega))) (aI (cells2 (frX_heap F b5 (by decide) (by omega))) (cells5 (frX_heap F (F1.heap h.idx (fun h => h)) (by decide) hne))));have HB := hB;obtain ⟨g, hg⟩ : ∃ g, x.depth = g := ⟨_, rfl⟩
 have HDp := hid (fun V (F : Fq w1 V) => depth_ok (F.heap (F1.heap h.dir (fun h => h)) (fun h => h) : DirAt V bd B.s x));rw [hg] at hd hs HDp ⊢;have HSl := hid (fun V => mslots_ok (p := p) (d := d) (g := g) hd (by omega) hp V);have hsl := slN_of hd hp;have hsx : x.slots = 2 ^ g := by unfold DirD.slots; rw [hg]
 obtain ⟨q, hq⟩ : ∃ q, 2 ^ (g - d) = q := ⟨_, rfl⟩
 rw [hq] at HSl hsl ⊢;have hq8 : q <= 8 := by have := hs.2.1; omega
 have HSet := hid (fun V (F : Fq w1 V) (a4 : Option Addr) (c4 : Nat) (ho : V.ownsRow w1.heap.size 3 1 (.slice a4 (slZ p q q).length c4) (slZ p q q).length ((slZ p q q).map (Value.int .i64))) => by
  have := (h.fr0 (F1.trans F (fun _ _ h => h))).set (sa := a4) (n := (slZ p q q).length) (c := c4) (l := slZ p q q) (r := r) (sli_of_own ho rfl) (fun W' G => sli_of_own (own_frB ho (by decide) G) rfl) (by rw [slZ_len]; exact hq8) (by
   rw [List.any_eq_false];intro z hz;obtain ⟨i, hi, rfl⟩ := List.mem_map.1 hz;have := List.mem_range.1 hi;simp [outB];omega) hr hN
  rw [slZ_nat, hg] at this;exact this)
 have HLn := hid (slZ_len p q q);have HF1 := hid F1;have FG : Fq w1 w1.drew := (Fr.refl _ _).drew;have HW := hid hw1;have hdi : (d : Int) = d := rfl;clear hw1 b4 b5 F1 h hB hr hsl hsx hg hq;go_enter Tryz.func197, Tryz.ntmps197;go_upto_region 1 with fail
 rw [HW.out];refine wp_region_noPanic ?_;refine region_plan (fun V => FrX B (fun b => b = bd) w1 V) (.rd 0 (.rd 1 (.rd 2 (.rd 3 (.rd 4 (.rd 5 (.rd 6 (.rd 7 (.rd 8 (.rd 9 (.rd 10 (.rd 11 (.rd 14 (.op 12 (.op 13 (.op 15 (.rd 16 .done))))))))))))))))) (by kernel_rfl) (by kernel_rfl) (by kernel_rfl) (fun _ _ _ _ _ h => h) (FrX.none FG) ?_;iterate 13
  try simp only [Act.put, sI, sZ, sS]
  refine plan_rd _ ?_ (by simp only [gA, gZ, gS]; rfl) (by rfl) ?_ ?_;rotate_left
  ·intro V hV;obtain ⟨⟨x0, x1, x2, xz, xl⟩, ⟨t0, t1, tz, tl⟩, ⟨i0, i1, i2, i3, i4, iz, il⟩⟩ := HB.out V hV;go_simp;try with_reducible rfl
 try simp only [Act.put, sI, sZ, sS]
 refine plan_op _ (by simp only [gA, gZ, gS]; rfl) (by rfl) (fun K hK => ?_);go_simp;refine (HDp.out _ FG).mono ?_;rintro _ _ ⟨rfl, rfl⟩;try go_simp
 refine hK _ _ (FrX.none FG) ?_;clear hK K;try simp only [Act.put, sI, sZ, sS]
 refine plan_op _ (by simp only [gA, gZ, gS]; rfl) (by rfl) (fun K hK => ?_);go_simp;refine (HSl.out _).mono ?_;rintro _ V2 ⟨va, vc, rfl, hown, F2⟩;have FG2 := FG.trans F2 (fun _ _ h => h);have HSe := hid (HSet.out V2 FG2 va vc hown);have HF2 := hid FG2;rw [HLn.out];try go_simp
 refine hK _ _ (FrX.none FG2) ?_;clear hK K hown F2 FG2;try simp only [Act.put, sI, sZ, sS]
 refine plan_op _ (by simp only [gA, gZ, gS]; rfl) (by rfl) (fun K hK => ?_);go_simp;rw [HLn.out] at HSe;refine HSe.out.mono ?_;rintro _ V3 ⟨err, rfl, F3, hr⟩;have FG3 : FrX B (fun b => b = bd) w1 V3 := FrX.trans (FrX.none HF2.out) F3;have H3 := hi2 FG3 hr;try go_simp
 refine hK _ _ FG3 ?_;clear hK K F3 hr FG3;try simp only [Act.put, sI, sZ, sS]
 refine plan_rd _ ?_ (by simp only [gA, gZ, gS]; rfl) (by rfl) ?_ ?_;rotate_left
 ·intro V hV;go_simp;try with_reducible rfl
 try simp only [Act.put, sI, sZ, sS]
 refine plan_done ?_;refine NoPanic.normal ?_;go_wp2_with fail
 go_ret;refine ⟨err, rfl, FrX.trans (FrX.none HF1.out) H3.out.1, H3.out.2⟩
end
section
open Go.RowKit Go.Sg CP SF
variable {w : World} {k r : Nat} {bs : List Int}
theorem rbad_ok (h : RdAt w r bs false) : Calls Tryz.prog 218 #[.pointer (some ⟨r, 0, none⟩)] w (BoolP false w) := by
 obtain ⟨⟨a, c, hr, -⟩, -⟩ := h;have c1 : w.cell? ⟨r, 1, none⟩ = some (.bool false) := by simpa using coh hr 1
 clear hr;go_enter Tryz.func218, Tryz.ntmps218;go_wp2_with fail
 go_ret;exact ⟨rfl, rfl⟩
def RestP (n : Nat) (w : World) (e : Ending) (w' : World) : Prop := ∃ a c, e = .returned (.slice a n c) /\ Fq w w'
theorem rrest_ok (h : RdAt w r bs false) : Calls Tryz.prog 275 #[.pointer (some ⟨r, 0, none⟩)] w (RestP bs.length w) := by
 obtain ⟨⟨a, c, hr, hb, -⟩, hs⟩ := h;obtain ⟨n, hn⟩ : ∃ n, bs.length = n := ⟨_, rfl⟩
 rw [hn] at hr hb hs ⊢;have c0 : w.cell? ⟨r, 0, none⟩ = some (.slice a n c) := by simpa using coh hr 0
 have HC := hid (clone_vc hb.slb hs);clear hr hb hn;go_enter Tryz.func275, Tryz.ntmps275;go_wp2_with fail
 refine HC.out.mono ?_;rintro e w2 ⟨a', c', rfl, -, F2⟩;have HF := hid F2;clear F2;go_wp2_with fail
 go_ret;exact ⟨_, _, rfl, HF.out⟩
variable {es : List Bt}
theorem ents_drop {x : Bt} (h : es[k]? = some x) : (es.drop k).flatMap entB = Sg.leB x.hash 8 ++ (Sg.leB x.rg.toNat 8 ++ (Sg.leB x.at_.toNat 2 ++ (Sg.leB x.sz.toNat 2 ++ (es.drop (k + 1)).flatMap entB))) := by
 have hk := (gI.1 h).1;have e : es[k] = x := (gI.1 h).2;rw [List.drop_eq_getElem_cons hk, e];simp [entB]
theorem ents_byte (es : List Bt) : ∀ z ∈ es.flatMap entB, 0 <= z /\ z < 256 := fun z hz => by
 obtain ⟨x, _, h⟩ := List.mem_flatMap.1 hz;simp only [entB, List.mem_append] at h;rcases h with ((h | h) | h) | h <;> exact Sg.leB_byte _ _ z h
theorem packM_byte (d p : Nat) (es : List Bt) : ∀ z ∈ packM d p es, 0 <= z /\ z < 256 := fun z hz => by
 simp only [packM, List.mem_append] at hz;rcases hz with ((h | h) | h) | h
 ·exact Sg.leB_byte _ _ z h
 ·exact Sg.leB_byte _ _ z h
 ·exact Sg.leB_byte _ _ z h
 ·exact ents_byte es z h
theorem tail_byte {bs t : List Int} {n k : Nat} (h : ∀ z ∈ Sg.leB n k ++ t, 0 <= z /\ z < 256) : ∀ z ∈ t, 0 <= z /\ z < 256 := fun z hz => h z (List.mem_append_right _ hz)
def NumQ (r v : Nat) (rest : List Int) (w : World) (e : Ending) (w' : World) : Prop := e = .returned (.int .u64 v) /\ RdAt w' r rest false /\ Fr (fun b => b = r) w w'
theorem num_q {v : Nat} {rest : List Int} (h : RdAt w r (Sg.leB v k ++ rest) false) (hr : ∀ x ∈ rest, 0 <= x /\ x < 256) (kz : Int) (hkz : kz = k) (hk : k = 1 \/ k = 2 \/ k = 4 \/ k = 8) (hv : v < 256 ^ k) :
  Calls Tryz.prog 216 #[.pointer (some ⟨r, 0, none⟩), .int .i64 kz] w (NumQ r v rest w) := by
 refine (num_p h (fun x hx => ?_) k kz hkz hk (by rw [lA, leB_length]; omega)).mono ?_
 ·rcases List.mem_append.1 hx with hx | hx
  ·exact Sg.leB_byte _ _ x hx
  ·exact hr x hx
 ·rintro e w' ⟨rfl, h2, F⟩;rw [take_leB, leV_leB k v hv];rw [drop_leB] at h2;exact ⟨rfl, h2, F⟩
def UnpP (d p : Nat) (es : List Bt) (w : World) (e : Ending) (w' : World) : Prop :=
 ∃ a c, e = .returned (.tuple #[bkV d p (.slice a es.length c), .int .i64 0]) /\ OwnE w' w.heap.size (.slice a es.length c) es /\ Fq w w'
def UnpI (w1 : World) (b4 b7 r : Nat) (d p : Nat) (es : List Bt) (k : Nat) (W : World) : Prop :=
 RdAt W r ((es.drop k).flatMap entB) false /\ (∃ v, W.heap[b7]? = some (.cells #[.int .i64 d, .int .i64 p, v] 129) /\ OwnE W w1.heap.size v (es.take k)) /\ Fq w1 W
theorem unpack_ok {a : Option Addr} {c n d p : Nat} (h : ByV w a n c (packM d p es)) (hn : n = 10 + 20 * es.length) (hl : es.length <= 24) (hg : ∀ x ∈ es, goodE x) (sl : Nat) (hd : d <= 20) (hp : p < 1048576)
  (hR : ∀ W v, OwnE W 0 v es -> Calls Tryz.prog 190 #[bkV d p v, .int .i64 sl] W (ValP (.bool true) W)) :
  Calls Tryz.prog 246 #[.slice a n c, .int .i64 sl] w (UnpP d p es w) := by
 obtain ⟨i0, hi0, hz0, hz1, hz2⟩ := info_parts Tryz.info118;obtain ⟨m, hm⟩ : ∃ m, es.length = m := ⟨_, rfl⟩
 have hm24 : m <= 24 := by omega
 obtain ⟨w1, hw1⟩ : ∃ w1, w.alloc (.cells #[.int .i64 0, .int .i64 0, .slice none 0 0] 129) = w1 := ⟨_, rfl⟩
 have b4 : w1.heap[w.heap.size]? = some (.cells #[.int .i64 0, .int .i64 0, .slice none 0 0] 129) := by rw [<- hw1]; exact han _ _
 have F1 : Fq w w1 := by rw [<- hw1]; exact (Fr.refl _ _).alloc _
 have hs1 : w1.heap.size = w.heap.size + 1 := by rw [<- hw1]; simp
 have HNW := hid (show Calls Tryz.prog 215 #[.slice a n c] w1 (NewRdP (packM d p es) w1) from newreader_ok (h.fr F1 (fun _ _ _ h => h)).slb (by omega));have HM := hid hm;have HG := hid hg;have HRt := hid hR;have H4 := hi2 b4 (aI F1 hs1);have HW := hid hw1;clear h hn hl hg hR hw1 b4 F1 hs1 hm;go_enter Tryz.func246, Tryz.ntmps246;go_upto_region 1 with fail
 rw [HW.out];go_wp2_with fail
 refine HNW.out.mono ?_;rintro e w2 ⟨r, rfl, hW2, hr2, F2⟩;have hW2' := hW2;have epk : packM d p es = Sg.leB d 1 ++ (Sg.leB es.length 1 ++ (Sg.leB p 8 ++ es.flatMap entB)) := by simp [packM]
 rw [epk] at hW2';have hby := packM_byte d p es;rw [epk] at hby
 have HN1 := hid (num_q hW2' (tail_byte (bs := []) hby) 1 (by simp) (by simp) (by omega));have hby2 := tail_byte (bs := []) hby
 have hrl := loh hW2.ex.choose_spec.choose_spec.1;have H2 := hi2 F2 (aI hr2 hby2);clear hW2 hW2' F2 hby epk hby2 HNW;go_wp2_with fail
 refine HN1.out.mono ?_;rintro e w3 ⟨rfl, hR3, F3⟩;have hcd : IntKind.i64.wrap (d : Int) = (d : Int) := by rw [IntKind.wrap_i64]; omega
 have hs3 := F3.size;have F13 : Fq w1 w3 := H2.out.1.trans F3 (fun b hb e => by have := H2.out.2.1; omega);have H3 := hi2 hR3 F13;have hr3 : r < w3.heap.size := by omega
 clear hR3 F3 F13 HN1;go_upto_region 3 with fail
 obtain ⟨w4, hw4⟩ : ∃ w4, w3.alloc (.cells #[.int .i64 d, .int .i64 0, .slice none 0 0] 129) = w4 := ⟨_, rfl⟩
 rw [hw4];have b7 : w4.heap[w3.heap.size]? = some (.cells #[.int .i64 d, .int .i64 0, .slice none 0 0] 129) := by rw [<- hw4]; exact han _ _
 have F4 : Fq w3 w4 := by rw [<- hw4]; exact (Fr.refl _ _).alloc _
 have HN2 := hid (num_q (H3.out.1.fr F4 (fun h => h) (fun _ _ _ h => h)) (tail_byte (bs := []) H2.out.2.2) 1 (by simp) (by simp) (by rw [HM.out]; omega));have H5 := hi2 b7 (H3.out.2.trans F4 (fun _ _ h => h));clear hw4 b7 F4;go_wp2_with fail
 refine HN2.out.mono ?_;rintro e w5 ⟨rfl, hR5, F5⟩;have hcm : IntKind.i64.wrap (m : Int) = (m : Int) := by rw [IntKind.wrap_i64]; omega
 have HN3 := hid (num_q hR5 (tail_byte (bs := []) (tail_byte (bs := []) H2.out.2.2)) 8 (by simp) (by simp) (by omega));have b75 := F5.heap H5.out.1 (fun e => by omega);have H6 := hi2 b75 (H5.out.2.trans F5 (fun b hb e => by have := H2.out.2.1; omega));rw [HM.out];clear hR5 F5 b75 HN2;go_wp2_with fail
 refine HN3.out.mono ?_;rintro e w6 ⟨rfl, hR6, F6⟩;have hcp : IntKind.i64.wrap (p : Int) = (p : Int) := by rw [IntKind.wrap_i64]; omega
 have b76 := F6.heap H6.out.1 (fun e => by omega);obtain ⟨x0, x1, x2, xz, xl⟩ := cells3 b76;have H7 := hi2 b76 (aI hR6 (H6.out.2.trans F6 (fun b hb e => by have := H2.out.2.1; omega)));clear hR6 F6 b76 HN3;go_upto_region 5 with fail
 obtain ⟨w7, hw7⟩ : ∃ w7, w6.setCell ⟨w3.heap.size, 1, none⟩ (.int .i64 p) = w7 := ⟨_, rfl⟩
 rw [hw7];have F7 : Fr (fun b => b = w3.heap.size) w6 w7 := by rw [<- hw7]; exact (Fr.refl (fun b => b = w3.heap.size) _).setCell (a := ⟨w3.heap.size, _, none⟩) (fun _ => rfl) _
 have b77 : w7.heap[w3.heap.size]? = some (.cells #[.int .i64 d, .int .i64 p, .slice none 0 0] 129) := by rw [<- hw7, hsc _ _ _ _ H7.out.1]; rfl
 have hb7 : w1.heap.size <= w3.heap.size := H3.out.2.size;obtain ⟨q7, hq7⟩ : ∃ q7, w3.heap.size = q7 := ⟨_, rfl⟩
 have hI : UnpI w1 w.heap.size q7 r d p es 0 w7 := by
  rw [<- hq7];refine ⟨?_, ⟨_, b77, World.ownsRow_nil _ _ _ _⟩, H7.out.2.2.trans F7 (fun b hb e => by omega)⟩;exact H7.out.2.1.fr F7 (fun e => by omega) (fun b c hb e => by rw [e, H7.out.1] at hb; cases hb)
 have HI := hid hI;have hrw : w1.heap.size <= r := H2.out.2.1;have hrq : r < q7 := by omega
 have hq71 : w1.heap.size <= q7 := by omega
 rw [hq7];clear hI b77 F7 hw7 x0 x1 x2 xz xl hb7 hq7 hr3 hs3 hrl;go_wp2_with fail
 go_loopw [24] (fun iv wr => ∃ k : Nat, k <= m /\ iv = .int .i64 k /\ UnpI w1 w.heap.size q7 r d p es k wr) (fun iv _ => m - (intOf iv).toNat)
 case atStart => exact ⟨0, Nat.zero_le _, rfl, HI.out⟩
 case round =>
  obtain ⟨k, hk, rfl, hI⟩ := hrel;obtain ⟨hRd, ⟨v, hb7, hown⟩, hF⟩ := hI;obtain ⟨va, vc, rfl, -, -, -, -⟩ := oSl hown;have htl : (es.take k).length = k := by rw [lT, HM.out]; omega
  replace hown : wr.ownsRow w1.heap.size 118 4 (.slice va (es.take k).length vc) (es.take k).length ((es.take k).flatMap btC) := hown
  rw [htl] at hown hb7;by_cases hlt : k < m
  ·have hdl : decide (k < m) = true := by simp [hlt]
   obtain ⟨x, hx⟩ : ∃ x, es[k]? = some x := ⟨_, gE (by rw [HM.out]; exact hlt)⟩
   have hgx := HG.out x (gM hx);obtain ⟨g0, g1, g2, g3⟩ := hgx;have hby : ∀ z ∈ (es.drop k).flatMap entB, 0 <= z /\ z < 256 := ents_byte _
   rw [ents_drop hx] at hRd hby
   obtain ⟨xh, xr, xa, xs⟩ := x;simp only at g0 g1 g2 g3 hRd hby
   obtain ⟨xr, rfl⟩ := iZ g1.1;obtain ⟨xa, rfl⟩ := iZ g2.1;obtain ⟨xs, rfl⟩ := iZ g3.1;simp only [Int.toNat_natCast] at hRd hby
   have hrg : xr <= 1099511627776 /\ xa <= 65535 /\ xs <= 65535 := by omega
   have hby1 := tail_byte (bs := []) hby
   have hby2 := tail_byte (bs := []) hby1;have hby3 := tail_byte (bs := []) hby2;have hby4 := tail_byte (bs := []) hby3;have HN1 := hid (num_q hRd hby1 8 (by simp) (by simp) (by omega));have HB := hi2 hby2 (aI hby3 hby4);have HRC := hid (show ∃ c, wr.heap[r]? = some (.cells c 377) from ⟨_, hRd.ex.choose_spec.choose_spec.1⟩);have HX := hid hx;have hbl := loh hb7;have hrl := loh hRd.ex.choose_spec.choose_spec.1;have HL := hi2 hb7 (aI hown hF);have hu1 : IntKind.i64.wrap (xr : Int) = (xr : Int) := by rw [IntKind.wrap_i64]; omega
   have hu2 : IntKind.i64.wrap (xa : Int) = (xa : Int) := by rw [IntKind.wrap_i64]; omega
   have hu3 : IntKind.i64.wrap (xs : Int) = (xs : Int) := by rw [IntKind.wrap_i64]; omega
   clear hx hRd hby hby1 hby2 hby3 hby4 hb7 hown hF g1 g2 g3;go_wp2_with fail
   refine HN1.out.mono ?_;rintro e W2 ⟨rfl, hR2, F2⟩;go_upto_region 8 with fail
   obtain ⟨W3, hW3⟩ : ∃ W3, W2.alloc (.cells #[.int .u64 xh, .int .i64 0, .int .i64 0, .int .i64 0] 118) = W3 := ⟨_, rfl⟩
   rw [hW3];obtain ⟨b9, hb9⟩ : ∃ b9, W2.heap.size = b9 := ⟨_, rfl⟩
   have x9 : W3.heap[b9]? = some (.cells #[.int .u64 xh, .int .i64 0, .int .i64 0, .int .i64 0] 118) := by rw [<- hW3, <- hb9]; exact han _ _
   have F3 : Fr (fun b => b = r) wr W3 := by rw [<- hW3]; exact F2.alloc _
   have hr9 : r ≠ b9 := by have := F2.size; omega
   have hq9 : q7 ≠ b9 := by have := F2.size; omega
   have hs9 : wr.heap.size <= b9 := by rw [<- hb9]; exact F2.size
   have HN2 := hid (num_q (hR2.fr (show Fq W2 W3 by rw [<- hW3]; exact (Fr.refl _ _).alloc _) (fun h => h) (fun _ _ _ h => h)) HB.out.1 8 (by simp) (by simp) (by omega));have H3 := hi2 x9 F3;rw [hb9];clear hR2 F2 hW3 x9 F3 HN1 hb9;go_wp2_with fail
   refine HN2.out.mono ?_;rintro e W4 ⟨rfl, hR4, F4⟩;have x9 := F4.heap H3.out.1 (fun e => hr9 e.symm);obtain ⟨t0, t1, t2, t3, tz, tl⟩ := cells4b x9;go_upto_region 9 with fail
   obtain ⟨W5, hW5⟩ : ∃ W5, W4.setCell ⟨b9, 1, none⟩ (.int .i64 xr) = W5 := ⟨_, rfl⟩
   rw [hW5];have F5 : Fr (fun b => b = b9) W4 W5 := by rw [<- hW5]; exact (Fr.refl (fun b => b = b9) _).setCell (a := ⟨b9, _, none⟩) (fun _ => rfl) _
   have x95 : W5.heap[b9]? = some (.cells #[.int .u64 xh, .int .i64 xr, .int .i64 0, .int .i64 0] 118) := by rw [<- hW5, hsc _ _ _ _ x9]; rfl
   have HN3 := hid (num_q (hR4.fr F5 (fun e => hr9 e) (fun b c hb e => by rw [e, x9] at hb; cases hb)) HB.out.2.1 2 (by simp) (by simp) (by omega));have H5 := hi2 x95 ((H3.out.2.trans F4 (fun _ _ h => h)).trans F5 (S' := fun b => b = b9) (fun b hb e => by omega));clear hR4 F4 F5 hW5 x9 x95 t0 t1 t2 t3 tz tl HN2;go_wp2_with fail
   refine HN3.out.mono ?_;rintro e W6 ⟨rfl, hR6, F6⟩;have x9 := F6.heap H5.out.1 (fun e => hr9 e.symm);obtain ⟨t0, t1, t2, t3, tz, tl⟩ := cells4b x9;go_upto_region 10 with fail
   obtain ⟨W7, hW7⟩ : ∃ W7, W6.setCell ⟨b9, 2, none⟩ (.int .i64 xa) = W7 := ⟨_, rfl⟩
   rw [hW7];have F7 : Fr (fun b => b = b9) W6 W7 := by rw [<- hW7]; exact (Fr.refl (fun b => b = b9) _).setCell (a := ⟨b9, _, none⟩) (fun _ => rfl) _
   have x97 : W7.heap[b9]? = some (.cells #[.int .u64 xh, .int .i64 xr, .int .i64 xa, .int .i64 0] 118) := by rw [<- hW7, hsc _ _ _ _ x9]; rfl
   have HN4 := hid (num_q (hR6.fr F7 (fun e => hr9 e) (fun b c hb e => by rw [e, x9] at hb; cases hb)) HB.out.2.2 2 (by simp) (by simp) (by omega));have H7 := hi2 x97 ((H5.out.2.trans F6 (fun _ _ h => h)).trans F7 (S' := fun b => b = b9) (fun b hb e => by omega));clear hR6 F6 F7 hW7 x9 x97 t0 t1 t2 t3 tz tl HN3;go_wp2_with fail
   refine HN4.out.mono ?_;rintro e W8 ⟨rfl, hR8, F8⟩;have x9 := F8.heap H7.out.1 (fun e => hr9 e.symm);obtain ⟨t0, t1, t2, t3, tz, tl⟩ := cells4b x9;go_upto_region 11 with fail
   obtain ⟨W9, hW9⟩ : ∃ W9, W8.setCell ⟨b9, 3, none⟩ (.int .i64 xs) = W9 := ⟨_, rfl⟩
   rw [hW9];have F9 : Fr (fun b => b = b9) W8 W9 := by rw [<- hW9]; exact (Fr.refl (fun b => b = b9) _).setCell (a := ⟨b9, _, none⟩) (fun _ => rfl) _
   have x99 : W9.heap[b9]? = some (.cells #[.int .u64 xh, .int .i64 xr, .int .i64 xa, .int .i64 xs] 118) := by rw [<- hW9, hsc _ _ _ _ x9]; rfl
   have FA : Fr (fun b => b = r) wr W9 := (H7.out.2.trans F8 (fun _ _ h => h)).trans F9 (S' := fun b => b = b9) (fun b hb e => by omega);have hR9 : RdAt W9 r ((es.drop (k + 1)).flatMap entB) false := hR8.fr F9 (fun e => hr9 e) (fun b c hb e => by rw [e, x9] at hb; cases hb);have hb79 := FA.heap HL.out.1 (fun e => by omega);have hown9 : W9.ownsRow w1.heap.size 118 4 (.slice va k vc) k ((es.take k).flatMap btC) := oRf HL.out.2.1 FA (fun g cs hg e => by
    obtain ⟨cr, hcr⟩ := HRC.out;rw [e, hcr] at hg; cases hg)
   have F19 : Fq w1 W9 := HL.out.2.2.trans FA (fun b hb e => by omega);obtain ⟨y0, y1, y2, yz, yl⟩ := cells3 hb79;obtain ⟨t0', t1', t2', t3', tz', tl'⟩ := cells4b x99;have H9 := hi2 hown9 (aI hR9 (aI F19 hb79));have hlen : 0 + k + 1 <= 25 := by omega
   have hsz9 : w1.heap.size <= W9.heap.size := F19.size;clear hR8 F8 F9 hW9 x9 x99 FA hR9 hb79 hown9 F19 t0 t1 t2 t3 tz tl HN4;go_wp2_with (at_builtin; refine wpList_append_own_at _ rfl (.tmp 45) (.tmp 47) 127 rfl w1.heap.size 118 i0 _ 4 32 Tryz.underlying127 hi0 hz0 hz1 hz2 rfl (by decide) _ _ _ rfl (H9.out.1.alloc _) ⟨W9.heap.size, 0, none⟩ 1 1 [.int .u64 xh, .int .i64 xr, .int .i64 xa, .int .i64 xs] rfl rfl (World.news_of_block (cs := #[.int .u64 xh, .int .i64 xr, .int .i64 xa, .int .i64 xs]) (t := 118) (fr := (0, 0)) (han _ _)) (by simp [Value.oneCell']) (by simp [maxLen]; omega) (by omega) (by simp; omega) ?_)
   intro v2 W2 hown2 hgrow2 hnil2 hat2;have hF2 : Fr (fun b => some b = (Value.slice va k vc).ownBlock) W9 W2 := ((Fr.refl _ _).alloc _).trans (S' := fun b => some b = (Value.slice va k vc).ownBlock) ⟨hgrow2.os, hgrow2.tape, hgrow2.output, hgrow2.size, fun b hb hn => hgrow2.block b hb hn⟩ (fun b hb h => h);have hR2 : RdAt W2 r ((es.drop (k + 1)).flatMap entB) false := H9.out.2.1.fr hF2 (fun e => by
    obtain ⟨_, c, hc⟩ := oBT H9.out.1 e;obtain ⟨a, c', h1, _⟩ := H9.out.2.1.ex;rw [hc] at h1; cases h1) (fun b c hb e => by
    obtain ⟨_, c', hc⟩ := oBT H9.out.1 e;rw [hc] at hb; cases hb)
   have hb72 := hF2.heap H9.out.2.2.2 (fun e => by
    obtain ⟨_, c', hc⟩ := oBT H9.out.1 e;rw [H9.out.2.2.2] at hc; cases hc)
   obtain ⟨va2, vc2, rfl, -, -, -, -⟩ := oSl hown2;have F12 : Fq w1 W2 := H9.out.2.2.1.trans hF2 (fun b hb e => by have := (oBT H9.out.1 e).1; omega);have FS : Fr (fun b => b = q7) W2 (W2.setCell ⟨q7, 2, none⟩ (.slice va2 (k + 1) vc2)) := (Fr.refl (fun b => b = q7) _).setCell (a := ⟨q7, _, none⟩) (fun _ => rfl) _;have HRel := hid (show UnpI w1 w.heap.size q7 r d p es (k + 1) (W2.setCell ⟨q7, 2, none⟩ (.slice va2 (k + 1) vc2)) from ⟨hR2.fr FS (fun e => by omega) (fun b c hb e => by rw [e, hb72] at hb; cases hb), ⟨.slice va2 (k + 1) vc2, by rw [hsc _ _ _ _ hb72]; rfl, by
    have e1 : es.take (k + 1) = es.take k ++ [⟨xh, xr, xa, xs⟩] := (by rw [List.take_add_one, HX.out]; rfl);have e2 : (es.take (k + 1)).flatMap btC = (es.take k).flatMap btC ++ [.int .u64 xh, .int .i64 xr, .int .i64 xa, .int .i64 xs] := (by rw [e1, List.flatMap_append]; simp [btC]);have e3 : (es.take (k + 1)).length = k + 1 := (by rw [lT, HM.out]; omega);show (W2.setCell _ _).ownsRow _ 118 4 _ (es.take (k + 1)).length ((es.take (k + 1)).flatMap btC);rw [e2, e3];exact oRf hown2 FS (fun g cs hg e => by rw [e, hb72] at hg; cases hg)⟩, F12.trans FS (fun b hb e => by omega)⟩)
   obtain ⟨y0', y1', y2', yz', yl'⟩ := cells3 hb72;clear hown2 hgrow2 hnil2 hat2 hF2 hR2 hb72 F12 FS y0 y1 y2 yz yl t0' t1' t2' t3' tz' tl';go_wp2_with fail
   go_roundw;case rel => exact ⟨k + 1, hlt, by go_num, HRel.out⟩
   case measure => simp [intOf]; omega
  ·obtain rfl : k = m := by omega
   have hdl : decide (k < k) = false := by simp
   have e0 : es.drop k = [] := List.drop_eq_nil_of_le (by rw [HM.out]; exact nR _);have e1 : es.take k = es := tL (by rw [HM.out]; exact nR _);rw [e0] at hRd;rw [e1] at hown;have HBad := hid (rbad_ok hRd);have HRest := hid (show Calls Tryz.prog 275 #[.pointer (some ⟨r, 0, none⟩)] wr (RestP 0 wr) from rrest_ok hRd);have HL := hi2 hb7 (aI (show OwnE wr w1.heap.size (.slice va k vc) es from by
    show wr.ownsRow w1.heap.size 118 4 (.slice va k vc) es.length (es.flatMap btC);rw [HM.out]; exact hown) hF)
   have HB7 := hid (fun W (F : Fq wr W) => cells3 (F.heap hb7 (fun h => h)));clear hRd hb7 hown hF e0 e1 htl;go_wp2_with fail
   refine HBad.out.mono ?_;rintro e _ ⟨rfl, rfl⟩;go_wp2_with fail
   refine HRest.out.mono ?_;rintro e W2 ⟨ra, rc, rfl, F2⟩;obtain ⟨y0, y1, y2, yz, yl⟩ := HB7.out _ F2;have HRi := hid (HRt.out W2 (.slice va k vc) (own_base (oN HL.out.2.1 F2)));have HF2 := hid F2;clear F2;go_wp2_with fail
   refine HRi.out.mono ?_;rintro e W3 ⟨rfl, F3⟩;have FF := HF2.out.trans F3 (fun _ _ h => h);have HF3 := hid FF;clear y0 y1 y2 yz yl F3;obtain ⟨y0, y1, y2, yz, yl⟩ := HB7.out _ FF;obtain ⟨z0, z1, z2, zz, zl⟩ := cells3 (FF.heap (HL.out.2.2.heap H4.out.1 (fun h => h)) (fun h => h));clear FF;go_wp2_with fail
   have FS : ∀ (W : World) (o : Nat) (u : Value), Fr (fun b => b = w.heap.size) W (W.setCell ⟨w.heap.size, o, none⟩ u) := fun W o u => (Fr.refl (fun b => b = w.heap.size) _).setCell (a := ⟨w.heap.size, o, none⟩) (fun _ => rfl) u
   refine bodyPost_ret (v := .tuple #[bkV d p (.slice va k vc), .int .i64 0]) (by simp [results, go_sem, *]) rfl ⟨va, vc, by rw [HM.out], ?_, ?_⟩
   ·rw [HM.out];have ho := oN HL.out.2.1 HF3.out;have hs := H4.out.2.2;have ho' : W3.ownsRow w1.heap.size 118 4 (.slice va k vc) es.length (es.flatMap btC) := ho;exact own_fr1 (own_mono ho' (by omega : w.heap.size <= w1.heap.size)) (((FS _ _ _).trans (FS _ _ _) (fun _ _ h => h)).trans (FS _ _ _) (fun _ _ h => h)) (fun g hg e => by
     have := (own_blkT ho hg).1;omega)
   ·exact ((((H4.out.2.1.trans HL.out.2.2 (fun _ _ h => h)).trans HF3.out (fun _ _ h => h)).setNew (by omega) _).setNew (by omega) _).setNew (by omega) _
end
section
open Go.Proofs Go.RowKit Go.Sg Go.Shelf CP SF
attribute [local go_sem] Oper.semAt_some
abbrev encP2 (x : Bt × Bt) : Array Value := #[btV x.1, btV x.2]
def KpP (n0 : Nat) (A C : World) : Prop := A.heap.size <= C.heap.size /\ ∀ b, b < n0 -> C.heap[b]? = A.heap[b]?
theorem KpP.refl (n0 : Nat) (A : World) : KpP n0 A A := ⟨nR _, fun _ _ => rfl⟩
variable {n0 : Nat} {A C : World} {v : Value}
theorem KpP.trans {D : World} (h : KpP n0 A C) (k : KpP n0 C D) : KpP n0 A D := ⟨nT h.1 k.1, fun b hb => (k.2 b hb).trans (h.2 b hb)⟩
theorem KpP.fr (F : Fq A C) (h : n0 <= A.heap.size) : KpP n0 A C := ⟨F.size, fun b hb => F.block b (by omega) (fun h => h)⟩
theorem KpP.own {b e size n : Nat} {xs : List Value} (h : A.ownsRow b e size v n xs) (hn : ∀ g, v.ownBlock = some g -> g < n0) (K : KpP n0 A C) : C.ownsRow b e size v n xs := by
 obtain ⟨hl, h0 | ⟨g, cap, cur, hv, hb, hg, r⟩⟩ := h
 ·exact ⟨hl, .inl h0⟩
 ·exact ⟨hl, .inr ⟨g, cap, cur, hv, hb, (K.2 g (hn g (by rw [hv]; rfl))).trans hg, r⟩⟩
theorem pairs_any (d p : Int) (va : Option Addr) (vn vc : Nat) (w : World) :
  Calls Tryz.prog 242 #[bkV d p (.slice va vn vc)] w fun e w' => e = .returned (.func (.func 273) #[] #[.pointer (some ⟨w.heap.size, 0, none⟩)]) /\ w.alloc (.cells #[.int .i64 d, .int .i64 p, .slice va vn vc] 129) = w' := by
 go_enter Tryz.func242, Tryz.ntmps242;go_wp2_with fail
 go_ret;exact ⟨rfl, rfl⟩
def YR (J Jx : List (Bt × Bt) -> World -> Prop) (Kp : World -> World -> Prop) (pre : List (Bt × Bt)) (W1 : World) (b : Bool) (W' : World) : Prop := (b = true /\ J pre W' /\ Kp W1 W') \/ (b = false /\ Jx pre W')
theorem pairsf_tell {w : World} {bs : Nat} {d p : Int} {es : List Bt} (hs : w.heap[bs]? = some (.cells #[.int .i64 d, .int .i64 p, v] 129)) (hE : OwnE w 0 v es) (hl : es.length <= 255) (hso : SortedB es) :
  SeqTell Fence.wide 9 Tryz.prog 273 #[.pointer (some ⟨bs, 0, none⟩)] encP2 (fun x _ => x.1.hash < x.2.hash) (KpP w.heap.size) (fun _ => True) (fun _ => True) es.length w := fun lp J Jx W hW hJ hJx hY h0 => by
 have FW : Fq w W := Fr.of_below hW;obtain ⟨va, vc, rfl, -, -, -, -⟩ := oSl hE;obtain ⟨n, hn⟩ : ∃ n, es.length = n := ⟨_, rfl⟩
 have hbs := loh hs;have hs' := FW.heap hs (fun h => h);have hE' := oN hE FW;have hEg : ∀ g, (Value.slice va es.length vc).ownBlock = some g -> g < w.heap.size := fun g hg => (own_blkT hE hg).2
 have HE := hid (fun C (K : KpP w.heap.size W C) => KpP.own hE' hEg K);have HBs := hid (fun C (K : KpP w.heap.size W C) => cells3 ((K.2 bs hbs).trans hs'));obtain ⟨c0, c1, c2, cz, cl⟩ := HBs.out W (KpP.refl _ _);have HSo := hid hso;have H0 := hid h0;have HN := hid hn;have hwW := FW.size;have hn9 : n <= 255 := by omega
 rw [hn] at c2;clear hs hE hs' hE' hEg hso hW FW h0 hl;refine callsIn_of_wp Tryz.func273 rfl trivial ?_ rfl;simp only [Tryz.ntmps273, zA, lC, List.length_nil, Nat.reduceAdd, Nat.reduceSub, Array.replicate_succ, Array.replicate_zero, List.push_toArray, List.append_toArray, List.nil_append, List.cons_append];gi_wp2
 gi_loopw [8] (fun iv wr => ∃ (k : Nat) (pre : List (Bt × Bt)), k <= n /\ iv = .int .i64 k /\ J pre wr /\ pre.length <= k - 1 /\ KpP w.heap.size W wr) (fun iv _ => n - (intOf iv).toNat)
 case atStart => exact ⟨0, [], Nat.zero_le _, rfl, H0.out, nR _, KpP.refl _ _⟩
 case round =>
  obtain ⟨k, pre, hk, rfl, hJp, hpl, hkp⟩ := hrel;by_cases hlt : k < n
  ·have hdl : decide (k < n) = true := by simp [hlt]
   have hdl2 : decide ((k : Int) < (n : Int)) = true := by simp [hlt]
   have hki : (k : Int) < (n : Int) := by omega
   obtain ⟨x, hx⟩ : ∃ x, es[k]? = some x := ⟨_, gE (by rw [HN.out]; exact hlt)⟩
   obtain ⟨g, rfl, hg, u0, u1, u2, u3⟩ := ownE_at (HE.out wr hkp) hx;obtain ⟨W1, hW1⟩ : ∃ W1, wr.alloc (.cells #[.int .u64 x.hash, .int .i64 x.rg, .int .i64 x.at_, .int .i64 x.sz] 118) = W1 := ⟨_, rfl⟩
   have F1 : Fq wr W1 := by rw [<- hW1]; exact (Fr.refl _ _).alloc _
   have b4 : W1.heap[wr.heap.size]? = some (.cells #[.int .u64 x.hash, .int .i64 x.rg, .int .i64 x.at_, .int .i64 x.sz] 118) := by rw [<- hW1]; exact han _ _
   have hJ1 : J pre W1 := owns_fr hJ hJp F1;have hJ1d : J pre W1.drew := owns_fr hJ hJ1 (Fr.refl _ _).drew;have hwr : w.heap.size <= wr.heap.size := nT hwW hkp.1;have hkp1 : KpP w.heap.size W W1 := hkp.trans (KpP.fr F1 hwr);obtain ⟨t0, t1, t2, t3, tz, tl⟩ := cells4b b4;have H1 := hi2 hkp1 (aI hJ1d hpl);have HJ1 := hid hJ1;have HX := hid hx;have HW1 := hid hW1;obtain ⟨c0, c1, c2, cz, cl⟩ := HBs.out W1 hkp1;rw [HN.out] at c2;clear hJp hkp hkp1 hJ1 hJ1d hW1 F1 b4 hx;by_cases hk0 : k = 0
   ·have hd0 : decide (0 < k) = false := (by simp [hk0]);have hd0' : decide ((0 : Int) < (k : Int)) = false := (by simp [hk0]);have HK0 := hid hk0;clear hk0;gi_wp2
    rw [HW1.out];gi_big_quiet_th (fail)
    gi_wp2
    go_roundw;case rel => exact ⟨k + 1, pre, hlt, by go_num, owns_fr hJ HJ1.out ((Fr.refl _ _).drewN _), by have := H1.out.2.2; omega, H1.out.1⟩
    case measure => simp [intOf]; omega
   ·obtain ⟨j, hj⟩ : ∃ j, k = j + 1 := ⟨k - 1, by omega⟩
    obtain ⟨y, hy0⟩ : ∃ y, es[j]? = some y := ⟨_, gE (by rw [HN.out]; omega)⟩
    have hxy : y.hash < x.hash := sorted_lt HSo.out hy0 HX.out (by omega);obtain ⟨g', e', hg', v0, v1, v2, v3⟩ := ownE_at (HE.out W1 H1.out.1) hy0;cases e';have hd0 : decide (0 < k) = true := (by simp; omega);have hd0' : decide ((0 : Int) < (k : Int)) = true := (by simp; omega);have hs1 : wrap64 ((k : Int) - 1) = (j : Int) := (by simp only [wrap64]; omega);have hs2 : IntKind.i64.wrap ((k : Int) - 1) = (j : Int) := (by rw [IntKind.wrap_i64]; omega);have hjn : j < n := (by omega);have hji : (j : Int) < (n : Int) := (by omega);have hpl2 : pre.length < es.length := (by have := H1.out.2.2; rw [HN.out]; omega);have HJ := hi2 hj (aI hxy hpl2);obtain ⟨fn, tmps, assign, body, hy, hR⟩ := hY pre (y, x) W1.drew H1.out.2.1 hxy hpl2;dsimp only [encP2] at hy;have hR' := hR.mono (fun e W' h => (show ∃ b, e = .returned (.bool b) /\ YR J Jx (KpP w.heap.size) (pre ++ [(y, x)]) W1.drew b W' from by
     rcases h with ⟨rfl, h1, h2⟩ | ⟨rfl, h1⟩
     ·exact ⟨true, rfl, .inl ⟨rfl, h1, h2⟩⟩
     ·exact ⟨false, rfl, .inr ⟨rfl, h1⟩⟩))
    have HR := hid hR';clear hR hR' hj hxy hpl2 hy0 hk0;gi_wp2
    rw [HW1.out];clear u0 u1 u2 u3;have hmo : Tryz.prog.follows .mixedOrders = true := (by kernel_rfl);gi_region_with_o (refine HR.out.mono ?_; rintro e W3 ⟨bb, rfl, hYR⟩; have HY := hid hYR; clear hYR)
    all_goals
     cases bb with
     | true =>
      have hY2 : J (pre ++ [(y, x)]) W3 /\ KpP w.heap.size W1.drew W3 := by
       rcases HY.out with ⟨-, h1, h2⟩ | ⟨h1, -⟩
       ·exact ⟨h1, h2⟩
       ·cases h1
      have HY2 := hid hY2;clear hY2;gi_wp2
      go_roundw;case rel =>
       refine ⟨k + 1, pre ++ [(y, x)], hlt, by go_num, HY2.out.1, ?_, (H1.out.1.trans (KpP.fr (Fr.refl _ _).drew (nT hwW H1.out.1.1))).trans HY2.out.2⟩;have := H1.out.2.2;have := HJ.out.1;rw [lA, List.length_singleton]; omega
      case measure => simp [intOf]; omega
     | false =>
      have hY2 : Jx (pre ++ [(y, x)]) W3 := by
       rcases HY.out with ⟨h1, -⟩ | ⟨-, h1⟩
       ·cases h1
       ·exact h1
      have HY2 := hid hY2;clear hY2;gi_wp2
      refine bodyPost_ret (results_none rfl _ _ _) rfl ?_;exact ⟨⟨_, rfl⟩, .inr ⟨_, trivial, HY2.out⟩⟩
  ·obtain rfl : k = n := by omega
   have hdl : decide (k < k) = false := by simp
   have hdl2 : decide ((k : Int) < (k : Int)) = false := by simp
   gi_wp2
   go_end0
   exact ⟨⟨_, rfl⟩, .inl ⟨pre, trivial, hJp⟩⟩
end
section
open Go.Proofs Go.RowKit Go.Sg Go.Shelf CP SF
attribute [local go_sem] Oper.semAt_some
theorem right_ret {n : Nat} {R : Ending -> World -> Prop} {tmps : Array Value} {DD b : Nat} {W : World} {bb : Bool} (q1 : W.heap[b]? = some (.cells #[.bool bb] 4))
  (hK : W.heap[DD]? = some (.deferred (some []))) (hD : b < DD) (hR : R (.returned (.bool bb)) (W.putObj DD (.deferred none))) (t4 : tmps.getD 4 undef = .pointer (some ⟨b, 0, none⟩)) :
  bodyPostM Fence.wide n Tryz.prog Tryz.f190 R .ret { tmps := tmps, defers := [{ target := .collected DD, args := #[] }] } W := by
 have e1 : (W.putObj DD (.deferred none)).cell? ⟨b, 0, none⟩ = some (.bool bb) := by
  have := coh ((hpj W DD (.deferred none) b (by omega)).trans q1) 0;simpa using this
 refine ⟨by simp, .inl ⟨_, _, rfl, run_takeDeferred hK, _, ?_, hR⟩⟩;rw [Array.getD_eq_getD_getElem?] at t4;simp [results, Tryz.results190, go_sem, t4, e1]
theorem bright_ok {w : World} {v : Value} {es : List Bt} (hE : OwnE w 0 v es) (hso : SortedB es) (d p sl : Nat) (hd : d <= 8) (hp : p < 2 ^ d) (h1 : 1 <= sl) (h2 : sl <= 255) (hl : es.length <= sl) (hx : ∀ x ∈ es, x.hash < 18446744073709551616) :
  Calls Tryz.prog 190 #[bkV d p v, .int .i64 sl] w (ValP (.bool (!es.any (wrongE d p))) w) := by
 refine (callsIn_wide (n := 10)).1 ?_;obtain ⟨va, vc, rfl, -, -, -, -⟩ := oSl hE;obtain ⟨n, hn⟩ : ∃ n, es.length = n := ⟨_, rfl⟩
 obtain ⟨w1, hw1⟩ : ∃ w1, (w.alloc (.cells #[.int .i64 d, .int .i64 p, .slice va n vc] 129)).alloc (.cells #[.bool false] 4) = w1 := ⟨_, rfl⟩
 obtain ⟨b2, b4, F1⟩ := heap_two hw1;have s1 : w1.heap.size = w.heap.size + 2 := by rw [<- hw1]; simp
 obtain ⟨c0, c1, c2, cz, cl⟩ := cells3 b2;have HW1 := hid hw1;have hE1 := oN hE F1;have HE := hid hE1;have hd1 : decide (sl < 1) = false := by simp; omega
 have hd1' : decide ((sl : Int) < 1) = false := by simp; omega
 have hd2 : decide (255 < sl) = false := by simp; omega
 have hd2' : decide ((255 : Int) < (sl : Int)) = false := by simp; omega
 have hd3 : decide (sl < n) = false := by simp; omega
 have hd3' : decide ((sl : Int) < (n : Int)) = false := by simp; omega
 have hd4 : decide ((p : Int) < 0) = false := by simp
 have HWi := hid (show Calls Tryz.prog 241 #[.int .i64 d, .int .i64 8] w1 (BoolP true w1) by
  have := within_b_ok d 8 w1;rw [show (decide (0 <= (d : Int)) && decide ((d : Int) <= 8)) = true by simp; omega] at this;exact this)
 have hshr : (p : Int) / 2 ^ d = 0 := by
  have : p / 2 ^ d = 0 := Nat.div_eq_of_lt hp;have e : ((p : Int) / 2 ^ d) = ((p / 2 ^ d : Nat) : Int) := by simp
  rw [e, this]; rfl
 have HP := hi2 hso (aI hx (aI hn (aI b2 (aI b4 (aI F1 s1)))));have hn9 : n <= 255 := by omega
 have hPr := hid (fun V => pairs_any d p va n vc V);rw [hn];clear hE hso hx hn hl hw1 b2 b4 F1 s1 hE1 hp;refine callsIn_of_wp_marks Tryz.func190 rfl trivial ?_ rfl;simp only [Tryz.ntmps190, zA, lC, List.length_nil, Nat.reduceAdd, Nat.reduceSub, Array.replicate_succ, Array.replicate_zero, List.push_toArray, List.append_toArray, List.nil_append, List.cons_append];gi_wp2_with (fail)
 rw [HW1.out];gi_wp2_with (fail)
 refine (callsIn_wide.2 HWi.out).mono ?_;rintro e _ ⟨rfl, rfl⟩;gi_wp2_with (fail)
 refine (callsIn_wide.2 (hPr.out _)).mono ?_;rintro e _ ⟨rfl, rfl⟩;gi_wp2_with (fail)
 obtain ⟨W0, hW0⟩ : ∃ W0, w1.alloc (.cells #[.int .i64 d, .int .i64 p, .slice va n vc] 129) = W0 := ⟨_, rfl⟩
 have F0 : Fq w1 W0 := by rw [<- hW0]; exact (Fr.refl _ _).alloc _
 have bI : W0.heap[w1.heap.size]? = some (.cells #[.int .i64 d, .int .i64 p, .slice va n vc] 129) := by rw [<- hW0]; exact han _ _
 have hs0 : W0.heap.size = w1.heap.size + 1 := by rw [<- hW0]; simp
 rw [hW0];have hw0 : w.heap.size + 2 <= W0.heap.size := by rw [hs0, HP.out.2.2.2.2.2.2]; omega
 have g2 := F0.heap HP.out.2.2.2.1 (fun h => h);have g4 := F0.heap HP.out.2.2.2.2.1 (fun h => h);have hE0 : OwnE W0 0 (.slice va n vc) es := by
  have := oN HE.out F0;rw [HP.out.2.2.1] at this;show W0.ownsRow 0 118 4 (.slice va n vc) es.length _;rw [HP.out.2.2.1]; exact this
 clear c0 c1 c2 cz cl;refine wpIn_range_tell (F := Fence.wide) rfl (by omega) (gf := 273) (lb := #[.pointer (some ⟨w1.heap.size, 0, none⟩)]) rfl trivial (enters_of Tryz.func273 (by kernel_rfl) rfl)
  (fun pre W => (W.heap[w.heap.size]? = some (.cells #[.int .i64 d, .int .i64 p, .slice va n vc] 129) /\ W.heap[w.heap.size + 1]? = some (.cells #[.bool false] 4)) /\ Fq W0 W)
  (pairsf_tell (w := W0) bI hE0 (by rw [HP.out.2.2.1]; exact hn9) HP.out.1)
  (fun h k => h.trans k) (fun W l o o' hl _ _ _ => ⟨by rw [size_putObj]; exact nR _, fun b hb => hpj _ _ _ _ (by omega)⟩) (Below.refl _ _) (fun _ => rfl)
  (fun _ _ _ => False)
  (own_and (own_and (own_block _ _ _ (fun _ => .inl rfl)) (own_block _ _ _ (fun _ => .inl rfl))) (own_fr (nR _))) (fun _ _ _ _ _ h _ _ => h.elim) ⟨⟨g2, g4⟩, Fr.refl _ _⟩
  (fun z a' W => ∃ Bx By : Nat, ((W.heap[Bx]? = some (.cells #[.int .u64 z.1.hash, .int .i64 z.1.rg, .int .i64 z.1.at_, .int .i64 z.1.sz] 118) /\ W.heap[By]? = some (.cells #[.int .u64 z.2.hash, .int .i64 z.2.rg, .int .i64 z.2.at_, .int .i64 z.2.sz] 118)) /\ z.1.hash < z.2.hash) /\ a' = { tmps := #[bkV (d : Int) (p : Int) (.slice va n vc), .int .i64 sl, .pointer (some ⟨w.heap.size, 0, none⟩), undef, .pointer (some ⟨w.heap.size + 1, 0, none⟩), .pointer (some ⟨Bx, 0, none⟩), .pointer (some ⟨By, 0, none⟩), .int .i64 sl, .bool false, .bool false, .int .i64 sl, .bool false, .bool false, .bool false, .pointer (some ⟨w.heap.size, 2, none⟩), .slice va n vc, .int .i64 n, .int .i64 sl, .bool false, .bool false, .bool false, .pointer (some ⟨w.heap.size, 0, none⟩), .int .i64 d, .bool true, .bool false, .bool false, .bool false, .pointer (some ⟨w.heap.size, 1, none⟩), .int .i64 p, .bool false, .bool false, .bool false, .pointer (some ⟨w.heap.size, 1, none⟩), .int .i64 p, .pointer (some ⟨w.heap.size, 0, none⟩), .int .i64 d, .int .i64 0, .bool false, .bool false, .agg #[.int .i64 d, .int .i64 p, .slice va n vc], .func (Fn.func 273) #[] #[.pointer (some ⟨w1.heap.size, 0, none⟩)], btV z.1, btV z.2, undef, undef, undef, undef, undef, undef, undef, undef, undef, undef], defers := [] })
  (fun z a' => own_ex fun Bx => own_ex fun By => own_and (own_and (own_and (own_block _ _ _ (fun _ => .inl rfl)) (own_block _ _ _ (fun _ => .inl rfl))) (own_pure _ _)) (own_pure _ _))
  ?assign ?body ?done ?stop
 case assign =>
  rintro lp pre ⟨z1, z2⟩ W K' hI hT hK;have FN : Fq W ((W.alloc (.cells #[.int .u64 z1.hash, .int .i64 z1.rg, .int .i64 z1.at_, .int .i64 z1.sz] 118)).alloc (.cells #[.int .u64 z2.hash, .int .i64 z2.rg, .int .i64 z2.at_, .int .i64 z2.sz] 118)) := ((Fr.refl _ _).alloc _).alloc _;have hsW : W0.heap.size <= W.heap.size := hI.2.size;have HI := hi2 hI hT;have HK := hid hK;have HFN := hid FN;clear hI hT hK bI hE0 g2 g4 FN;gi_wp2
  obtain ⟨⟨⟨h1, h2⟩, hF⟩, hT⟩ := HI.out;have FN := HFN.out;refine HK.out _ _ (((KeepsOthers.alloc _ _).trans (KeepsOthers.alloc _ _)).from _) ⟨FN.size, fun b hb => FN.block b (by omega) (fun h => h)⟩ ⟨⟨FN.heap h1 (fun h => h), FN.heap h2 (fun h => h)⟩, hF.trans FN (fun _ _ h => h)⟩ ⟨W.heap.size, W.heap.size + 1, ⟨⟨(heap_alloc_lt _ _ _ (by simp)).trans (han _ _), by have := han (W.alloc (.cells #[.int .u64 z1.hash, .int .i64 z1.rg, .int .i64 z1.at_, .int .i64 z1.sz] 118)) (.cells #[.int .u64 z2.hash, .int .i64 z2.rg, .int .i64 z2.at_, .int .i64 z2.sz] 118); simpa using this⟩, hT⟩, rfl⟩
 case body =>
  rintro lp pre ⟨z1, z2⟩ a' W hl ⟨rr, hrr⟩ hI ⟨Bx, By, ⟨⟨hb1, hb2⟩, hlt⟩, rfl⟩ hlen;simp only at hb1 hb2 hlt;obtain ⟨t0, t1, t2, t3, tz, tl⟩ := cells4b hb1;obtain ⟨u0, u1, u2, u3, uz, ul⟩ := cells4b hb2;have hge : decide (z2.hash <= z1.hash) = false := by simp; omega
  have hge' : decide ((z2.hash : Int) <= (z1.hash : Int)) = false := by simp; omega
  have HI := hid hI;clear hI hb1 hb2 hlt bI hE0 g2 g4 hrr;gi_wp2
  exact ⟨KeepsFrom.refl _ _, KpP.refl _ _, HI.out⟩
 case done =>
  rintro D xs W hD hS ⟨⟨h1, h2⟩, hF⟩ hK;obtain ⟨c0, c1, c2, cz, cl⟩ := cells3 h1;have HCo := hid (containsE_ok (oN hE0 hF) (by rw [HP.out.2.2.1]; exact hn9) ⟨w.heap.size, 0, none⟩ (wrongE d p) (fun x hx W' FW => wrong1_ok (FW.heap h1 (fun h => h)) (by omega) x (HP.out.2.1 x hx)));have HD := hi2 h1 (aI h2 (aI hF hK));clear h1 h2 hF hK hS bI hE0 g2 g4;gi_wp2_with (fail)
  refine (callsIn_wide.2 HCo.out).mono ?_;rintro e W2 ⟨rfl, F2⟩;obtain ⟨h1, h2, hF, hK⟩ := HD.out;have h2' := F2.heap h2 (fun h => h);have d0 := coh h2' 0;have dz := foh h2' 0;have hK2 := F2.heap hK (fun h => h);simp at d0;have dl := loh h2';have HD2 := hi2 h2' (aI F2 hK2);clear h1 h2 hF hK F2 h2' hK2 c0 c1 c2 cz cl;gi_wp2_with (fail)
  obtain ⟨h2', F2, hK2⟩ := HD2.out;have hFw : Fq w W2 := ((HP.out.2.2.2.2.2.1.trans F0 (fun _ _ h => h)).trans HD.out.2.2.1 (fun _ _ h => h)).trans F2 (fun _ _ h => h);refine right_ret (bb := !es.any (wrongE d p)) (b := w.heap.size + 1) (by rw [hsc _ _ _ _ h2']; rfl) ((heap_setCell_ne _ _ _ _ (by show w.heap.size + 1 ≠ D; omega)).trans hK2) (by omega) ⟨rfl, ?_⟩ rfl;exact ((hFw.setNew (by omega) _)).putObj (fun hh => by omega) _
 case stop => exact fun _ _ _ _ _ _ h => h.elim
end
end Go.Proofs.YtgdhaaokolfdoaaGreatDoor
