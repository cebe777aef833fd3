/- A pack of texts: DN. Conditions: those that each text names. -/
import Derived.Test.YtgdhaaokolfdoaaGreatDoorJBF
set_option linter.unusedVariables false
set_option linter.unusedSimpArgs false
set_option linter.unnecessarySimpa false
namespace Go.Proofs.YtgdhaaokolfdoaaGreatDoor
open Go.RowKit Go.Sg Go.Sg.Bits Go.Sg.Clk CP SF
theorem gen_small {w : World} {B : Blk} {y : Cs} {P : Prot} {a : Bool} {N : Nat} (h : StoreC w B y P a N) : y.gen < 9223372036854775808 := by
  obtain ⟨x, c, hS, rfl, hi⟩ := h.ex; exact gen_lt hS
def layC (all : List Rf) (per k : Nat) : Nat → Option (List Int) := fun j => if j < k then some (loadM (chunk all per j)) else none
structure LayI (w W : World) (B : Blk) (X : Nat → Prop) (y0 : Cs) (P : Prot) (a : Bool) (N : Nat) (rp : Int) (len0 per : Nat) (rest : List Nat) (M : Nat) (K : Prop) (c0 : Cont) (all : List Rf) (b1 b : Nat) (ta : Option Addr) (tc : Nat) (tk : List Rf) (y : Cs) (k : Nat) : Prop where
  st : StoreC W B y P a (N + k)
  tops : Tops y rp tk rest M K c0 (layC all per k)
  len : tk.length = max len0 k
  own : OwnR W b1 (.slice ta tk.length tc) tk
  blk : ∀ g, ta = some ⟨g, 0, none⟩ → g ≠ b ∧ (w.heap.size ≤ g ∨ X g)
  like : Like y0 y ∧ y.gen = y0.gen ∧ y.dead = y0.dead
  fr : FrX B X w W
theorem LayI.put {w W W6 : World} {B : Blk} {X : Nat → Prop} {y0 : Cs} {P : Prot} {a : Bool} {N : Nat} {rp : Int} {len0 per : Nat} {rest : List Nat} {M : Nat} {K : Prop} {c0 : Cont} {all : List Rf} {b1 b g : Nat} {tc : Nat} {tk : List Rf} {y : Cs} {k : Nat} (h : LayI w W B X y0 P a N rp len0 per rest M K c0 all b1 b (some ⟨g, 0, none⟩) tc tk y k) (hpg : y0.pages ≤ 2147483647) (hb1 : 0 < b1)
    {r : Rf} (hr : tk[k]? = some r) {m : Nat} (hm : PutIs y r.1.toNat m) (F : FrB B W W6) (hS : StoreC W6 B (y.put r.1.toNat m (loadM (chunk all per k))) P a (N + k + 1)) :
    LayI w ((W6.setCell ⟨g, k * 2, none⟩ (.int .i64 m)).setCell ⟨g, k * 2 + 1, none⟩ (.int .i64 y.gen)) B X y0 P a N rp len0 per rest M K c0 all b1 b (some ⟨g, 0, none⟩) tc (tk.set k ((m : Int), (y.gen : Int))) (y.put r.1.toNat m (loadM (chunk all per k))) (k + 1) := by
  have hk := (List.getElem?_eq_some_iff.1 hr).1
  have hown6 : OwnR W6 b1 (.slice (some ⟨g, 0, none⟩) tk.length tc) tk := ownsRow_fr h.own F (fun g' c' hg' hs => absurd (hs.2.1 c' 35 _ hg') (by decide))
  obtain ⟨hg1, cg, hgc⟩ := own_blockT hown6 (g := g) rfl
  have hgen : y.gen < 9223372036854775808 := gen_small h.st
  obtain ⟨l1, l2, l3⟩ := put_like y r.1.toNat m (loadM (chunk all per k))
  have hset := own_set hown6 hk (m : Int) (y.gen : Int)
  refine ⟨set2_st hS hgc (by omega) _ _, ?_, ?_, by unfold OwnR; rw [List.length_set] at hset; rw [List.length_set]; exact hset, h.blk, ⟨h.like.1.trans l1, l2.trans h.like.2.1, l3.trans h.like.2.2⟩, set2_frX (h.fr.trans (FrX.of F)) (h.blk g rfl).2 _ _⟩
  · have ht := put_tops h.tops h.st.apart hr hm (by rw [h.like.1.pages]; exact hpg) hgen (loadM (chunk all per k))
    have e : (fun j => if j = k then some (loadM (chunk all per k)) else layC all per k j) = layC all per (k + 1) := by
      funext j
      simp only [layC]
      by_cases e : j = k
      · subst e; rw [if_pos rfl, if_pos (by omega)]
      · rw [if_neg e]
        by_cases hj : j < k
        · rw [if_pos hj, if_pos (by omega)]
        · rw [if_neg hj, if_neg (by omega)]
    rw [e] at ht; exact ht
  · rw [List.length_set, h.len]
    have := h.len
    omega
theorem LayI.new {w W W7 : World} {B : Blk} {X : Nat → Prop} {y0 : Cs} {P : Prot} {a : Bool} {N : Nat} {rp : Int} {len0 per : Nat} {rest : List Nat} {M : Nat} {K : Prop} {c0 : Cont} {all : List Rf} {b1 b : Nat} {ta ta' : Option Addr} {tc tc' : Nat} {tk : List Rf} {y : Cs} {k : Nat} (h : LayI w W B X y0 P a N rp len0 per rest M K c0 all b1 b ta tc tk y k) (hpg : y0.pages ≤ 2147483647) (hk : len0 ≤ k)
    {m : Nat} (hm : TakeIs y.taken y.pages y.hand m) (F : FrX B X w W7) (hS : StoreC W7 B (y.new m (loadM (chunk all per k))) P a (N + k + 1)) (hown : W7.ownsRow b1 35 2 (.slice ta' (tk.length + 1) tc') (tk.length + 1) (tk.flatMap refC ++ [.int .i64 m, .int .i64 y.gen])) (hblk : ∀ g, ta' = some ⟨g, 0, none⟩ → g ≠ b ∧ (w.heap.size ≤ g ∨ X g)) :
    LayI w W7 B X y0 P a N rp len0 per rest M K c0 all b1 b ta' tc' (tk ++ [((m : Int), (y.gen : Int))]) (y.new m (loadM (chunk all per k))) (k + 1) := by
  have hgen : y.gen < 9223372036854775808 := gen_small h.st
  have hlen : tk.length = k := by rw [h.len]; omega
  refine ⟨hS, ?_, by rw [List.length_append, h.len]; simp; omega, ?_, hblk, ⟨h.like.1.trans ⟨rfl, rfl, rfl, rfl, rfl, rfl, rfl⟩, h.like.2⟩, F⟩
  · have ht := new_tops h.tops h.st.apart hm (by rw [h.like.1.pages]; exact hpg) hgen (loadM (chunk all per k))
    have e : (fun j => if j = tk.length then some (loadM (chunk all per k)) else if j < tk.length then layC all per k j else none) = layC all per (k + 1) := by
      funext j
      simp only [layC, hlen]
      by_cases e : j = k
      · subst e; rw [if_pos rfl, if_pos (by omega)]
      · rw [if_neg e]
        by_cases hj : j < k
        · rw [if_pos hj, if_pos hj, if_pos (by omega)]
        · rw [if_neg hj, if_neg (by omega)]
    rw [e] at ht; exact ht
  · have e1 : (tk ++ [((m : Int), (y.gen : Int))]).length = tk.length + 1 := by simp
    have e2 : (tk ++ [((m : Int), (y.gen : Int))]).flatMap refC = tk.flatMap refC ++ [.int .i64 m, .int .i64 y.gen] := by rw [List.flatMap_append]; rfl
    show W7.ownsRow b1 35 2 _ (tk ++ [((m : Int), (y.gen : Int))]).length ((tk ++ [((m : Int), (y.gen : Int))]).flatMap refC)
    rw [e1, e2]; exact hown
theorem lay_end {w W W6 : World} {B : Blk} {X : Nat → Prop} {y : Cs} {P : Prot} {a : Bool} {N : Nat} {x : DirD} {len0 : Nat} {rest : List Nat} {M : Nat} {K : Prop} {c0 : Cont} {all : List Rf} {b1 b : Nat} {ta : Option Addr} {tc : Nat} {tk : List Rf} {yk : Cs} (hI : LayI w W B X y P a N x.rp len0 x.per rest M K c0 all b1 b ta tc tk yk x.leaves) (hz : DirZ y x) (hlen : len0 ≤ x.leaves) (hal : all.length = x.slots) (har : ∀ r ∈ all, rightR r)
    {m : Nat} (hm : PutIs yk x.rp.toNat m) (hS : StoreC W6 B (yk.put x.rp.toNat m (loadM tk)) P a (N + x.leaves + 1)) :
    ∃ (y' : Cs), StoreC W6 B y' P a (N + x.leaves + 1) ∧ DirC y' { x with rp := m, rs := y.gen } tk all ∧ Live y' (pgs m tk ++ rest) M ∧ (K → AllFresh y' (pgs m tk ++ rest)) ∧ (∀ k ∈ rest, y'.cont k = c0 k) ∧ (Like y y' ∧ y'.gen = y.gen ∧ y'.dead = y.dead) := by
  obtain ⟨ht, hc⟩ := root_put hI.tops hI.st.apart hm (loadM tk)
  obtain ⟨l1, l2, l3⟩ := put_like yk x.rp.toNat m (loadM tk)
  have hL := hI.like.1.trans l1
  have htl : tk.length = x.leaves := by rw [hI.len]; omega
  refine ⟨_, hS, ⟨⟨hz.most, ⟨hz.per.1, by rw [hL.room]; exact hz.per.2⟩, fun d hd => by rw [hL.room]; exact hz.fits d hd, by rw [hL.room]; exact hz.room⟩, hal, htl, ⟨har, ht.right, fun i r hi => ?_⟩, ⟨by simp, by simp⟩, ?_⟩, ht.live, ht.calm, ht.keep, hL, l2.trans hI.like.2.1, l3.trans hI.like.2.2⟩
  · refine ht.cont i r _ hi ?_
    have := (List.getElem?_eq_some_iff.1 hi).1
    simp only [layC]
    rw [if_pos (by omega)]
  · rw [← hI.like.2.1]
    simpa using hc
theorem lay_fin {w W : World} {B : Blk} {X : Nat → Prop} {bd : Nat} (F : FrX B (fun b => X b ∨ b = bd) w W) (u v : Value) : FrX B (fun b => X b ∨ b = bd) w ((W.setCell ⟨bd, 4, none⟩ u).setCell ⟨bd, 5, none⟩ v) :=
  Fr.setCell (Fr.setCell F (fun _ => .inr (.inr rfl)) _) (fun _ => .inr (.inr rfl)) _
theorem bd_pos {w : World} {B : Blk} {y : Cs} {P : Prot} {a : Bool} {N bd s : Nat} {x : DirD} (h : StoreC w B y P a N) (hD : DirAt w bd s x) : 0 < bd := by
  rcases Nat.eq_zero_or_pos bd with h0 | h0
  · exfalso
    subst h0
    have h2 := h.tab 0 (by decide)
    have h3 := cell_of_heap hD 0
    simp at h3
    rw [h3] at h2
    cases h2
  · exact h0
theorem down_grown {w w' : World} {B : Blk} {y : Cs} {P : Prot} {N : Nat} (h : DownC w B y P N) {base e size n : Nat} {v : Value} {xs : List Value} (hown : w.ownsRow base e size v n xs) (he : e ∉ 5 :: mutT) (hg : w.grownBy w' v.ownBlock) : DownC w' B y P N := by
  cases hv : v.ownBlock with
  | none =>
    rw [hv] at hg
    exact h.fr0 ⟨hg.os, hg.tape, hg.output, hg.size, fun b hb _ => hg.block b hb (by simp)⟩
  | some g =>
    obtain ⟨hb, c, hc⟩ := own_blockT hown hv.symm
    rw [hv] at hg
    exact h.frL (k := g) ⟨hg.os, hg.tape, hg.output, hg.size, fun b hb hn => hg.block b hb (fun e => hn (by cases e; rfl))⟩ hc he
theorem lay_fr {w W1 W : World} {B : Blk} {X Y : Nat → Prop} (F1 : Fr (fun _ => False) w W1) (F : FrX B X W1 W) : FrX B (fun b => X b ∨ Y b) w W :=
  ((FrX.none F1).trans F).mono fun _ _ h => h.imp id .inl
theorem flat_at (l : List Rf) : ∀ (i : Nat) (x : Rf), l[i]? = some x → (l.flatMap refC)[i * 2]? = some (.int .i64 x.1) ∧ (l.flatMap refC)[i * 2 + 1]? = some (.int .i64 x.2) := by
  induction l with
  | nil => intro i x hx; simp at hx
  | cons y l ih =>
    intro i x hx
    cases i with
    | zero => simp at hx; subst hx; exact ⟨rfl, rfl⟩
    | succ i =>
      rw [List.getElem?_cons_succ] at hx
      have e : (i + 1) * 2 = i * 2 + 2 := by omega
      rw [e]
      exact ih i x hx
theorem ownR_at {w : World} {base c : Nat} {a : Option Addr} {l : List Rf} (h : OwnR w base (.slice a l.length c) l) {k : Nat} {r : Rf} (hr : l[k]? = some r) : ∃ g, a = some ⟨g, 0, none⟩ ∧ g < w.heap.size ∧ w.cell? ⟨g, k * 2, none⟩ = some (.int .i64 r.1) ∧ w.cell? ⟨g, k * 2 + 1, none⟩ = some (.int .i64 r.2) := by
  obtain ⟨f0, f1⟩ := flat_at l k r hr
  obtain ⟨g, e, hg, h1⟩ := own_cell h f0
  obtain ⟨g', e', _, h2⟩ := own_cell h f1
  rw [e] at e'; cases e'
  exact ⟨g, e, hg, h1, h2⟩
def LayU (B : Blk) (X : Nat → Prop) (bd : Nat) (x : DirD) (y : Cs) (P : Prot) (a : Bool) (N : Nat) (rest : List Nat) (M : Nat) (K : Prop) (c0 : Cont) (all : List Rf) (w : World) (e : Ending) (w' : World) : Prop :=
  ∃ err, e = .returned (.int .i64 err) ∧ FrX B (fun b => X b ∨ b = bd) w w' ∧ ((err = 0 ∧ ∃ (y' : Cs) (tk : List Rf) (m : Nat), DirAt w' bd B.s { x with rp := m, rs := y.gen } ∧ StoreC w' B y' P a N ∧ DirC y' { x with rp := m, rs := y.gen } tk all ∧ Live y' (pgs m tk ++ rest) M ∧
    (K → AllFresh y' (pgs m tk ++ rest)) ∧ (∀ k ∈ rest, y'.cont k = c0 k) ∧ (Like y y' ∧ y'.gen = y.gen ∧ y'.dead = y.dead)) ∨ (err = 4 ∧ a = true ∧ DownC w' B y P N))
theorem leaves_iff {x : DirD} (h : 0 < x.per) (k : Nat) : k < x.leaves ↔ k * x.per < x.slots := by
  unfold DirD.leaves
  constructor
  · intro hk
    have h2 : (k + 1) * x.per ≤ x.slots + x.per - 1 := (Nat.le_div_iff_mul_le h).1 hk
    rw [Nat.succ_mul] at h2; omega
  · intro hk
    refine (Nat.le_div_iff_mul_le h).2 ?_
    rw [Nat.succ_mul]; omega
set_option maxHeartbeats 4000000 in
set_option maxRecDepth 100000 in
theorem lay_ok {w : World} {B : Blk} {y : Cs} {P : Prot} {a : Bool} {N M bd b1 b off cc tc : Nat} {x : DirD} {tops all : List Rf} {rest : List Nat} {K : Prop} {c0 : Cont} {ta : Option Addr} (h : StoreC w B y P a N) (hD : DirAt w bd B.s x) (hz : DirZ y x) (hrs : 0 ≤ x.rs) (hpg : y.pages ≤ 2147483647) (hT : Tops y x.rp tops rest M K c0 (fun _ => none))
    (hlen : tops.length ≤ x.leaves) (hal : all.length = x.slots) (har : ∀ r ∈ all, rightR r) (hM : 1 + x.leaves + rest.length + 2 * M < y.pages) (hown : OwnR w b1 (.slice ta tops.length tc) tops) (hb1 : 0 < b1) (hbs : b1 ≤ w.heap.size) (hall : RowT w (some ⟨b, off, none⟩) all) (hne : ∀ g, ta = some ⟨g, 0, none⟩ → g ≠ b) (hcc : all.length ≤ cc) (hN : N + x.leaves + 1 ≤ 90000) :
    Calls Tryz.prog 122 #[dptr bd, .slice ta tops.length tc, .slice (some ⟨b, off, none⟩) all.length cc] w (LayU B (fun b => ta = some ⟨b, 0, none⟩) bd x y P a (N + x.leaves + 1) rest M K c0 all w) := by
  obtain ⟨i0, hi0, hz0, hz1, hz2⟩ := info_parts Tryz.info35
  have hp41 := hz.le41
  have hp0 := hz.per.1
  have hsl : all.length ≤ 1681 := by
    rw [hal]
    have h1 := hz.slots_le
    have h2 : x.leaves * x.per ≤ 41 * 41 := Nat.mul_le_mul hp41.1 hp41.2
    omega
  have h0 : 0 < w.heap.size := by have := h.base; have := h.base_le; omega
  have HCh := hid (chunks_ok (w := w) (b := b) (off := off) (n := all.length) (c := cc) (per := x.per) (m := x.leaves) ⟨hp0, by omega⟩ (by omega) hcc (fun k => by rw [hal]; exact leaves_iff hp0 k) (by omega))
  have HD := hid hD
  have HZ := hid (And.intro hz (And.intro hal (And.intro har hrs)))
  have HA := hid hall
  have H0 := hid (And.intro h (And.intro hT hown))
  obtain ⟨m, hm⟩ : ∃ m, x.leaves = m := ⟨_, rfl⟩
  have HM := hid hm
  rw [hm] at HCh hN hM hlen ⊢
  have hm41 : m ≤ 41 := by omega
  obtain ⟨c0', c1, c2, c3, c4, c5, cz, cl⟩ := cells6 hD
  have hblen : b < w.heap.size ∨ all = [] := by
    cases all with
    | nil => exact .inr rfl
    | cons z l => obtain ⟨b', o', e, hb, _⟩ := hall.row.at_ 0 z rfl; cases e; exact .inl hb
  clear h hz hT hown hall hal har hD hm
  go_enter Tryz.func122, Tryz.ntmps122
  go_wp2_with (go_at_call 184; refine HCh.out.mono ?_)
  rintro e W1 ⟨v1, rfl, hch, F1⟩
  have HF1 := hid F1
  obtain ⟨va, vc, rfl, -⟩ := own_slice hch
  have HCH := hid hch
  have hI0 : LayI W1 W1 B (fun b => ta = some ⟨b, 0, none⟩) y P a N x.rp tops.length x.per rest M K c0 all b1 b ta tc tops y 0 :=
    ⟨H0.out.1.fr0 F1, by have := H0.out.2.1; exact ⟨this.live, this.right, this.rr, fun j r bs hj hC => by simp [layC] at hC, this.calm, this.keep⟩, by simp, ownsRow_fr H0.out.2.2 F1 (fun _ _ _ h => h), fun g hg => ⟨hne g hg, .inr hg⟩, ⟨Like.refl y, rfl, rfl⟩, FrX.refl _ _ _⟩
  have HI0 := hid hI0
  have HD1 := hid (show DirAt W1 bd B.s x from F1.heap HD.out (fun h => h))
  have HA1 := hid (HA.out.fr0 F1)
  clear hch F1 hI0 c0' c1 c2 c3 c4 c5 cz cl HCh
  go_wp2_with fail
  go_loopw [1, 19] (fun tv i wr => ∃ (k : Nat) (ta' : Option Addr) (tc' : Nat) (tk : List Rf) (yk : Cs), k ≤ m ∧ i = .int .i64 k ∧ tv = .slice ta' tk.length tc' ∧ LayI W1 wr B (fun b => ta = some ⟨b, 0, none⟩) y P a N x.rp tops.length x.per rest M K c0 all b1 b ta' tc' tk yk k) (fun _ i _ => m - (intOf i).toNat)
  case atStart => exact ⟨0, ta, tc, tops, y, Nat.zero_le _, rfl, rfl, HI0.out⟩
  case round =>
    obtain ⟨k, ta', tc', tk, yk, hk, rfl, rfl, hI⟩ := hrel
    have hF := hI.fr
    have HI := hid hI
    have hX35 : ∀ g, ta = some ⟨g, 0, none⟩ → ∃ c, W1.heap[g]? = some (.cells c 35) := fun g e => (own_blockT HI0.out.own (g := g) (by rw [e]; rfl)).2
    have hXd : ¬ ta = some ⟨bd, 0, none⟩ := fun e => by
      obtain ⟨c, hc⟩ := hX35 bd e
      have := HD1.out
      unfold DirAt at this
      rw [hc] at this; cases this
    have hDr := HD1.out.frX hI.fr hXd
    obtain ⟨c0', c1, c2, c3, c4, c5, cz, cl⟩ := cells6 hDr
    by_cases hlt : k < m
    · have hd : decide ((k : Int) < (m : Int)) = true := by simp; omega
      have hrow := ownsRow_fr HCH.out hF (fun g c hg hs => by
        rcases hs with hs | hs
        · exact absurd (hs.2.1 c 33 _ hg) (by decide)
        · obtain ⟨c', hc'⟩ := hX35 g hs
          rw [hc'] at hg; cases hg)
      obtain ⟨gv, rfl, hgv, hcv⟩ := own_cell hrow (show ((List.range m).map (chV b off all.length x.per))[k]? = some (chV b off all.length x.per k) by simp [hlt])
      have hcl : (chunk all x.per k).length ≤ 41 := by rw [chunk_len]; omega
      obtain ⟨e, he⟩ : ∃ e, (chunk all x.per k).length = e := ⟨_, rfl⟩
      have hcvv : chV b off all.length x.per k = .slice (some ⟨b, off + k * x.per * 2, none⟩) e e := by
        rw [← he, chunk_len]; rfl
      rw [hcvv] at hcv
      have hXb : ∀ b' off', (some ⟨b, off, none⟩ : Option Addr) = some ⟨b', off', none⟩ → all ≠ [] → ¬ ta = some ⟨b', 0, none⟩ := fun b' off' e _ e' => by
        cases e
        exact hne b e' rfl
      have hTk := rowT_chunk (HA1.out.frX hI.fr hXb) x.per k
      have HLd := hid (fun W (F : Fr (fun _ => False) wr W) => load_ok (c := e) ((hTk.fr0 F).row) (chunk_right HZ.out.2.2.1 x.per k) he (by omega))
      have HE := hid he
      have hpgk : yk.pages = y.pages := hI.like.1.pages
      have hrm : yk.room = y.room := hI.like.1.room
      have hlen' : tk.length ≤ m := by rw [hI.len]; omega
      have hfree := hI.tops.live.free (by simp only [pgs, List.length_append, List.length_cons, List.length_map]; omega)
      have h12e : 12 * e ≤ y.room := by
        have h1 := HZ.out.1.per.2
        have h2 : e ≤ x.per := by rw [← he, chunk_len]; omega
        omega
      have hki : (k : Int) < (m : Int) := by omega
      have HDr := hid hDr
      by_cases hk0 : k < tk.length
      · obtain ⟨r, hr⟩ : ∃ r, tk[k]? = some r := ⟨_, List.getElem?_eq_getElem hk0⟩
        have hd0 : decide ((k : Int) < (tk.length : Int)) = true := by simp; omega
        obtain ⟨hp1, hp2, hp3, hp4⟩ := hI.tops.page hr
        obtain ⟨r1, r2⟩ := r
        obtain ⟨pn, rfl⟩ := Int.eq_ofNat_of_zero_le (hI.tops.right _ (List.mem_of_getElem? hr)).1
        simp only [Int.toNat_natCast] at hp2 hp3 hp4
        obtain ⟨g, rfl, hg, g0, g1⟩ := ownR_at hI.own hr
        simp only at g0 g1
        have hgb : ∃ cg, wr.heap[g]? = some (.cells cg 35) := (own_blockT hI.own (g := g) rfl).2
        have hgbd : ¬ bd = g := fun e => by
          obtain ⟨cg, hcg⟩ := hgb
          unfold DirAt at hDr
          rw [e, hcg] at hDr; cases hDr
        have HG := hid (fun W (F : FrB B wr W) => show W.cell? ⟨g, k * 2, none⟩ = wr.cell? ⟨g, k * 2, none⟩ ∧ W.cell? ⟨g, k * 2 + 1, none⟩ = wr.cell? ⟨g, k * 2 + 1, none⟩ ∧ (∃ cg, W.heap[g]? = some (.cells cg 35)) by
          obtain ⟨cg, hcg⟩ := hgb
          have hn : ¬ (B.base ≤ g ∧ MutB B wr g) := fun hs => absurd (hs.2.1 cg 35 _ hcg) (by decide)
          exact ⟨Fr.cell F (p := ⟨g, _, none⟩) hg hn, Fr.cell F (p := ⟨g, _, none⟩) hg hn, ⟨cg, FrB.heap F hcg (by decide)⟩⟩)
        have HW := hid (fun W la lc (F : Fr (fun _ => False) wr W) (hb : ByV W la (12 * (chunk all x.per k).length) lc (loadM (chunk all x.per k))) => write_u (hI.st.fr0 F) pn r2 (hb.inp B) (loadM_byte _) (by rw [hrm, he]; exact h12e) hp2 hp3 hp4 hfree (by omega))
        have HR := hid hr
        have HG0 := hid (And.intro g0 g1)
        have hki0 : (k : Int) < (tk.length : Int) := by omega
        clear hI hF hX35 hDr hrow hTk he hr hcvv hp1 hpgk hrm hp2 hp3 hp4 hfree hcl
        go_wp2_with fail
        have hgbd' : ¬ g = bd := fun e => hgbd e.symm
        go_region_law (first
          | ((try go_simp); go_at_call 119; refine (HLd.out _ (by first | exact Fr.refl _ _ | exact (Fr.refl _ _).drew)).mono ?_; rintro _ W5 ⟨la, lc, rfl, hb, F5⟩; have F5w : Fr (fun _ => False) wr W5 := (by first | exact F5 | exact ((Fr.refl _ _).drew).trans F5 (fun _ _ h => h)); have g0 := (HG.out W5 (FrB.none F5w)).1.trans HG0.out.1; have g1 := (HG.out W5 (FrB.none F5w)).2.1.trans HG0.out.2; obtain ⟨c0', c1, c2, c3, c4, c5, cz, cl⟩ := cells6 (HDr.out.frB (FrB.none (B := B) F5w)))
          | ((try go_simp); go_at_call 26; refine (HW.out _ _ _ F5w hb).mono ?_; rintro _ W6 ⟨p6, s6, err, rfl, F6, hr6⟩; have F6w : FrB B wr W6 := FrB.trans (FrB.none F5w) F6; have g0 := (HG.out W6 F6w).1.trans HG0.out.1; have g1 := (HG.out W6 F6w).2.1.trans HG0.out.2; obtain ⟨cg, hcg⟩ := (HG.out W6 F6w).2.2; have gz := fun o => frozen_of_heap hcg o; have gl := lt_of_heap hcg))
        all_goals (
          rcases hr6 with ⟨rfl, m', rfl, rfl, hm', hS6⟩ | ⟨rfl, ha, hDn⟩
          · have hL := LayI.put HI.out hpg hb1 HR.out hm' F6w hS6
            have HL := hid hL
            clear hm' hS6 hL g0 g1 gz gl hcg F6w F6 F5w F5 hb c0' c1 c2 c3 c4 c5 cz cl
            go_wp2_with fail
            go_roundw
            case rel => exact ⟨k + 1, _, _, _, _, hlt, by go_num, by rw [List.length_set], HL.out⟩
            case measure => simp [intOf]; omega
          · have hF6 := FrX.trans HI.out.fr (FrX.of F6w)
            have HY := hid (And.intro ha (And.intro hDn (And.intro hF6 hcg)))
            clear ha hDn hF6 hcg F6w F6 F5w F5 hb c0' c1 c2 c3 c4 c5 cz cl
            go_wp2_with fail
            go_ret
            refine ⟨4, rfl, lay_fr HF1.out (set2_frX HY.out.2.2.1 (HI.out.blk g rfl).2 _ _), .inr ⟨rfl, HY.out.1, (set2_down (down_like HY.out.2.1 HI.out.like.1) HY.out.2.2.2 _ _).mono (by omega)⟩⟩)
      · have hd0 : decide ((k : Int) < (tk.length : Int)) = false := by simp; omega
        have hdl : tops.length ≤ k := by have := hI.len; omega
        obtain ⟨wr1, hwr1⟩ : ∃ wr1, wr.alloc (.cells #[.int .i64 0, .int .i64 0] 35) = wr1 := ⟨_, rfl⟩
        have hFa : Fr (fun _ => False) wr wr1 := by rw [← hwr1]; exact (Fr.refl _ _).alloc _
        have hba : wr1.heap[wr.heap.size]? = some (.cells #[.int .i64 0, .int .i64 0] 35) := by rw [← hwr1]; exact heap_alloc_new _ _
        have HW := hid (fun W la lc (F : Fr (fun _ => False) wr W) (hb : ByV W la (12 * (chunk all x.per k).length) lc (loadM (chunk all x.per k))) => new_u (hI.st.fr0 F) (hb.inp B) (loadM_byte _) (by rw [hrm, he]; exact h12e) hfree (by omega))
        have HFA := hid hFa
        have HBA := hid hba
        have HWR := hid hwr1
        have hDr1 : DirAt wr1 bd B.s x := hFa.heap hDr (fun h => h)
        have HDr1 := hid hDr1
        have hbb : ¬ bd = wr.heap.size := by omega
        have hbb' : ¬ wr.heap.size = bd := by omega
        have hszl := lt_of_heap hba
        clear hI hF hX35 hDr hrow hTk he hcvv hpgk hrm hfree hcl hFa hba hwr1 c0' c1 c2 c3 c4 c5 cz cl
        obtain ⟨c0', c1, c2, c3, c4, c5, cz, cl⟩ := cells6 hDr1
        clear hDr1
        go_upto_region 8 with fail
        rw [HWR.out]
        go_region_held3 (fun W => W.cell? ⟨bd, 0, none⟩ = some (.pointer (some ⟨B.s, 0, none⟩))) (go_keep) (first
          | (go_at_call 119; refine (HLd.out _ (by first | exact HFA.out | exact HFA.out.drew)).mono ?_; rintro _ W5 ⟨la, lc, rfl, hb, F5⟩; have F5w : Fr (fun _ => False) wr1 W5 := (by first | exact F5 | exact ((Fr.refl _ _).drew).trans F5 (fun _ _ h => h)); obtain ⟨c0', c1, c2, c3, c4, c5, cz, cl⟩ := cells6 (HDr1.out.frB (FrB.none (B := B) F5w)))
          | (go_at_call 22; refine (HW.out _ _ _ (HFA.out.trans F5w (fun _ _ h => h)) hb).mono ?_; rintro _ W6 ⟨p6, s6, err, rfl, F6, hr6⟩; have F6w : FrB B wr1 W6 := FrB.trans (FrB.none F5w) F6; have hbx := FrB.heap F6w HBA.out (by decide); obtain ⟨g0, g1, gz, gl⟩ := cells2 hbx; obtain ⟨c0', c1, c2, c3, c4, c5, cz, cl⟩ := cells6 (HDr1.out.frB F6w)))
        obtain ⟨W7, hW7⟩ : ∃ W7, (W6.setCell ⟨wr.heap.size, 0, none⟩ (.int .i64 p6)).setCell ⟨wr.heap.size, 1, none⟩ (.int .i64 s6) = W7 := ⟨_, rfl⟩
        rw [hW7]
        have hf7 : Fr (fun b => b = wr.heap.size) W6 W7 := by rw [← hW7]; exact set2_f _ _
        have b7 : W7.heap[wr.heap.size]? = some (.cells #[.int .i64 p6, .int .i64 s6] 35) := by
          rw [← hW7, heap_setCell_cells _ _ _ _ (heap_setCell_cells _ _ _ _ hbx)]; rfl
        have hF67 : FrX B (fun b => ta = some ⟨b, 0, none⟩) W1 W7 := by
          rw [← hW7]
          exact set2_frX (FrX.trans HI.out.fr (FrX.trans (FrX.none HFA.out) (FrX.of F6w))) (.inl HI.out.fr.size) _ _
        have hoblt : ∀ g, some g = (Value.slice ta' tk.length tc').ownBlock → g < wr.heap.size := fun g e => by
          obtain ⟨_, c, hc⟩ := own_blockT HI.out.own e
          exact lt_of_heap hc
        have hown7 : OwnR W7 b1 (.slice ta' tk.length tc') tk := by
          have h1 : OwnR wr1 b1 (.slice ta' tk.length tc') tk := ownsRow_fr HI.out.own HFA.out (fun _ _ _ h => h)
          have h2 : OwnR W6 b1 (.slice ta' tk.length tc') tk := ownsRow_fr h1 F6w (fun g' c' hg' hs => absurd (hs.2.1 c' 35 _ hg') (by decide))
          obtain ⟨hl, h0' | ⟨g', cap, cur, hv, hb', hg', r⟩⟩ := h2
          · exact ⟨hl, .inl h0'⟩
          · exact ⟨hl, .inr ⟨g', cap, cur, hv, hb', hf7.heap hg' (by have := hoblt g' (by rw [hv]; rfl); omega), r⟩⟩
        have hb1' : b1 ≤ W7.heap.size := Nat.le_trans hbs (Nat.le_trans HF1.out.size hF67.size)
        obtain ⟨d0, d1, dz, dl⟩ := cells2 b7
        have HO7 := hid (And.intro hown7 (And.intro hF67 (And.intro hf7 hbx)))
        have HS6 := hid hr6
        have hszz : wr.heap.size < W7.heap.size := dl
        clear hW7 b7 hF67 hown7 hf7 hbx hr6 g0 g1 gz gl c0' c1 c2 c3 c4 c5 cz cl F6w F6 F5w F5 hb
        go_wp2_with (at_builtin; refine wpList_append_own_at _ rfl (.tmp 55) (.tmp 57) 33 rfl b1 35 i0 _ 2 16 Tryz.underlying33 hi0 hz0 hz1 hz2 rfl (by decide) _ _ _ rfl (HO7.out.1.alloc _) ⟨W7.heap.size, 0, none⟩ 1 1 [.int .i64 p6, .int .i64 s6] rfl rfl (World.news_of_block (cs := #[.int .i64 p6, .int .i64 s6]) (t := 35) (fr := (0, 0)) (heap_alloc_new _ _)) (by simp [Value.oneCell']) (by simp only [maxLen]; omega) (by omega) (by simp; omega) ?_)
        intro v8 W8 hown8 hg8 hnil8 hat8
        have hF8 : FrX B (fun b => ta = some ⟨b, 0, none⟩) W1 W8 := by
          refine Fr.trans (S' := fun b => some b = (Value.slice ta' tk.length tc').ownBlock) ((HO7.out.2.1).alloc (.cells #[.int .i64 p6, .int .i64 s6] 35)) ⟨hg8.os, hg8.tape, hg8.output, hg8.size, fun b hb hn => hg8.block b hb hn⟩ (fun b hb e => ?_)
          obtain ⟨g', -, hg'⟩ : ∃ g' : Nat, g' = b ∧ ta' = some ⟨b, 0, none⟩ := ⟨b, rfl, by
            obtain ⟨_, ⟨h0, _⟩ | ⟨g'', cap, cur, hv, _⟩⟩ := HI.out.own
            · rw [h0] at e; simp [Value.ownBlock] at e
            · rw [hv] at e; simp [Value.ownBlock] at e; subst e; cases hv; rfl⟩
          rcases (HI.out.blk b hg').2 with h | h
          · omega
          · exact .inr h
        obtain ⟨ta8, tc8, rfl, -⟩ := own_slice hown8
        have hblk8 : ∀ g, ta8 = some ⟨g, 0, none⟩ → g ≠ b ∧ (W1.heap.size ≤ g ∨ ta = some ⟨g, 0, none⟩) := fun g e => by
          rcases hat8 with h | h
          · rw [e] at h
            have hta : ta' = some ⟨g, 0, none⟩ := by
              obtain ⟨_, ⟨h0, _⟩ | ⟨g'', cap, cur, hv, _⟩⟩ := HI.out.own
              · rw [h0] at h; simp [Value.ownBlock] at h
              · rw [hv] at h; simp [Value.ownBlock] at h; subst h; cases hv; rfl
            exact HI.out.blk g hta
          · rw [e] at h
            simp [Value.ownBlock] at h
            have h1 := HI.out.fr.size
            refine ⟨fun e' => ?_, .inl (by omega)⟩
            rcases hblen with hb' | hb'
            · have := HF1.out.size; omega
            · have h3 := HZ.out.2.1
              have h2 : 0 < x.slots := Nat.pow_pos (by decide)
              have h4 : all.length = 0 := by rw [hb']; rfl
              omega
        have H8 := hid (And.intro hown8 (And.intro hF8 hblk8))
        have hgr := hid hg8
        clear hown8 hF8 hblk8 hg8 hnil8 hat8 d0 d1 dz dl
        rcases HS6.out with ⟨rfl, m', rfl, rfl, hm', hS6⟩ | ⟨rfl, ha, hDn⟩
        · have hS7 : StoreC W7 B (yk.new m' (loadM (chunk all x.per k))) P a (N + k + 1) := hS6.frL HO7.out.2.2.1 HO7.out.2.2.2 (by decide) (by omega)
          have hS8 := (hS7.fr0 ((Fr.refl (fun _ => False) W7).alloc (.cells #[.int .i64 m', .int .i64 yk.gen] 35))).grown0 (HO7.out.1.alloc _) (by decide) hb1 hgr.out
          have HL := hid (LayI.new HI.out hpg hdl hm' H8.out.2.1 hS8 H8.out.1 H8.out.2.2)
          clear hm' hS6 hS7 hS8
          go_wp2_with fail
          go_roundw
          case rel => exact ⟨k + 1, _, _, _, _, hlt, by go_num, by rw [List.length_append]; rfl, HL.out⟩
          case measure => simp [intOf]; omega
        · have hD7 : DownC W7 B yk P (N + k + 1) := hDn.frL HO7.out.2.2.1 HO7.out.2.2.2 (by decide)
          have hD8 := down_grown (hD7.fr0 ((Fr.refl (fun _ => False) W7).alloc (.cells #[.int .i64 p6, .int .i64 s6] 35))) (HO7.out.1.alloc _) (by decide) hgr.out
          have HY := hid (And.intro ha hD8)
          clear ha hDn hD7 hD8
          go_wp2_with fail
          go_ret
          exact ⟨4, rfl, lay_fr HF1.out H8.out.2.1, .inr ⟨rfl, HY.out.1, (down_like HY.out.2 HI.out.like.1).mono (by omega)⟩⟩
    · obtain rfl : k = m := by omega
      have hd : decide ((k : Int) < (k : Int)) = false := by simp
      obtain ⟨hp1, hp2, hp3, hp4⟩ := hI.tops.rpage
      have htl : tk.length = k := by rw [hI.len]; omega
      obtain ⟨ta2, tc2, hsv, hTT⟩ := rowT_of_own hI.own
      obtain ⟨rfl, rfl⟩ : ta' = ta2 ∧ tc' = tc2 := by cases hsv; exact ⟨rfl, rfl⟩
      clear hsv
      have hfree := hI.tops.live.free (by have h1 : yk.pages = y.pages := hI.like.1.pages; simp only [pgs, List.length_append, List.length_cons, List.length_map]; omega)
      have h12 : 12 * tk.length ≤ yk.room := by
        have h1 : yk.room = y.room := hI.like.1.room
        have h2 := HZ.out.1.leaves
        rw [h1, htl, ← HM.out]; exact h2
      have HLd := hid (fun W (F : Fr (fun _ => False) wr W) => load_ok (c := tc') ((hTT.fr0 F).row) hI.tops.right rfl (by omega))
      have HW := hid (fun W la lc (F : Fr (fun _ => False) wr W) (hb : ByV W la (12 * tk.length) lc (loadM tk)) => show Calls Tryz.prog 26 #[B.ptr, ref2 x.rp x.rs, .slice la (12 * tk.length) lc] W (WriteU B yk P a (N + k) x.rp.toNat (loadM tk) W) by
        have := write_u (hI.st.fr0 F) x.rp.toNat x.rs (hb.inp B) (loadM_byte _) h12 hp2 hp3 hp4 hfree (by omega)
        rw [← hp1] at this
        exact this)
      have HDr := hid hDr
      clear hI hF hX35 hDr hp1 hp2 hp3 hp4 htl hTT hfree h12
      go_wp2_with fail
      go_region_law (first
        | ((try go_simp); go_at_call 119; refine (HLd.out _ (by first | exact Fr.refl _ _ | exact (Fr.refl _ _).drew)).mono ?_; rintro _ W5 ⟨la, lc, rfl, hb, F5⟩; have F5w : Fr (fun _ => False) wr W5 := (by first | exact F5 | exact ((Fr.refl _ _).drew).trans F5 (fun _ _ h => h)); obtain ⟨c0', c1, c2, c3, c4, c5, cz, cl⟩ := cells6 (HDr.out.frB (FrB.none (B := B) F5w)))
        | ((try go_simp); go_at_call 26; refine (HW.out _ _ _ F5w hb).mono ?_; rintro _ W6 ⟨p6, s6, err, rfl, F6, hr6⟩; have F6w : FrB B wr W6 := FrB.trans (FrB.none F5w) F6; have hD6 := HDr.out.frB F6w; obtain ⟨c0', c1, c2, c3, c4, c5, cz, cl⟩ := cells6 hD6))
      all_goals (
        rcases hr6 with ⟨rfl, m', rfl, rfl, hm', hS6⟩ | ⟨rfl, ha, hDn⟩
        · have hE := lay_end (W6 := W6) (x := x) (len0 := tops.length) (by rw [HM.out]; exact HI.out) HZ.out.1 (by rw [HM.out]; exact hlen) HZ.out.2.1 HZ.out.2.2.1 hm' (by rw [HM.out]; exact hS6)
          rw [HM.out] at hE
          have hd9 : DirAt ((W6.setCell ⟨bd, 4, none⟩ (.int .i64 m')).setCell ⟨bd, 5, none⟩ (.int .i64 yk.gen)) bd B.s { x with rp := m', rs := y.gen } := by
            rw [← HI.out.like.2.1]; exact dir_set hD6 _ _
          have hf9 := lay_fin (X := fun b => ta = some ⟨b, 0, none⟩) (bd := bd) (lay_fr (Y := fun b => b = bd) HF1.out (FrX.trans HI.out.fr (FrX.of F6w))) (.int .i64 m') (.int .i64 yk.gen)
          have H9 := hid (And.intro hE (And.intro hd9 (And.intro hf9 hD6)))
          clear hm' hS6 hE hd9 hf9 hD6 F6w F6 F5w F5 hb c0' c1 c2 c3 c4 c5 cz cl
          go_wp2_with fail
          go_ret
          obtain ⟨⟨y', e1, e2⟩, hd9, hf9, hD6⟩ := H9.out
          exact ⟨0, rfl, hf9, .inl ⟨rfl, y', tk, m', hd9, dirset_st e1 hD6 (by have := H0.out.1.base; have := HD.out; exact bd_pos H0.out.1 HD.out) _ _, e2⟩⟩
        · have hf9 := lay_fin (X := fun b => ta = some ⟨b, 0, none⟩) (bd := bd) (lay_fr (Y := fun b => b = bd) HF1.out (FrX.trans HI.out.fr (FrX.of F6w))) (.int .i64 p6) (.int .i64 s6)
          have H9 := hid (And.intro ha (And.intro hDn (And.intro hf9 hD6)))
          clear ha hDn hf9 hD6 F6w F6 F5w F5 hb c0' c1 c2 c3 c4 c5 cz cl
          go_wp2_with fail
          go_ret
          exact ⟨4, rfl, H9.out.2.2.1, .inr ⟨rfl, H9.out.1, dirset_down (down_like H9.out.2.1 HI.out.like.1) H9.out.2.2.2 _ _⟩⟩)
end Go.Proofs.YtgdhaaokolfdoaaGreatDoor
