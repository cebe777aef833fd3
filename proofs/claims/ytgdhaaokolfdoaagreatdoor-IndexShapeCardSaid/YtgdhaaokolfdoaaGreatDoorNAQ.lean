/- A pack of texts: DN. Conditions: those that each text names. -/
import Derived.Test.YtgdhaaokolfdoaaGreatDoorNAP
import Derived.Lib.OwnBridge
import Derived.Test.YtgdhaaokolfdoaaGreatDoorNAL
import Derived.RangeFuncNested
import Derived.RangeFuncRecord
set_option maxHeartbeats 16000000
set_option maxRecDepth 100000
set_option linter.all false
namespace Go.Proofs.YtgdhaaokolfdoaaGreatDoor
section
open Go.RowKit Go.Sg Go.Sg.Bits Go.Sg.Clk CP SF
variable {W W6 w : World} {B : Blk} {y y0 : Cs} {P : Prot} {a : Bool} {M N b b1 base bd k len0 m per tc : Nat} {X Y : Nat -> Prop} {rp : Int} {rest : List Nat} {K : Prop} {ta : Option Addr}
theorem gen_small (h : StoreC w B y P a N) : y.gen < 9223372036854775808 := by
 obtain ⟨x, c, hS, rfl, hi⟩ := h.ex; exact gen_lt hS
def layC (all : List Rf) (per k : Nat) : Nat -> Option (List Int) := fun j => if j < k then some (loadM (chunk all per j)) else none
structure LayI (w W : World) (B : Blk) (X : Nat -> Prop) (y0 : Cs) (P : Prot) (a : Bool) (N : Nat) (rp : Int) (len0 per : Nat) (rest : List Nat) (M : Nat) (K : Prop) (c0 : Cont) (all : List Rf) (b1 b : Nat) (ta : Option Addr) (tc : Nat) (tk : List Rf) (y : Cs) (k : Nat) : Prop where
 st : StoreC W B y P a (N + k)
 tops : Tops y rp tk rest M K c0 (layC all per k)
 len : tk.length = max len0 k
 own : OwnR W b1 (.slice ta tk.length tc) tk
 blk : ∀ g, ta = some ⟨g, 0, none⟩ -> g ≠ b /\ (w.heap.size <= g \/ X g)
 like : Like y0 y /\ y.gen = y0.gen /\ y.dead = y0.dead
 fr : FrX B X w W
variable {c0 : Cont} {all l tk tops : List Rf} {r : Rf}
theorem LayI.put {g : Nat} (h : LayI w W B X y0 P a N rp len0 per rest M K c0 all b1 b (some ⟨g, 0, none⟩) tc tk y k) (hpg : y0.pages <= 2147483647) (hb1 : 0 < b1)
  (hr : tk[k]? = some r) (hm : PutIs y r.1.toNat m) (F : FrB B W W6) (hS : StoreC W6 B (y.put r.1.toNat m (loadM (chunk all per k))) P a (N + k + 1)) :
  LayI w ((W6.setCell ⟨g, k * 2, none⟩ (.int .i64 m)).setCell ⟨g, k * 2 + 1, none⟩ (.int .i64 y.gen)) B X y0 P a N rp len0 per rest M K c0 all b1 b (some ⟨g, 0, none⟩) tc (tk.set k ((m : Int), (y.gen : Int))) (y.put r.1.toNat m (loadM (chunk all per k))) (k + 1) := by
 have hk := (gI.1 hr).1;have hown6 : OwnR W6 b1 (.slice (some ⟨g, 0, none⟩) tk.length tc) tk := oRf h.own F (fun g' c' hg' hs => absurd (hs.2.1 c' 35 _ hg') (by decide));obtain ⟨hg1, cg, hgc⟩ := oBT hown6 (g := g) rfl;have hgen : y.gen < 9223372036854775808 := gen_small h.st;obtain ⟨l1, l2, l3⟩ := put_like y r.1.toNat m (loadM (chunk all per k));have hset := own_set hown6 hk (m : Int) (y.gen : Int);refine ⟨set2_st hS hgc (by omega) _ _, ?_, ?_, by unfold OwnR; rw [List.length_set] at hset; rw [List.length_set]; exact hset, h.blk, ⟨h.like.1.trans l1, l2.trans h.like.2.1, l3.trans h.like.2.2⟩, set2_frX (h.fr.trans (FrX.of F)) (h.blk g rfl).2 _ _⟩
 ·have ht := put_tops h.tops h.st.apart hr hm (by rw [h.like.1.pages]; exact hpg) hgen (loadM (chunk all per k));have e : (fun j => if j = k then some (loadM (chunk all per k)) else layC all per k j) = layC all per (k + 1) := by
   funext j
   simp only [layC];by_cases e : j = k
   ·subst e; rw [if_pos rfl, if_pos (by omega)]
   ·rw [if_neg e];by_cases hj : j < k
    ·rw [if_pos hj, if_pos (by omega)]
    ·rw [if_neg hj, if_neg (by omega)]
  rw [e] at ht; exact ht
 ·rw [List.length_set, h.len];have := h.len;omega
theorem LayI.new {W7 : World} {ta' : Option Addr} {tc' : Nat} (h : LayI w W B X y0 P a N rp len0 per rest M K c0 all b1 b ta tc tk y k) (hpg : y0.pages <= 2147483647) (hk : len0 <= k)
  (hm : TakeIs y.taken y.pages y.hand m) (F : FrX B X w W7) (hS : StoreC W7 B (y.new m (loadM (chunk all per k))) P a (N + k + 1)) (hown : W7.ownsRow b1 35 2 (.slice ta' (tk.length + 1) tc') (tk.length + 1) (tk.flatMap refC ++ [.int .i64 m, .int .i64 y.gen])) (hblk : ∀ g, ta' = some ⟨g, 0, none⟩ -> g ≠ b /\ (w.heap.size <= g \/ X g)) :
  LayI w W7 B X y0 P a N rp len0 per rest M K c0 all b1 b ta' tc' (tk ++ [((m : Int), (y.gen : Int))]) (y.new m (loadM (chunk all per k))) (k + 1) := by
 have hgen : y.gen < 9223372036854775808 := gen_small h.st;have hlen : tk.length = k := by rw [h.len]; omega
 refine ⟨hS, ?_, by rw [lA, h.len]; simp; omega, ?_, hblk, ⟨h.like.1.trans ⟨rfl, rfl, rfl, rfl, rfl, rfl, rfl⟩, h.like.2⟩, F⟩
 ·have ht := new_tops h.tops h.st.apart hm (by rw [h.like.1.pages]; exact hpg) hgen (loadM (chunk all per k));have e : (fun j => if j = tk.length then some (loadM (chunk all per k)) else if j < tk.length then layC all per k j else none) = layC all per (k + 1) := by
   funext j
   simp only [layC, hlen];by_cases e : j = k
   ·subst e; rw [if_pos rfl, if_pos (by omega)]
   ·rw [if_neg e];by_cases hj : j < k
    ·rw [if_pos hj, if_pos hj, if_pos (by omega)]
    ·rw [if_neg hj, if_neg (by omega)]
  rw [e] at ht; exact ht
 ·have e1 : (tk ++ [((m : Int), (y.gen : Int))]).length = tk.length + 1 := by simp
  have e2 : (tk ++ [((m : Int), (y.gen : Int))]).flatMap refC = tk.flatMap refC ++ [.int .i64 m, .int .i64 y.gen] := by rw [List.flatMap_append]; rfl
  show W7.ownsRow b1 35 2 _ (tk ++ [((m : Int), (y.gen : Int))]).length ((tk ++ [((m : Int), (y.gen : Int))]).flatMap refC);rw [e1, e2]; exact hown
variable {x : DirD}
theorem lay_end {yk : Cs} (hI : LayI w W B X y P a N x.rp len0 x.per rest M K c0 all b1 b ta tc tk yk x.leaves) (hz : DirZ y x) (hlen : len0 <= x.leaves) (hal : all.length = x.slots) (har : ∀ r ∈ all, rightR r)
  (hm : PutIs yk x.rp.toNat m) (hS : StoreC W6 B (yk.put x.rp.toNat m (loadM tk)) P a (N + x.leaves + 1)) :
  ∃ (y' : Cs), StoreC W6 B y' P a (N + x.leaves + 1) /\ DirC y' { x with rp := m, rs := y.gen } tk all /\ Live y' (pgs m tk ++ rest) M /\ (K -> AllFresh y' (pgs m tk ++ rest)) /\ (∀ k ∈ rest, y'.cont k = c0 k) /\ (Like y y' /\ y'.gen = y.gen /\ y'.dead = y.dead) := by
 obtain ⟨ht, hc⟩ := root_put hI.tops hI.st.apart hm (loadM tk);obtain ⟨l1, l2, l3⟩ := put_like yk x.rp.toNat m (loadM tk);have hL := hI.like.1.trans l1;have htl : tk.length = x.leaves := by rw [hI.len]; omega
 refine ⟨_, hS, ⟨⟨hz.most, ⟨hz.per.1, by rw [hL.room]; exact hz.per.2⟩, fun d hd => by rw [hL.room]; exact hz.fits d hd, by rw [hL.room]; exact hz.room⟩, hal, htl, ⟨har, ht.right, fun i r hi => ?_⟩, ⟨by simp, by simp⟩, ?_⟩, ht.live, ht.calm, ht.keep, hL, l2.trans hI.like.2.1, l3.trans hI.like.2.2⟩
 ·refine ht.cont i r _ hi ?_;have := (gI.1 hi).1;simp only [layC];rw [if_pos (by omega)]
 ·rw [<- hI.like.2.1];simpa using hc
theorem lay_fin (F : FrX B (fun b => X b \/ b = bd) w W) (u v : Value) : FrX B (fun b => X b \/ b = bd) w ((W.setCell ⟨bd, 4, none⟩ u).setCell ⟨bd, 5, none⟩ v) :=
 Fr.setCell (Fr.setCell F (fun _ => .inr (.inr rfl)) _) (fun _ => .inr (.inr rfl)) _
theorem bd_pos {s : Nat} (h : StoreC w B y P a N) (hD : DirAt w bd s x) : 0 < bd := by
 rcases Nat.eq_zero_or_pos bd with h0 | h0
 ·exfalso;subst h0;have h2 := h.tab 0 (by decide);have h3 := coh hD 0;simp at h3;rw [h3] at h2;cases h2
 ·exact h0
theorem down_grown {w' : World} (h : DownC w B y P N) {e size n : Nat} {v : Value} {xs : List Value} (hown : w.ownsRow base e size v n xs) (he : e ∉ 5 :: mutT) (hg : w.grownBy w' v.ownBlock) : DownC w' B y P N := by
 cases hv : v.ownBlock with
 | none =>
  rw [hv] at hg;exact h.fr0 ⟨hg.os, hg.tape, hg.output, hg.size, fun b hb _ => hg.block b hb (by simp)⟩
 | some g =>
  obtain ⟨hb, c, hc⟩ := oBT hown hv.symm;rw [hv] at hg;exact h.frL (k := g) ⟨hg.os, hg.tape, hg.output, hg.size, fun b hb hn => hg.block b hb (fun e => hn (by cases e; rfl))⟩ hc he
theorem lay_fr {W1 : World} (F1 : Fq w W1) (F : FrX B X W1 W) : FrX B (fun b => X b \/ Y b) w W :=
 ((FrX.none F1).trans F).mono fun _ _ h => h.imp id .inl
theorem flat_at (l : List Rf) : ∀ (i : Nat) (x : Rf), l[i]? = some x -> (l.flatMap refC)[i * 2]? = some (.int .i64 x.1) /\ (l.flatMap refC)[i * 2 + 1]? = some (.int .i64 x.2) := by
 induction l with
 | nil => intro i x hx; simp at hx
 | cons y l ih =>
  intro i x hx;cases i with
  | zero => simp at hx; subst hx; exact ⟨rfl, rfl⟩
  | succ i =>
   rw [gS] at hx;have e : (i + 1) * 2 = i * 2 + 2 := by omega
   rw [e];exact ih i x hx
theorem ownR_at {c : Nat} {a : Option Addr} (h : OwnR w base (.slice a l.length c) l) (hr : l[k]? = some r) : ∃ g, a = some ⟨g, 0, none⟩ /\ g < w.heap.size /\ w.cell? ⟨g, k * 2, none⟩ = some (.int .i64 r.1) /\ w.cell? ⟨g, k * 2 + 1, none⟩ = some (.int .i64 r.2) := by
 obtain ⟨f0, f1⟩ := flat_at l k r hr;obtain ⟨g, e, hg, h1⟩ := own_cell h f0;obtain ⟨g', e', _, h2⟩ := own_cell h f1;rw [e] at e'; cases e';exact ⟨g, e, hg, h1, h2⟩
def LayU (B : Blk) (X : Nat -> Prop) (bd : Nat) (x : DirD) (y : Cs) (P : Prot) (a : Bool) (N : Nat) (rest : List Nat) (M : Nat) (K : Prop) (c0 : Cont) (all : List Rf) (w : World) (e : Ending) (w' : World) : Prop :=
 ∃ err, e = .returned (.int .i64 err) /\ FrX B (fun b => X b \/ b = bd) w w' /\ ((err = 0 /\ ∃ (y' : Cs) (tk : List Rf) (m : Nat), DirAt w' bd B.s { x with rp := m, rs := y.gen } /\ StoreC w' B y' P a N /\ DirC y' { x with rp := m, rs := y.gen } tk all /\ Live y' (pgs m tk ++ rest) M /\
  (K -> AllFresh y' (pgs m tk ++ rest)) /\ (∀ k ∈ rest, y'.cont k = c0 k) /\ (Like y y' /\ y'.gen = y.gen /\ y'.dead = y.dead)) \/ (err = 4 /\ a = true /\ DownC w' B y P N))
theorem leaves_iff (h : 0 < x.per) (k : Nat) : k < x.leaves ↔ k * x.per < x.slots := by
 unfold DirD.leaves;constructor
 ·intro hk;have h2 : (k + 1) * x.per <= x.slots + x.per - 1 := (Nat.le_div_iff_mul_le h).1 hk;rw [Nat.succ_mul] at h2; omega
 ·intro hk;refine (Nat.le_div_iff_mul_le h).2 ?_;rw [Nat.succ_mul]; omega
theorem lay_ok {off cc : Nat} (h : StoreC w B y P a N) (hD : DirAt w bd B.s x) (hz : DirZ y x) (hrs : 0 <= x.rs) (hpg : y.pages <= 2147483647) (hT : Tops y x.rp tops rest M K c0 (fun _ => none))
  (hlen : tops.length <= x.leaves) (hal : all.length = x.slots) (har : ∀ r ∈ all, rightR r) (hM : 1 + x.leaves + rest.length + 2 * M < y.pages) (hown : OwnR w b1 (.slice ta tops.length tc) tops) (hb1 : 0 < b1) (hbs : b1 <= w.heap.size) (hall : RowT w (some ⟨b, off, none⟩) all) (hne : ∀ g, ta = some ⟨g, 0, none⟩ -> g ≠ b) (hcc : all.length <= cc) (hN : N + x.leaves + 1 <= 90000) :
  Calls Tryz.prog 122 #[dptr bd, .slice ta tops.length tc, .slice (some ⟨b, off, none⟩) all.length cc] w (LayU B (fun b => ta = some ⟨b, 0, none⟩) bd x y P a (N + x.leaves + 1) rest M K c0 all w) := by
 obtain ⟨i0, hi0, hz0, hz1, hz2⟩ := info_parts Tryz.info35;have hp41 := hz.le41;have hp0 := hz.per.1;have hsl : all.length <= 1681 := by
  rw [hal];have h1 := hz.slots_le;have h2 : x.leaves * x.per <= 41 * 41 := Nat.mul_le_mul hp41.1 hp41.2;omega
 have h0 : 0 < w.heap.size := by have := h.base; have := h.base_le; omega
 have HCh := hid (chunks_ok (w := w) (b := b) (off := off) (n := all.length) (c := cc) (per := x.per) (m := x.leaves) ⟨hp0, by omega⟩ (by omega) hcc (fun k => by rw [hal]; exact leaves_iff hp0 k) (by omega));have HD := hid hD;have HZ := hi2 hz (aI hal (aI har hrs));have HA := hid hall;have H0 := hi2 h (aI hT hown);obtain ⟨m, hm⟩ : ∃ m, x.leaves = m := ⟨_, rfl⟩
 have HM := hid hm;rw [hm] at HCh hN hM hlen ⊢;have hm41 : m <= 41 := by omega
 obtain ⟨c0', c1, c2, c3, c4, c5, cz, cl⟩ := cells6 hD;have hblen : b < w.heap.size \/ all = [] := by
  cases all with
  | nil => exact .inr rfl
  | cons z l => obtain ⟨b', o', e, hb, _⟩ := hall.row.at_ 0 z rfl; cases e; exact .inl hb
 clear h hz hT hown hall hal har hD hm;go_enter Tryz.func122, Tryz.ntmps122;go_wp2_with (go_at_call 184; refine HCh.out.mono ?_)
 rintro e W1 ⟨v1, rfl, hch, F1⟩;have HF1 := hid F1;obtain ⟨va, vc, rfl, -⟩ := oSl hch;have HCH := hid hch;have hI0 : LayI W1 W1 B (fun b => ta = some ⟨b, 0, none⟩) y P a N x.rp tops.length x.per rest M K c0 all b1 b ta tc tops y 0 :=
  ⟨H0.out.1.fr0 F1, by have := H0.out.2.1; exact ⟨this.live, this.right, this.rr, fun j r bs hj hC => by simp [layC] at hC, this.calm, this.keep⟩, by simp, oRf H0.out.2.2 F1 (fun _ _ _ h => h), fun g hg => ⟨hne g hg, .inr hg⟩, ⟨Like.refl y, rfl, rfl⟩, FrX.refl _ _ _⟩
 have HI0 := hid hI0;have HD1 := hid (show DirAt W1 bd B.s x from F1.heap HD.out (fun h => h));have HA1 := hid (HA.out.fr0 F1);clear hch F1 hI0 c0' c1 c2 c3 c4 c5 cz cl HCh;go_wp2_with fail
 go_loopw [1, 19] (fun tv i wr => ∃ (k : Nat) (ta' : Option Addr) (tc' : Nat) (tk : List Rf) (yk : Cs), k <= m /\ i = .int .i64 k /\ tv = .slice ta' tk.length tc' /\ LayI W1 wr B (fun b => ta = some ⟨b, 0, none⟩) y P a N x.rp tops.length x.per rest M K c0 all b1 b ta' tc' tk yk k) (fun _ i _ => m - (intOf i).toNat)
 case atStart => exact ⟨0, ta, tc, tops, y, Nat.zero_le _, rfl, rfl, HI0.out⟩
 case round =>
  obtain ⟨k, ta', tc', tk, yk, hk, rfl, rfl, hI⟩ := hrel;have hF := hI.fr;have HI := hid hI;have hX35 : ∀ g, ta = some ⟨g, 0, none⟩ -> ∃ c, W1.heap[g]? = some (.cells c 35) := fun g e => (oBT HI0.out.own (g := g) (by rw [e]; rfl)).2
  have hXd : ¬ ta = some ⟨bd, 0, none⟩ := fun e => by
   obtain ⟨c, hc⟩ := hX35 bd e;have := HD1.out;unfold DirAt at this;rw [hc] at this; cases this
  have hDr := HD1.out.frX hI.fr hXd;obtain ⟨c0', c1, c2, c3, c4, c5, cz, cl⟩ := cells6 hDr;by_cases hlt : k < m
  ·have hd : decide ((k : Int) < (m : Int)) = true := by simp; omega
   have hrow := oRf HCH.out hF (fun g c hg hs => by
    rcases hs with hs | hs
    ·exact absurd (hs.2.1 c 33 _ hg) (by decide)
    ·obtain ⟨c', hc'⟩ := hX35 g hs;rw [hc'] at hg; cases hg)
   obtain ⟨gv, rfl, hgv, hcv⟩ := own_cell hrow (show ((List.range m).map (chV b off all.length x.per))[k]? = some (chV b off all.length x.per k) by simp [hlt]);have hcl : (chunk all x.per k).length <= 41 := by rw [chunk_len]; omega
   obtain ⟨e, he⟩ : ∃ e, (chunk all x.per k).length = e := ⟨_, rfl⟩
   have hcvv : chV b off all.length x.per k = .slice (some ⟨b, off + k * x.per * 2, none⟩) e e := by
    rw [<- he, chunk_len]; rfl
   rw [hcvv] at hcv;have hXb : ∀ b' off', (some ⟨b, off, none⟩ : Option Addr) = some ⟨b', off', none⟩ -> all ≠ [] -> ¬ ta = some ⟨b', 0, none⟩ := fun b' off' e _ e' => by
    cases e;exact hne b e' rfl
   have hTk := rowT_chunk (HA1.out.frX hI.fr hXb) x.per k;have HLd := hid (fun W (F : Fq wr W) => load_ok (c := e) ((hTk.fr0 F).row) (chunk_right HZ.out.2.2.1 x.per k) he (by omega));have HE := hid he;have hpgk : yk.pages = y.pages := hI.like.1.pages;have hrm : yk.room = y.room := hI.like.1.room;have hlen' : tk.length <= m := by rw [hI.len]; omega
   have hfree := hI.tops.live.free (by simp only [pgs, lA, lC, List.length_map]; omega);have h12e : 12 * e <= y.room := by
    have h1 := HZ.out.1.per.2;have h2 : e <= x.per := (by rw [<- he, chunk_len]; omega);omega
   have hki : (k : Int) < (m : Int) := by omega
   have HDr := hid hDr;by_cases hk0 : k < tk.length
   ·obtain ⟨r, hr⟩ : ∃ r, tk[k]? = some r := ⟨_, gE hk0⟩
    have hd0 : decide ((k : Int) < (tk.length : Int)) = true := (by simp; omega);obtain ⟨hp1, hp2, hp3, hp4⟩ := hI.tops.page hr;obtain ⟨r1, r2⟩ := r;obtain ⟨pn, rfl⟩ := iZ (hI.tops.right _ (gM hr)).1;simp only [Int.toNat_natCast] at hp2 hp3 hp4;obtain ⟨g, rfl, hg, g0, g1⟩ := ownR_at hI.own hr;simp only at g0 g1;have hgb : ∃ cg, wr.heap[g]? = some (.cells cg 35) := (oBT hI.own (g := g) rfl).2
    have hgbd : ¬ bd = g := fun e => by
     obtain ⟨cg, hcg⟩ := hgb;unfold DirAt at hDr;rw [e, hcg] at hDr; cases hDr
    have HG := hid (fun W (F : FrB B wr W) => show W.cell? ⟨g, k * 2, none⟩ = wr.cell? ⟨g, k * 2, none⟩ /\ W.cell? ⟨g, k * 2 + 1, none⟩ = wr.cell? ⟨g, k * 2 + 1, none⟩ /\ (∃ cg, W.heap[g]? = some (.cells cg 35)) by
     obtain ⟨cg, hcg⟩ := hgb;have hn : ¬ (B.base <= g /\ MutB B wr g) := fun hs => absurd (hs.2.1 cg 35 _ hcg) (by decide)
     exact ⟨Fr.cell F (p := ⟨g, _, none⟩) hg hn, Fr.cell F (p := ⟨g, _, none⟩) hg hn, ⟨cg, FrB.heap F hcg (by decide)⟩⟩)
    have HW := hid (fun W la lc (F : Fq wr W) (hb : ByV W la (12 * (chunk all x.per k).length) lc (loadM (chunk all x.per k))) => write_u (hI.st.fr0 F) pn r2 (hb.inp B) (loadM_byte _) (by rw [hrm, he]; exact h12e) hp2 hp3 hp4 hfree (by omega));have HR := hid hr;have HG0 := hi2 g0 g1;have hki0 : (k : Int) < (tk.length : Int) := (by omega);clear hI hF hX35 hDr hrow hTk he hr hcvv hp1 hpgk hrm hp2 hp3 hp4 hfree hcl;go_wp2_with fail
    have hgbd' : ¬ g = bd := fun e => hgbd e.symm
    go_region_law (first
     | ((try go_simp); go_at_call 119; refine (HLd.out _ (by first | exact Fr.refl _ _ | exact (Fr.refl _ _).drew)).mono ?_; rintro _ W5 ⟨la, lc, rfl, hb, F5⟩; have F5w : Fq wr W5 := (by first | exact F5 | exact ((Fr.refl _ _).drew).trans F5 (fun _ _ h => h)); have g0 := (HG.out W5 (FrB.none F5w)).1.trans HG0.out.1; have g1 := (HG.out W5 (FrB.none F5w)).2.1.trans HG0.out.2; obtain ⟨c0', c1, c2, c3, c4, c5, cz, cl⟩ := cells6 (HDr.out.frB (FrB.none (B := B) F5w)))
     | ((try go_simp); go_at_call 26; refine (HW.out _ _ _ F5w hb).mono ?_; rintro _ W6 ⟨p6, s6, err, rfl, F6, hr6⟩; have F6w : FrB B wr W6 := FrB.trans (FrB.none F5w) F6; have g0 := (HG.out W6 F6w).1.trans HG0.out.1; have g1 := (HG.out W6 F6w).2.1.trans HG0.out.2; obtain ⟨cg, hcg⟩ := (HG.out W6 F6w).2.2; have gz := fun o => foh hcg o; have gl := loh hcg))
    all_goals (
     rcases hr6 with ⟨rfl, m', rfl, rfl, hm', hS6⟩ | ⟨rfl, ha, hDn⟩
     ·have hL := LayI.put HI.out hpg hb1 HR.out hm' F6w hS6;have HL := hid hL;clear hm' hS6 hL g0 g1 gz gl hcg F6w F6 F5w F5 hb c0' c1 c2 c3 c4 c5 cz cl;go_wp2_with fail
      go_roundw;case rel => exact ⟨k + 1, _, _, _, _, hlt, by go_num, by rw [List.length_set], HL.out⟩
      case measure => simp [intOf]; omega
     ·have hF6 := FrX.trans HI.out.fr (FrX.of F6w);have HY := hi2 ha (aI hDn (aI hF6 hcg));clear ha hDn hF6 hcg F6w F6 F5w F5 hb c0' c1 c2 c3 c4 c5 cz cl;go_wp2_with fail
      go_ret;refine ⟨4, rfl, lay_fr HF1.out (set2_frX HY.out.2.2.1 (HI.out.blk g rfl).2 _ _), .inr ⟨rfl, HY.out.1, (set2_down (down_like HY.out.2.1 HI.out.like.1) HY.out.2.2.2 _ _).mono (by omega)⟩⟩)
   ·have hd0 : decide ((k : Int) < (tk.length : Int)) = false := (by simp; omega);have hdl : tops.length <= k := (by have := hI.len; omega);obtain ⟨wr1, hwr1⟩ : ∃ wr1, wr.alloc (.cells #[.int .i64 0, .int .i64 0] 35) = wr1 := ⟨_, rfl⟩
    have hFa : Fq wr wr1 := (by rw [<- hwr1]; exact (Fr.refl _ _).alloc _);have hba : wr1.heap[wr.heap.size]? = some (.cells #[.int .i64 0, .int .i64 0] 35) := (by rw [<- hwr1]; exact han _ _);have HW := hid (fun W la lc (F : Fq wr W) (hb : ByV W la (12 * (chunk all x.per k).length) lc (loadM (chunk all x.per k))) => new_u (hI.st.fr0 F) (hb.inp B) (loadM_byte _) (by rw [hrm, he]; exact h12e) hfree (by omega));have HFA := hid hFa;have HBA := hid hba;have HWR := hid hwr1;have hDr1 : DirAt wr1 bd B.s x := hFa.heap hDr (fun h => h);have HDr1 := hid hDr1;have hbb : ¬ bd = wr.heap.size := (by omega);have hbb' : ¬ wr.heap.size = bd := (by omega);have hszl := loh hba;clear hI hF hX35 hDr hrow hTk he hcvv hpgk hrm hfree hcl hFa hba hwr1 c0' c1 c2 c3 c4 c5 cz cl;obtain ⟨c0', c1, c2, c3, c4, c5, cz, cl⟩ := cells6 hDr1;clear hDr1;go_upto_region 8 with fail
    rw [HWR.out];go_region_held3 (fun W => W.cell? ⟨bd, 0, none⟩ = some (.pointer (some ⟨B.s, 0, none⟩))) (go_keep) (first
     | (go_at_call 119; refine (HLd.out _ (by first | exact HFA.out | exact HFA.out.drew)).mono ?_; rintro _ W5 ⟨la, lc, rfl, hb, F5⟩; have F5w : Fq wr1 W5 := (by first | exact F5 | exact ((Fr.refl _ _).drew).trans F5 (fun _ _ h => h)); obtain ⟨c0', c1, c2, c3, c4, c5, cz, cl⟩ := cells6 (HDr1.out.frB (FrB.none (B := B) F5w)))
     | (go_at_call 22; refine (HW.out _ _ _ (HFA.out.trans F5w (fun _ _ h => h)) hb).mono ?_; rintro _ W6 ⟨p6, s6, err, rfl, F6, hr6⟩; have F6w : FrB B wr1 W6 := FrB.trans (FrB.none F5w) F6; have hbx := FrB.heap F6w HBA.out (by decide); obtain ⟨g0, g1, gz, gl⟩ := cells2 hbx; obtain ⟨c0', c1, c2, c3, c4, c5, cz, cl⟩ := cells6 (HDr1.out.frB F6w)))
    obtain ⟨W7, hW7⟩ : ∃ W7, (W6.setCell ⟨wr.heap.size, 0, none⟩ (.int .i64 p6)).setCell ⟨wr.heap.size, 1, none⟩ (.int .i64 s6) = W7 := ⟨_, rfl⟩
    rw [hW7];have hf7 : Fr (fun b => b = wr.heap.size) W6 W7 := (by rw [<- hW7]; exact set2_f _ _);have b7 : W7.heap[wr.heap.size]? = some (.cells #[.int .i64 p6, .int .i64 s6] 35) := by
     rw [<- hW7, hsc _ _ _ _ (hsc _ _ _ _ hbx)]; rfl
    have hF67 : FrX B (fun b => ta = some ⟨b, 0, none⟩) W1 W7 := by
     rw [<- hW7];exact set2_frX (FrX.trans HI.out.fr (FrX.trans (FrX.none HFA.out) (FrX.of F6w))) (.inl HI.out.fr.size) _ _
    have hoblt : ∀ g, some g = (Value.slice ta' tk.length tc').ownBlock -> g < wr.heap.size := fun g e => by
     obtain ⟨_, c, hc⟩ := oBT HI.out.own e;exact loh hc
    have hown7 : OwnR W7 b1 (.slice ta' tk.length tc') tk := by
     have h1 : OwnR wr1 b1 (.slice ta' tk.length tc') tk := oRf HI.out.own HFA.out (fun _ _ _ h => h);have h2 : OwnR W6 b1 (.slice ta' tk.length tc') tk := oRf h1 F6w (fun g' c' hg' hs => absurd (hs.2.1 c' 35 _ hg') (by decide));obtain ⟨hl, h0' | ⟨g', cap, cur, hv, hb', hg', r⟩⟩ := h2
     ·exact ⟨hl, .inl h0'⟩
     ·exact ⟨hl, .inr ⟨g', cap, cur, hv, hb', hf7.heap hg' (by have := hoblt g' (by rw [hv]; rfl); omega), r⟩⟩
    have hb1' : b1 <= W7.heap.size := nT hbs (nT HF1.out.size hF67.size);obtain ⟨d0, d1, dz, dl⟩ := cells2 b7;have HO7 := hi2 hown7 (aI hF67 (aI hf7 hbx));have HS6 := hid hr6;have hszz : wr.heap.size < W7.heap.size := dl;clear hW7 b7 hF67 hown7 hf7 hbx hr6 g0 g1 gz gl c0' c1 c2 c3 c4 c5 cz cl F6w F6 F5w F5 hb;go_wp2_with (at_builtin; refine wpList_append_own_at _ rfl (.tmp 55) (.tmp 57) 33 rfl b1 35 i0 _ 2 16 Tryz.underlying33 hi0 hz0 hz1 hz2 rfl (by decide) _ _ _ rfl (HO7.out.1.alloc _) ⟨W7.heap.size, 0, none⟩ 1 1 [.int .i64 p6, .int .i64 s6] rfl rfl (World.news_of_block (cs := #[.int .i64 p6, .int .i64 s6]) (t := 35) (fr := (0, 0)) (han _ _)) (by simp [Value.oneCell']) (by simp only [maxLen]; omega) (by omega) (by simp; omega) ?_)
    intro v8 W8 hown8 hg8 hnil8 hat8;have hF8 : FrX B (fun b => ta = some ⟨b, 0, none⟩) W1 W8 := by
     refine Fr.trans (S' := fun b => some b = (Value.slice ta' tk.length tc').ownBlock) ((HO7.out.2.1).alloc (.cells #[.int .i64 p6, .int .i64 s6] 35)) ⟨hg8.os, hg8.tape, hg8.output, hg8.size, fun b hb hn => hg8.block b hb hn⟩ (fun b hb e => ?_);obtain ⟨g', -, hg'⟩ : ∃ g' : Nat, g' = b /\ ta' = some ⟨b, 0, none⟩ := ⟨b, rfl, by
      obtain ⟨_, ⟨h0, _⟩ | ⟨g'', cap, cur, hv, _⟩⟩ := HI.out.own
      ·rw [h0] at e; simp [Value.ownBlock] at e
      ·rw [hv] at e; simp [Value.ownBlock] at e; subst e; cases hv; rfl⟩
     rcases (HI.out.blk b hg').2 with h | h
     ·omega
     ·exact .inr h
    obtain ⟨ta8, tc8, rfl, -⟩ := oSl hown8;have hblk8 : ∀ g, ta8 = some ⟨g, 0, none⟩ -> g ≠ b /\ (W1.heap.size <= g \/ ta = some ⟨g, 0, none⟩) := fun g e => by
     rcases hat8 with h | h
     ·rw [e] at h;have hta : ta' = some ⟨g, 0, none⟩ := by
       obtain ⟨_, ⟨h0, _⟩ | ⟨g'', cap, cur, hv, _⟩⟩ := HI.out.own
       ·rw [h0] at h; simp [Value.ownBlock] at h
       ·rw [hv] at h; simp [Value.ownBlock] at h; subst h; cases hv; rfl
      exact HI.out.blk g hta
     ·rw [e] at h;simp [Value.ownBlock] at h;have h1 := HI.out.fr.size;refine ⟨fun e' => ?_, .inl (by omega)⟩;rcases hblen with hb' | hb'
      ·have := HF1.out.size; omega
      ·have h3 := HZ.out.2.1;have h2 : 0 < x.slots := Nat.pow_pos (by decide);have h4 : all.length = 0 := (by rw [hb']; rfl);omega
    have H8 := hi2 hown8 (aI hF8 hblk8);have hgr := hid hg8;clear hown8 hF8 hblk8 hg8 hnil8 hat8 d0 d1 dz dl;rcases HS6.out with ⟨rfl, m', rfl, rfl, hm', hS6⟩ | ⟨rfl, ha, hDn⟩
    ·have hS7 : StoreC W7 B (yk.new m' (loadM (chunk all x.per k))) P a (N + k + 1) := hS6.frL HO7.out.2.2.1 HO7.out.2.2.2 (by decide) (by omega);have hS8 := (hS7.fr0 ((Fr.refl (fun _ => False) W7).alloc (.cells #[.int .i64 m', .int .i64 yk.gen] 35))).grown0 (HO7.out.1.alloc _) (by decide) hb1 hgr.out;have HL := hid (LayI.new HI.out hpg hdl hm' H8.out.2.1 hS8 H8.out.1 H8.out.2.2);clear hm' hS6 hS7 hS8;go_wp2_with fail
     go_roundw;case rel => exact ⟨k + 1, _, _, _, _, hlt, by go_num, by rw [lA]; rfl, HL.out⟩
     case measure => simp [intOf]; omega
    ·have hD7 : DownC W7 B yk P (N + k + 1) := hDn.frL HO7.out.2.2.1 HO7.out.2.2.2 (by decide);have hD8 := down_grown (hD7.fr0 ((Fr.refl (fun _ => False) W7).alloc (.cells #[.int .i64 p6, .int .i64 s6] 35))) (HO7.out.1.alloc _) (by decide) hgr.out;have HY := hi2 ha hD8;clear ha hDn hD7 hD8;go_wp2_with fail
     go_ret;exact ⟨4, rfl, lay_fr HF1.out H8.out.2.1, .inr ⟨rfl, HY.out.1, (down_like HY.out.2 HI.out.like.1).mono (by omega)⟩⟩
  ·obtain rfl : k = m := by omega
   have hd : decide ((k : Int) < (k : Int)) = false := by simp
   obtain ⟨hp1, hp2, hp3, hp4⟩ := hI.tops.rpage;have htl : tk.length = k := by rw [hI.len]; omega
   obtain ⟨ta2, tc2, hsv, hTT⟩ := rowT_of_own hI.own;obtain ⟨rfl, rfl⟩ : ta' = ta2 /\ tc' = tc2 := by cases hsv; exact ⟨rfl, rfl⟩
   clear hsv;have hfree := hI.tops.live.free (by have h1 : yk.pages = y.pages := hI.like.1.pages; simp only [pgs, lA, lC, List.length_map]; omega);have h12 : 12 * tk.length <= yk.room := by
    have h1 : yk.room = y.room := hI.like.1.room;have h2 := HZ.out.1.leaves;rw [h1, htl, <- HM.out]; exact h2
   have HLd := hid (fun W (F : Fq wr W) => load_ok (c := tc') ((hTT.fr0 F).row) hI.tops.right rfl (by omega));have HW := hid (fun W la lc (F : Fq wr W) (hb : ByV W la (12 * tk.length) lc (loadM tk)) => show Calls Tryz.prog 26 #[B.ptr, ref2 x.rp x.rs, .slice la (12 * tk.length) lc] W (WriteU B yk P a (N + k) x.rp.toNat (loadM tk) W) by
    have := write_u (hI.st.fr0 F) x.rp.toNat x.rs (hb.inp B) (loadM_byte _) h12 hp2 hp3 hp4 hfree (by omega);rw [<- hp1] at this;exact this)
   have HDr := hid hDr;clear hI hF hX35 hDr hp1 hp2 hp3 hp4 htl hTT hfree h12;go_wp2_with fail
   go_region_law (first
    | ((try go_simp); go_at_call 119; refine (HLd.out _ (by first | exact Fr.refl _ _ | exact (Fr.refl _ _).drew)).mono ?_; rintro _ W5 ⟨la, lc, rfl, hb, F5⟩; have F5w : Fq wr W5 := (by first | exact F5 | exact ((Fr.refl _ _).drew).trans F5 (fun _ _ h => h)); obtain ⟨c0', c1, c2, c3, c4, c5, cz, cl⟩ := cells6 (HDr.out.frB (FrB.none (B := B) F5w)))
    | ((try go_simp); go_at_call 26; refine (HW.out _ _ _ F5w hb).mono ?_; rintro _ W6 ⟨p6, s6, err, rfl, F6, hr6⟩; have F6w : FrB B wr W6 := FrB.trans (FrB.none F5w) F6; have hD6 := HDr.out.frB F6w; obtain ⟨c0', c1, c2, c3, c4, c5, cz, cl⟩ := cells6 hD6))
   all_goals (
    rcases hr6 with ⟨rfl, m', rfl, rfl, hm', hS6⟩ | ⟨rfl, ha, hDn⟩
    ·have hE := lay_end (W6 := W6) (x := x) (len0 := tops.length) (by rw [HM.out]; exact HI.out) HZ.out.1 (by rw [HM.out]; exact hlen) HZ.out.2.1 HZ.out.2.2.1 hm' (by rw [HM.out]; exact hS6);rw [HM.out] at hE;have hd9 : DirAt ((W6.setCell ⟨bd, 4, none⟩ (.int .i64 m')).setCell ⟨bd, 5, none⟩ (.int .i64 yk.gen)) bd B.s { x with rp := m', rs := y.gen } := by
      rw [<- HI.out.like.2.1]; exact dir_set hD6 _ _
     have hf9 := lay_fin (X := fun b => ta = some ⟨b, 0, none⟩) (bd := bd) (lay_fr (Y := fun b => b = bd) HF1.out (FrX.trans HI.out.fr (FrX.of F6w))) (.int .i64 m') (.int .i64 yk.gen);have H9 := hi2 hE (aI hd9 (aI hf9 hD6));clear hm' hS6 hE hd9 hf9 hD6 F6w F6 F5w F5 hb c0' c1 c2 c3 c4 c5 cz cl;go_wp2_with fail
     go_ret;obtain ⟨⟨y', e1, e2⟩, hd9, hf9, hD6⟩ := H9.out;exact ⟨0, rfl, hf9, .inl ⟨rfl, y', tk, m', hd9, dirset_st e1 hD6 (by have := H0.out.1.base; have := HD.out; exact bd_pos H0.out.1 HD.out) _ _, e2⟩⟩
    ·have hf9 := lay_fin (X := fun b => ta = some ⟨b, 0, none⟩) (bd := bd) (lay_fr (Y := fun b => b = bd) HF1.out (FrX.trans HI.out.fr (FrX.of F6w))) (.int .i64 p6) (.int .i64 s6);have H9 := hi2 ha (aI hDn (aI hf9 hD6));clear ha hDn hf9 hD6 F6w F6 F5w F5 hb c0' c1 c2 c3 c4 c5 cz cl;go_wp2_with fail
     go_ret;exact ⟨4, rfl, H9.out.2.2.1, .inr ⟨rfl, H9.out.1, dirset_down (down_like H9.out.2.1 HI.out.like.1) H9.out.2.2.2 _ _⟩⟩)
def dblM (l : List Rf) : List Rf := l.flatMap fun r => [r, r]
theorem dblM_len (l : List Rf) : (dblM l).length = 2 * l.length := by
 induction l with
 | nil => rfl
 | cons x l ih => simp only [dblM, List.flatMap_cons, lA] at ih ⊢; rw [ih]; simp; omega
theorem dblM_take (h : l[k]? = some r) : dblM (l.take (k + 1)) = dblM (l.take k) ++ [r, r] := by
 rw [List.take_add_one, h]; simp [dblM]
theorem dblM_right (h : ∀ r ∈ l, rightR r) : ∀ r ∈ dblM l, rightR r := fun r hr => by
 obtain ⟨x, hx, h1⟩ := List.mem_flatMap.1 hr;simp at h1; subst h1; exact h _ hx
theorem FrX.cut {w1 w2 : World} (h : FrX B Y w w1) (k : FrX B (fun b => X b \/ Y b) w1 w2) (hX : ∀ b, X b -> w.heap.size <= b) : FrX B Y w w2 :=
 (FrX.trans (h.mono fun _ _ h => h.imp id .inr) k).mono fun b hb hs => by
  rcases hs with hs | hs | hs
  ·exact .inl hs
  ·exact absurd hb (Nat.not_lt.2 (hX b hs))
  ·exact .inr hs
def DirU (B : Blk) (bd : Nat) (x : DirD) (y : Cs) (P : Prot) (a : Bool) (N : Nat) (rest : List Nat) (M : Nat) (K : Prop) (c0 : Cont) (all : List Rf) (w : World) (e : Ending) (w' : World) : Prop :=
 ∃ err, e = .returned (.int .i64 err) /\ FrX B (fun b => b = bd) w w' /\ ((err = 0 /\ ∃ (y' : Cs) (tk : List Rf) (m : Nat), DirAt w' bd B.s { x with rp := m, rs := y.gen } /\ StoreC w' B y' P a N /\ DirC y' { x with rp := m, rs := y.gen } tk all /\ Live y' (pgs m tk ++ rest) M /\
  (K -> AllFresh y' (pgs m tk ++ rest)) /\ (∀ k ∈ rest, y'.cont k = c0 k) /\ (Like y y' /\ y'.gen = y.gen /\ y'.dead = y.dead)) \/ (err = 4 /\ a = true /\ DownC w' B y P N))
theorem double_ok {slots : List Rf} (h : StoreC w B y P a N) (hD : DirAt w bd B.s x) (hC : DirC y x tops slots) (hdm : x.depth < x.most) (hpg : y.pages <= 2147483647) (hL : Live y (pgs x.rp tops ++ rest) M) (hK : K -> AllFresh y (pgs x.rp tops ++ rest)) (hc : ∀ k ∈ rest, y.cont k = c0 k)
  (hM : 1 + ({ x with depth := x.depth + 1 } : DirD).leaves + rest.length + 2 * M < y.pages) (hN : N + 100 <= 90000) :
  Calls Tryz.prog 49 #[dptr bd] w (DirU B bd { x with depth := x.depth + 1 } y P a (N + 100) rest M K c0 (dblM slots) w) := by
 obtain ⟨i0, hi0, hz0, hz1, hz2⟩ := info_parts Tryz.info35;have hp41 := hC.z.le41;have hsl : slots.length <= 1681 := by
  have h1 := hC.z.slots_le;have h2 : x.leaves * x.per <= 41 * 41 := Nat.mul_le_mul hp41.1 hp41.2;rw [hC.slen]; omega
 have h0 : 0 < w.heap.size := by have := h.base; have := h.base_le; omega
 have HTop := hid (fun W (F : Fq w W) => top_ok (h.fr0 F) (F.heap hD (fun h => h) : DirAt W bd B.s x) hC (by omega));have HD := hid hD;have HC := hid hC;have HL := hi2 hL (aI hK hc);have hd' : decide ((x.most : Int) <= (x.depth : Int)) = false := by simp; omega
 obtain ⟨c0', c1, c2, c3, c4, c5, cz, cl⟩ := cells6 hD;clear h hD hC hL hK hc;go_enter Tryz.func49, Tryz.ntmps49;go_wp2_with fail
 go_quiet (fail)
 go_wp2_with (go_at_call 120; refine (HTop.out _ ((Fr.refl _ _).drewN _)).mono ?_)
 rintro e W1 ⟨v1, err, rfl, F1, ⟨rfl, hown1, hS1⟩ | ⟨rfl, ha, hDn⟩⟩
 ·replace F1 : FrB B w W1 := FrB.trans (FrB.none ((Fr.refl _ _).drewN _)) F1
  have HAll := hid (all_ok hS1 (HD.out.frB F1) HC.out (by omega));have H1 := hi2 (show OwnR W1 w.heap.size v1 tops from hown1) F1;clear hown1 hS1 F1 c0' c1 c2 c3 c4 c5 cz cl;go_wp2_with (go_at_call 48; refine (HAll.out).mono ?_)
  rintro e W2 ⟨v2, err, rfl, F2, ⟨rfl, hown2, hS2⟩ | ⟨rfl, ha, hDn⟩⟩
  ·have hown12 : OwnR W2 w.heap.size v1 tops := oRf H1.out.1 F2 (fun g c hg hs => absurd (hs.2.1 c 35 _ hg) (by decide));obtain ⟨sa, sc, rfl, hT⟩ := rowT_of_own hown2;obtain ⟨n, hn⟩ : ∃ n, slots.length = n := ⟨_, rfl⟩
   have hn1 : n <= 1681 := by omega
   rw [hn];have H2 := hi2 hS2 (aI hT (aI (FrB.trans H1.out.2 F2) (aI hown12 hn)));have hsz2 : w.heap.size <= W2.heap.size := nT H1.out.2.size F2.size;clear hown2 hS2 F2 hT hown12 hn hsl;go_wp2_with fail
   go_loopw [6, 40] (fun v i wr => ∃ k : Nat, k <= n /\ i = .int .i64 k /\ OwnR wr W2.heap.size v (dblM (slots.take k)) /\ Fq W2 wr) (fun _ i _ => n - (intOf i).toNat)
   case atStart => exact ⟨0, Nat.zero_le _, rfl, World.ownsRow_nil _ _ _ _, Fr.refl _ _⟩
   case round =>
    obtain ⟨k, hk, rfl, hown, hF⟩ := hrel;have HR := hi2 hown hF;by_cases hlt : k < n
    ·have hd : decide ((k : Int) < (n : Int)) = true := (by simp; omega);obtain ⟨r, hr⟩ : ∃ r, slots[k]? = some r := ⟨_, gE (by rw [H2.out.2.2.2.2]; exact hlt)⟩
     obtain ⟨b, off, rfl, hb, g0, g1⟩ := (H2.out.2.1.fr0 hF).row.at_ k r hr;have hki : (k : Int) < (n : Int) := (by omega);have HRk := hid hr;have hdl : (dblM (slots.take k)).length = 2 * k := (by rw [dblM_len, lT, H2.out.2.2.2.2]; omega);have HDL := hid hdl;have hsz : W2.heap.size <= wr.heap.size := hF.size;clear hown hF hr hdl;go_upto_region 15 with fail
     obtain ⟨W4, hW4⟩ : ∃ W4, wr.alloc (.cells #[.int .i64 r.1, .int .i64 r.2] 35) = W4 := ⟨_, rfl⟩
     rw [hW4];have b4 : W4.heap[wr.heap.size]? = some (.cells #[.int .i64 r.1, .int .i64 r.2] 35) := (by rw [<- hW4]; exact han _ _);have F4 : Fq wr W4 := (by rw [<- hW4]; exact (Fr.refl _ _).alloc _);obtain ⟨e0, e1, ez, el⟩ := cells2 b4;have H4 := hi2 (oRf HR.out.1 F4 (fun _ _ _ h => h)) F4;clear b4 F4 hW4 g0 g1;go_wp2_with (at_builtin; refine wpList_append_own_at _ rfl (.tmp 44) (.tmp 47) 33 rfl W2.heap.size 35 i0 _ 2 16 Tryz.underlying33 hi0 hz0 hz1 hz2 rfl (by decide) _ _ _ rfl (H4.out.1.alloc _) ⟨W4.heap.size, 0, none⟩ 2 2 [.int .i64 r.1, .int .i64 r.2, .int .i64 r.1, .int .i64 r.2] rfl rfl (World.news_of_block (cs := #[.int .i64 r.1, .int .i64 r.2, .int .i64 r.1, .int .i64 r.2]) (t := 35) (fr := (0, 0)) (han _ _)) (by simp [Value.oneCell']) (by rw [HDL.out]; simp only [maxLen]; omega) (by rw [HDL.out]; omega) (by have := H4.out.2.size; simp; omega) ?_)
     intro v5 W5 hown5 hg5 hnil5 hat5;have F5 : Fq W2 W5 := (HR.out.2.trans (H4.out.2.alloc (.cells #[.int .i64 r.1, .int .i64 r.2, .int .i64 r.1, .int .i64 r.2] 35)) (fun _ _ h => h)).trans (grown_fr' (H4.out.1.alloc _) hg5) (fun b hb h => by omega);have H5 := hi2 hown5 F5;clear hown5 hg5 hnil5 hat5 F5;go_wp2_with fail
     go_roundw;case rel =>
      refine ⟨k + 1, hlt, by go_num, ?_, H5.out.2⟩;have e2 : (dblM (slots.take (k + 1))).flatMap refC = (dblM (slots.take k)).flatMap refC ++ [.int .i64 r.1, .int .i64 r.2, .int .i64 r.1, .int .i64 r.2] := (by rw [dblM_take HRk.out, List.flatMap_append]; rfl);have e3 : (dblM (slots.take (k + 1))).length = (dblM (slots.take k)).length + 2 := (by rw [dblM_take HRk.out, lA]; rfl);show W5.ownsRow _ 35 2 _ (dblM (slots.take (k + 1))).length ((dblM (slots.take (k + 1))).flatMap refC);rw [e2, e3];exact H5.out.1
     case measure => simp [intOf]; omega
    ·obtain rfl : k = n := by omega
     have hd : decide ((k : Int) < (k : Int)) = false := (by simp);have hks : slots.take k = slots := tL (by rw [H2.out.2.2.2.2]; exact nR _);rw [hks] at hown;have hdl : (dblM slots).length = 2 * k := (by rw [dblM_len, H2.out.2.2.2.2]);have hkp : 0 < k := by
      have h1 : slots.length = x.slots := HC.out.slen;have h2 : 0 < x.slots := Nat.pow_pos (by decide);have h3 := H2.out.2.2.2.2;omega
     obtain ⟨r0, hr0⟩ : ∃ r0, (dblM slots)[0]? = some r0 := ⟨_, gE (by omega)⟩
     obtain ⟨da, dc, rfl, hdc, -⟩ := oSl hown;obtain ⟨gb, rfl, hgb, -⟩ := ownR_at hown hr0;obtain ⟨ta, tc, rfl, -⟩ := oSl H2.out.2.2.2.1;have hF5 : Fr (fun b => b = bd) wr (wr.setCell ⟨bd, 3, none⟩ (.int .i64 ((x.depth + 1 : Nat) : Int))) := Fr.setCell (S := fun b => b = bd) (Fr.refl _ _) (fun _ => rfl) _;have hDr : DirAt wr bd B.s x := hF.heap (HD.out.frB H2.out.2.2.1) (fun h => h);have hD5 : DirAt (wr.setCell ⟨bd, 3, none⟩ (.int .i64 ((x.depth + 1 : Nat) : Int))) bd B.s { x with depth := x.depth + 1 } := by
      unfold DirAt at hDr ⊢;rw [hsc _ _ _ _ hDr];rfl
     have hnd : ∀ g c, wr.heap[g]? = some (.cells c 35) -> ¬ g = bd := fun g c hg e => by
      unfold DirAt at hDr;rw [e, hDr] at hg; cases hg
     have hbdp := bd_pos (H2.out.1.fr0 hF) hDr;have hS5 : StoreC (wr.setCell ⟨bd, 3, none⟩ (.int .i64 ((x.depth + 1 : Nat) : Int))) B y P a (N + 1 + 1 + x.leaves) := (H2.out.1.fr0 hF).frL hF5 hDr (by decide) hbdp;have hot : OwnR wr w.heap.size (.slice ta tops.length tc) tops := oRf H2.out.2.2.2.1 hF (fun _ _ _ h => h);have hot5 := oRf hot hF5 (fun g c hg => hnd g c hg);have hoa5 : OwnR (wr.setCell ⟨bd, 3, none⟩ (.int .i64 ((x.depth + 1 : Nat) : Int))) W2.heap.size (.slice (some ⟨gb, 0, none⟩) (dblM slots).length dc) (dblM slots) := oRf hown hF5 (fun g c hg => hnd g c hg);obtain ⟨a2, c2', hsv, hall⟩ := rowT_of_own hoa5;obtain ⟨rfl, rfl⟩ : a2 = some ⟨gb, 0, none⟩ /\ c2' = dc := by cases hsv; exact ⟨rfl, rfl⟩
     have hz' : DirZ y { x with depth := x.depth + 1 } := ⟨⟨hdm, HC.out.z.most.2⟩, HC.out.z.per, HC.out.z.fits, HC.out.z.room⟩;have hlm : x.leaves <= ({ x with depth := x.depth + 1 } : DirD).leaves := by
      unfold DirD.leaves DirD.slots;have h1 : 2 ^ x.depth <= 2 ^ (x.depth + 1) := Nat.pow_le_pow_right (by decide) (Nat.le_succ _);exact Nat.div_le_div_right (by simp only; omega)
     have h41' := hz'.le41.1;have hT0 : Tops y x.rp tops rest M K c0 (fun _ => none) := by
      have ht := HC.out.tops HL.out.1 HL.out.2.1 HL.out.2.2;exact ⟨ht.live, ht.right, ht.rr, fun j r bs hj hC => (by cases hC), ht.calm, ht.keep⟩
     have hgt : ∀ g, ta = some ⟨g, 0, none⟩ -> w.heap.size <= g /\ g < W2.heap.size := fun g e => by
      obtain ⟨h1, c, hc⟩ := oBT H2.out.2.2.2.1 (g := g) (by rw [e]; rfl);exact ⟨h1, loh hc⟩
     have hgb2 : W2.heap.size <= gb := (oBT hown (g := gb) rfl).1;have hLay := lay_ok (x := { x with depth := x.depth + 1 }) hS5 hD5 hz' HC.out.rr.2 hpg hT0 (by rw [HC.out.tlen]; exact hlm) (by rw [dblM_len, HC.out.slen]; unfold DirD.slots; simp only; rw [Nat.pow_succ]; omega) (dblM_right HC.out.leaf.sr) hM hot5 h0 (by have := hF.size; simp; omega) hall (fun g e => by have := hgt g e; omega) hdc (by omega);have hdep : ((x.depth + 1 : Nat) : Int) = (x.depth : Int) + 1 := (by simp);rw [hdep] at hLay;have HLay := hid hLay;have hF05 : FrX B (fun b => b = bd) w (wr.setCell ⟨bd, 3, none⟩ (.int .i64 ((x.depth + 1 : Nat) : Int))) := Fr.setCell (show FrX B (fun b => b = bd) w wr from FrX.trans (FrX.of H2.out.2.2.1) (FrX.none hF)) (fun _ => Or.inr rfl) _;rw [hdep] at hF05;have HF5 := hi2 hF05 hgt;have hd20 : x.depth <= 20 := (by have := HC.out.z.most; omega);obtain ⟨c0', c1, c2, c3, c4, c5, cz, cl⟩ := cells6 hDr;clear hown hF hF5 hDr hD5 hnd hS5 hot hot5 hoa5 hsv hall hz' hT0 hgt hLay hF05 hr0 hks hdep hdl;go_wp2_with (go_at_call 122; refine HLay.out.mono ?_)
     rintro e W9 ⟨err, rfl, F9, hres⟩;have HX := hi2 F9 hres;clear F9 hres c0' c1 c2 c3 c4 c5 cz cl;go_wp2_with fail
     go_ret;refine ⟨err, rfl, FrX.cut HF5.out.1 HX.out.1 (fun b hb => (HF5.out.2 b hb).1), ?_⟩;rcases HX.out.2 with ⟨rfl, y', tk, m', e1, e2, e3⟩ | ⟨rfl, e1, e2⟩
     ·exact .inl ⟨rfl, y', tk, m', e1, e2.mono (by omega) hN, e3⟩
     ·exact .inr ⟨rfl, e1, e2.mono (by omega)⟩
  ·have HX := hi2 ha (aI hDn (FrB.trans H1.out.2 F2));clear hDn ha F2;go_wp2_with fail
   go_ret;exact ⟨4, rfl, FrX.of HX.out.2.2, .inr ⟨rfl, HX.out.1, HX.out.2.1.mono (by omega)⟩⟩
 ·have HX := hi2 ha (aI hDn (FrB.trans (FrB.none ((Fr.refl _ _).drewN _)) F1));clear hDn ha F1;go_wp2_with fail
  go_ret;exact ⟨4, rfl, FrX.of HX.out.2.2, .inr ⟨rfl, HX.out.1, HX.out.2.1.mono (by omega)⟩⟩
end
section
open Go.Proofs Go.RowKit Go.Sg CP SF
structure SlI (w : World) (a : Option Addr) (n c : Nat) (l : List Int) : Prop where
 len : l.length = n
 at_ : ∀ (i : Nat) (k : Int), l[i]? = some k -> ∃ b off, a = some ⟨b, off, none⟩ /\ b < w.heap.size /\ w.cell? ⟨b, off + i, none⟩ = some (.int .i64 k)
 nil : a = none -> n = 0 /\ c = 0
variable {w w' : World} {a : Option Addr} {b3 bd c n s : Nat} {l : List Int}
theorem SlI.fr {S : Nat -> Prop} (h : SlI w a n c l) (F : Fr S w w') (hS : ∀ b off, a = some ⟨b, off, none⟩ -> b < w.heap.size -> l ≠ [] -> ¬ S b) : SlI w' a n c l :=
 ⟨h.len, fun i k hk => by
  obtain ⟨b, off, e, hb, h1⟩ := h.at_ i k hk;have hn : l ≠ [] := by rintro rfl; simp at hk
  exact ⟨b, off, e, nLL hb F.size, (F.cell (p := ⟨b, off + i, none⟩) hb (hS b off e hb hn)).trans h1⟩, h.nil⟩
theorem SlI.fr0 (h : SlI w a n c l) (F : Fq w w') : SlI w' a n c l := h.fr F (fun _ _ _ _ _ h => h)
theorem SlI.src (h : SlI w a n c l) : SrcV w (.slice a n c) n (l.map (Value.int .i64)) := by
 refine ⟨a, c, rfl, ?_⟩;cases a with
 | none =>
  obtain ⟨rfl, rfl⟩ := h.nil rfl;exact .inl ⟨rfl, rfl, rfl, by have := h.len; rw [List.length_eq_zero_iff.1 this]; rfl⟩
 | some ad =>
  refine .inr ⟨_, rfl, fun j u hj => ?_⟩;rw [gP] at hj;cases hl : l[j]? with
  | none => rw [hl] at hj; cases hj
  | some k =>
   rw [hl] at hj; cases hj;obtain ⟨b, off, e, _, hc⟩ := h.at_ j k hl;cases e;rw [addr_add0]; exact hc
abbrev OwnI (w : World) (base : Nat) (v : Value) (l : List Int) : Prop := w.ownsRow base 3 1 v l.length (l.map (Value.int .i64))
def CloneP (l : List Int) (w : World) (e : Ending) (w' : World) : Prop := ∃ v, e = .returned v /\ OwnI w' w.heap.size v l /\ Fq w w'
theorem clonei_ok (h : SlI w a n c l) (hn : n <= 100000) : Calls Tryz.prog 187 #[.slice a n c] w (CloneP l w) := by
 obtain ⟨i0, hi0, hz0, hz1, hz2⟩ := info_parts Tryz.info3;have q52 : ∀ (w : World) (a : Option Addr) (n c n' c' : Nat), (binOp .eql 52 (.slice a n c) (.slice none n' c')).run Tryz.prog w = .ok (.bool a.isNone) w := fun w a n c n' c' => Lib.run_eql_slice_nil w _ _ a n c n' c' Tryz.underlying52
 cases a with
 | none =>
  obtain ⟨rfl, rfl⟩ := h.nil rfl;have hl : l = [] := List.length_eq_zero_iff.1 h.len;subst hl;clear h;go_enter Tryz.func187, Tryz.ntmps187;go_wp2_with fail
  go_ret;exact ⟨_, rfl, World.ownsRow_nil _ _ _ _, Fr.refl _ _⟩
 | some ad =>
  have H := hid h;have hll := h.len;clear h;subst hll;go_enter Tryz.func187, Tryz.ntmps187;go_wp2_with (at_builtin; refine wpList_append_src rfl (.tmp 5) (.tmp 6) 52 rfl w.heap.size 3 i0 _ 1 8 Tryz.underlying52 hi0 hz0 hz1 hz2 rfl (by decide) _ _ _ rfl (own_litB _ _ (nR _) _ _ _ (by simp [go_sem])) _ l.length _ rfl ((H.out.fr0 ((Fr.refl _ _).alloc _)).src) (by simp) (by intro u hu; obtain ⟨x, _, rfl⟩ := List.mem_map.1 hu; rfl) (by simp [maxLen]; omega) (by omega) (by simp) ?_)
  intro v2 W2 hown2 hg2 hne2;have F12 : Fr (fun b => b = w.heap.size) w W2 := ((Fr.refl (fun b => b = w.heap.size) _).alloc _).trans (Fr.of_grownBy hg2) (fun b _ h => h);have F1 : Fq w W2 := F12.mono (fun b hb h => by omega);have HO := hi2 hown2 F1;clear hown2 hg2 hne2 F12 F1;go_wp2_with fail
  go_ret;have ho := HO.out.1;try simp only [List.nil_append, Nat.zero_add] at ho
  exact ⟨_, rfl, ho, HO.out.2⟩
def SortP (base : Nat) (v : Value) (l : List Int) (w : World) (e : Ending) (w' : World) : Prop :=
 e = .returned (.tuple #[]) /\ OwnI w' base v (l.mergeSort (fun x y => decide (x <= y))) /\ Fr (fun b => some b = v.ownBlock) w w'
theorem sorti_ok {base : Nat} {v : Value} (h : OwnI w base v l) (hn : l.length <= 100000) : Calls Tryz.prog 141 #[v] w (SortP base v l w) := by
 by_cases hv : v = .slice none 0 0
 ·subst hv;have hl : l = [] := by
   obtain ⟨_, ⟨_, h1⟩ | ⟨g, cap, cur, h1, _⟩⟩ := h
   ·exact List.length_eq_zero_iff.1 h1
   ·cases h1
  subst hl;refine (AnyM.slices_Sort_int_none Tryz.sortA none 0 w).mono ?_;rintro e w' ⟨rfl, rfl⟩;exact ⟨rfl, by rw [List.mergeSort_nil]; exact World.ownsRow_nil _ _ _ _, Fr.refl _ _⟩
 ·obtain ⟨g, cap, rfl, hb, hg, hnc, hcm, hl, hH⟩ := Go.Lib.holds_of_ownsRow (enc := Value.int .i64) h hv;refine (AnyM.slices_Sort_int Tryz.sortA g 0 cap l w hH hg (by omega)).mono ?_;rintro e w' ⟨rfl, q, os, rfl⟩;have hlen : (l.mergeSort (fun x y => decide (x <= y))).length = l.length := List.length_mergeSort _;have h1 := Go.Lib.ownsRow_putRow (q := q) (k := l.length) (ys := l.mergeSort (fun x y => decide (x <= y))) h hlen (nR _);rw [tL (by rw [hlen]; exact nR _)] at h1;have F1 : Fr (fun b => some b = (Value.slice (some ⟨g, 0, none⟩) l.length cap).ownBlock) w (Go.Sort.putRow (Value.int .i64) (Go.Sort.ahead w q) g 0 (l.mergeSort (fun x y => decide (x <= y))).toArray) :=
   ⟨rfl, rfl, rfl, by simp [Go.Sort.putRow, Go.Sort.mapBlock, Go.Sort.ahead], fun b hb hn => by
    have : g ≠ b := fun e => hn (by rw [e]; rfl)
    simp [Go.Sort.putRow, Go.Sort.mapBlock, Go.Sort.ahead, Array.getElem?_modify, this]⟩
  have F2 : ∀ W : World, Fq W (Go.Sort.grow W os) := fun W =>
   ⟨rfl, rfl, rfl, by simp [Go.Sort.grow], fun b hb _ => by simp [Go.Sort.grow, Array.getElem?_append_left hb]⟩
  refine ⟨rfl, ?_, F1.trans (F2 _) (fun _ _ h => h.elim)⟩;have h2 := oRf h1 (F2 _) (fun _ _ _ h => h);show World.ownsRow _ base 3 1 _ (l.mergeSort (fun x y => decide (x <= y))).length _;rw [hlen]; exact h2
def outB (n : Nat) (k : Int) : Bool := decide (k < 0) || decide ((n : Int) <= k)
variable {x : DirD}
theorem set1_ok (hD : DirAt w bd s x) (hb : w.heap[b3]? = some (.cells #[dptr bd] 83)) (hd : x.depth <= 20) (k : Int) : Calls Tryz.prog 124 #[.int .i64 k, .pointer (some ⟨b3, 0, none⟩)] w (QuietP (.bool (outB x.slots k)) w) := by
 have HSl := hid (slots_ok hD hd);have cb := coh hb 0;simp at cb;clear hD hb;by_cases h0 : k < 0
 ·have d1 : decide (k < 0) = true := decide_eq_true h0;go_enter Tryz.func124, Tryz.ntmps124;go_wp2_with fail
  go_ret;exact ⟨by simp [outB, d1], 0, rfl⟩
 ·have d1 : decide (k < 0) = false := decide_eq_false h0;go_enter Tryz.func124, Tryz.ntmps124;go_wp2_with (go_at_call 125; refine HSl.out.mono ?_)
  rintro e W2 ⟨rfl, m, rfl⟩;go_wp2_with fail
  refine bodyPost_ret (v := .bool (outB x.slots k)) (by simp [results, go_sem, outB, *]) rfl ⟨rfl, m, rfl⟩
def IdxP (n : Nat) (l : List Int) (w : World) (e : Ending) (w' : World) : Prop := ∃ z : Int, e = .returned (.int .i64 z) /\ decide (0 <= z) = l.any (outB n) /\ ∃ m, w' = w.drewN m
theorem index_ok (hD : DirAt w bd s x) (hb : w.heap[b3]? = some (.cells #[dptr bd] 83)) (hd : x.depth <= 20) (h : SlI w a n c l) (hn : n <= 100000) :
  Calls Tryz.prog 185 #[.slice a n c, .func (.func 124) #[] #[.pointer (some ⟨b3, 0, none⟩)]] w (IdxP x.slots l w) := by
 have H := hid h;have HB := hi2 hD hb;clear h hD hb;go_enter Tryz.func185, Tryz.ntmps185;go_wp2_with fail
 go_loopw [8] (fun i wr => ∃ k : Nat, k <= n /\ i = .int .i64 k /\ (∃ m, wr = w.drewN m) /\ (l.take k).any (outB x.slots) = false) (fun i _ => n - (intOf i).toNat)
 case atStart => exact ⟨0, Nat.zero_le _, rfl, ⟨0, rfl⟩, rfl⟩
 case round =>
  obtain ⟨k, hk, rfl, ⟨m, rfl⟩, hall⟩ := hrel;have HA := hid hall;clear hall;by_cases hlt : k < n
  ·have hdl : decide ((k : Int) < (n : Int)) = true := by simp; omega
   obtain ⟨z, hz⟩ : ∃ z, l[k]? = some z := ⟨_, gE (by have := H.out.len; omega)⟩
   obtain ⟨b, off, rfl, hbl, hc⟩ := (H.out.fr0 ((Fr.refl _ _).drewN m)).at_ k z hz;have hki : (k : Int) < (n : Int) := by omega
   have HS1 := hid (set1_ok (w := w.drewN m) (show DirAt (w.drewN m) bd s x from HB.out.1) (show (w.drewN m).heap[b3]? = _ from HB.out.2) hd z);have htk : (l.take (k + 1)).any (outB x.slots) = outB x.slots z := by rw [List.take_add_one, hz, List.any_append, HA.out]; simp
   have HT := hi2 htk hz;clear hz htk;generalize hob : outB x.slots z = ob at *
   have HOB := hid hob;clear hob;go_wp2_with (go_at_call 124; refine HS1.out.mono ?_)
   rintro e W2 ⟨rfl, m2, rfl⟩;cases ob with
   | true =>
    go_wp2_with fail
    go_ret;refine ⟨_, rfl, ?_, _, rfl⟩;have h1 : l.any (outB x.slots) = true := List.any_eq_true.2 ⟨z, gM HT.out.2, HOB.out⟩;rw [h1]; simp
   | false =>
    go_wp2_with fail
    go_roundw;case rel => exact ⟨k + 1, hlt, by go_num, ⟨m + m2, by simp [World.drewN, Nat.add_assoc]⟩, HT.out.1⟩
    case measure => simp [intOf]; omega
  ·obtain rfl : k = n := by omega
   have hdl : decide ((k : Int) < (k : Int)) = false := by simp
   go_wp2_with fail
   go_ret;refine ⟨_, rfl, ?_, _, rfl⟩;have := HA.out;rw [tL (by rw [H.out.len]; exact nR _)] at this;rw [this]; rfl
theorem contains_ok (hD : DirAt w bd s x) (hb : w.heap[b3]? = some (.cells #[dptr bd] 83)) (hd : x.depth <= 20) (h : SlI w a n c l) (hn : n <= 100000) :
  Calls Tryz.prog 123 #[.slice a n c, .func (.func 124) #[] #[.pointer (some ⟨b3, 0, none⟩)]] w (QuietP (.bool (l.any (outB x.slots))) w) := by
 have HI := hid (index_ok hD hb hd h hn);clear hD hb h;go_enter Tryz.func123, Tryz.ntmps123;go_wp2_with (go_at_call 185; refine HI.out.mono ?_)
 rintro e W2 ⟨z, rfl, hz, m, rfl⟩;have HZ := hid hz;clear hz;go_wp2_with fail
 refine bodyPost_ret (v := .bool (decide (0 <= z))) (by simp [results, go_sem]) rfl ⟨by rw [HZ.out], m, rfl⟩
end
end Go.Proofs.YtgdhaaokolfdoaaGreatDoor
namespace Go.Sg
open Go.RowKit
variable {F : Fence} {n : Nat} {P : Program}
def SeqTell {α : Type} (F : Fence) (n : Nat) (P : Program) (g : Nat) (lb : Array Value) (encs : α -> Array Value) (T : α -> World -> Prop) (Kp : World -> World -> Prop) (S Sp : List α -> Prop) (N : Nat) (w : World) : Prop :=
 ∀ (l : Nat) (J Jx : List α -> World -> Prop) (W : World), Below w.heap.size w W -> OwnFrom W.heap.size J -> OwnFrom W.heap.size Jx ->
  (∀ pre x W1, J pre W1 -> T x W1 -> pre.length < N -> YieldAt F (n - 1) P l (encs x) W1 fun e W' => (e = .returned (.bool true) /\ J (pre ++ [x]) W' /\ Kp W1 W') \/ (e = .returned (.bool false) /\ Jx (pre ++ [x]) W')) ->
  J [] W -> CallsIn F n P g (#[.func (.yield l) #[] #[]] ++ lb) W fun e W' => (∃ v, e = .returned v) /\ ((∃ xs, S xs /\ J xs W') \/ (∃ pre, Sp pre /\ Jx pre W'))
theorem wpIn_range_tell {α : Type} {g : Operand} {ps : Array Tmp} {assign body : Code} {Q : Exit -> Act -> World -> Prop} {a : Act} {w : World}
  (hro : F.round = none) (h1 : 1 <= n) {gf : Nat} {lb : Array Value} (hg : a.eval g = .func (.func gf) #[] lb) (hFg : F.fn gf) (eg : ∀ args w, (callFunc gf args).run P w = .ok (.enter gf args) w)
  {encs : α -> Array Value} {Kp : World -> World -> Prop} {S Sp : List α -> Prop} {N : Nat} {w0 : World} {T : α -> World -> Prop} (I : List α -> World -> Prop) (hseq : SeqTell F (n - 1) P gf lb encs T Kp S Sp N w0)
  (hKt : ∀ {A B C : World}, Kp A B -> Kp B C -> Kp A C) (hKb : ∀ (W : World) (l : Nat) (o o' : Obj), w.heap.size <= l -> W.heap[l]? = some o -> o.isCells = false -> o.isWalk = false -> Kp W (W.putObj l o'))
  (hb0 : Below w0.heap.size w0 w) (hps : ∀ x, (encs x).size = ps.size)
  (Ix : Code -> List α -> World -> Prop) (hI : OwnFrom w.heap.size I) (hIx : ∀ c, OwnFrom w.heap.size (Ix c)) (h0 : I [] w) (Ax : α -> Act -> World -> Prop) (hAx : ∀ x a', OwnFrom w.heap.size (fun (_ : Unit) W => Ax x a' W))
  (hassign : ∀ (l : Nat) (pre : List α) (x : α) (W : World) (K : Act -> World -> Prop), I pre W -> T x W -> (∀ a' W', KeepsFrom w.heap.size W W' -> Kp W W' -> I pre W' -> Ax x a' W' -> K a' W') ->
   assign.wpIn (F.inRound l) (n - 1 - 1) P (Exit.then K (fun _ _ _ => False)) { tmps := (ps.zip (encs x)).foldl (fun t (p, v) => t.setIfInBounds p v) a.tmps, defers := [] } W)
  (hbody : ∀ (l : Nat) (pre : List α) (x : α) (a' : Act) (W : World), w.heap.size <= l -> (∃ r, W.heap[l]? = some (.loop r)) -> I pre W -> Ax x a' W -> pre.length < N -> body.wpIn (F.inRound l) (n - 1 - 1) P (bodyEnds w.heap.size Kp I Ix (pre ++ [x]) W) a' W)
  (hdone : ∀ (D : Nat) (xs : List α) (W : World), w.heap.size <= D -> S xs -> I xs W -> W.heap[D]? = some (.deferred (some [])) -> Q .normal { a with defers := { target := .collected D, args := #[] } :: a.defers } W)
  (hstop : ∀ (D : Nat) (c : Code) (pre : List α) (W : World), w.heap.size <= D -> Sp pre -> Ix c pre W -> W.heap[D]? = some (.deferred (some [])) -> c.wpIn F n P Q { a with defers := { target := .collected D, args := #[] } :: a.defers } W) :
  (Code.rangeFunc g ps assign body).wpIn F n P Q a w := by
 refine wpIn_rangeFunc fun fn hfn => ?_
 rw [hro];-- the loop's record, in whatever state
 let rec_ : LoopState -> Option Code -> Loop := fun st pe => { state := st, pending := pe, fn, tmps := a.tmps, params := ps, assign, body, defers := w.heap.size }
 obtain ⟨rd, hrd⟩ : ∃ rd, rd = rec_ := ⟨_, rfl⟩
 have rst : ∀ st pe, (rd st pe).state = st := fun st pe => by rw [hrd]
 have rpe : ∀ st pe, (rd st pe).pending = pe := fun st pe => by rw [hrd]
 obtain ⟨L, hL⟩ : ∃ L, L = w.heap.size + 1 := ⟨_, rfl⟩
 obtain ⟨W1, hW1⟩ : ∃ W1, (w.alloc (.deferred (some []))).alloc (.loop (rd .ready none)) = W1 := ⟨_, rfl⟩
 obtain ⟨hD1, hL1, F1⟩ := heap_two hW1;rw [<- hL] at hL1;have hI1 : I [] W1 := by rw [<- hW1]; exact hI.alloc _ (hI.alloc _ h0)
 have hb1 : Below w0.heap.size w0 W1 := by
  refine hb0.trans ((Fr.below (S := fun _ => False) F1 (fun _ _ h => h)).mono hb0.size)
 have hs1 : W1.heap.size = w.heap.size + 2 := by rw [<- hW1]; simp
 refine ⟨L, [{ target := .collected w.heap.size, args := #[] }], W1, { target := .fn (.func gf) lb, args := #[.func (.yield L) #[] #[]] }, W1, gf, #[.func (.yield L) #[] #[]] ++ lb, W1, ?_, ?_, ?_, ?_, fun _ => h1, ?_⟩
 ·rw [<- hW1, hL, hrd]; exact run_enterLoop_outer _ _ _ _ _
 ·simp only [resolve, hg];simp [go_sem]
 ·intro f' hf'; simp [Target.leads] at hf'; subst hf'; exact hFg
 ·simp [invoke, go_sem, eg]
 -- what the two blocks of the loop's own hold
 have hwalk : ∀ {A : World} {row : Option Nat}, (∀ r, row = some r -> W1.heap.size <= r /\ ∃ o : Obj, A.heap[r]? = some o /\ o.isCells = false) -> (∀ r, row = some r -> w.heap.size <= r /\ ∃ o : Obj, A.heap[r]? = some o /\ o.isCells = false) :=
  fun hr r e => by obtain ⟨hB, h⟩ := hr r e; exact ⟨by omega, h⟩
 have hold : ∀ {A B : World} {row : Option Nat} {b : Nat} {o : Obj}, A.grownBy B row -> (∀ r, row = some r -> W1.heap.size <= r /\ ∃ o : Obj, A.heap[r]? = some o /\ o.isCells = false) -> b < W1.heap.size -> A.heap[b]? = some o -> B.heap[b]? = some o :=
  fun hg' hr hb ho => (hg'.block _ (loh ho) (fun e => by have := (hr _ e.symm).1; omega)).trans ho
 have hY : ∀ pre x W, (I pre W /\ W.heap[L]? = some (.loop (rd .ready none)) /\ W.heap[w.heap.size]? = some (.deferred (some []))) -> T x W -> pre.length < N ->
   YieldAt F (n - 1 - 1) P L (encs x) W fun e W' => (e = .returned (.bool true) /\ (I (pre ++ [x]) W' /\ W'.heap[L]? = some (.loop (rd .ready none)) /\ W'.heap[w.heap.size]? = some (.deferred (some []))) /\ Kp W W') \/
    (e = .returned (.bool false) /\ ∃ c, Ix c (pre ++ [x]) W' /\ W'.heap[L]? = some (.loop (rd .done (some c))) /\ W'.heap[w.heap.size]? = some (.deferred (some []))) := by
  rintro pre x W ⟨hi, hl, hk⟩ hT hlen;have hy := run_yield (P := P) (args := encs x) hl (by rw [hrd]; exact hps x);rw [hrd] at hy;refine ⟨fn, _, assign, body, hy, roundIn_of_wpIn hfn (hassign _ pre x W _ hi hT fun a' Wa hka hkp hia hax => ?_)⟩;have hla := hka.same _ _ (by omega) hl rfl;have hka' := hka.same _ _ (nR _) hk rfl;have hlt : L < Wa.heap.size := loh hla;refine ⟨_, run_beginRound hla (rst _ _), ?_⟩;obtain ⟨busy, hbusy⟩ : ∃ busy : Loop, { rd .ready none with state := .busy } = busy := ⟨_, rfl⟩
  rw [hbusy];have hl2 : (Wa.putObj L (.loop busy)).heap[L]? = some (.loop busy) := World.putObj_heap_same hlt;have hk2 : (Wa.putObj L (.loop busy)).heap[w.heap.size]? = some (.deferred (some [])) := (World.putObj_heap_other (by omega)).trans hka';refine wpIn_mono (hbody _ pre x a' _ (by omega) ⟨_, hl2⟩ (hI.putObj _ hia (by omega) hla rfl) ((hAx x a').putObj (s := ()) _ hax (by omega) hla rfl) hlen) ?_;have fin : ∀ (jump : Option Code) (W3 : World), KeepsFrom w.heap.size (Wa.putObj L (.loop busy)) W3 ->
    (Instr.endRound L jump).run P W3 = .ok (.bool jump.isNone) (W3.putObj L (.loop (rd (if jump.isNone then .ready else .done) jump))) /\ W3.heap[L]? = some (.loop busy) /\
    (W3.putObj L (.loop (rd (if jump.isNone then .ready else .done) jump))).heap[L]? = some (.loop (rd (if jump.isNone then .ready else .done) jump)) /\
    (W3.putObj L (.loop (rd (if jump.isNone then .ready else .done) jump))).heap[w.heap.size]? = some (.deferred (some [])) := fun jump W3 hk3 => by
   have hl3 := hk3.same _ _ (by omega) hl2 rfl;refine ⟨?_, hl3, World.putObj_heap_same (loh hl3), (World.putObj_heap_other (by omega)).trans (hk3.same _ _ (nR _) hk2 rfl)⟩;have := run_endRound (P := P) jump hl3;rw [<- hbusy, hrd] at this;rw [hrd];exact this
  have hw2 : Kp Wa (Wa.putObj L (.loop busy)) := hKb _ _ _ _ (by omega) hla rfl rfl;rintro e a3 W3 hp;have out : ∀ c, KeepsFrom w.heap.size (Wa.putObj L (.loop busy)) W3 /\ Ix c (pre ++ [x]) W3 -> ∃ v W4, (Instr.endRound L (some c)).run P W3 = .ok v W4 /\ ((Ending.returned v = .returned (.bool true) /\ (I (pre ++ [x]) W4 /\ W4.heap[L]? = some (.loop (rd .ready none)) /\ W4.heap[w.heap.size]? = some (.deferred (some []))) /\ Kp W W4) \/
    (Ending.returned v = .returned (.bool false) /\ ∃ c, Ix c (pre ++ [x]) W4 /\ W4.heap[L]? = some (.loop (rd .done (some c))) /\ W4.heap[w.heap.size]? = some (.deferred (some [])))) := by
   rintro c ⟨hk3, hi3⟩;obtain ⟨hr, hl3, hl4, hk4⟩ := fin (some c) W3 hk3;exact ⟨_, _, hr, .inr ⟨rfl, c, (hIx c).putObj _ hi3 (by omega) hl3 rfl, hl4, hk4⟩⟩
  cases e with
  | normal =>
   obtain ⟨hk3, hkp3, hi3⟩ := hp;obtain ⟨hr, hl3, hl4, hk4⟩ := fin none W3 hk3;exact ⟨_, _, hr, .inl ⟨rfl, ⟨hI.putObj _ hi3 (by omega) hl3 rfl, hl4, hk4⟩, hKt hkp (hKt (hKt hw2 hkp3) (hKb _ _ _ _ (by omega) hl3 rfl rfl))⟩⟩
  | ret => exact out _ hp
  | exit id => exact out _ hp
  | goto t => exact out _ hp
  | panic ch => exact hp.elim
  | outgrown => exact hp.elim
 have hcall := hseq L (fun pre W => I pre W /\ W.heap[L]? = some (.loop (rd .ready none)) /\ W.heap[w.heap.size]? = some (.deferred (some [])))
  (fun pre W => ∃ c, Ix c pre W /\ W.heap[L]? = some (.loop (rd .done (some c))) /\ W.heap[w.heap.size]? = some (.deferred (some []))) W1 hb1
  (fun s A B row hs hg' hr => ⟨hI s A B row hs.1 hg' (hwalk hr), hold hg' hr (by omega) hs.2.1, hold hg' hr (by omega) hs.2.2⟩)
  (fun s A B row hs hg' hr => by
   obtain ⟨c, hc, hl, hk⟩ := hs;exact ⟨c, hIx c s A B row hc hg' (hwalk hr), hold hg' hr (by omega) hl, hold hg' hr (by omega) hk⟩)
  hY ⟨hI1, hL1, hD1⟩
 refine hcall.mono ?_;rintro e W2 ⟨⟨v, rfl⟩, (⟨xs, hS, hi, hl, hk⟩ | ⟨pre, hSp, c, hi, hl, hk⟩)⟩
 ·have hr := run_endLoop (P := P) hl (by rw [rst]; simp);rw [rpe] at hr;exact ⟨none, _, hr, hdone _ xs _ (nR _) hS (hI.putObj _ hi (by omega) hl rfl) ((World.putObj_heap_other (by omega)).trans hk)⟩
 ·have hr := run_endLoop (P := P) hl (by rw [rst]; simp);rw [rpe] at hr;exact ⟨some c, _, hr, hstop _ c pre _ (nR _) hSp ((hIx c).putObj _ hi (by omega) hl rfl) ((World.putObj_heap_other (by omega)).trans hk)⟩
end Go.Sg
