/- Chapter 17's index: buckets (140) and its iterator (202). Conditions: the index lies in the world as IdxM says. -/
import Derived.Test.YtgdhaaokolfdoaaGreatDoorNZA
set_option maxHeartbeats 16000000
set_option maxRecDepth 100000
set_option linter.all false
namespace Go.Proofs.YtgdhaaokolfdoaaGreatDoor
open Go.Proofs Go.RowKit Go.Sg Go.Shelf CP SF
attribute [local go_sem] Oper.semAt_some
theorem neq35x (p s q t : Int) (w : World) : (binOp .neq 35 (ref2 p s) (ref2 q t)).run Tryz.prog w = .ok (.bool (!(decide (p = q) && decide (s = t)))) w := by
 have h : Tryz.prog.underlying 35 = _ := Tryz.underlying35;go_simp;by_cases h1 : p = q <;> by_cases h2 : s = t <;> simp [h1, h2]
theorem buckets_ok (bx : Nat) (a : Option Addr) (n c be : Nat) (w : World) :
  Calls Tryz.prog 140 #[xptr bx, .slice a n c, .pointer (some ⟨be, 0, none⟩)] w fun e w' => e = .returned (.func (.func 202) #[] #[.pointer (some ⟨w.heap.size + 1, 0, none⟩), .pointer (some ⟨w.heap.size, 0, none⟩), .pointer (some ⟨w.heap.size + 2, 0, none⟩)]) /\ ((w.alloc (.cells #[xptr bx] 105)).alloc (.cells #[.slice a n c] 33)).alloc (.cells #[.pointer (some ⟨be, 0, none⟩)] 240) = w' := by
 go_enter Tryz.func140, Tryz.ntmps140;go_wp2_with fail
 go_ret;exact ⟨rfl, rfl⟩
structure Slt where
 s : Sd
 va : Option Addr
 vc : Nat
abbrev encS (x : Slt) : Array Value := #[slotV x.s.2.2.1 x.s.1 x.s.2.1 (.slice x.va x.s.2.2.2.length x.vc)]
def BkT (x : Slt) (W : World) : Prop := OwnE W 0 (.slice x.va x.s.2.2.2.length x.vc) x.s.2.2.2 /\ BkOk x.s.1 x.s.2.1 x.s.2.2.2
def RSt (B : Blk) (m bo : Nat) (A C : World) : Prop := FrB B A C \/ Fr (fun b => m <= b /\ (∃ c, A.heap[b]? = some (.cells c 131)) /\ ¬ PtB bo A b) A C
abbrev lastC (s : Sd) (va : Option Addr) (vc : Nat) : Array Value := #[.int .i64 s.2.2.1.1, .int .i64 s.2.2.1.2, .int .i64 s.1, .int .i64 s.2.1, .slice va s.2.2.2.length vc]
def LastI (bL : Nat) (pre : List Slt) (W : World) : Prop :=
 (pre = [] /\ W.heap[bL]? = some (.cells #[.int .i64 0, .int .i64 0, .int .i64 0, .int .i64 0, .slice none 0 0] 131)) \/ ∃ z, pre.getLast? = some z /\ W.heap[bL]? = some (.cells (lastC z.s z.va z.vc) 131) /\ BkT z W
structure BkI (B : Blk) (bx bd : Nat) (y : Cs) (N : Nat) (x : DirD) (tops : List Rf) (t : Tr) (g : Nat) (L : List Bp) (sp : Int) (bo bL : Nat) (W1 : World) (J : List Slt -> World -> Prop) (q : Nat) (pre : List Slt) (V : World) : Prop where
 j : J pre V
 map : pre.map (·.s) = (slotsD t g 0 0).take q
 len : pre.length = q
 idx : IdxM V B bx bd y noP false (N + q) x tops (t.slots g) L sp
 acc : Acc bo W1 V
 last : LastI bL pre V
theorem set5_heap {W : World} {b : Nat} {x0 x1 x2 x3 x4 : Value} {t : TypeId} (h : W.heap[b]? = some (.cells #[x0, x1, x2, x3, x4] t)) (u0 u1 u2 u3 u4 : Value) : (set5 W b u0 u1 u2 u3 u4).heap[b]? = some (.cells #[u0, u1, u2, u3, u4] t) := by
 unfold set5;rw [hsc _ _ _ _ (hsc _ _ _ _ (hsc _ _ _ _ (hsc _ _ _ _ (hsc _ _ _ _ h))))];rfl
variable {bo n : Nat} {A C : World}
theorem acc_fr0 (F : Fq A C) (h : BoxO bo A) : Acc bo A C := by
 obtain ⟨v, hv⟩ := h;have hc := F.heap hv (fun h => h);refine ⟨F.size, fun b c t f hb _ _ => F.heap hb (fun h => h), fun g ⟨v', hv', ho⟩ => ?_, ⟨v, hc⟩⟩;rw [hc] at hv'; cases hv';exact .inr ⟨v, hv, ho⟩
theorem acc_set {bL : Nat} (F : Fr (fun b => b = bL) A C) (h : BoxO bo A) (hne : bL ≠ bo) {c0 : Array Value} (hL : A.heap[bL]? = some (.cells c0 131)) : Acc bo A C := by
 obtain ⟨v, hv⟩ := h;have hc := F.heap hv (fun h => hne h.symm);refine ⟨F.size, fun b c t f hb ht _ => F.heap hb (fun e => by rw [e, hL] at hb; cases hb; exact ht (by simp)), fun g ⟨v', hv', ho⟩ => ?_, ⟨v, hc⟩⟩;rw [hc] at hv'; cases hv';exact .inr ⟨v, hv, ho⟩
theorem KpO.own {m : Nat} (K : KpO m bo A C) {base e size : Nat} {v : Value} {xs : List Value} (h : A.ownsRow base e size v n xs) (he : e ≠ 131 /\ e ≠ 124) (hbo : BoxO bo A) : C.ownsRow base e size v n xs := by
 obtain ⟨u, hu⟩ := hbo;obtain ⟨hl, h0 | ⟨g, cap, cur, hv, hb, hg, r⟩⟩ := h
 ·exact ⟨hl, .inl h0⟩
 ·refine ⟨hl, .inr ⟨g, cap, cur, hv, hb, K.keep g _ hg (fun e' => ?_) (fun ⟨_, c, f, e'⟩ => ?_) (.inr rfl), r⟩⟩
  ·rw [e', hu] at hg; cases hg; exact he.2 rfl
  ·rw [hg] at e'; cases e'; exact he.1 rfl
theorem map_take_succ {l : List Sd} {q : Nat} {s : Sd} (hs : l[q]? = some s) {pre : List Slt} (hm : pre.map (·.s) = l.take q) (z : Slt) (hz : z.s = s) : (pre ++ [z]).map (·.s) = l.take (q + 1) := by
 rw [List.map_append, hm, List.map_singleton, hz, List.take_add_one, hs]; rfl
theorem owns_frO {β : Type} {Bn : Nat} {J : β -> World -> Prop} (hJ : OwnFrom Bn J) {s : β} {W W' : World} (h : J s W) (F : Fq W W') : J s W' :=
 hJ s W W' none h ⟨F.os, F.tape, F.output, F.size, fun b hb _ => F.block b hb (fun h => h)⟩ (fun r e => by cases e)
theorem bkts_run {w : World} {B : Blk} {bx bd : Nat} {y : Cs} {N : Nat} {x : DirD} {tops : List Rf} {L : List Bp} {sp : Int} {t : Tr} {g c : Nat} {la : Option Addr} {blb bxb beb : Nat}
  (hI : IdxM w B bx bd y noP false N x tops (t.slots g) L sp) (hP : L.Perm (lds t 0 0)) (hok : okT t 0 0) (hh : t.high <= g) (hg : g <= 3) (hn : 2 ^ g = n)
  (hxb : w.heap[bxb]? = some (.cells #[xptr bx] 105)) (hlb : w.heap[blb]? = some (.cells #[.slice la n c] 33)) (hrow : RowT w la (t.slots g)) (hbo : w.heap[bo]? = some (.cells #[.slice none 0 0] 124)) (h0b : 0 < bo) (hN : N + 8 <= 90000) :
  SeqRun Fence.wide 9 Tryz.prog 202 #[.pointer (some ⟨blb, 0, none⟩), .pointer (some ⟨bxb, 0, none⟩), .pointer (some ⟨beb, 0, none⟩)] encS BkT (RSt B w.heap.size bo) (KpO w.heap.size bo) (fun xs => xs.map (·.s) = slotsD t g 0 0) (fun _ => True) (fun W => IdxM W B bx bd y noP false (N + 8) x tops (t.slots g) L sp) n w := fun lp J Jx W hW hJ hJx hJR hY h0 => by
 have FW : Fq w W := Fr.of_below hW;have hn8 : n <= 8 := by rw [<- hn]; exact nT (Nat.pow_le_pow_right (by decide) hg) (by decide)
 have hlen : (slotsD t g 0 0).length = n := by rw [slotsD_len t g 0 0 hh, hn]
 have hwW := FW.size;have HR := hid (show (∀ s ∈ lvs t 0 0, (s.2.2.1, packM s.1 s.2.1 s.2.2.2) ∈ L) /\ (∀ s ∈ lvs t 0 0, BkOk s.1 s.2.1 s.2.2.2 /\ s.2.1 < 2 ^ s.1 /\ 0 <= s.1 /\ s.1 <= 0 + t.high) /\ (∀ r, B.at_ r < w.heap.size) /\ 0 < bo /\ bo < w.heap.size from
  ⟨fun s hs => lvs_in hP hs, fun s hs => lvs_ok t 0 0 hok (by simp) s hs, fun r => hI.st.roles r, h0b, loh hbo⟩)
 have HInj := hid (fun (s s' : Sd) (hs : s ∈ lvs t 0 0) (hs' : s' ∈ lvs t 0 0) (e : s.2.2.1 = s'.2.2.1) => lvs_inj (List.Nodup.sublist (List.sublist_append_right _ _) hI.live.nd) hP hs hs' e);obtain ⟨bL, hbL⟩ : ∃ bL, W.heap.size = bL := ⟨_, rfl⟩
 obtain ⟨W1, hW1⟩ : ∃ W1, W.alloc (.cells #[.int .i64 0, .int .i64 0, .int .i64 0, .int .i64 0, .slice none 0 0] 131) = W1 := ⟨_, rfl⟩
 have F1 : Fq W W1 := by rw [<- hW1]; exact (Fr.refl _ _).alloc _
 have FW1 := FW.trans F1 (fun _ _ h => h);have hL1 : W1.heap[bL]? = some (.cells #[.int .i64 0, .int .i64 0, .int .i64 0, .int .i64 0, .slice none 0 0] 131) := by rw [<- hW1, <- hbL]; exact han _ _
 have hbo1 := FW1.heap hbo (fun h => h);have hlb1 := FW1.heap hlb (fun h => h);have hxb1 := FW1.heap hxb (fun h => h);have H1 := hid (show W1.heap[blb]? = some (.cells #[.slice la n c] 33) /\ W1.heap[bo]? = some (.cells #[.slice none 0 0] 124) /\ W1.heap[bxb]? = some (.cells #[xptr bx] 105) /\ (w.heap.size <= bL /\ bL < W1.heap.size /\ 0 < w.heap.size) from ⟨hlb1, hbo1, hxb1, by omega, loh hL1, by have := loh hbo; omega⟩);have HRow := hid (hrow.fr0 FW1);have HB0 := hid (show BkI B bx bd y N x tops t g L sp bo bL W1 J 0 [] W1 from ⟨owns_frO hJ h0 F1, by simp, rfl, hI.fr0 FW1, Acc.refl ⟨_, hbo1⟩, .inl ⟨rfl, hL1⟩⟩);have HW1 := hid hW1;have HLen := hid hlen;have HHi := hid (show t.high <= 8 by omega);have hneb : bo ≠ blb /\ bo ≠ bxb := ⟨fun e => (by rw [e, hlb] at hbo; cases hbo), fun e => (by rw [e, hxb] at hbo; cases hbo)⟩;have HNe := hid hneb;have HbL := hid hbL;clear hI hP hok hh hn hxb hlb hrow hbo hW FW FW1 F1 hL1 hbo1 hlb1 hxb1 hW1 hlen hneb h0 hbL;refine callsIn_of_wp Tryz.func202 rfl trivial ?_ rfl;simp only [Tryz.ntmps202, zA, lC, List.length_nil, Nat.reduceAdd, Nat.reduceSub, Array.replicate_succ, Array.replicate_zero, List.push_toArray, List.append_toArray, List.nil_append, List.cons_append];gi_upto_region 1 with (fail)
 rw [HW1.out];rw [HbL.out];have cs := coh H1.out.1 0;simp at cs;have csl := loh H1.out.1;gi_wp2_with (fail)
 clear cs csl;gi_loopw [12] (fun tv wr => ∃ (q : Nat) (pre : List Slt), q <= n /\ tv = .int .i64 q /\ BkI B bx bd y N x tops t g L sp bo bL W1 J q pre wr) (fun tv _ => n - (intOf tv).toNat)
 case atStart => exact ⟨0, [], Nat.zero_le _, rfl, HB0.out⟩
 case round =>
  obtain ⟨q, pre, hq, rfl, hBk⟩ := hrel;have HBk := hid hBk;clear hBk;by_cases hlt : q < n
  ·have hdq : decide ((q : Int) < (n : Int)) = true := by simp; omega
   have hqi : (q : Int) < (n : Int) := by omega
   have hqw : wrap64 ((q : Int) + 1) = ((q + 1 : Nat) : Int) := by simp only [wrap64]; omega
   obtain ⟨s, hs⟩ : ∃ s, (slotsD t g 0 0)[q]? = some s := ⟨_, gE (by rw [HLen.out]; exact hlt)⟩
   have hsr : (t.slots g)[q]? = some s.2.2.1 := by rw [<- slotsD_refs t g 0 0, gP, hs]; rfl
   have hsm : s ∈ lvs t 0 0 := slotsD_mem _ _ _ _ _ (gM hs);obtain ⟨b, off, rfl, hb, hc0, hc1⟩ := HRow.out.row.at_ q _ hsr;obtain ⟨cc, hcc⟩ := HRow.out.ty b off rfl (List.ne_nil_of_mem (gM hsr));have hcw := HBk.out.acc.keep b _ _ _ hcc (by decide) (fun e => by have h2 := H1.out.2.1; rw [<- e, hcc] at h2; cases h2);have c0 := (World.cell?_of_block (a := ⟨b, off + q * 2, none⟩) (hcw.trans hcc.symm)).trans hc0;have c1 := (World.cell?_of_block (a := ⟨b, off + q * 2 + 1, none⟩) (hcw.trans hcc.symm)).trans hc1;have cl := loh hcw;have HS := hid (show (slotsD t g 0 0)[q]? = some s /\ s ∈ lvs t 0 0 /\ BkOk s.1 s.2.1 s.2.2.2 /\ s.2.1 < 2 ^ s.1 /\ s.1 <= 8 from ⟨hs, hsm, (HR.out.2.1 s hsm).1, (HR.out.2.1 s hsm).2.1, by
    have h4 := (HR.out.2.1 s hsm).2.2.2;have h5 := HHi.out;omega⟩)
   have hbxne := H1.out.2.2.1;have hxw := HBk.out.acc.keep bxb _ _ _ hbxne (by decide) (fun e => HNe.out.2 e.symm);obtain ⟨b7, hb7⟩ : ∃ b7, wr.heap.size = b7 := ⟨_, rfl⟩
   obtain ⟨V1, hV1⟩ : ∃ V1, wr.alloc (.cells #[.int .i64 s.2.2.1.1, .int .i64 s.2.2.1.2] 35) = V1 := ⟨_, rfl⟩
   have FV1 : Fq wr V1 := by rw [<- hV1]; exact (Fr.refl _ _).alloc _
   have g7 : V1.heap[b7]? = some (.cells #[.int .i64 s.2.2.1.1, .int .i64 s.2.2.1.2] 35) := by rw [<- hV1, <- hb7]; exact han _ _
   have HW2 := hid hV1;have HB7 := hid hb7;have HRd := hid (xread_ok (HBk.out.idx.fr0 FV1) (HR.out.1 s hsm) HS.out.2.2.1 HS.out.2.2.2.2 HS.out.2.2.2.1 (by omega));obtain ⟨k0, k1, kz, kl⟩ := cells2 g7;have xx := coh (FV1.heap hxw (fun h => h)) 0;simp at xx;have hxl := loh (FV1.heap hxw (fun h => h));have hacc1 : Acc bo W1 V1 := HBk.out.acc.trans (acc_fr0 FV1 HBk.out.acc.box);have hJ1 : J pre V1 := owns_frO hJ HBk.out.j FV1;have hI1 := HBk.out.idx.fr0 FV1;clear hs hsr hsm hb hc0 hc1 hcc hcw hbxne hxw hV1 hb7;gi_upto_region 4 with (fail)
   rw [HW2.out];rw [HB7.out];clear c0 c1 cl;have c0 := True.intro;have c1 := True.intro;have cl := True.intro;have hr35 := neq35x;rcases HBk.out.last with ⟨hpre, hLw⟩ | ⟨z, hz, hLw, hTz⟩
   ·-- the first one
    have hq0 : q = 0 := (by have := HBk.out.len; rw [hpre] at this; simpa using this.symm);have hqb : ((q : Int) == 0) = true := (by simp [hq0]);have hLV := FV1.heap hLw (fun h => h);obtain ⟨l0, l1, l2, l3, l4, lz, ll⟩ := cells5 hLV;have HV1 := hi2 hJ1 (aI (aI hI1 hacc1) (aI hLV FV1));clear hJ1 hI1 hacc1 hLV hLw FV1 hpre hq0;gi_wp2_with (fail)
    refine (callsIn_wide.2 HRd.out).mono ?_;rintro e V2 ⟨r1, d1, p1, va, vn, vc, err, rfl, F2, ⟨rfl, ⟨rfl, rfl, rfl, rfl⟩, hown, hI2⟩ | ⟨_, ha, _⟩⟩;rotate_left
    ·cases ha
    obtain ⟨vn, hvn⟩ : ∃ vn, s.2.2.2.length = vn := ⟨_, rfl⟩
    rw [hvn];have hL2 := F2.heap HV1.out.2.2.1 (by decide);have HV2 := hi2 (hown) (aI hI2 (aI F2 (aI hvn hL2)));obtain ⟨b8, hb8⟩ : ∃ b8, V2.heap.size = b8 := ⟨_, rfl⟩
    obtain ⟨V3, hV3⟩ : ∃ V3, V2.alloc (.cells #[.int .i64 s.2.2.1.1, .int .i64 s.2.2.1.2, .int .i64 s.1, .int .i64 s.2.1, .slice va vn vc] 131) = V3 := ⟨_, rfl⟩
    have g8 : V3.heap[b8]? = some (.cells #[.int .i64 s.2.2.1.1, .int .i64 s.2.2.1.2, .int .i64 s.1, .int .i64 s.2.1, .slice va vn vc] 131) := (by rw [<- hV3, <- hb8]; exact han _ _);have FV3 : Fq V2 V3 := (by rw [<- hV3]; exact (Fr.refl _ _).alloc _);have hL3 := FV3.heap hL2 (fun h => h);have H3 := hi2 FV3 (aI hL3 g8);have HW3 := hid hV3;have HB8 := hid hb8;have hb8L : bL < b8 := (by have := loh hL2; omega);clear hown hI2 F2 hvn hL2 hV3 g8 FV3 hL3 HRd hb8 c0 c1 cl k0 k1 kz kl l0 l1 l2 l3 l4 lz ll;gi_upto_region 6 with (fail)
    rw [HW3.out];rw [HB8.out];obtain ⟨e0, e1, e2, e3, e4, ez, el⟩ := cells5 H3.out.2.2;obtain ⟨l0, l1, l2, l3, l4, lz, ll⟩ := cells5 H3.out.2.1;gi_upto_region 9 with (fail)
    obtain ⟨V, hV⟩ : ∃ V, set5 V3 bL (.int .i64 s.2.2.1.1) (.int .i64 s.2.2.1.2) (.int .i64 s.1) (.int .i64 s.2.1) (.slice va vn vc) = V := ⟨_, rfl⟩
    rw [show ((((V3.setCell ⟨bL, 0, none⟩ (.int .i64 s.2.2.1.1)).setCell ⟨bL, 1, none⟩ (.int .i64 s.2.2.1.2)).setCell ⟨bL, 2, none⟩ (.int .i64 s.1)).setCell ⟨bL, 3, none⟩ (.int .i64 s.2.1)).setCell ⟨bL, 4, none⟩ (.slice va vn vc) = V from hV];have FV : Fr (fun b => b = bL) V3 V := (by rw [<- hV]; exact set5_fr _ _ _ _ _ _ _);obtain ⟨z, hz⟩ : ∃ z : Slt, (⟨s, va, vc⟩ : Slt) = z := ⟨_, rfl⟩
    have HZ := hi2 hz (show BkOk s.1 s.2.1 s.2.2.2 from HS.out.2.2.1);have hbox3 : BoxO bo V3 := ((HV1.out.2.1.2.trans (FrB.acc HV2.out.2.2.1 HV1.out.2.1.2.box)).trans (acc_fr0 H3.out.1 (FrB.acc HV2.out.2.2.1 HV1.out.2.1.2.box).box)).box;have hacc3 : Acc bo W1 V3 := (HV1.out.2.1.2.trans (FrB.acc HV2.out.2.2.1 HV1.out.2.1.2.box)).trans (acc_fr0 H3.out.1 (FrB.acc HV2.out.2.2.1 HV1.out.2.1.2.box).box);have hptL : ¬ PtB bo V3 bL := fun h => (hacc3.pt bL h).elim (fun h1 => by have := H1.out.2.2.2; omega) (fun ⟨u, hu, ho⟩ => by rw [H1.out.2.1] at hu; cases hu; cases ho)
    have hJ3 : J pre V3 := owns_frO hJ (hJR _ _ _ HV1.out.1 (.inl HV2.out.2.2.1)) H3.out.1;have hJV : J pre V := hJR _ _ _ hJ3 (.inr (FV.mono fun b _ e => by subst e; exact ⟨by have := H1.out.2.2.2; have := HR.out.2.2.2.2; omega, ⟨_, H3.out.2.1⟩, hptL⟩));have hLV : V.heap[bL]? = some (.cells #[.int .i64 s.2.2.1.1, .int .i64 s.2.2.1.2, .int .i64 s.1, .int .i64 s.2.1, .slice va s.2.2.2.length vc] 131) := (by rw [<- hV, HV2.out.2.2.2.1]; exact set5_heap H3.out.2.1 _ _ _ _ _);have hTV : BkT z V := by
     rw [<- hz];refine ⟨own_fr1 (own_base (oN HV2.out.1 H3.out.1)) FV (fun g' hg' e => ?_), HZ.out.2⟩;have h1 := (own_blkT (oN HV2.out.1 H3.out.1) hg').1;have h2 := loh HV1.out.2.2.1;omega
    have HV := hid (show J pre V /\ (IdxM V B bx bd y noP false (N + (q + 1)) x tops (t.slots g) L sp /\ Acc bo W1 V) /\ V.heap[bL]? = some (.cells #[.int .i64 s.2.2.1.1, .int .i64 s.2.2.1.2, .int .i64 s.1, .int .i64 s.2.1, .slice va s.2.2.2.length vc] 131) /\ BkT z V from
     ⟨hJV, ⟨(HV2.out.2.1.fr0 H3.out.1).setNew FV H3.out.2.1 (by decide) (by have := H1.out.2.2.2; have := HR.out.2.2.2.2; omega), hacc3.trans (acc_set FV hbox3 (by have := H1.out.2.2.2; have := HR.out.2.2.2.2; omega) H3.out.2.1)⟩, hLV, hTV⟩)
    have HVn := hid HV2.out.2.2.2.1;clear hV FV hz hbox3 hacc3 hptL hJ3 hJV hLV hTV e0 e1 e2 e3 e4 ez el l0 l1 l2 l3 l4 lz ll HW3 H3 HV2 HV1;rw [<- HVn.out];-- the yield
    have hGm := HV.out.2.2.2;obtain ⟨fn, tmps, assign, body, hy, hRR⟩ := hY pre z V HV.out.1 HV.out.2.2.2 (by rw [HBk.out.len]; exact hlt);have hys := hy;rw [<- HZ.out.1] at hy;dsimp only [encS] at hy;obtain ⟨v0, v1, v2, v3, v4, vz, vl⟩ := cells5 HV.out.2.2.1;clear hys hGm;gi_wp2_with (fail)
    refine hRR.mono ?_;rintro e W3 (⟨rfl, hJ3, hk3⟩ | ⟨rfl, hJx3⟩)
    ·have hpt : ∀ g', PtB bo V g' -> W1.heap.size <= g' := fun g' h => (HV.out.2.1.2.pt g' h).elim id (fun ⟨u, hu, ho⟩ => by rw [H1.out.2.1] at hu; cases hu; cases ho)
     have hI3 := HV.out.2.1.1.kpO hk3 HR.out.2.2.1 ⟨HV.out.2.1.2.box, HR.out.2.2.2.1⟩ (fun g' h => by have := hpt g' h; have := H1.out.2.2.2; omega) (by have := HR.out.2.2.2.2; omega);have hA3 := HV.out.2.1.2.trans (hk3.acc HV.out.2.1.2.box);have hL3 : W3.heap[bL]? = some (.cells (lastC z.s z.va z.vc) 131) := hk3.keep bL _ (by rw [<- HZ.out.1]; exact HV.out.2.2.1) (fun e => by have := H1.out.2.2.2; have := HR.out.2.2.2.2; omega) (fun ⟨hp, _⟩ => by have := hpt bL hp; have := H1.out.2.2.2; omega) (.inr rfl);have hT3 : BkT z W3 := ⟨hk3.own HV.out.2.2.2.1 (by decide) HV.out.2.1.2.box, HV.out.2.2.2.2⟩;have H3 := hid (show BkI B bx bd y N x tops t g L sp bo bL W1 J (q + 1) (pre ++ [z]) W3 from ⟨hJ3, map_take_succ HS.out.1 HBk.out.map z (by rw [<- HZ.out.1]), by rw [lA, HBk.out.len]; rfl, hI3, hA3, .inr ⟨z, by simp, hL3, hT3⟩⟩);clear hJ3 hk3 hpt hI3 hA3 hL3 hT3 v0 v1 v2 v3 v4 vz vl;gi_wp2
     go_roundw;case rel => exact ⟨q + 1, pre ++ [z], hlt, by go_num, H3.out⟩
     case measure => simp [intOf]; omega
    ·have HJX := hid hJx3;clear hJx3 v0 v1 v2 v3 v4 vz vl;gi_wp2
     refine bodyPost_ret (results_none rfl _ _ _) rfl ?_;exact ⟨⟨_, rfl⟩, .inr ⟨_, trivial, HJX.out⟩⟩
   ·have hq0 : ¬ q = 0 := fun e => by
     have := HBk.out.len;rw [e] at this;rw [List.eq_nil_of_length_eq_zero this] at hz;cases hz
    have hqb : ((q : Int) == 0) = false := (by simp; omega);have hzm : z.s ∈ lvs t 0 0 := by
     have h1 : z.s ∈ pre.map (·.s) := List.mem_map.2 ⟨z, List.mem_of_getLast? hz, rfl⟩;rw [HBk.out.map] at h1;exact slotsD_mem _ _ _ _ _ (List.mem_of_mem_take h1)
    have hLV := FV1.heap hLw (fun h => h);by_cases hsz : s = z.s
    ·obtain ⟨zs, va, vc⟩ := z;simp only at hsz;subst hsz;obtain ⟨l0, l1, l2, l3, l4, lz, ll⟩ := cells5 hLV;have hT1 : BkT ⟨s, va, vc⟩ V1 := ⟨oN hTz.1 FV1, hTz.2⟩;have HTz := hid hT1;have HV1 := hi2 hJ1 (aI (aI hI1 hacc1) (aI hLV FV1));obtain ⟨z, hz'⟩ : ∃ z : Slt, (⟨s, va, vc⟩ : Slt) = z := ⟨_, rfl⟩
     have HZ := hi2 hz' (show BkOk s.1 s.2.1 s.2.2.2 from HS.out.2.2.1);rw [hz'] at HTz;have hne : (!(decide (s.2.2.1.1 = s.2.2.1.1) && decide (s.2.2.1.2 = s.2.2.1.2))) = false := (by simp);clear hT1 hz' hJ1 hI1 hacc1 hLV hLw FV1 hTz hz hzm;gi_upto_region 9 with (fail)
     obtain ⟨V, rfl⟩ : ∃ V, V = V1 := ⟨_, rfl⟩
     have HV := hid (show J pre V /\ (IdxM V B bx bd y noP false (N + (q + 1)) x tops (t.slots g) L sp /\ Acc bo W1 V) /\ V.heap[bL]? = some (.cells #[.int .i64 s.2.2.1.1, .int .i64 s.2.2.1.2, .int .i64 s.1, .int .i64 s.2.1, .slice va s.2.2.2.length vc] 131) /\ BkT z V from
      ⟨HV1.out.1, ⟨HV1.out.2.1.1.mono (by omega) (by omega), HV1.out.2.1.2⟩, HV1.out.2.2.1, HTz.out⟩)
     clear c0 c1 cl k0 k1 kz kl l0 l1 l2 l3 l4 lz ll HRd;-- the yield
     have hGm := HV.out.2.2.2;obtain ⟨fn, tmps, assign, body, hy, hRR⟩ := hY pre z V HV.out.1 HV.out.2.2.2 (by rw [HBk.out.len]; exact hlt);have hys := hy;rw [<- HZ.out.1] at hy;dsimp only [encS] at hy;obtain ⟨v0, v1, v2, v3, v4, vz, vl⟩ := cells5 HV.out.2.2.1;clear hys hGm;gi_wp2_with (fail)
     refine hRR.mono ?_;rintro e W3 (⟨rfl, hJ3, hk3⟩ | ⟨rfl, hJx3⟩)
     ·have hpt : ∀ g', PtB bo V g' -> W1.heap.size <= g' := fun g' h => (HV.out.2.1.2.pt g' h).elim id (fun ⟨u, hu, ho⟩ => by rw [H1.out.2.1] at hu; cases hu; cases ho)
      have hI3 := HV.out.2.1.1.kpO hk3 HR.out.2.2.1 ⟨HV.out.2.1.2.box, HR.out.2.2.2.1⟩ (fun g' h => by have := hpt g' h; have := H1.out.2.2.2; omega) (by have := HR.out.2.2.2.2; omega);have hA3 := HV.out.2.1.2.trans (hk3.acc HV.out.2.1.2.box);have hL3 : W3.heap[bL]? = some (.cells (lastC z.s z.va z.vc) 131) := hk3.keep bL _ (by rw [<- HZ.out.1]; exact HV.out.2.2.1) (fun e => by have := H1.out.2.2.2; have := HR.out.2.2.2.2; omega) (fun ⟨hp, _⟩ => by have := hpt bL hp; have := H1.out.2.2.2; omega) (.inr rfl);have hT3 : BkT z W3 := ⟨hk3.own HV.out.2.2.2.1 (by decide) HV.out.2.1.2.box, HV.out.2.2.2.2⟩;have H3 := hid (show BkI B bx bd y N x tops t g L sp bo bL W1 J (q + 1) (pre ++ [z]) W3 from ⟨hJ3, map_take_succ HS.out.1 HBk.out.map z (by rw [<- HZ.out.1]), by rw [lA, HBk.out.len]; rfl, hI3, hA3, .inr ⟨z, by simp, hL3, hT3⟩⟩);clear hJ3 hk3 hpt hI3 hA3 hL3 hT3 v0 v1 v2 v3 v4 vz vl;gi_wp2
      go_roundw;case rel => exact ⟨q + 1, pre ++ [z], hlt, by go_num, H3.out⟩
      case measure => simp [intOf]; omega
     ·have HJX := hid hJx3;clear hJx3 v0 v1 v2 v3 v4 vz vl;gi_wp2
      refine bodyPost_ret (results_none rfl _ _ _) rfl ?_;exact ⟨⟨_, rfl⟩, .inr ⟨_, trivial, HJX.out⟩⟩
    ·have hrr : ¬ s.2.2.1 = z.s.2.2.1 := fun e => hsz (HInj.out s z.s HS.out.2.1 hzm e)
     obtain ⟨⟨zd, zp, ⟨za, zb⟩, zes⟩, zva, zvc⟩ := z;simp only at hrr;have hne : (!(decide (s.2.2.1.1 = za) && decide (s.2.2.1.2 = zb))) = true := by
      by_cases h1 : s.2.2.1.1 = za
      ·by_cases h2 : s.2.2.1.2 = zb
       ·exact absurd (Prod.ext h1 h2) hrr
       ·simp [h2]
      ·simp [h1]
     obtain ⟨l0, l1, l2, l3, l4, lz, ll⟩ := cells5 hLV;have HV1 := hi2 hJ1 (aI (aI hI1 hacc1) (aI hLV FV1));clear hJ1 hI1 hacc1 hLV hLw FV1 hTz hz hzm hsz hrr;gi_wp2_with (fail)
     refine (callsIn_wide.2 HRd.out).mono ?_;rintro e V2 ⟨r1, d1, p1, va, vn, vc, err, rfl, F2, ⟨rfl, ⟨rfl, rfl, rfl, rfl⟩, hown, hI2⟩ | ⟨_, ha, _⟩⟩;rotate_left
     ·cases ha
     obtain ⟨vn, hvn⟩ : ∃ vn, s.2.2.2.length = vn := ⟨_, rfl⟩
     rw [hvn];have hL2 := F2.heap HV1.out.2.2.1 (by decide);have HV2 := hi2 (hown) (aI hI2 (aI F2 (aI hvn hL2)));obtain ⟨b8, hb8⟩ : ∃ b8, V2.heap.size = b8 := ⟨_, rfl⟩
     obtain ⟨V3, hV3⟩ : ∃ V3, V2.alloc (.cells #[.int .i64 s.2.2.1.1, .int .i64 s.2.2.1.2, .int .i64 s.1, .int .i64 s.2.1, .slice va vn vc] 131) = V3 := ⟨_, rfl⟩
     have g8 : V3.heap[b8]? = some (.cells #[.int .i64 s.2.2.1.1, .int .i64 s.2.2.1.2, .int .i64 s.1, .int .i64 s.2.1, .slice va vn vc] 131) := (by rw [<- hV3, <- hb8]; exact han _ _);have FV3 : Fq V2 V3 := (by rw [<- hV3]; exact (Fr.refl _ _).alloc _);have hL3 := FV3.heap hL2 (fun h => h);have H3 := hi2 FV3 (aI hL3 g8);have HW3 := hid hV3;have HB8 := hid hb8;have hb8L : bL < b8 := (by have := loh hL2; omega);clear hown hI2 F2 hvn hL2 hV3 g8 FV3 hL3 HRd hb8 c0 c1 cl k0 k1 kz kl l0 l1 l2 l3 l4 lz ll;gi_upto_region 6 with (fail)
     rw [HW3.out];rw [HB8.out];obtain ⟨e0, e1, e2, e3, e4, ez, el⟩ := cells5 H3.out.2.2;obtain ⟨l0, l1, l2, l3, l4, lz, ll⟩ := cells5 H3.out.2.1;gi_upto_region 9 with (fail)
     obtain ⟨V, hV⟩ : ∃ V, set5 V3 bL (.int .i64 s.2.2.1.1) (.int .i64 s.2.2.1.2) (.int .i64 s.1) (.int .i64 s.2.1) (.slice va vn vc) = V := ⟨_, rfl⟩
     rw [show ((((V3.setCell ⟨bL, 0, none⟩ (.int .i64 s.2.2.1.1)).setCell ⟨bL, 1, none⟩ (.int .i64 s.2.2.1.2)).setCell ⟨bL, 2, none⟩ (.int .i64 s.1)).setCell ⟨bL, 3, none⟩ (.int .i64 s.2.1)).setCell ⟨bL, 4, none⟩ (.slice va vn vc) = V from hV];have FV : Fr (fun b => b = bL) V3 V := (by rw [<- hV]; exact set5_fr _ _ _ _ _ _ _);obtain ⟨z, hz⟩ : ∃ z : Slt, (⟨s, va, vc⟩ : Slt) = z := ⟨_, rfl⟩
     have HZ := hi2 hz (show BkOk s.1 s.2.1 s.2.2.2 from HS.out.2.2.1);have hbox3 : BoxO bo V3 := ((HV1.out.2.1.2.trans (FrB.acc HV2.out.2.2.1 HV1.out.2.1.2.box)).trans (acc_fr0 H3.out.1 (FrB.acc HV2.out.2.2.1 HV1.out.2.1.2.box).box)).box;have hacc3 : Acc bo W1 V3 := (HV1.out.2.1.2.trans (FrB.acc HV2.out.2.2.1 HV1.out.2.1.2.box)).trans (acc_fr0 H3.out.1 (FrB.acc HV2.out.2.2.1 HV1.out.2.1.2.box).box);have hptL : ¬ PtB bo V3 bL := fun h => (hacc3.pt bL h).elim (fun h1 => by have := H1.out.2.2.2; omega) (fun ⟨u, hu, ho⟩ => by rw [H1.out.2.1] at hu; cases hu; cases ho)
     have hJ3 : J pre V3 := owns_frO hJ (hJR _ _ _ HV1.out.1 (.inl HV2.out.2.2.1)) H3.out.1;have hJV : J pre V := hJR _ _ _ hJ3 (.inr (FV.mono fun b _ e => by subst e; exact ⟨by have := H1.out.2.2.2; have := HR.out.2.2.2.2; omega, ⟨_, H3.out.2.1⟩, hptL⟩));have hLV : V.heap[bL]? = some (.cells #[.int .i64 s.2.2.1.1, .int .i64 s.2.2.1.2, .int .i64 s.1, .int .i64 s.2.1, .slice va s.2.2.2.length vc] 131) := (by rw [<- hV, HV2.out.2.2.2.1]; exact set5_heap H3.out.2.1 _ _ _ _ _);have hTV : BkT z V := by
      rw [<- hz];refine ⟨own_fr1 (own_base (oN HV2.out.1 H3.out.1)) FV (fun g' hg' e => ?_), HZ.out.2⟩;have h1 := (own_blkT (oN HV2.out.1 H3.out.1) hg').1;have h2 := loh HV1.out.2.2.1;omega
     have HV := hid (show J pre V /\ (IdxM V B bx bd y noP false (N + (q + 1)) x tops (t.slots g) L sp /\ Acc bo W1 V) /\ V.heap[bL]? = some (.cells #[.int .i64 s.2.2.1.1, .int .i64 s.2.2.1.2, .int .i64 s.1, .int .i64 s.2.1, .slice va s.2.2.2.length vc] 131) /\ BkT z V from
      ⟨hJV, ⟨(HV2.out.2.1.fr0 H3.out.1).setNew FV H3.out.2.1 (by decide) (by have := H1.out.2.2.2; have := HR.out.2.2.2.2; omega), hacc3.trans (acc_set FV hbox3 (by have := H1.out.2.2.2; have := HR.out.2.2.2.2; omega) H3.out.2.1)⟩, hLV, hTV⟩)
     have HVn := hid HV2.out.2.2.2.1;clear hV FV hz hbox3 hacc3 hptL hJ3 hJV hLV hTV e0 e1 e2 e3 e4 ez el l0 l1 l2 l3 l4 lz ll HW3 H3 HV2 HV1;rw [<- HVn.out];-- the yield
     have hGm := HV.out.2.2.2;obtain ⟨fn, tmps, assign, body, hy, hRR⟩ := hY pre z V HV.out.1 HV.out.2.2.2 (by rw [HBk.out.len]; exact hlt);have hys := hy;rw [<- HZ.out.1] at hy;dsimp only [encS] at hy;obtain ⟨v0, v1, v2, v3, v4, vz, vl⟩ := cells5 HV.out.2.2.1;clear hys hGm;gi_wp2_with (fail)
     refine hRR.mono ?_;rintro e W3 (⟨rfl, hJ3, hk3⟩ | ⟨rfl, hJx3⟩)
     ·have hpt : ∀ g', PtB bo V g' -> W1.heap.size <= g' := fun g' h => (HV.out.2.1.2.pt g' h).elim id (fun ⟨u, hu, ho⟩ => by rw [H1.out.2.1] at hu; cases hu; cases ho)
      have hI3 := HV.out.2.1.1.kpO hk3 HR.out.2.2.1 ⟨HV.out.2.1.2.box, HR.out.2.2.2.1⟩ (fun g' h => by have := hpt g' h; have := H1.out.2.2.2; omega) (by have := HR.out.2.2.2.2; omega);have hA3 := HV.out.2.1.2.trans (hk3.acc HV.out.2.1.2.box);have hL3 : W3.heap[bL]? = some (.cells (lastC z.s z.va z.vc) 131) := hk3.keep bL _ (by rw [<- HZ.out.1]; exact HV.out.2.2.1) (fun e => by have := H1.out.2.2.2; have := HR.out.2.2.2.2; omega) (fun ⟨hp, _⟩ => by have := hpt bL hp; have := H1.out.2.2.2; omega) (.inr rfl);have hT3 : BkT z W3 := ⟨hk3.own HV.out.2.2.2.1 (by decide) HV.out.2.1.2.box, HV.out.2.2.2.2⟩;have H3 := hid (show BkI B bx bd y N x tops t g L sp bo bL W1 J (q + 1) (pre ++ [z]) W3 from ⟨hJ3, map_take_succ HS.out.1 HBk.out.map z (by rw [<- HZ.out.1]), by rw [lA, HBk.out.len]; rfl, hI3, hA3, .inr ⟨z, by simp, hL3, hT3⟩⟩);clear hJ3 hk3 hpt hI3 hA3 hL3 hT3 v0 v1 v2 v3 v4 vz vl;gi_wp2
      go_roundw;case rel => exact ⟨q + 1, pre ++ [z], hlt, by go_num, H3.out⟩
      case measure => simp [intOf]; omega
     ·have HJX := hid hJx3;clear hJx3 v0 v1 v2 v3 v4 vz vl;gi_wp2
      refine bodyPost_ret (results_none rfl _ _ _) rfl ?_;exact ⟨⟨_, rfl⟩, .inr ⟨_, trivial, HJX.out⟩⟩
  ·obtain rfl : q = n := by omega
   have hdq : decide ((q : Int) < (q : Int)) = false := by simp
   gi_wp2
   go_end0
   exact ⟨⟨_, rfl⟩, .inl ⟨pre, by rw [HBk.out.map, tL (Nat.le_of_eq HLen.out)], HBk.out.j, HBk.out.idx.mono (by omega) hN⟩⟩
end Go.Proofs.YtgdhaaokolfdoaaGreatDoor
