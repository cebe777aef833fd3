/- A pack of texts: XPU. Conditions: those that each text names. -/
import Derived.Test.YtgdhaaokolfdoaaGreatDoorNAW
import Derived.Test.YtgdhaaokolfdoaaGreatDoorNAT
import Derived.WalkMore
import Derived.Test.YtgdhaaokolfdoaaGreatDoorNAS
set_option maxHeartbeats 16000000
set_option maxRecDepth 100000
set_option linter.all false
namespace Go.Proofs.YtgdhaaokolfdoaaGreatDoor
open Go.RowKit Go.Sg Go.Sg.Bits Go.Sg.Clk CP SF
theorem set3_fr (W : World) (b : Nat) (u0 u1 u2 : Value) : Fr (fun k => k = b) W (((W.setCell ⟨b, 2, none⟩ u0).setCell ⟨b, 3, none⟩ u1).setCell ⟨b, 4, none⟩ u2) :=
 (((Fr.refl (fun k => k = b) W).setCell (a := ⟨b, _, none⟩) (fun _ => rfl) _).setCell (a := ⟨b, _, none⟩) (fun _ => rfl) _).setCell (a := ⟨b, _, none⟩) (fun _ => rfl) _
variable {N b base bd bx d f g hash k n p : Nat} {X : Nat -> Prop} {V V' w w1 : World} {oldest sp : Int} {a : Bool} {v : Value}
theorem set3_heap {W : World} {x0 x1 x2 x3 x4 : Value} {t : TypeId} (h : W.heap[b]? = some (.cells #[x0, x1, x2, x3, x4] t)) (u0 u1 u2 : Value) : (((W.setCell ⟨b, 2, none⟩ u0).setCell ⟨b, 3, none⟩ u1).setCell ⟨b, 4, none⟩ u2).heap[b]? = some (.cells #[x0, x1, u0, u1, u2] t) := by
 rw [hsc _ _ _ _ (hsc _ _ _ _ (hsc _ _ _ _ h))]; rfl
variable {B : Blk}
theorem FrX.new (h : FrX B X w V) (F : Fr (fun k => k = b) V V') (hb : w.heap.size <= b) : FrX B X w V' := Fr.trans h F fun k hk e => by omega
theorem FrX.newS {S : Nat -> Prop} (h : FrX B X w V) (F : Fr S V V') (hb : ∀ b, S b -> w.heap.size <= b) : FrX B X w V' := Fr.trans h F fun k hk e => by have := hb k e; omega
theorem refs_put (f : Rf -> List Bt -> Tr) (m : Nat) (hf : ∀ r es, (f r es).refs.length = m) : ∀ (t : Tr) (g k : Nat), (t.put g k f).refs.length + 1 = t.refs.length + m
 | .leaf r es, g, k => by simp only [Tr.put, Tr.refs, hf]; simp; omega
 | .node l r, g, k => by
  simp only [Tr.put];split
  ·have := refs_put f m hf l (g - 1) k;simp only [Tr.refs, lA]; omega
  ·have := refs_put f m hf r (g - 1) (k - 2 ^ (g - 1));simp only [Tr.refs, lA]; omega
variable {t : Tr} {E : Bt} {r : Rf} {es : List Bt}
theorem putS_eq (hat : t.at_ g k 0 0 = (d, p, r, es)) (hk : preM E.hash g = k) : putS (f + 1) (bare t) g sp E oldest =
  if roomB (freshE es E.hash oldest) E.hash 3 = true then ⟨(bare t).put g k (leafE (putB (freshE es E.hash oldest) E)), g, sp, false⟩
  else if d < 3 then (if d = g then putS f ((bare t).put (g + 1) (2 * k) (nodeE d (freshE es E.hash oldest))) (g + 1) (sp + 1) E oldest else putS f ((bare t).put g k (nodeE d (freshE es E.hash oldest))) g (sp + 1) E oldest)
  else ⟨(bare t).put g k (leafE (putB ((freshE es E.hash oldest).eraseIdx (bestI (freshE es E.hash oldest) (freshE es E.hash oldest).length).toNat) E)), g, sp, true⟩ := by
 subst hk;simp only [putS, bare_at, hat]
def PutU (B : Blk) (bx bd : Nat) (y : Cs) (P : Prot) (a : Bool) (N : Nat) (rl : Nat) (R : PutRes) (w : World) (e : Ending) (w' : World) : Prop :=
 ∃ (lost : Bool) (err : Int), e = .returned (.tuple #[.bool lost, .int .i64 err]) /\ FrX B (fun b => b = bd \/ b = bx) w w' /\
  ((err = 0 /\ lost = R.lost /\ ∃ (y' : Cs) (x' : DirD) (t' : Tr) (N' : Nat), IdxT w' B bx bd y' P a N' x' t' R.sp /\ N' + 150 * rl <= N + 30 + 150 * t'.refs.length /\ bare t' = R.t /\ x'.depth = R.g /\ (Like y y' /\ y'.gen = y.gen /\ y'.dead = y.dead)) \/ (err = 4 /\ a = true /\ DownC w' B y P (N + 1300)))
structure PutI (w1 : World) (B : Blk) (bx bd : Nat) (y0 : Cs) (P : Prot) (a : Bool) (N rl : Nat) (E : Bt) (oldest : Int) (R : PutRes) (f : Nat) (V : World) : Prop where
 ex : ∃ (y : Cs) (x : DirD) (tops : List Rf) (t : Tr) (L : List Bp) (sp : Int) (N1 : Nat), IdxM V B bx bd y P a N1 x tops (t.slots x.depth) L sp /\ (L.Perm (lds t 0 0) /\ t.high = x.depth /\ okT t 0 0 /\ Like y0 y) /\ (y.gen = y0.gen /\ y.dead = y0.dead) /\ putS f (bare t) x.depth sp E oldest = R /\ (8 - t.refs.length < f /\ N1 + 150 * rl <= N + 150 * t.refs.length /\ 1 <= rl) /\ (0 <= sp /\ sp + f <= 100000) /\ FrX B (fun b => b = bd \/ b = bx) w1 V
variable {y y0 : Cs} {P : Prot}
theorem PutI.fr0 {rl : Nat} {R : PutRes} (h : PutI w1 B bx bd y0 P a N rl E oldest R f V) (F : Fq V V') : PutI w1 B bx bd y0 P a N rl E oldest R f V' := by
 obtain ⟨y, x, tops, t, L, sp, N1, hM, h2, h3, h4, h5, h6, h7⟩ := h.ex;exact ⟨y, x, tops, t, L, sp, N1, hM.fr0 F, h2, h3, h4, h5, h6, FrX.trans h7 (FrX.none F)⟩
theorem refs_pos : ∀ t : Tr, 1 <= t.refs.length
 | .leaf _ _ => by simp [Tr.refs]
 | .node l r => by have := refs_pos l; simp only [Tr.refs, lA]; omega
theorem elder_lt (h : es ≠ []) : ∃ i : Nat, bestI es es.length = (i : Int) /\ i < es.length := by
 obtain ⟨n, hn⟩ : ∃ n, es.length = n + 1 := ⟨es.length - 1, by have := List.length_pos_iff.2 h; omega⟩
 rw [hn];exact ⟨eldN es n, rfl, by have := eldN_le es n; omega⟩
variable {x : DirD} {slots tops : List Rf} {L : List Bp}
theorem IdxM.turn (h : IdxM V B bx bd y P a N x tops slots L sp) (hE : OwnE V base v es) (F : Fr (fun b => v.ownBlock = some b) V V') (hb : 0 < base) : IdxM V' B bx bd y P a N x tops slots L sp := by
 obtain ⟨_, ⟨h0, _⟩ | ⟨g, cap, cur, hv, hbg, hg, _⟩⟩ := hE
 ·exact h.fr0 (F.mono fun b _ e => by rw [h0] at e; cases e)
 ·exact h.setNew (F.mono fun b _ e => by rw [hv] at e; exact (Option.some.inj e).symm) hg (by decide) (by omega)
def PS (w1 : World) (B : Blk) (bx bd : Nat) (y : Cs) (P : Prot) (a : Bool) (N : Nat) (x : DirD) (tops slots : List Rf) (L : List Bp) (sp : Int) (b8 : Nat) (r : Rf) (d p : Nat) (va : Option Addr) (n vc : Nat) (es : List Bt) (V : World) : Prop :=
 IdxM V B bx bd y P a N x tops slots L sp /\ V.heap[b8]? = some (.cells #[.int .i64 r.1, .int .i64 r.2, .int .i64 d, .int .i64 p, .slice va n vc] 131) /\ OwnE V 0 (.slice va es.length vc) es /\ FrX B (fun b => b = bd \/ b = bx) w1 V /\ es.length = n
theorem own_re {b' e size : Nat} {xs : List Value} (h : w.ownsRow b e size v n xs) (hb : ∀ g, v.ownBlock = some g -> b' <= g) : w.ownsRow b' e size v n xs := by
 obtain ⟨hl, h0 | ⟨g, cap, cur, hv, hbg, r⟩⟩ := h
 ·exact ⟨hl, .inl h0⟩
 ·exact ⟨hl, .inr ⟨g, cap, cur, hv, hb g (by rw [hv]; rfl), r⟩⟩
theorem PS.fr0 {b8 : Nat} {va : Option Addr} {vc : Nat} (h : PS w1 B bx bd y P a N x tops slots L sp b8 r d p va n vc es V) (F : Fq V V') : PS w1 B bx bd y P a N x tops slots L sp b8 r d p va n vc es V' :=
 ⟨h.1.fr0 F, F.heap h.2.1 (fun h => h), oN h.2.2.1 F, FrX.trans h.2.2.2.1 (FrX.none F), h.2.2.2.2⟩
theorem xentry17 (hh : E.hash < 18446744073709551616) (w : World) : Calls Tryz.prog 129 #[btV E] w (ValP (.bool (rightE E)) w) := by
 refine xentry_ok E (rightE E) w (fun W g hg _ _ => ?_);have ho : OwnE W 0 (.slice (some ⟨g, 0, none⟩) 1 1) [E] := ownE_shut (es := [E]) (c := 1) (Nat.zero_le _) hg (nR _) (by decide) rfl rfl;have := bright_ok ho (List.pairwise_singleton _ _) 0 0 1 (by decide) (by decide) (by decide) (by decide) (nR _) (fun x hx => by simp at hx; subst hx; exact hh);have e : (!([E].any (wrongE 0 0))) = rightE E := by simp [wrongE, pre_zero]
 rw [e] at this;exact this
theorem right_good (h : goodE E) : rightE E = true := by
 obtain ⟨_, h1, h2, h3⟩ := h;simp [rightE]; omega
theorem pre_of {h : Nat} (hh : h < 18446744073709551616) : ∀ (n d : Nat), d + n <= 20 -> preM h (d + n) / 2 ^ n = preM h d
 | 0, d, _ => by simp
 | n + 1, d, hd => by
  rw [Nat.pow_succ, Nat.mul_comm, <- Nat.div_div_eq_div_mul, show d + (n + 1) = (d + n) + 1 by omega, pre_succ (by omega) hh];exact pre_of hh n d (by omega)
theorem bkt_pre {h : Nat} (hb : BktAt t g L (preM h g) d p r es) (hh : h < 18446744073709551616) (hg : g <= 20) (hi : t.high <= g) : preM h d = p := by
 have h4 := Tr.at_pre t g (preM h g) 0 0 hi hb.kl;rw [hb.at_] at h4;simp only [Nat.zero_mul, Nat.zero_add] at h4;have h5 := pre_of hh (g - d) d (by have := hb.dg; omega);rw [show d + (g - d) = g by have := hb.dg; omega] at h5;rw [<- h5, h4]
theorem xput_ok {x0 : DirD} {t0 : Tr} {sp0 : Int} (h : IdxT w B bx bd y0 P a N x0 t0 sp0) (E : Bt) (oldest : Int) (hE : goodE E) (hsp0 : 0 <= sp0 /\ sp0 + 8 <= 100000) (hN : N + 1300 <= 90000) :
  Calls Tryz.prog 64 #[xptr bx, btV E, .int .i64 oldest] w (PutU B bx bd y0 P a N t0.refs.length (putS 8 (bare t0) x0.depth sp0 E oldest) w) := by
 obtain ⟨tops0, L0, hM0, hP0⟩ := h.ex;have hblt := hM0.bd_lt;have hrl : 1 <= t0.refs.length := refs_pos t0;have hrl8 : t0.refs.length <= 8 := by
  have h1 := refs_le t0;have h2 := h.depth;rw [h.high] at h1;exact nT h1 (Nat.pow_le_pow_right (by decide) h2 : 2 ^ x0.depth <= 2 ^ 3)
 obtain ⟨w1, hw1⟩ : ∃ w1, w.alloc (.cells #[.int .u64 E.hash, .int .i64 E.rg, .int .i64 E.at_, .int .i64 E.sz] 118) = w1 := ⟨_, rfl⟩
 have b4 : w1.heap[w.heap.size]? = some (.cells #[.int .u64 E.hash, .int .i64 E.rg, .int .i64 E.at_, .int .i64 E.sz] 118) := by rw [<- hw1]; exact han _ _
 have F1 : Fq w w1 := by rw [<- hw1]; exact (Fr.refl _ _).alloc _
 have HB4 := hid (fun (V : World) (F : FrX B (fun b => b = bd \/ b = bx) w1 V) => cells4b (frX_heap F b4 (by decide) (fun e => by omega)));have HEn := hid (show Calls Tryz.prog 129 #[btV E] w1 (ValP (.bool true) w1) by have := xentry17 hE.1 w1; rw [right_good hE] at this; exact this);obtain ⟨R, hR⟩ : ∃ R, putS 8 (bare t0) x0.depth sp0 E oldest = R := ⟨_, rfl⟩
 rw [hR];have HI0 := hid (show PutI w1 B bx bd y0 P a N t0.refs.length E oldest R 8 w1 from ⟨y0, x0, tops0, t0, L0, sp0, N, hM0.fr0 F1, ⟨hP0, h.high, h.ok, Like.refl y0⟩, ⟨rfl, rfl⟩, hR, ⟨by omega, nR _, hrl⟩, ⟨hsp0.1, by omega⟩, FrX.refl _ _ _⟩);have HE := hid hE;have HF1 := hid F1;have hs1 : w1.heap.size = w.heap.size + 1 := by rw [<- hw1]; simp
 have HS1 := hid hs1;obtain ⟨rl, hrle⟩ : ∃ rl, t0.refs.length = rl := ⟨_, rfl⟩
 rw [hrle] at HI0 hrl8 ⊢;have HW := hid hw1;have HBl := hid hblt;obtain ⟨t0', t1', t2', t3', tz', tl'⟩ := HB4.out w1 (FrX.refl _ _ _);clear h hM0 hP0 hR hE hw1 b4 F1 hs1 hrle hsp0 hblt hrl;go_enter Tryz.func64, Tryz.ntmps64;go_upto_region 1 with fail
 rw [HW.out];go_step3
 go_wp2_with fail
 refine HEn.out.mono ?_;rintro e V0 ⟨rfl, F0⟩;have HI1 := hid (show PutI w1 B bx bd y0 P a N rl E oldest R 8 V0 from HI0.out.fr0 F0);clear F0 t0' t1' t2' t3' tz' tl' HEn HI0;go_wp2_with fail
 go_step3
 go_wp2_with fail
 go_loopg [6] 8 (fun k v6 wr => v6 = .bool false /\ PutI w1 B bx bd y0 P a N rl E oldest R k wr)
 case atStart => exact ⟨rfl, HI1.out⟩
 case round =>
  obtain ⟨rfl, hI⟩ := hrel;obtain ⟨y, x, tops, t, L, sp, N1, hM, ⟨hPm, hh, hok, hlk⟩, hyg, hps, ⟨hrf, hNr, hrl1⟩, ⟨hsp0, hspf⟩, hF⟩ := hI.ex;have hdep := hM.small.2.2;have hkl : preM E.hash x.depth < 2 ^ x.depth := pre_lt2 (by omega) HE.out.1;have hr8 : t.refs.length <= 8 := by
   have h1 := refs_le t;rw [hh] at h1;exact nT h1 (Nat.pow_le_pow_right (by decide) hdep : 2 ^ x.depth <= 2 ^ 3)
  obtain ⟨d, p, r, es, hb⟩ := bkt_at hkl (Nat.le_of_eq hh) hok hPm;have hdg := hb.dg;have hp2 := hb.pl;have hN1 : N1 + 240 <= 90000 := by omega
  obtain ⟨j, hj⟩ := List.mem_iff_getElem?.1 hb.mem;have hpp : preM E.hash d = p := bkt_pre hb HE.out.1 (by omega) (Nat.le_of_eq hh);have HOf := hid (xof_ok hM HE.out.1 hb.slot hb.mem hb.ok (by omega) hp2 (by omega));obtain ⟨t0', t1', t2', t3', tz', tl'⟩ := HB4.out wr hF;have HT := hi2 hok (aI hh (aI hPm hlk));have HG := hid hyg;have HPS := hid hps;have HNr := hi2 hrf (aI hNr (aI hrl1 (aI hsp0 (aI hspf (aI hr8 hN1)))));have HBk := hi2 hb (aI hb.ok hpp);have HJ := hid hj;have HD := hi2 hdep (aI hdg hp2);have HF := hid hF;clear hok hh hPm hlk hyg hps hrf hNr hrl1 hsp0 hspf hr8 hN1 hb hpp hj hdep hdg hp2 hF hM hkl hI;go_wp2_with fail
  refine HOf.out.mono ?_;rintro e V1 ⟨r1, d1, p1, va, n, vc, err, rfl, F1, hr⟩;have HR1 := hi2 F1 hr;clear F1 hr HOf t0' t1' t2' t3' tz' tl';obtain ⟨b8, hb8⟩ : ∃ b8, V1.heap.size = b8 := ⟨_, rfl⟩
  have H8 := hid (show 0 < b8 /\ w1.heap.size <= b8 by
   have h1 := HF.out.size;have h2 := HR1.out.1.size;have h3 := HS1.out;omega)
  obtain ⟨f, rfl⟩ : ∃ f, gk = f + 1 := ⟨gk - 1, by have := HNr.out.1; omega⟩
  have HPe := hid (putS_eq (f := f) (sp := sp) (E := E) (oldest := oldest) HBk.out.1.at_ rfl);go_upto_region 6 with fail
  obtain ⟨V2, hV2⟩ : ∃ V2, V1.alloc (.cells #[.int .i64 r1.1, .int .i64 r1.2, .int .i64 d1, .int .i64 p1, .slice va n vc] 131) = V2 := ⟨_, rfl⟩
  rw [hV2];have FV : Fq V1 V2 := by rw [<- hV2]; exact (Fr.refl _ _).alloc _
  have g8 : V2.heap[b8]? = some (.cells #[.int .i64 r1.1, .int .i64 r1.2, .int .i64 d1, .int .i64 p1, .slice va n vc] 131) := by rw [<- hV2, <- hb8]; exact han _ _
  have HFV := hid FV;have HG8 := hid g8;clear hb8 hV2 FV g8;rcases HR1.out.2 with ⟨rfl, ⟨rfl, rfl, rfl, hn⟩, ho, hM⟩ | ⟨rfl, ha, hDn⟩
  rotate_left
  ·have HX := hi2 ha (hDn.fr0 HFV.out);clear ha hDn;go_wp2_with fail
   go_ret2;exact ⟨false, 4, rfl, FrX.trans (FrX.none HF1.out) (FrX.trans HF.out (FrX.trans (FrX.of HR1.out.1) (FrX.none HFV.out))), .inr ⟨rfl, HX.out.1, down_like (HX.out.2.mono (by have := HNr.out; omega)) HT.out.2.2.2⟩⟩
  have HSV2 := hid (show PS w1 B bx bd y P a (N1 + 3) x tops (t.slots x.depth) L sp b8 r1 d p va n vc es V2 from ⟨hM.fr0 HFV.out, HG8.out, oN (own_base ho) HFV.out, FrX.trans HF.out (FrX.trans (FrX.of HR1.out.1) (FrX.none HFV.out)), hn.symm⟩);clear ho hM hn HG8;cases hro : roomB es E.hash 3 with
  | true =>
   have HRo := hid hro;have HRes := hid (show (⟨(bare t).put x.depth (preM E.hash x.depth) (leafE (putB es E)), x.depth, sp, false⟩ : PutRes) = R by
    rw [<- HPS.out, HPe.out]; unfold freshE; rw [if_pos HRo.out, if_pos HRo.out])
   clear hro;obtain ⟨q0, q1, q2, q3, q4, qz, ql⟩ := cells5 HSV2.out.2.1;obtain ⟨t0', t1', t2', t3', tz', tl'⟩ := HB4.out V2 HSV2.out.2.2.2.1;have HRm := hid (xroom_ok HSV2.out.1.idx HSV2.out.2.2.1 HBk.out.2.1.2.1 (by have := HBk.out.2.1.1; omega) d p E.hash);rw [HSV2.out.2.2.2.2, HRo.out] at HRm;go_wp2_with fail
   refine HRm.out.mono ?_;rintro e V3 ⟨rfl, FR⟩;have HSV3 := hid (show PS w1 B bx bd y P a (N1 + 3) x tops (t.slots x.depth) L sp b8 r1 d p va n vc es V3 from ⟨HSV2.out.1.fr0 FR, FR.heap HSV2.out.2.1 (fun h => h), oN HSV2.out.2.2.1 FR, FrX.trans HSV2.out.2.2.2.1 (FrX.none FR), HSV2.out.2.2.2.2⟩);clear FR q0 q1 q2 q3 q4 qz ql t0' t1' t2' t3' tz' tl' HRm;obtain ⟨q0, q1, q2, q3, q4, qz, ql⟩ := cells5 HSV3.out.2.1;obtain ⟨t0', t1', t2', t3', tz', tl'⟩ := HB4.out V3 HSV3.out.2.2.2.1;have HRm := hid (xroom_ok HSV3.out.1.idx HSV3.out.2.2.1 HBk.out.2.1.2.1 (by have := HBk.out.2.1.1; omega) d p E.hash);rw [HSV3.out.2.2.2.2, HRo.out] at HRm;go_wp2_with fail
   refine HRm.out.mono ?_;rintro e V4 ⟨rfl, FR⟩;have HSV4 := hid (show PS w1 B bx bd y P a (N1 + 3) x tops (t.slots x.depth) L sp b8 r1 d p va n vc es V4 from ⟨HSV3.out.1.fr0 FR, FR.heap HSV3.out.2.1 (fun h => h), oN HSV3.out.2.2.1 FR, FrX.trans HSV3.out.2.2.2.1 (FrX.none FR), HSV3.out.2.2.2.2⟩);clear FR q0 q1 q2 q3 q4 qz ql t0' t1' t2' t3' tz' tl' HRm;obtain ⟨q0, q1, q2, q3, q4, qz, ql⟩ := cells5 HSV4.out.2.1;obtain ⟨t0', t1', t2', t3', tz', tl'⟩ := HB4.out V4 HSV4.out.2.2.2.1;have HPt := hid (bput_ok HSV4.out.2.2.1 HBk.out.2.1.2.1 (by have := HBk.out.2.1.1; omega) d p E);rw [HSV4.out.2.2.2.2] at HPt;go_wp2_with fail
   refine HPt.out.mono ?_;rintro e VP ⟨ap, cp, rfl, hop, FP⟩;have hIP := HSV4.out.1.fr0 FP;have g8P := FP.heap HSV4.out.2.1 (fun h => h);have FXP := FrX.trans HSV4.out.2.2.2.1 (FrX.none FP);have hkP := bk_put HBk.out.2.1 HRo.out HE.out HBk.out.2.2;obtain ⟨np, hnp⟩ : ∃ np, (putB es E).length = np := ⟨_, rfl⟩
   have HNP := hid hnp;rw [hnp];clear q0 q1 q2 q3 q4 qz ql t0' t1' t2' t3' tz' tl' HPt hnp;have HOP := hi2 hIP (aI hop (aI FXP hkP));have HGP := hid g8P;obtain ⟨q0, q1, q2, q3, q4, qz, ql⟩ := cells5 g8P;clear hIP hop FXP hkP g8P FP;go_upto_region 19 with fail
   obtain ⟨VQ, hVQ⟩ : ∃ VQ, ((VP.setCell ⟨b8, 2, none⟩ (.int .i64 d)).setCell ⟨b8, 3, none⟩ (.int .i64 p)).setCell ⟨b8, 4, none⟩ (.slice ap np cp) = VQ := ⟨_, rfl⟩
   rw [hVQ];have FQ : Fr (fun k => k = b8) VP VQ := by rw [<- hVQ]; exact set3_fr VP b8 _ _ _
   have g8Q : VQ.heap[b8]? = some (.cells #[.int .i64 r1.1, .int .i64 r1.2, .int .i64 d, .int .i64 p, .slice ap np cp] 131) := by rw [<- hVQ]; exact set3_heap HGP.out _ _ _
   have hIQ := HOP.out.1.setNew FQ HGP.out (by decide) H8.out.1;have hoQ : OwnE VQ 0 (.slice ap (putB es E).length cp) _ := own_fr1 (own_base HOP.out.2.1) FQ (fun g hg e => by
    obtain ⟨_, c, hc⟩ := oBT HOP.out.2.1 (show some g = _ from hg.symm);rw [e, HGP.out] at hc; cases hc)
   have FXQ := FrX.new HOP.out.2.2.1 FQ H8.out.2;have HKe := hid (xkeep_ok hIQ (j := j) HJ.out hoQ HOP.out.2.2.2 HD.out.2.1 HD.out.2.2 (bkt_own HBk.out.1 (Nat.le_of_eq HT.out.2.1)) (by have := HNr.out.2.2.2.2.2.2; omega));rw [HNP.out] at HKe;have HQ := hid FXQ;clear q0 q1 q2 q3 q4 qz ql hVQ FQ hIQ hoQ FXQ;obtain ⟨q0, q1, q2, q3, q4, qz, ql⟩ := cells5 g8Q;go_wp2_with fail
   refine HKe.out.mono ?_;rintro e VR ⟨err, rfl, FR, hr⟩;have HR := hi2 FR hr;clear FR hr q0 q1 q2 q3 q4 qz ql g8Q HKe;go_wp2_with fail
   go_ret2;refine ⟨false, err, rfl, FrX.trans (FrX.none HF1.out) (FrX.trans HQ.out (frX_mono HR.out.1 (fun b hb => .inl hb))), ?_⟩;rcases HR.out.2 with ⟨rfl, m, y', x', t', hI', hx', hL'⟩ | ⟨rfl, ha, hDn⟩
   ·refine .inl ⟨rfl, by rw [<- HRes.out], y', x', t.put x.depth (preM E.hash x.depth) (fun _ _ => .leaf (↑m, ↑y.gen) (putB es E)), N1 + 3 + 20, ?_, ?_, ?_, ?_, HT.out.2.2.2.trans hL'.1, hL'.2.1.trans HG.out.1, hL'.2.2.trans HG.out.2⟩
    ·rw [<- HRes.out];exact idxT_leaf HBk.out.1 HT.out.2.1 HT.out.1 HT.out.2.2.1 HJ.out HOP.out.2.2.2 hx' hI'
    ·have h1 : (t.put x.depth (preM E.hash x.depth) (fun _ _ => .leaf (↑m, ↑y.gen) (putB es E))).refs.length = t.refs.length := Nat.add_right_cancel (refs_put (fun _ _ => .leaf (↑m, ↑y.gen) (putB es E)) 1 (fun _ _ => rfl) t x.depth (preM E.hash x.depth));have h2 := HNr.out.2.1;omega
    ·rw [<- HRes.out];exact bare_put _ _ (fun _ _ => rfl) t x.depth _
    ·rw [<- HRes.out]; exact hx'
   ·exact .inr ⟨rfl, ha, down_like (hDn.mono (by have := HNr.out; omega)) HT.out.2.2.2⟩
  | false =>
   have HRo := hid hro;have HFe := hid (show freshE es E.hash oldest = es.filter (freshB oldest) by unfold freshE; rw [HRo.out]; rfl);have HK1 := hid (bk_filter HBk.out.2.1 (freshB oldest));clear hro;obtain ⟨q0, q1, q2, q3, q4, qz, ql⟩ := cells5 HSV2.out.2.1;obtain ⟨t0', t1', t2', t3', tz', tl'⟩ := HB4.out V2 HSV2.out.2.2.2.1;have HRm := hid (xroom_ok HSV2.out.1.idx HSV2.out.2.2.1 HBk.out.2.1.2.1 (by have := HBk.out.2.1.1; omega) d p E.hash);rw [HSV2.out.2.2.2.2, HRo.out] at HRm;go_wp2_with fail
   refine HRm.out.mono ?_;rintro e V3 ⟨rfl, FR⟩;have HSV3 := hid (show PS w1 B bx bd y P a (N1 + 3) x tops (t.slots x.depth) L sp b8 r1 d p va n vc es V3 from ⟨HSV2.out.1.fr0 FR, FR.heap HSV2.out.2.1 (fun h => h), oN HSV2.out.2.2.1 FR, FrX.trans HSV2.out.2.2.2.1 (FrX.none FR), HSV2.out.2.2.2.2⟩);clear FR q0 q1 q2 q3 q4 qz ql t0' t1' t2' t3' tz' tl' HRm;obtain ⟨q0, q1, q2, q3, q4, qz, ql⟩ := cells5 HSV3.out.2.1;obtain ⟨t0', t1', t2', t3', tz', tl'⟩ := HB4.out V3 HSV3.out.2.2.2.1;have HFs := hid (bfresh_ok HSV3.out.2.2.1 (by have := HBk.out.2.1.1; omega) d p oldest);rw [HSV3.out.2.2.2.2] at HFs;go_wp2_with fail
   refine HFs.out.mono ?_;rintro e VF ⟨va1, vc1, rfl, hop, FP⟩;have hIP := HSV3.out.1.fr0 FP;have g8P := FP.heap HSV3.out.2.1 (fun h => h);have FXP := FrX.trans HSV3.out.2.2.2.1 (FrX.none FP);have HOB := hid (show ∀ g, some g = (Value.slice va1 (es.filter (freshB oldest)).length vc1).ownBlock -> w1.heap.size <= g from fun g hg => nT HSV3.out.2.2.2.1.size (oBT hop hg).1);obtain ⟨n1, hn1⟩ : ∃ n1, (es.filter (freshB oldest)).length = n1 := ⟨_, rfl⟩
   have HNP := hid hn1;rw [hn1];clear q0 q1 q2 q3 q4 qz ql t0' t1' t2' t3' tz' tl' HFs hn1;have HOP := hi2 hIP (aI hop FXP);have HGP := hid g8P;obtain ⟨q0, q1, q2, q3, q4, qz, ql⟩ := cells5 g8P;clear hIP hop FXP g8P FP;go_upto_region 13 with fail
   obtain ⟨VS, hVQ⟩ : ∃ VS, ((VF.setCell ⟨b8, 2, none⟩ (.int .i64 d)).setCell ⟨b8, 3, none⟩ (.int .i64 p)).setCell ⟨b8, 4, none⟩ (.slice va1 n1 vc1) = VS := ⟨_, rfl⟩
   rw [hVQ];have FQ : Fr (fun k => k = b8) VF VS := by rw [<- hVQ]; exact set3_fr VF b8 _ _ _
   have g8Q : VS.heap[b8]? = some (.cells #[.int .i64 r1.1, .int .i64 r1.2, .int .i64 d, .int .i64 p, .slice va1 n1 vc1] 131) := by rw [<- hVQ]; exact set3_heap HGP.out _ _ _
   have hoQ : OwnE VS 0 (.slice va1 (es.filter (freshB oldest)).length vc1) _ := own_fr1 (own_base HOP.out.2.1) FQ (fun g hg e => by
    obtain ⟨_, c, hc⟩ := oBT HOP.out.2.1 (show some g = _ from hg.symm);rw [e, HGP.out] at hc; cases hc)
   have HSVS := hid (show PS w1 B bx bd y P a (N1 + 3) x tops (t.slots x.depth) L sp b8 r1 d p va1 n1 vc1 (es.filter (freshB oldest)) VS from ⟨HOP.out.1.setNew FQ HGP.out (by decide) H8.out.1, g8Q, hoQ, FrX.new HOP.out.2.2 FQ H8.out.2, HNP.out⟩);clear q0 q1 q2 q3 q4 qz ql hVQ FQ g8Q hoQ HOP HGP HSV2 HSV3;cases hro : roomB (es.filter (freshB oldest)) E.hash 3 with
   | true =>
    have HRo1 := hid hro;have HRes := hid (show (⟨(bare t).put x.depth (preM E.hash x.depth) (leafE (putB (es.filter (freshB oldest)) E)), x.depth, sp, false⟩ : PutRes) = R by
     rw [<- HPS.out, HPe.out, HFe.out, if_pos HRo1.out])
    clear hro;obtain ⟨q0, q1, q2, q3, q4, qz, ql⟩ := cells5 HSVS.out.2.1;obtain ⟨t0', t1', t2', t3', tz', tl'⟩ := HB4.out VS HSVS.out.2.2.2.1;have HRm := hid (xroom_ok HSVS.out.1.idx HSVS.out.2.2.1 HK1.out.2.1 (by have := HK1.out.1; omega) d p E.hash);rw [HSVS.out.2.2.2.2, HRo1.out] at HRm;go_wp2_with fail
    refine HRm.out.mono ?_;rintro e V4 ⟨rfl, FR⟩;have HSV4 := hid (show PS w1 B bx bd y P a (N1 + 3) x tops (t.slots x.depth) L sp b8 r1 d p va1 n1 vc1 (es.filter (freshB oldest)) V4 from ⟨HSVS.out.1.fr0 FR, FR.heap HSVS.out.2.1 (fun h => h), oN HSVS.out.2.2.1 FR, FrX.trans HSVS.out.2.2.2.1 (FrX.none FR), HSVS.out.2.2.2.2⟩);clear FR q0 q1 q2 q3 q4 qz ql t0' t1' t2' t3' tz' tl' HRm;obtain ⟨q0, q1, q2, q3, q4, qz, ql⟩ := cells5 HSV4.out.2.1;obtain ⟨t0', t1', t2', t3', tz', tl'⟩ := HB4.out V4 HSV4.out.2.2.2.1;have HPt := hid (bput_ok HSV4.out.2.2.1 HK1.out.2.1 (by have := HK1.out.1; omega) d p E);rw [HSV4.out.2.2.2.2] at HPt;go_wp2_with fail
    refine HPt.out.mono ?_;rintro e VP ⟨ap, cp, rfl, hop, FP⟩;have hIP := HSV4.out.1.fr0 FP;have g8P := FP.heap HSV4.out.2.1 (fun h => h);have FXP := FrX.trans HSV4.out.2.2.2.1 (FrX.none FP);have hkP := bk_put HK1.out HRo1.out HE.out HBk.out.2.2;obtain ⟨np, hnp⟩ : ∃ np, (putB (es.filter (freshB oldest)) E).length = np := ⟨_, rfl⟩
    have HNP := hid hnp;rw [hnp];clear q0 q1 q2 q3 q4 qz ql t0' t1' t2' t3' tz' tl' HPt hnp;have HOP := hi2 hIP (aI hop (aI FXP hkP));have HGP := hid g8P;obtain ⟨q0, q1, q2, q3, q4, qz, ql⟩ := cells5 g8P;clear hIP hop FXP hkP g8P FP;go_upto_region 19 with fail
    obtain ⟨VQ, hVQ⟩ : ∃ VQ, ((VP.setCell ⟨b8, 2, none⟩ (.int .i64 d)).setCell ⟨b8, 3, none⟩ (.int .i64 p)).setCell ⟨b8, 4, none⟩ (.slice ap np cp) = VQ := ⟨_, rfl⟩
    rw [hVQ];have FQ : Fr (fun k => k = b8) VP VQ := (by rw [<- hVQ]; exact set3_fr VP b8 _ _ _);have g8Q : VQ.heap[b8]? = some (.cells #[.int .i64 r1.1, .int .i64 r1.2, .int .i64 d, .int .i64 p, .slice ap np cp] 131) := (by rw [<- hVQ]; exact set3_heap HGP.out _ _ _);have hIQ := HOP.out.1.setNew FQ HGP.out (by decide) H8.out.1;have hoQ : OwnE VQ 0 (.slice ap (putB (es.filter (freshB oldest)) E).length cp) _ := own_fr1 (own_base HOP.out.2.1) FQ (fun g hg e => by
     obtain ⟨_, c, hc⟩ := oBT HOP.out.2.1 (show some g = _ from hg.symm);rw [e, HGP.out] at hc; cases hc)
    have FXQ := FrX.new HOP.out.2.2.1 FQ H8.out.2;have HKe := hid (xkeep_ok hIQ (j := j) HJ.out hoQ HOP.out.2.2.2 HD.out.2.1 HD.out.2.2 (bkt_own HBk.out.1 (Nat.le_of_eq HT.out.2.1)) (by have := HNr.out.2.2.2.2.2.2; omega));rw [HNP.out] at HKe;have HQ := hid FXQ;clear q0 q1 q2 q3 q4 qz ql hVQ FQ hIQ hoQ FXQ;obtain ⟨q0, q1, q2, q3, q4, qz, ql⟩ := cells5 g8Q;go_wp2_with fail
    refine HKe.out.mono ?_;rintro e VR ⟨err, rfl, FR, hr⟩;have HR := hi2 FR hr;clear FR hr q0 q1 q2 q3 q4 qz ql g8Q HKe;go_wp2_with fail
    go_ret2;refine ⟨false, err, rfl, FrX.trans (FrX.none HF1.out) (FrX.trans HQ.out (frX_mono HR.out.1 (fun b hb => .inl hb))), ?_⟩;rcases HR.out.2 with ⟨rfl, m, y', x', t', hI', hx', hL'⟩ | ⟨rfl, ha, hDn⟩
    ·refine .inl ⟨rfl, by rw [<- HRes.out], y', x', t.put x.depth (preM E.hash x.depth) (fun _ _ => .leaf (↑m, ↑y.gen) (putB (es.filter (freshB oldest)) E)), N1 + 3 + 20, ?_, ?_, ?_, ?_, HT.out.2.2.2.trans hL'.1, hL'.2.1.trans HG.out.1, hL'.2.2.trans HG.out.2⟩
     ·rw [<- HRes.out];exact idxT_leaf HBk.out.1 HT.out.2.1 HT.out.1 HT.out.2.2.1 HJ.out HOP.out.2.2.2 hx' hI'
     ·have h1 : (t.put x.depth (preM E.hash x.depth) (fun _ _ => .leaf (↑m, ↑y.gen) (putB (es.filter (freshB oldest)) E))).refs.length = t.refs.length := Nat.add_right_cancel (refs_put (fun _ _ => .leaf (↑m, ↑y.gen) (putB (es.filter (freshB oldest)) E)) 1 (fun _ _ => rfl) t x.depth (preM E.hash x.depth));have h2 := HNr.out.2.1;omega
     ·rw [<- HRes.out];exact bare_put _ _ (fun _ _ => rfl) t x.depth _
     ·rw [<- HRes.out]; exact hx'
    ·exact .inr ⟨rfl, ha, down_like (hDn.mono (by have := HNr.out; omega)) HT.out.2.2.2⟩
   | false =>
    have HRo1 := hid hro;clear hro;obtain ⟨q0, q1, q2, q3, q4, qz, ql⟩ := cells5 HSVS.out.2.1;obtain ⟨t0', t1', t2', t3', tz', tl'⟩ := HB4.out VS HSVS.out.2.2.2.1;have HRm := hid (xroom_ok HSVS.out.1.idx HSVS.out.2.2.1 HK1.out.2.1 (by have := HK1.out.1; omega) d p E.hash);rw [HSVS.out.2.2.2.2, HRo1.out] at HRm;go_wp2_with fail
    refine HRm.out.mono ?_;rintro e V4 ⟨rfl, FR⟩;have HSV4 := hid (show PS w1 B bx bd y P a (N1 + 3) x tops (t.slots x.depth) L sp b8 r1 d p va1 n1 vc1 (es.filter (freshB oldest)) V4 from ⟨HSVS.out.1.fr0 FR, FR.heap HSVS.out.2.1 (fun h => h), oN HSVS.out.2.2.1 FR, FrX.trans HSVS.out.2.2.2.1 (FrX.none FR), HSVS.out.2.2.2.2⟩);clear FR q0 q1 q2 q3 q4 qz ql t0' t1' t2' t3' tz' tl' HRm;obtain ⟨q0, q1, q2, q3, q4, qz, ql⟩ := cells5 HSV4.out.2.1;obtain ⟨t0', t1', t2', t3', tz', tl'⟩ := HB4.out V4 HSV4.out.2.2.2.1;obtain ⟨i0, i1, i2, i3, i4, iz, il⟩ := cells5 HSV4.out.1.idx;by_cases hd3 : d < 3
    ·have hd3i : (d : Int) < 3 := (by omega);go_wp2_with fail
     go_quiet (fail)
     have HSV5 := hid (HSV4.out.fr0 ((Fr.refl _ _).drewN nq));clear q0 q1 q2 q3 q4 qz ql t0' t1' t2' t3' tz' tl' i0 i1 i2 i3 i4 iz il;obtain ⟨V5, hV5⟩ : ∃ V5, V4.drewN nq = V5 := ⟨_, rfl⟩
     rw [hV5] at HSV5 ⊢;clear hV5;obtain ⟨q0, q1, q2, q3, q4, qz, ql⟩ := cells5 HSV5.out.2.1;have hLl : L.length = t.refs.length := (by rw [HT.out.2.2.1.length_eq, lds_len]);have hk12 := bk_halves HK1.out (by omega);have hgs : ∃ g sl', (d = x.depth /\ g = x.depth + 1 /\ sl' = dblM (t.slots x.depth) \/ d ≠ x.depth /\ g = x.depth /\ sl' = t.slots x.depth) /\ (∃ k, BktAt t g L k d p r1 es /\ sl' = t.slots g /\ putS f ((bare t).put g k (nodeE d (es.filter (freshB oldest)))) g (sp + 1) E oldest = R) /\ max t.high (d + 1) = g := by
      have hq := HPe.out;rw [HPS.out, HFe.out, if_neg (by rw [HRo1.out]; decide), if_pos hd3] at hq;by_cases hdx : d = x.depth
      ·rw [if_pos hdx] at hq;exact ⟨x.depth + 1, _, .inl ⟨hdx, rfl, rfl⟩, ⟨_, bkt_dbl HBk.out.1 (Nat.le_of_eq HT.out.2.1) HT.out.1 HT.out.2.2.1, slots_dblM t x.depth (Nat.le_of_eq HT.out.2.1), hq.symm⟩, by rw [HT.out.2.1]; omega⟩
      ·rw [if_neg hdx] at hq;exact ⟨x.depth, _, .inr ⟨hdx, rfl, rfl⟩, ⟨_, HBk.out.1, rfl, hq.symm⟩, by rw [HT.out.2.1]; have := HD.out.2.1; omega⟩
     obtain ⟨g, sl', hg, ⟨kk, hbg, hslg, hpg⟩, hmx⟩ := hgs;have hsl : ∀ i ∈ slN (p * 2 ^ (g - d)) (2 ^ (g - d)), sl'[i]? = some r1 := by
      rw [hslg]; exact bkt_own hbg (by omega)
     have HSp := hid (xsplit_ok HSV5.out.1 HJ.out HSV5.out.2.2.1 HK1.out HD.out.2.1 hd3 HD.out.2.2 (by have := HNr.out; omega) (by have := HNr.out; omega) hg hsl (by have := HNr.out; omega));rw [HSV5.out.2.2.2.2] at HSp;have HGG := hi2 hbg (aI hslg (aI hpg (aI hmx (aI hk12 hd3))));clear hg hsl hLl hk12 hbg hslg hpg hmx;go_wp2_with fail
     refine HSp.out.mono ?_;rintro e VR ⟨err, rfl, FR, hr⟩;have HR := hi2 FR hr;clear FR hr q0 q1 q2 q3 q4 qz ql HSp;rcases HR.out.2 with ⟨rfl, m0, m1, y', x', tops', hI', hx', hL'⟩ | ⟨rfl, ha, hDn⟩
     ·have HIn := hi2 hI' (aI hx' hL');clear hI' hx' hL';go_wp2_with fail
      go_roundg f
      case measure => omega
      case rel =>
       refine ⟨rfl, ?_⟩;have hI' := HIn.out.1;rw [HGG.out.2.1] at hI';have hT := idxT_node HGG.out.1 (by have := HGG.out.2.2.2.1; omega) HGG.out.2.2.2.1 HT.out.1 HT.out.2.2.1 HJ.out HGG.out.2.2.2.2.1.1 HGG.out.2.2.2.2.1.2 HIn.out.2.1 hI';obtain ⟨tops2, L2, hM2, hP2⟩ := hT.ex;have h1 : (t.put g kk (fun _ _ => .node (.leaf (↑m0, ↑y.gen) ((es.filter (freshB oldest)).filter fun x => !halfB d x)) (.leaf (↑m1, ↑y.gen) ((es.filter (freshB oldest)).filter (halfB d))))).refs.length = t.refs.length + 1 := Nat.add_right_cancel (refs_put (fun _ _ => .node (.leaf (↑m0, ↑y.gen) ((es.filter (freshB oldest)).filter fun x => !halfB d x)) (.leaf (↑m1, ↑y.gen) ((es.filter (freshB oldest)).filter (halfB d)))) 2 (fun _ _ => rfl) t g kk);have h2 := HNr.out;have h3 := refs_le (t.put g kk (fun _ _ => .node (.leaf (↑m0, ↑y.gen) ((es.filter (freshB oldest)).filter fun x => !halfB d x)) (.leaf (↑m1, ↑y.gen) ((es.filter (freshB oldest)).filter (halfB d)))));rw [hT.high] at h3;have h4 : (2 : Nat) ^ x'.depth <= 2 ^ 3 := Nat.pow_le_pow_right (by decide) hM2.small.2.2;refine ⟨y', x', tops2, _, L2, sp + 1, N1 + 3 + 141, hM2, ⟨hP2, hT.high, hT.ok, HT.out.2.2.2.trans HIn.out.2.2.1⟩, ⟨HIn.out.2.2.2.1.trans HG.out.1, HIn.out.2.2.2.2.trans HG.out.2⟩, ?_, ⟨by omega, by omega, by omega⟩, ⟨by omega, by omega⟩, FrX.trans HSV5.out.2.2.2.1 HR.out.1⟩;rw [HIn.out.2.1, bare_put _ (nodeE d (es.filter (freshB oldest))) (fun _ _ => rfl) t g kk];exact HGG.out.2.2.1
     ·have HX := hi2 ha hDn;clear ha hDn;go_wp2_with fail
      go_ret2;exact ⟨false, 4, rfl, FrX.trans (FrX.none HF1.out) ((FrX.trans HSV5.out.2.2.2.1 HR.out.1)), .inr ⟨rfl, HX.out.1, down_like (HX.out.2.mono (by have := HNr.out; omega)) HT.out.2.2.2⟩⟩
    ·have hd3i : ¬ (d : Int) < 3 := (by omega);go_wp2_with fail
     go_quiet (fail)
     have HSV5 := hid (HSV4.out.fr0 ((Fr.refl _ _).drewN nq));clear q0 q1 q2 q3 q4 qz ql t0' t1' t2' t3' tz' tl' i0 i1 i2 i3 i4 iz il;obtain ⟨V5, hV5⟩ : ∃ V5, V4.drewN nq = V5 := ⟨_, rfl⟩
     rw [hV5] at HSV5 ⊢;clear hV5;obtain ⟨q0, q1, q2, q3, q4, qz, ql⟩ := cells5 HSV5.out.2.1;obtain ⟨t0', t1', t2', t3', tz', tl'⟩ := HB4.out V5 HSV5.out.2.2.2.1;have HEl := hid (belder_ok HSV5.out.2.2.1 (by have := HK1.out.1; omega) d p);rw [HSV5.out.2.2.2.2] at HEl;have hlen3 : 3 <= (es.filter (freshB oldest)).length := by
      have h := HRo1.out;unfold roomB at h;simp only [Bool.or_eq_false_iff, decide_eq_false_iff_not] at h;omega
     obtain ⟨i, hbi, hil⟩ := elder_lt (es := (es.filter (freshB oldest))) (by intro h; rw [h] at hlen3; simp at hlen3);go_wp2_with fail
     refine HEl.out.mono ?_;rintro e V6 ⟨he, FR⟩;rw [hbi] at he;subst he;rw [HSV5.out.2.2.2.2] at hbi;have HSV6 := hid (show PS w1 B bx bd y P a (N1 + 3) x tops (t.slots x.depth) L sp b8 r1 d p va1 n1 vc1 (es.filter (freshB oldest)) V6 from HSV5.out.fr0 FR);have hdel := delete_e_ok HSV6.out.2.2.1 (by have := HK1.out.1; omega) i (i + 1) hil rfl;rw [HSV6.out.2.2.2.2] at hdel;have HDl := hid (show Calls Tryz.prog 135 #[.slice va1 n1 vc1, .int .i64 i, .int .i64 ((i : Int) + 1)] V6 _ from hdel);have HRes := hid (show (⟨(bare t).put x.depth (preM E.hash x.depth) (leafE (putB ((es.filter (freshB oldest)).eraseIdx i) E)), x.depth, sp, true⟩ : PutRes) = R by
      rw [<- HPS.out, HPe.out, HFe.out, if_neg (by rw [HRo1.out]; decide), if_neg hd3, HSV6.out.2.2.2.2, hbi]; rfl)
     have HK2 := hid (bk_erase HK1.out i);have HRo2 := hid (show roomB ((es.filter (freshB oldest)).eraseIdx i) E.hash 3 = true by
      have h1 := HK1.out.1;unfold roomB;rw [List.length_eraseIdx_of_lt hil];simp only [Bool.or_eq_true, decide_eq_true_eq];exact .inr (by omega))
     clear hdel hbi HEl FR q0 q1 q2 q3 q4 qz ql t0' t1' t2' t3' tz' tl';have hi9 : i < 9 := (by have := HK1.out.1; omega);have HIL := hid hil;clear hil hlen3;obtain ⟨q0, q1, q2, q3, q4, qz, ql⟩ := cells5 HSV6.out.2.1;obtain ⟨t0', t1', t2', t3', tz', tl'⟩ := HB4.out V6 HSV6.out.2.2.2.1;go_wp2_with fail
     refine HDl.out.mono ?_;rintro e VD ⟨v', rfl, hoD, FD⟩;obtain ⟨va2, vc2, rfl, -, -, -, -⟩ := oSl hoD;obtain ⟨n2, hn2⟩ : ∃ n2, ((es.filter (freshB oldest)).eraseIdx i).length = n2 := ⟨_, rfl⟩
     have HNP2 := hid hn2;have hnb : ∀ g, some g = (Value.slice va1 n1 vc1).ownBlock -> g ≠ b8 := fun g hg e => by
      obtain ⟨_, c, hc⟩ := oBT HSV6.out.2.2.1 (show some g = _ by rw [HSV6.out.2.2.2.2]; exact hg);rw [e, HSV6.out.2.1] at hc; cases hc
     have hOB : ∀ g, (Value.slice va1 n1 vc1).ownBlock = some g -> w1.heap.size <= g := fun g hg => HOB.out g (by rw [HSV6.out.2.2.2.2]; exact hg.symm)
     have HOP := hi2 (HSV6.out.1.turn (own_re HSV6.out.2.2.1 (b' := w1.heap.size) (fun g hg => HOB.out g hg.symm)) (by rw [HSV6.out.2.2.2.2]; exact FD) (by have := HS1.out; omega)) (aI hoD (FrX.newS HSV6.out.2.2.2.1 FD hOB));have HGP := hid (show VD.heap[b8]? = some (.cells #[.int .i64 r1.1, .int .i64 r1.2, .int .i64 d, .int .i64 p, .slice va1 n1 vc1] 131) from FD.heap HSV6.out.2.1 (fun e => hnb b8 e.symm rfl));clear q0 q1 q2 q3 q4 qz ql t0' t1' t2' t3' tz' tl' HDl hnb hOB hoD FD hn2;obtain ⟨q0, q1, q2, q3, q4, qz, ql⟩ := cells5 HGP.out;rw [HNP2.out];go_upto_region 18 with fail
     obtain ⟨V7, hV7⟩ : ∃ V7, VD.setCell ⟨b8, 4, none⟩ (.slice va2 n2 vc2) = V7 := ⟨_, rfl⟩
     rw [hV7];have FQ : Fr (fun k => k = b8) VD V7 := (by rw [<- hV7]; exact (Fr.refl (fun k => k = b8) VD).setCell (a := ⟨b8, _, none⟩) (fun _ => rfl) _);have g8Q : V7.heap[b8]? = some (.cells #[.int .i64 r1.1, .int .i64 r1.2, .int .i64 d, .int .i64 p, .slice va2 n2 vc2] 131) := (by rw [<- hV7]; exact hsc _ _ _ _ HGP.out);have hoQ : OwnE V7 0 (.slice va2 ((es.filter (freshB oldest)).eraseIdx i).length vc2) _ := own_fr1 (own_base HOP.out.2.1) FQ (fun g hg e => by
      obtain ⟨_, c, hc⟩ := oBT HOP.out.2.1 (show some g = _ from hg.symm);rw [e, HGP.out] at hc; cases hc)
     have HSV7 := hid (show PS w1 B bx bd y P a (N1 + 3) x tops (t.slots x.depth) L sp b8 r1 d p va2 n2 vc2 ((es.filter (freshB oldest)).eraseIdx i) V7 from ⟨HOP.out.1.setNew FQ HGP.out (by decide) H8.out.1, g8Q, hoQ, FrX.new HOP.out.2.2 FQ H8.out.2, HNP2.out⟩);clear q0 q1 q2 q3 q4 qz ql hV7 FQ g8Q hoQ HOP HGP hi9;obtain ⟨q0, q1, q2, q3, q4, qz, ql⟩ := cells5 HSV7.out.2.1;obtain ⟨t0', t1', t2', t3', tz', tl'⟩ := HB4.out V7 HSV7.out.2.2.2.1;have HPt := hid (bput_ok HSV7.out.2.2.1 HK2.out.2.1 (by have := HK2.out.1; omega) d p E);rw [HSV7.out.2.2.2.2] at HPt;go_wp2_with fail
     refine HPt.out.mono ?_;rintro e VP ⟨ap, cp, rfl, hop, FP⟩;have hIP := HSV7.out.1.fr0 FP;have g8P := FP.heap HSV7.out.2.1 (fun h => h);have FXP := FrX.trans HSV7.out.2.2.2.1 (FrX.none FP);have hkP := bk_put HK2.out HRo2.out HE.out HBk.out.2.2;obtain ⟨np, hnp⟩ : ∃ np, (putB ((es.filter (freshB oldest)).eraseIdx i) E).length = np := ⟨_, rfl⟩
     have HNP := hid hnp;rw [hnp];clear q0 q1 q2 q3 q4 qz ql t0' t1' t2' t3' tz' tl' HPt hnp;have HOP := hi2 hIP (aI hop (aI FXP hkP));have HGP := hid g8P;obtain ⟨q0, q1, q2, q3, q4, qz, ql⟩ := cells5 g8P;clear hIP hop FXP hkP g8P FP;go_upto_region 19 with fail
     obtain ⟨VQ, hVQ⟩ : ∃ VQ, ((VP.setCell ⟨b8, 2, none⟩ (.int .i64 d)).setCell ⟨b8, 3, none⟩ (.int .i64 p)).setCell ⟨b8, 4, none⟩ (.slice ap np cp) = VQ := ⟨_, rfl⟩
     rw [hVQ];have FQ : Fr (fun k => k = b8) VP VQ := (by rw [<- hVQ]; exact set3_fr VP b8 _ _ _);have g8Q : VQ.heap[b8]? = some (.cells #[.int .i64 r1.1, .int .i64 r1.2, .int .i64 d, .int .i64 p, .slice ap np cp] 131) := (by rw [<- hVQ]; exact set3_heap HGP.out _ _ _);have hIQ := HOP.out.1.setNew FQ HGP.out (by decide) H8.out.1;have hoQ : OwnE VQ 0 (.slice ap (putB ((es.filter (freshB oldest)).eraseIdx i) E).length cp) _ := own_fr1 (own_base HOP.out.2.1) FQ (fun g hg e => by
      obtain ⟨_, c, hc⟩ := oBT HOP.out.2.1 (show some g = _ from hg.symm);rw [e, HGP.out] at hc; cases hc)
     have FXQ := FrX.new HOP.out.2.2.1 FQ H8.out.2;have HKe := hid (xkeep_ok hIQ (j := j) HJ.out hoQ HOP.out.2.2.2 HD.out.2.1 HD.out.2.2 (bkt_own HBk.out.1 (Nat.le_of_eq HT.out.2.1)) (by have := HNr.out.2.2.2.2.2.2; omega));rw [HNP.out] at HKe;have HQ := hid FXQ;clear q0 q1 q2 q3 q4 qz ql hVQ FQ hIQ hoQ FXQ;obtain ⟨q0, q1, q2, q3, q4, qz, ql⟩ := cells5 g8Q;go_wp2_with fail
     refine HKe.out.mono ?_;rintro e VR ⟨err, rfl, FR, hr⟩;have HR := hi2 FR hr;clear FR hr q0 q1 q2 q3 q4 qz ql g8Q HKe;go_wp2_with fail
     go_ret2;refine ⟨true, err, rfl, FrX.trans (FrX.none HF1.out) (FrX.trans HQ.out (frX_mono HR.out.1 (fun b hb => .inl hb))), ?_⟩;rcases HR.out.2 with ⟨rfl, m, y', x', t', hI', hx', hL'⟩ | ⟨rfl, ha, hDn⟩
     ·refine .inl ⟨rfl, by rw [<- HRes.out], y', x', t.put x.depth (preM E.hash x.depth) (fun _ _ => .leaf (↑m, ↑y.gen) (putB ((es.filter (freshB oldest)).eraseIdx i) E)), N1 + 3 + 20, ?_, ?_, ?_, ?_, HT.out.2.2.2.trans hL'.1, hL'.2.1.trans HG.out.1, hL'.2.2.trans HG.out.2⟩
      ·rw [<- HRes.out];exact idxT_leaf HBk.out.1 HT.out.2.1 HT.out.1 HT.out.2.2.1 HJ.out HOP.out.2.2.2 hx' hI'
      ·have h1 : (t.put x.depth (preM E.hash x.depth) (fun _ _ => .leaf (↑m, ↑y.gen) (putB ((es.filter (freshB oldest)).eraseIdx i) E))).refs.length = t.refs.length := Nat.add_right_cancel (refs_put (fun _ _ => .leaf (↑m, ↑y.gen) (putB ((es.filter (freshB oldest)).eraseIdx i) E)) 1 (fun _ _ => rfl) t x.depth (preM E.hash x.depth));have h2 := HNr.out.2.1;omega
      ·rw [<- HRes.out];exact bare_put _ _ (fun _ _ => rfl) t x.depth _
      ·rw [<- HRes.out]; exact hx'
     ·exact .inr ⟨rfl, ha, down_like (hDn.mono (by have := HNr.out; omega)) HT.out.2.2.2⟩
theorem set3a_fr (W : World) (b : Nat) (u0 u1 u2 : Value) : Fr (fun k => k = b) W (((W.setCell ⟨b, 0, none⟩ u0).setCell ⟨b, 1, none⟩ u1).setCell ⟨b, 2, none⟩ u2) :=
 (((Fr.refl (fun k => k = b) W).setCell (a := ⟨b, _, none⟩) (fun _ => rfl) _).setCell (a := ⟨b, _, none⟩) (fun _ => rfl) _).setCell (a := ⟨b, _, none⟩) (fun _ => rfl) _
theorem FrB.new3 (F1 : Fq w w1) (h : FrB B w1 V) (F : Fr (fun k => k = w.heap.size) V V') : FrB B w V' := Fr.trans (FrB.trans (FrB.none F1) h) F fun k hk e => by omega
def FindU (B : Blk) (bx bd : Nat) (y : Cs) (P : Prot) (a : Bool) (N : Nat) (x : DirD) (tops slots : List Rf) (L : List Bp) (sp : Int) (es : List Bt) (h : Nat) (w : World) (e : Ending) (w' : World) : Prop :=
 ∃ (c0 c1 c2 : Int) (ok : Bool) (err : Int), e = .returned (.tuple #[.agg #[.int .i64 c0, .int .i64 c1, .int .i64 c2], .bool ok, .int .i64 err]) /\ FrB B w w' /\
  ((err = 0 /\ ok = hasB es h /\ .agg #[.int .i64 c0, .int .i64 c1, .int .i64 c2] = locV (atB es h) /\ IdxM w' B bx bd y P a N x tops slots L sp) \/ (err = 4 /\ a = true /\ DownC w' B y P N))
theorem loc_three (o : Option Bt) : ∃ c0 c1 c2 : Int, locV o = .agg #[.int .i64 c0, .int .i64 c1, .int .i64 c2] := by
 cases o with
 | none => exact ⟨_, _, _, rfl⟩
 | some e => exact ⟨_, _, _, rfl⟩
theorem xfind_ok (h : IdxM w B bx bd y P a N x tops slots L sp) (hh : hash < 18446744073709551616) (hs : slots[preM hash x.depth]? = some r) (hq : (r, packM d p es) ∈ L) (hk : BkOk d p es) (hd : d <= 8) (hp : p < 2 ^ d) (hN : N + 3 <= 90000) :
  Calls Tryz.prog 66 #[xptr bx, .int .u64 hash] w (FindU B bx bd y P a (N + 3) x tops slots L sp es hash w) := by
 obtain ⟨w1, hw1⟩ : ∃ w1, w.alloc (.cells #[.int .i64 0, .int .i64 0, .int .i64 0] 116) = w1 := ⟨_, rfl⟩
 have b4 : w1.heap[w.heap.size]? = some (.cells #[.int .i64 0, .int .i64 0, .int .i64 0] 116) := by rw [<- hw1]; exact han _ _
 have F1 : Fq w w1 := by rw [<- hw1]; exact (Fr.refl _ _).alloc _
 have hs1 : w1.heap.size = w.heap.size + 1 := by rw [<- hw1]; simp
 have HB4 := hid (fun (V : World) (F : FrB B w1 V) => cells3 (F.heap b4 (by decide)));have HB5 := hid (fun (V : World) (F : FrB B w1 V) => F.heap b4 (by decide));have HBl := hid (show 0 < w.heap.size by have := h.bd_lt; omega);have HOf := hid (xof_ok (h.fr0 F1) hh hs hq hk hd hp hN);have HF1 := hid F1;have HS1 := hid hs1;have HK := hi2 hk hN;have HW := hid hw1;obtain ⟨a0, a1, a2, az, al⟩ := HB4.out _ (FrB.refl _ _);clear h hw1 b4 F1 hs1 hs hq hk hd hp hN hh;go_enter Tryz.func66, Tryz.ntmps66;go_upto_region 1 with fail
 rw [HW.out];go_wp2_with fail
 refine HOf.out.mono ?_;rintro e V1 ⟨r1, d1, p1, va, n, vc, err, rfl, F1, hr⟩;have HR1 := hi2 F1 hr;clear F1 hr HOf a0 a1 a2 az al;obtain ⟨b8, hb8⟩ : ∃ b8, V1.heap.size = b8 := ⟨_, rfl⟩
 have H8 := hid (show w.heap.size < b8 by
  have h2 := HR1.out.1.size;have h3 := HS1.out;omega)
 go_upto_region 4 with fail
 obtain ⟨V2, hV2⟩ : ∃ V2, V1.alloc (.cells #[.int .i64 r1.1, .int .i64 r1.2, .int .i64 d1, .int .i64 p1, .slice va n vc] 131) = V2 := ⟨_, rfl⟩
 rw [hV2];have FV : Fq V1 V2 := by rw [<- hV2]; exact (Fr.refl _ _).alloc _
 have g8 : V2.heap[b8]? = some (.cells #[.int .i64 r1.1, .int .i64 r1.2, .int .i64 d1, .int .i64 p1, .slice va n vc] 131) := by rw [<- hV2, <- hb8]; exact han _ _
 have HF2 := hid (FrB.trans HR1.out.1 (FrB.none FV));have HFV := hid FV;have HG8 := hid g8;clear hb8 hV2 FV g8;rcases HR1.out.2 with ⟨rfl, ⟨rfl, rfl, rfl, hn⟩, ho, hM⟩ | ⟨rfl, ha, hDn⟩
 rotate_left
 ·have HX := hi2 ha (hDn.fr0 HFV.out);clear ha hDn;obtain ⟨a0, a1, a2, az, al⟩ := HB4.out _ HF2.out;go_wp2_with fail
  refine bodyPost_ret (v := .tuple #[.agg #[.int .i64 0, .int .i64 0, .int .i64 0], .bool false, .int .i64 4]) (by simp [results, go_sem, *]) rfl ?_;exact ⟨0, 0, 0, false, 4, rfl, FrB.new3 HF1.out HF2.out (set3a_fr _ _ _ _ _), .inr ⟨rfl, HX.out.1, HX.out.2.frL (set3a_fr _ _ _ _ _) (HB5.out _ HF2.out) (by decide)⟩⟩
 ·have HM := hid (hM.fr0 HFV.out);have HFd := hid (find_ok (oN (own_base ho) HFV.out) HK.out.1.2.1 (by have := HK.out.1.1; omega) d p hash);rw [<- hn] at HFd;clear ho hM hn;obtain ⟨a0, a1, a2, az, al⟩ := HB4.out _ HF2.out;obtain ⟨q0, q1, q2, q3, q4, qz, ql⟩ := cells5 HG8.out;go_wp2_with fail
  refine HFd.out.mono ?_;rintro e V3 ⟨rfl, F3⟩;obtain ⟨c0, c1, c2, hloc⟩ := loc_three (atB es hash);obtain ⟨ok, hok⟩ : ∃ ok, hasB es hash = ok := ⟨_, rfl⟩
  have HL := hi2 hloc hok;rw [hloc, hok];have HF3 := hid F3;clear F3 a0 a1 a2 az al q0 q1 q2 q3 q4 qz ql hloc hok HFd;obtain ⟨a0, a1, a2, az, al⟩ := HB4.out _ (FrB.trans HF2.out (FrB.none HF3.out));go_wp2_with fail
  refine bodyPost_ret (v := .tuple #[.agg #[.int .i64 c0, .int .i64 c1, .int .i64 c2], .bool ok, .int .i64 0]) (by simp [results, go_sem, *]) rfl ?_;have F4 := FrB.trans HF2.out (FrB.none HF3.out);refine ⟨c0, c1, c2, ok, 0, rfl, FrB.trans (FrB.new3 HF1.out F4 (set3a_fr _ _ _ _ _)) (FrB.none ((Fr.refl _ _).alloc _)), .inl ⟨rfl, HL.out.2.symm, HL.out.1.symm, ?_⟩⟩;exact ((HM.out.fr0 HF3.out).setNew (set3a_fr _ _ _ _ _) (HB5.out _ F4) (by decide) HBl.out).fr0 ((Fr.refl _ _).alloc _)
theorem live_nil11 (h : ∀ k, y.taken k = false) (hd : ∀ k, y.dying k = false) (he : ∀ k, y.dead k = false) : Live y [] 11 :=
 ⟨List.nodup_nil, fun k hk => (by cases hk), fun k hk => (by cases hk), fun k _ ht => (by rw [h] at ht; cases ht), ⟨[], fun k hk => (by rw [hd] at hk; cases hk), by simp⟩, ⟨[], fun k hk => (by rw [he] at hk; cases hk), by simp⟩⟩
theorem at17 : atZ small17 = ⟨6, 3, 0, 0, 0⟩ := by
 have h6 : (layM small17).per.toNat = 6 := by decide +kernel
 unfold atZ;rw [h6];rfl
theorem most17 : mostP small17 = 3 := by decide +kernel
theorem open17 (y : Cs) (c : Cont) (D : Dev) (hD : D = Dev.fresh 120 96) (hy : y = openY small17 0 D c) : y.plan = small17 /\ y.pages = 108 /\ y.room = 77 /\ y.places = 8 /\ y.gen = 1 /\ y.cont = c /\ (∀ k, y.taken k = false) /\ (∀ k, y.fresh k = false) /\ (∀ k, y.dying k = false) /\ ∀ k, y.dead k = false := by
 subst hy hD;exact ⟨rfl, (show (layM small17).pages.toNat = 108 by decide +kernel), rfl, rfl, rfl, rfl, fun _ => rfl, fun _ => rfl, fun _ => rfl, fun _ => rfl⟩
theorem fm_idx {N' m0 m1 m2 : Nat} {ld : List Int} (h0 : StoreC w B y noP false N) (hp : y.plan = small17) (hpg : y.pages = 108) (hrm : y.room = 77) (hpl : y.places = 8) (ht : ∀ k, y.taken k = false) (hd : ∀ k, y.dying k = false) (he : ∀ k, y.dead k = false)
  (t0 : TakeIs y.taken y.pages y.hand m0) (t1 : TakeIs (y.new m0 ld).taken y.pages (y.new m0 ld).hand m1) (t2 : TakeIs ((y.new m0 ld).new m1 (loadM [((m0 : Int), (y.gen : Int))])).taken y.pages ((y.new m0 ld).new m1 (loadM [((m0 : Int), (y.gen : Int))])).hand m2)
  {w' : World} (hS : StoreC w' B (((y.new m0 ld).new m1 (loadM [((m0 : Int), (y.gen : Int))])).new m2 (loadM [((m1 : Int), (y.gen : Int))])) noP false N') (hD : DirAt w' bd B.s { atZ y.plan with rp := m2, rs := y.gen }) (hI : IdxAt w' bx B.s bd 3 3 0) (hbase : B.base <= bd /\ B.base <= bx) :
  ∃ y' x tops, IdxM w' B bx bd y' noP false N' x tops [((m0 : Int), (y.gen : Int))] [(((m0 : Int), (y.gen : Int)), ld)] 0 /\ x.depth = 0 /\ (Like y y' /\ y'.gen = y.gen /\ y'.dead = y.dead) := by
 have hfit : fitsM y.plan = true := by rw [hp]; exact small17_fits
 have hL := live_nil11 ht hd he;have hgl := gen_small h0;have hm0 : m0 < 108 := by rw [<- hpg]; exact t0.1
 have hm1 : m1 < 108 := by rw [<- hpg]; exact t1.1
 have hm2 : m2 < 108 := by rw [<- hpg]; exact t2.1
 have n01 : m0 ≠ m1 := fun e => by have := t1.2.1; simp [Cs.new, upd, e] at this
 have n02 : m0 ≠ m2 := fun e => by have := t2.2.1; simp [Cs.new, upd, e] at this
 have n12 : m1 ≠ m2 := fun e => by have := t2.2.1; simp [Cs.new, upd, e] at this
 rw [hp, at17] at hD;have a0 := h0.apart;have a1 : Apart (y.new m0 ld).taken (y.new m0 ld).fresh (y.new m0 ld).dying (y.new m0 ld).dead := a0.new t0.2.1;have a2 : Apart ((y.new m0 ld).new m1 (loadM [((m0 : Int), (y.gen : Int))])).taken ((y.new m0 ld).new m1 (loadM [((m0 : Int), (y.gen : Int))])).fresh ((y.new m0 ld).new m1 (loadM [((m0 : Int), (y.gen : Int))])).dying ((y.new m0 ld).new m1 (loadM [((m0 : Int), (y.gen : Int))])).dead := a1.new t1.2.1;have l2 := ((hL.new (bs := ld) a0 t0).new (bs := loadM [((m0 : Int), (y.gen : Int))]) a1 t1).new (bs := loadM [((m1 : Int), (y.gen : Int))]) a2 t2;have e2 : (([] : List Nat) ++ [m0] ++ [m1] ++ [m2]).Perm (pgs (m2 : Int) [((m1 : Int), (y.gen : Int))] ++ bpg [(((m0 : Int), (y.gen : Int)), ld)]) := by
  simp only [pgs, bpg, List.map_cons, List.map_nil, List.nil_append, List.append_nil, Int.toNat_natCast, List.cons_append];exact (List.Perm.swap _ _ _).trans (((List.Perm.swap _ _ _).cons _).trans (List.Perm.swap _ _ _))
 refine ⟨_, ⟨6, 3, 0, m2, y.gen⟩, [((m1 : Int), (y.gen : Int))], ⟨hS, hI, hD, ⟨?_, (by simp [DirD.slots]), (by simp [DirD.leaves, DirD.slots]), ⟨?_, ?_, ?_⟩, ⟨by simp, by simp⟩, ?_⟩, l2.perm e2, ?_, by simp, hp, hpg, hrm, hpl, ⟨rfl, rfl⟩, hbase⟩, rfl, ⟨?_, rfl, rfl⟩⟩
 ·refine dirZ_of (x := ⟨6, 3, 0, (m2 : Int), (y.gen : Int)⟩) (by simpa [Cs.new] using hfit) (by simp only [Cs.new]; rw [hp]; decide +kernel) (by simp only [Cs.new]; rw [hp]; rfl) (by simp only [Cs.new]; rw [hp, hrm]; rfl) (by simp) (by simp only [Cs.new]; omega)
 ·intro q hq; simp at hq; subst hq; exact right_of (by omega) hgl
 ·intro q hq; simp at hq; subst hq; exact right_of (by omega) hgl
 ·intro i q hi;cases i with
  | zero =>
   simp at hi;subst hi;simp only [Cs.new];rw [updC_ne (by omega), updC_same];simp [chunk]
  | succ i => simp at hi
 ·simp only [Cs.new];rw [updC_same]; simp
 ·intro q hq;simp at hq;subst hq;refine ⟨right_of (by omega) hgl, ?_⟩;simp only [Cs.new];rw [updC_ne (by omega), updC_ne (by omega), updC_same];simp
 ·exact ⟨rfl, rfl, rfl, rfl, rfl, rfl, rfl⟩
def FmtI (B : Blk) (y : Cs) (N : Nat) (w : World) (e : Ending) (w' : World) : Prop :=
 ∃ (bx bd : Nat) (y' : Cs) (x : DirD) (tops : List Rf) (r : Rf), e = .returned (.tuple #[xptr bx, .int .i64 0]) /\ FrB B w w' /\ (w.heap.size <= bx /\ w.heap.size <= bd) /\ IdxM w' B bx bd y' noP false (N + 3) x tops [r] [(r, packM 0 0 [])] 0 /\ x.depth = 0 /\ (Like y y' /\ y'.gen = y.gen /\ y'.dead = y.dead)
theorem xformat_ok (h : StoreC w B y noP false N) (hp : y.plan = small17) (hpg : y.pages = 108) (hrm : y.room = 77) (hpl : y.places = 8) (ht : ∀ k, y.taken k = false) (hd : ∀ k, y.dying k = false) (he : ∀ k, y.dead k = false) (hb : B.base <= w.heap.size) (hN : N + 3 <= 90000) :
  Calls Tryz.prog 127 #[B.ptr] w (FmtI B y N w) := by
 have hfit : fitsM y.plan = true := by rw [hp]; exact small17_fits
 have HOn := hid (xon_ok h hfit);have HH := hi2 h (aI hp (aI hpg (aI hrm (aI hpl (aI ht (aI hd (aI he (aI hb hN))))))));clear h hp hpg hrm hpl ht hd he hfit;go_enter Tryz.func127, Tryz.ntmps127;go_wp2_with fail
 refine HOn.out.mono ?_;rintro e w1 ⟨bx, rfl, hbx, hbxl, F1⟩;rw [HH.out.2.1, most17] at hbx;have hPk := pack_ok (w := w1) (v := .slice none 0 0) (es := []) ⟨by simp, .inl ⟨rfl, rfl⟩⟩ (by simp) (by simp) 0 0 3 (by decide) (by decide) (by simp) (by decide) (fun W F => by
  have := bright_ok (w := W) (v := .slice none 0 0) (es := []) ⟨by simp, .inl ⟨rfl, rfl⟩⟩ List.Pairwise.nil 0 0 3 (by decide) (by decide) (by decide) (by decide) (by simp) (by simp);exact this)
 have HPk := hid (show Calls Tryz.prog 188 #[.agg #[.int .i64 0, .int .i64 0, .slice none 0 0], .int .i64 3] w1 (fun e w' => ∃ a c, e = .returned (.tuple #[.slice a 10 c, .int .i64 0]) /\ ByV w' a 10 c (packM 0 0 []) /\ Fq w1 w') from hPk);obtain ⟨i0, i1, i2, i3, i4, iz, il⟩ := cells5 hbx;have HX := hi2 hbx (aI hbxl F1);clear hbx hbxl F1 hPk;go_wp2_with fail
 refine HPk.out.mono ?_;rintro e w2 ⟨pa, pc, rfl, hby, F2⟩;have hS2 := (HH.out.1.fr0 HX.out.2.2).fr0 F2;have HNw := hid (new_u hS2 (hby.inp B) (packM_byte 0 0 []) (by rw [HH.out.2.2.2.1]; decide) ⟨0, by rw [HH.out.2.2.1]; decide, HH.out.2.2.2.2.2.1 0⟩ (by have := HH.out.2.2.2.2.2.2.2.2.2; omega));have H2 := hi2 (F2.heap HX.out.1 (fun h => h)) (aI (HX.out.2.2.trans F2 (fun _ _ h => h)) hS2);clear F2 hby hS2 HPk i0 i1 i2 i3 i4 iz il;obtain ⟨i0, i1, i2, i3, i4, iz, il⟩ := cells5 H2.out.1;go_wp2_with fail
 refine HNw.out.mono ?_;rintro e w3 ⟨p, s, err, rfl, F3, ⟨rfl, m0, rfl, rfl, t0, hS3⟩ | ⟨_, ha, _⟩⟩;rotate_left
 ·cases ha
 have g3 := F3.heap H2.out.1 (by decide);have HT0 := hid t0;have H3 := hi2 F3 (aI g3 hS3);clear F3 g3 hS3 t0 HNw i0 i1 i2 i3 i4 iz il;obtain ⟨w4, hw4⟩ : ∃ w4, w3.alloc (.cells #[.int .i64 m0, .int .i64 y.gen] 35) = w4 := ⟨_, rfl⟩
 have F4 : Fq w3 w4 := by rw [<- hw4]; exact (Fr.refl _ _).alloc _
 have b4 : w4.heap[w3.heap.size]? = some (.cells #[.int .i64 m0, .int .i64 y.gen] 35) := by rw [<- hw4]; exact han _ _
 have hm0 : m0 < 108 := by have := HT0.out.1; rw [HH.out.2.2.1] at this; exact this
 have hl1 := (live_nil11 HH.out.2.2.2.2.2.1 HH.out.2.2.2.2.2.2.1 HH.out.2.2.2.2.2.2.2.1).new (bs := packM 0 0 []) HH.out.1.apart HT0.out;have hMk := make_dir_ok (H3.out.2.2.fr0 F4) (show fitsM (y.new m0 (packM 0 0 [])).plan = true by show fitsM y.plan = true; rw [HH.out.2.1]; exact small17_fits) hl1 (by show ([] ++ [m0]).length + 1 + 2 * 11 < y.pages; rw [HH.out.2.2.1]; simp) (by show y.pages <= _; rw [HH.out.2.2.1]; decide) (by show 12 <= y.room; rw [HH.out.2.2.2.1]; decide) ((m0 : Int), (y.gen : Int)) (right_of (by omega) (gen_small HH.out.1)) (by have := HH.out.2.2.2.2.2.2.2.2.2; omega);have HMk := hid hMk;have HF4 := hid F4;have HW4 := hid hw4;have HG4 := hid (F4.heap H3.out.2.1 (fun h => h));obtain ⟨c0, c1, cz, cl⟩ := cells2 b4;obtain ⟨i0, i1, i2, i3, i4, iz, il⟩ := cells5 HG4.out;clear hMk hl1 hw4 F4 b4 hm0;go_upto_region 8 with fail
 rw [HW4.out];go_wp2_with fail
 refine HMk.out.mono ?_;rintro e w5 ⟨v, err, rfl, F5, ⟨rfl, bd, m1, m2, rfl, hbd, hD, t1, t2, hS⟩ | ⟨_, ha, _⟩⟩;rotate_left
 ·cases ha
 have g5 := F5.heap HG4.out (by decide);have H5 := hi2 F5 (aI g5 (aI hbd (aI hD (aI t1 (aI t2 hS)))));clear F5 g5 hbd hD t1 t2 hS HMk i0 i1 i2 i3 i4 iz il c0 c1 cz cl;obtain ⟨i0, i1, i2, i3, i4, iz, il⟩ := cells5 H5.out.2.1;go_wp2_with fail
 go_ret2;have F0 : FrB B w w5 := FrB.trans (FrB.none H2.out.2.1) (FrB.trans H3.out.1 (FrB.trans (FrB.none HF4.out) H5.out.1));have F6 : Fr (fun k => k = bx) w5 (w5.setCell ⟨bx, 1, none⟩ (dptr bd)) := (Fr.refl (fun k => k = bx) w5).setCell (a := ⟨bx, 1, none⟩) (fun _ => rfl) _;have hbdw : w.heap.size <= bd := nT (FrB.trans (FrB.none H2.out.2.1) (FrB.trans H3.out.1 (FrB.none HF4.out))).size H5.out.2.2.1;have hbxw : w.heap.size <= bx := HX.out.2.1;have hI := fm_idx (ld := packM 0 0 []) HH.out.1 HH.out.2.1 HH.out.2.2.1 HH.out.2.2.2.1 HH.out.2.2.2.2.1 HH.out.2.2.2.2.2.1 HH.out.2.2.2.2.2.2.1 HH.out.2.2.2.2.2.2.2.1 HT0.out H5.out.2.2.2.2.1 H5.out.2.2.2.2.2.1 (H5.out.2.2.2.2.2.2.frL F6 H5.out.2.1 (by decide) (by have := HH.out.1.base; have := HH.out.1.base_le; omega)) (F6.heap H5.out.2.2.2.1 (fun e => by have h1 := H5.out.2.2.2.1; unfold DirAt at h1; rw [e, H5.out.2.1] at h1; cases h1)) (hsc _ _ _ _ H5.out.2.1) ⟨nT HH.out.2.2.2.2.2.2.2.2.1 hbdw, nT HH.out.2.2.2.2.2.2.2.2.1 hbxw⟩;obtain ⟨y', x, tops, hM, hx, hL⟩ := hI;exact ⟨bx, bd, y', x, tops, _, rfl, Fr.trans F0 F6 (fun k hk e => by omega), ⟨hbxw, hbdw⟩, hM, hx, hL⟩
def MadeI (w : World) (e : Ending) (w' : World) : Prop :=
 ∃ (B : Blk) (bx bd : Nat) (y : Cs) (x : DirD) (r : Rf), e = .returned (.tuple #[.pointer (some ⟨B.d, 0, none⟩), B.ptr, xptr bx]) /\ Fq w w' /\ (B.base = w.heap.size /\ w.heap.size <= bx /\ w.heap.size <= bd) /\ IdxT w' B bx bd y noP false 3 x (.leaf r []) 0 /\ x.depth = 0 /\ (y.gen = 1 /\ ∀ k, y.dead k = false)
theorem idxT_one (h : IdxM w B bx bd y noP false N x tops [r] [(r, packM 0 0 [])] 0) (hx : x.depth = 0) : IdxT w B bx bd y noP false N x (.leaf r []) 0 :=
 ⟨⟨tops, _, by rw [hx]; exact h, List.Perm.refl _⟩, by rw [hx]; rfl, ⟨by simp, List.Pairwise.nil, by simp⟩⟩
theorem made17_ok (w : World) (hT : Tab w) : Calls Tryz.prog 62 #[] w (MadeI w) := by
 have hT0 := hT.lt;have HT := hid hT;have H20 := hid (flashnew_ok 120 96 (by omega) (by omega) w);clear hT;go_enter Tryz.func62, Tryz.ntmps62;go_wp2_with fail
 refine H20.out.mono ?_;rintro e w1 ⟨rfl, hD, F1⟩;have HD := hid hD;have HF1 := hid F1;clear hD F1;go_wp2_with fail
 refine (small17_ok _).mono ?_;rintro e w2 ⟨rfl, F2⟩;have HF2 := hid (HF1.out.trans F2 (fun _ _ h => h));have HD2 := hid (HD.out.fr F2 (fun h => h) (fun h => h) (fun h => h) (fun _ _ _ _ _ h => h));clear F2;go_wp2_with fail
 have H19 := format_c HD2.out HF2.out.size (HT.out.fr HF2.out (fun h => h)) hT0 3 2 4 3 8 0 small17_fits;refine H19.mono ?_;rintro e w3 ⟨B, hB, rfl, hS, F3⟩;have HF3 := hid (HF2.out.trans F3 (fun _ _ h => h));have hbase : B.base = w.heap.size := hB.1;have HB := hid hB;obtain ⟨a1, a2, a3, a4, a5, a6, a7, a8, a9, a10⟩ := open17 _ (fun _ => none) _ rfl rfl;have HM := hid (xformat_ok hS a1 a2 a3 a4 a7 a9 a10 (by rw [hbase]; exact HF3.out.size) (by omega));have HG := hi2 a5 a10;clear hB hS F3 H19 HD HD2 H20 HF2 HF1 a1 a2 a3 a4 a5 a6 a7 a8 a9 a10;go_wp2_with fail
 refine HM.out.mono ?_;rintro e w4 ⟨bx, bd, y, x, tops, r, rfl, F4, hbb, hM, hx, hL⟩;have H4 := hi2 F4 (aI hbb (aI hM (aI hx hL)));clear F4 hbb hM hx hL HM;go_wp2_with fail
 have hw := HF3.out.size;refine bodyPost_ret (v := .tuple #[.pointer (some ⟨w.heap.size + 2, 0, none⟩), B.ptr, xptr bx]) (by simp [results, go_sem, *]) rfl ?_;refine ⟨B, bx, bd, y, x, r, by rw [HB.out.2.1], FrI.fr0 (frB_frI H4.out.1) (by omega) HF3.out, ⟨hbase, nT hw H4.out.2.1.1, nT hw H4.out.2.1.2⟩, idxT_one H4.out.2.2.1 H4.out.2.2.2.1, H4.out.2.2.2.1, H4.out.2.2.2.2.2.1.trans HG.out.1, fun k => ?_⟩
 ·rw [H4.out.2.2.2.2.2.2]; exact HG.out.2 k
theorem refs_bare : ∀ t : Tr, (bare t).refs.length = t.refs.length
 | .leaf _ _ => rfl
 | .node l r => by simp only [bare, Tr.refs, lA, refs_bare l, refs_bare r]
def entT (t : Tr) (g h : Nat) : List Bt := ((bare t).at_ g (preM h g) 0 0).2.2.2
def FindI (B : Blk) (bx bd : Nat) (y : Cs) (P : Prot) (a : Bool) (N : Nat) (x : DirD) (t : Tr) (sp : Int) (h : Nat) (w : World) (e : Ending) (w' : World) : Prop :=
 ∃ (c0 c1 c2 : Int) (ok : Bool) (err : Int), e = .returned (.tuple #[.agg #[.int .i64 c0, .int .i64 c1, .int .i64 c2], .bool ok, .int .i64 err]) /\ FrB B w w' /\
  ((err = 0 /\ ok = hasB (entT t x.depth h) h /\ .agg #[.int .i64 c0, .int .i64 c1, .int .i64 c2] = locV (atB (entT t x.depth h) h) /\ IdxT w' B bx bd y P a N x t sp) \/ (err = 4 /\ a = true /\ DownC w' B y P N))
theorem IdxT.find (h : IdxT w B bx bd y P a N x t sp) (hh : hash < 18446744073709551616) (hN : N + 3 <= 90000) :
  Calls Tryz.prog 66 #[xptr bx, .int .u64 hash] w (FindI B bx bd y P a (N + 3) x t sp hash w) := by
 obtain ⟨tops, L, hM, hP⟩ := h.ex;have hd := h.depth;have hkl : preM hash x.depth < 2 ^ x.depth := pre_lt2 (by omega) hh;obtain ⟨d, p, r, es, hb⟩ := bkt_at hkl (Nat.le_of_eq h.high) h.ok hP;have hes : entT t x.depth hash = es := by unfold entT; rw [bare_at, hb.at_]
 refine (xfind_ok hM hh hb.slot hb.mem hb.ok (by have := hb.dg; omega) hb.pl hN).mono ?_;rintro e w' ⟨c0, c1, c2, ok, err, he, F, ⟨h0, h1, h2, h3⟩ | hr⟩
 ·exact ⟨c0, c1, c2, ok, err, he, F, .inl ⟨h0, by rw [hes]; exact h1, by rw [hes]; exact h2, ⟨⟨tops, L, h3, hP⟩, h.high, h.ok⟩⟩⟩
 ·exact ⟨c0, c1, c2, ok, err, he, F, .inr hr⟩
def awE (k : Nat) : Bt := ⟨(k % 2) * 9223372036854775808 + k, 0, 0, 0⟩
def awR : Nat -> PutRes
 | 0 => ⟨.leaf (0, 0) [], 0, 0, false⟩
 | k + 1 => putS 8 (awR k).t (awR k).g (awR k).sp (awE k) 0
theorem aw1 : awR 1 = ⟨.leaf (0, 0) [awE 0], 0, 0, false⟩ := by kernel_rfl
theorem aw2 : awR 2 = ⟨.leaf (0, 0) [awE 0, awE 1], 0, 0, false⟩ := by kernel_rfl
theorem aw3 : awR 3 = ⟨.leaf (0, 0) [awE 0, awE 2, awE 1], 0, 0, false⟩ := by kernel_rfl
theorem aw4 : awR 4 = ⟨.node (.leaf (0, 0) [awE 0, awE 2]) (.leaf (0, 0) [awE 1, awE 3]), 1, 1, false⟩ := by kernel_rfl
theorem eql116 (a b c d e f : Int) (w : World) : (binOp .eql 116 (.agg #[.int .i64 a, .int .i64 b, .int .i64 c]) (.agg #[.int .i64 d, .int .i64 e, .int .i64 f])).run Tryz.prog w = .ok (.bool (decide (a = d) && (decide (b = e) && decide (c = f)))) w := by
 have h : Tryz.prog.underlying 116 = _ := Tryz.underlying116;go_simp;by_cases h1 : a = d <;> by_cases h2 : b = e <;> by_cases h3 : c = f <;> simp [h1, h2, h3]
theorem awh0 : ((awE 0).hash : Int) = 0 := by simp [awE]
theorem awh1 : ((awE 1).hash : Int) = 9223372036854775809 := by simp [awE]
theorem awh2 : ((awE 2).hash : Int) = 2 := by simp [awE]
theorem awh3 : ((awE 3).hash : Int) = 9223372036854775811 := by simp [awE]
def AwI (w0 : World) (base : Nat) (bx : Nat) (k : Nat) (V : World) : Prop :=
 ∃ (B : Blk) (bd : Nat) (y : Cs) (x : DirD) (t : Tr) (N : Nat), IdxT V B bx bd y noP false N x t (awR k).sp /\ N <= 3 + 1230 * k /\ (bare t = (awR k).t /\ x.depth = (awR k).g) /\ B.base = base /\ Fq w0 V /\ (base = w0.heap.size /\ base <= bx /\ base <= bd)
theorem aw_put {w0 : World} (h : AwI w0 base bx k V) (hk : k < 4) : Calls Tryz.prog 64 #[xptr bx, .agg #[.int .u64 (awE k).hash, .int .i64 0, .int .i64 0, .int .i64 0], .int .i64 0] V (fun e w' => e = .returned (.tuple #[.bool false, .int .i64 0]) /\ AwI w0 base bx (k + 1) w') := by
 obtain ⟨B, bd, y, x, t, N, hT, hN, ⟨hb, hg⟩, hB, hF, hbs⟩ := h;have hE : goodE (awE k) := by
  refine ⟨?_, by simp [awE], by simp [awE], by simp [awE]⟩;simp only [awE]; have := Nat.mod_lt k (show 0 < 2 by decide); omega
 have hsp : 0 <= (awR k).sp /\ (awR k).sp + 8 <= 100000 := by
  rcases (by omega : k = 0 \/ k = 1 \/ k = 2 \/ k = 3) with rfl | rfl | rfl | rfl
  ·decide
  ·rw [aw1]; decide
  ·rw [aw2]; decide
  ·rw [aw3]; decide
 have hR : putS 8 (bare t) x.depth (awR k).sp (awE k) 0 = awR (k + 1) := by rw [hb, hg]; rfl
 have hl : (awR (k + 1)).lost = false := by
  rcases (by omega : k = 0 \/ k = 1 \/ k = 2 \/ k = 3) with rfl | rfl | rfl | rfl
  ·rw [aw1]
  ·rw [aw2]
  ·rw [aw3]
  ·rw [aw4]
 have hp := xput_ok hT (awE k) 0 hE hsp (by omega);rw [hR] at hp;refine hp.mono ?_;rintro e w' ⟨lost, err, rfl, F, ⟨rfl, rfl, y', x', t', N', hT', hN', hb', hx', -⟩ | ⟨_, ha, _⟩⟩
 ·have hr := hT'.depth;have h1 := refs_le t';rw [hT'.high] at h1;have h2 : (2 : Nat) ^ x'.depth <= 2 ^ 3 := Nat.pow_le_pow_right (by decide) hr;have h3 := refs_pos t;refine ⟨by rw [hl], B, bd, y', x', t', N', hT', by omega, ⟨hb', hx'⟩, hB, ?_, hbs⟩;exact hF.trans F fun b hb hs => by
   rcases hs with hs | hs | hs
   ·have := hs.1; omega
   ·omega
   ·omega
 ·cases ha
theorem awake17_ok (w : World) (hT : Tab w) : Calls Tryz.prog 69 #[] w fun e w' => e = .returned (.bool true) /\ Fq w w' := by
 have HM := hid (made17_ok w hT);clear hT;go_enter Tryz.func69, Tryz.ntmps69;go_wp2_with fail
 refine HM.out.mono ?_;rintro e w1 ⟨B, bx, bd, y, x, r, rfl, F1, ⟨hb1, hb2, hb3⟩, hI, hx, -⟩;have HI := hid (show AwI w w.heap.size bx 0 w1 from ⟨B, bd, y, x, _, 3, hI, by omega, ⟨rfl, hx⟩, hb1, F1, ⟨rfl, hb2, hb3⟩⟩);clear F1 hb1 hb2 hb3 hI hx HM;go_wp2_with fail
 go_loopg [4] 4 (fun n v wr => ∃ k : Nat, v = .int .i64 k /\ n + k = 4 /\ AwI w w.heap.size bx k wr)
 case atStart => exact ⟨0, rfl, rfl, HI.out⟩
 case round =>
  obtain ⟨k, rfl, hnk, hA⟩ := hrel;have HA := hid hA;clear hA;rcases (by omega : k = 0 \/ k = 1 \/ k = 2 \/ k = 3 \/ k = 4) with rfl | rfl | rfl | rfl | rfl
  ·have hp := aw_put HA.out (by omega);rw [awh0] at hp;have HP := hid hp;clear hp;go_wp2_with fail
   refine HP.out.mono ?_;rintro e V ⟨rfl, hA2⟩;have HA2 := hid hA2;clear hA2 HP;go_wp2_with fail
   go_roundg 3
   case measure => omega
   case rel => exact ⟨1, by simp, by omega, HA2.out⟩
  ·have hp := aw_put HA.out (by omega);rw [awh1] at hp;have HP := hid hp;clear hp;go_wp2_with fail
   refine HP.out.mono ?_;rintro e V ⟨rfl, hA2⟩;have HA2 := hid hA2;clear hA2 HP;go_wp2_with fail
   go_roundg 2
   case measure => omega
   case rel => exact ⟨2, by simp, by omega, HA2.out⟩
  ·have hp := aw_put HA.out (by omega);rw [awh2] at hp;have HP := hid hp;clear hp;go_wp2_with fail
   refine HP.out.mono ?_;rintro e V ⟨rfl, hA2⟩;have HA2 := hid hA2;clear hA2 HP;go_wp2_with fail
   go_roundg 1
   case measure => omega
   case rel => exact ⟨3, by simp, by omega, HA2.out⟩
  ·have hp := aw_put HA.out (by omega);rw [awh3] at hp;have HP := hid hp;clear hp;go_wp2_with fail
   refine HP.out.mono ?_;rintro e V ⟨rfl, hA2⟩;have HA2 := hid hA2;clear hA2 HP;go_wp2_with fail
   go_roundg 0
   case measure => omega
   case rel => exact ⟨4, by simp, by omega, HA2.out⟩
  ·obtain ⟨B', bd', y', x', t', N', hT', hN', ⟨hb', hx'⟩, hB', hF', hbs⟩ := HA.out;have HE := hid (show hasB (entT t' x'.depth 9223372036854775809) 9223372036854775809 = true /\ locV (atB (entT t' x'.depth 9223372036854775809) 9223372036854775809) = .agg #[.int .i64 0, .int .i64 0, .int .i64 0] by
    unfold entT;rw [hb', hx', aw4];exact ⟨by decide +kernel, by kernel_rfl⟩)
   have hf := hT'.find (hash := 9223372036854775809) (by decide) (by omega);rw [show ((9223372036854775809 : Nat) : Int) = 9223372036854775809 by omega] at hf;have HFi := hid hf;clear hf;have HH := hi2 hF' (aI hB' (aI hbs hx'));clear hT' hN' hb' hx' hB' hF' hbs;go_wp2_with fail
   refine HFi.out.mono ?_;rintro e V ⟨c0, c1, c2, ok, err, rfl, F, ⟨rfl, hok, hc, hI⟩ | ⟨_, ha, _⟩⟩;rotate_left
   ·cases ha
   rw [HE.out.1] at hok;rw [HE.out.2] at hc;cases hc;subst hok;obtain ⟨V2, hV2⟩ : ∃ V2, V.alloc (.cells #[.int .i64 0, .int .i64 0, .int .i64 0] 116) = V2 := ⟨_, rfl⟩
   have F2 : Fq V V2 := by rw [<- hV2]; exact (Fr.refl _ _).alloc _
   have b2 : V2.heap[V.heap.size]? = some (.cells #[.int .i64 0, .int .i64 0, .int .i64 0] 116) := by rw [<- hV2]; exact han _ _
   have HI2 := hid (hI.fr0 F2);obtain ⟨tops2, L2, hM2, -⟩ := HI2.out.ex;have HDp := hid (fun W (F : Fq V2 W) => xdepth_ok (hM2.fr0 F).idx (hM2.fr0 F).dir);have HSp := hid (fun W (F : Fq V2 W) => xsplits_ok (hM2.fr0 F).idx);rw [HH.out.2.2.2, aw4] at HDp;rw [aw4] at HSp;obtain ⟨a0, a1, a2, az, al⟩ := cells3 b2;have HV := hid hV2;have HF := hi2 F F2;clear hV2 F2 b2 hI F hM2;go_upto_region 11 with fail
   rw [HV.out];go_wp2_with fail
   refine (HDp.out _ (Fr.refl _ _)).mono ?_;rintro e V3 ⟨rfl, rfl⟩;go_wp2_with fail
   refine (HSp.out _ (Fr.refl _ _)).mono ?_;rintro e V4 ⟨rfl, rfl⟩;have heq := eql116 0 0 0 0 0 0;simp only [decide_true, Bool.and_self] at heq;go_wp2_with fail
   refine bodyPost_ret (v := .bool true) (by simp [results, go_sem, *]) rfl ⟨rfl, ?_⟩;have hb := HH.out.2.1;have hbs := HH.out.2.2.1;exact (FrI.fr0 (frB_frI (FrB.trans HF.out.1 (FrB.none HF.out.2))) (by omega) HH.out.1)
theorem take_plI (es : List Bt) (h : Nat) : es.take (plI es h) = es.takeWhile fun e => decide (e.hash < h) := by
 unfold plI;exact (List.prefix_iff_eq_take.1 (List.takeWhile_prefix _)).symm
theorem putB_form (es : List Bt) (x : Bt) (hs : SortedB es) : ∃ rest, putB es x = (es.takeWhile fun e => decide (e.hash < x.hash)) ++ x :: rest := by
 unfold putB;split
 ·rename_i hb;obtain ⟨y, hy, -⟩ := (hasB_iff hs).1 hb;have hlt := (gI.1 hy).1;refine ⟨es.drop (plI es x.hash + 1), ?_⟩;rw [<- take_plI, List.set_eq_take_append_cons_drop, if_pos hlt]
 ·exact ⟨es.drop (plI es x.hash), by unfold insB; rw [take_plI]⟩
theorem tw_all (l : List Bt) (p : Bt -> Bool) (x : Bt) (rest : List Bt) (hx : p x = false) : (l.takeWhile p ++ x :: rest).takeWhile p = l.takeWhile p := by
 induction l with
 | nil => simp [hx]
 | cons y l ih =>
  rw [List.takeWhile_cons];split
  ·rename_i hy; simp [hy, ih]
  ·simp [hx]
theorem put_at (es : List Bt) (x : Bt) (hs : SortedB es) : hasB (putB es x) x.hash = true /\ atB (putB es x) x.hash = some x := by
 obtain ⟨rest, hr⟩ := putB_form es x hs;have h1 : hasB (putB es x) x.hash = true := by rw [hr]; unfold hasB; simp
 refine ⟨h1, ?_⟩;unfold atB;rw [if_pos h1];unfold plI;rw [hr, tw_all _ _ _ _ (by simp)];simp
end Go.Proofs.YtgdhaaokolfdoaaGreatDoor
