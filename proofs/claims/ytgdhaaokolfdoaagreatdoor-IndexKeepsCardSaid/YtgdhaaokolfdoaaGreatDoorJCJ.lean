/- A pack of texts: XPU. Conditions: those that each text names. -/
import Derived.Test.YtgdhaaokolfdoaaGreatDoorJCI
import Derived.Test.YtgdhaaokolfdoaaGreatDoorJCH
import Derived.Test.YtgdhaaokolfdoaaGreatDoorJCB
import Derived.WalkMore
set_option linter.unusedVariables false
set_option linter.unusedSimpArgs false
set_option linter.unnecessarySimpa false
namespace Go.Proofs.YtgdhaaokolfdoaaGreatDoor
open Go.RowKit Go.Sg Go.Sg.Bits Go.Sg.Clk CP SF
theorem set3_fr (W : World) (b : Nat) (u0 u1 u2 : Value) : Fr (fun k => k = b) W (((W.setCell ⟨b, 2, none⟩ u0).setCell ⟨b, 3, none⟩ u1).setCell ⟨b, 4, none⟩ u2) :=
  (((Fr.refl (fun k => k = b) W).setCell (a := ⟨b, _, none⟩) (fun _ => rfl) _).setCell (a := ⟨b, _, none⟩) (fun _ => rfl) _).setCell (a := ⟨b, _, none⟩) (fun _ => rfl) _
theorem set3_heap {W : World} {b : Nat} {x0 x1 x2 x3 x4 : Value} {t : TypeId} (h : W.heap[b]? = some (.cells #[x0, x1, x2, x3, x4] t)) (u0 u1 u2 : Value) : (((W.setCell ⟨b, 2, none⟩ u0).setCell ⟨b, 3, none⟩ u1).setCell ⟨b, 4, none⟩ u2).heap[b]? = some (.cells #[x0, x1, u0, u1, u2] t) := by
  rw [heap_setCell_cells _ _ _ _ (heap_setCell_cells _ _ _ _ (heap_setCell_cells _ _ _ _ h))]; rfl
theorem FrX.new {B : Blk} {X : Nat → Prop} {w V V' : World} {b : Nat} (h : FrX B X w V) (F : Fr (fun k => k = b) V V') (hb : w.heap.size ≤ b) : FrX B X w V' := Fr.trans h F fun k hk e => by omega
theorem FrX.newS {B : Blk} {X S : Nat → Prop} {w V V' : World} (h : FrX B X w V) (F : Fr S V V') (hb : ∀ b, S b → w.heap.size ≤ b) : FrX B X w V' := Fr.trans h F fun k hk e => by have := hb k e; omega
theorem refs_put (f : Rf → List Bt → Tr) (m : Nat) (hf : ∀ r es, (f r es).refs.length = m) : ∀ (t : Tr) (g k : Nat), (t.put g k f).refs.length + 1 = t.refs.length + m
  | .leaf r es, g, k => by simp only [Tr.put, Tr.refs, hf]; simp; omega
  | .node l r, g, k => by
    simp only [Tr.put]
    split
    · have := refs_put f m hf l (g - 1) k
      simp only [Tr.refs, List.length_append]; omega
    · have := refs_put f m hf r (g - 1) (k - 2 ^ (g - 1))
      simp only [Tr.refs, List.length_append]; omega
theorem putS_eq {f : Nat} {t : Tr} {g : Nat} {sp : Int} {E : Bt} {oldest : Int} {d p k : Nat} {r : Rf} {es : List Bt} (hat : t.at_ g k 0 0 = (d, p, r, es)) (hk : preM E.hash g = k) : putS (f + 1) (bare t) g sp E oldest =
    if roomB (freshE es E.hash oldest) E.hash 3 = true then ⟨(bare t).put g k (leafE (putB (freshE es E.hash oldest) E)), g, sp, false⟩
    else if d < 3 then (if d = g then putS f ((bare t).put (g + 1) (2 * k) (nodeE d (freshE es E.hash oldest))) (g + 1) (sp + 1) E oldest else putS f ((bare t).put g k (nodeE d (freshE es E.hash oldest))) g (sp + 1) E oldest)
    else ⟨(bare t).put g k (leafE (putB ((freshE es E.hash oldest).eraseIdx (bestI (freshE es E.hash oldest) (freshE es E.hash oldest).length).toNat) E)), g, sp, true⟩ := by
  subst hk
  simp only [putS, bare_at, hat]
def PutU (B : Blk) (bx bd : Nat) (y : Cs) (P : Prot) (a : Bool) (N : Nat) (rl : Nat) (R : PutRes) (w : World) (e : Ending) (w' : World) : Prop :=
  ∃ (lost : Bool) (err : Int), e = .returned (.tuple #[.bool lost, .int .i64 err]) ∧ FrX B (fun b => b = bd ∨ b = bx) w w' ∧
    ((err = 0 ∧ lost = R.lost ∧ ∃ (y' : Cs) (x' : DirD) (t' : Tr) (N' : Nat), IdxT w' B bx bd y' P a N' x' t' R.sp ∧ N' + 150 * rl ≤ N + 30 + 150 * t'.refs.length ∧ bare t' = R.t ∧ x'.depth = R.g ∧ (Like y y' ∧ y'.gen = y.gen ∧ y'.dead = y.dead)) ∨ (err = 4 ∧ a = true ∧ DownC w' B y P (N + 1300)))
structure PutI (w1 : World) (B : Blk) (bx bd : Nat) (y0 : Cs) (P : Prot) (a : Bool) (N rl : Nat) (E : Bt) (oldest : Int) (R : PutRes) (f : Nat) (V : World) : Prop where
  ex : ∃ (y : Cs) (x : DirD) (tops : List Rf) (t : Tr) (L : List Bp) (sp : Int) (N1 : Nat), IdxM V B bx bd y P a N1 x tops (t.slots x.depth) L sp ∧ (L.Perm (lds t 0 0) ∧ t.high = x.depth ∧ okT t 0 0 ∧ Like y0 y) ∧ (y.gen = y0.gen ∧ y.dead = y0.dead) ∧ putS f (bare t) x.depth sp E oldest = R ∧ (8 - t.refs.length < f ∧ N1 + 150 * rl ≤ N + 150 * t.refs.length ∧ 1 ≤ rl) ∧ (0 ≤ sp ∧ sp + f ≤ 100000) ∧ FrX B (fun b => b = bd ∨ b = bx) w1 V
theorem PutI.fr0 {w1 V V' : World} {B : Blk} {bx bd : Nat} {y0 : Cs} {P : Prot} {a : Bool} {N rl : Nat} {E : Bt} {oldest : Int} {R : PutRes} {f : Nat} (h : PutI w1 B bx bd y0 P a N rl E oldest R f V) (F : Fr (fun _ => False) V V') : PutI w1 B bx bd y0 P a N rl E oldest R f V' := by
  obtain ⟨y, x, tops, t, L, sp, N1, hM, h2, h3, h4, h5, h6, h7⟩ := h.ex
  exact ⟨y, x, tops, t, L, sp, N1, hM.fr0 F, h2, h3, h4, h5, h6, FrX.trans h7 (FrX.none F)⟩
theorem refs_pos : ∀ t : Tr, 1 ≤ t.refs.length
  | .leaf _ _ => by simp [Tr.refs]
  | .node l r => by have := refs_pos l; simp only [Tr.refs, List.length_append]; omega
theorem elder_lt {es : List Bt} (h : es ≠ []) : ∃ i : Nat, bestI es es.length = (i : Int) ∧ i < es.length := by
  obtain ⟨n, hn⟩ : ∃ n, es.length = n + 1 := ⟨es.length - 1, by have := List.length_pos_iff.2 h; omega⟩
  rw [hn]
  exact ⟨eldN es n, rfl, by have := eldN_le es n; omega⟩
theorem IdxM.turn {V V' : World} {B : Blk} {bx bd : Nat} {y : Cs} {P : Prot} {a : Bool} {N : Nat} {x : DirD} {tops slots : List Rf} {L : List Bp} {sp : Int} {base : Nat} {v : Value} {es : List Bt} (h : IdxM V B bx bd y P a N x tops slots L sp) (hE : OwnE V base v es) (F : Fr (fun b => v.ownBlock = some b) V V') (hb : 0 < base) : IdxM V' B bx bd y P a N x tops slots L sp := by
  obtain ⟨_, ⟨h0, _⟩ | ⟨g, cap, cur, hv, hbg, hg, _⟩⟩ := hE
  · exact h.fr0 (F.mono fun b _ e => by rw [h0] at e; cases e)
  · exact h.setNew (F.mono fun b _ e => by rw [hv] at e; exact (Option.some.inj e).symm) hg (by decide) (by omega)
def PS (w1 : World) (B : Blk) (bx bd : Nat) (y : Cs) (P : Prot) (a : Bool) (N : Nat) (x : DirD) (tops slots : List Rf) (L : List Bp) (sp : Int) (b8 : Nat) (r : Rf) (d p : Nat) (va : Option Addr) (n vc : Nat) (es : List Bt) (V : World) : Prop :=
  IdxM V B bx bd y P a N x tops slots L sp ∧ V.heap[b8]? = some (.cells #[.int .i64 r.1, .int .i64 r.2, .int .i64 d, .int .i64 p, .slice va n vc] 131) ∧ OwnE V 0 (.slice va es.length vc) es ∧ FrX B (fun b => b = bd ∨ b = bx) w1 V ∧ es.length = n
theorem own_re {w : World} {b b' e size n : Nat} {v : Value} {xs : List Value} (h : w.ownsRow b e size v n xs) (hb : ∀ g, v.ownBlock = some g → b' ≤ g) : w.ownsRow b' e size v n xs := by
  obtain ⟨hl, h0 | ⟨g, cap, cur, hv, hbg, r⟩⟩ := h
  · exact ⟨hl, .inl h0⟩
  · exact ⟨hl, .inr ⟨g, cap, cur, hv, hb g (by rw [hv]; rfl), r⟩⟩
theorem PS.fr0 {w1 V V' : World} {B : Blk} {bx bd : Nat} {y : Cs} {P : Prot} {a : Bool} {N : Nat} {x : DirD} {tops slots : List Rf} {L : List Bp} {sp : Int} {b8 : Nat} {r : Rf} {d p : Nat} {va : Option Addr} {n vc : Nat} {es : List Bt} (h : PS w1 B bx bd y P a N x tops slots L sp b8 r d p va n vc es V) (F : Fr (fun _ => False) V V') : PS w1 B bx bd y P a N x tops slots L sp b8 r d p va n vc es V' :=
  ⟨h.1.fr0 F, F.heap h.2.1 (fun h => h), own_none h.2.2.1 F, FrX.trans h.2.2.2.1 (FrX.none F), h.2.2.2.2⟩
theorem xentry17 {E : Bt} (hh : E.hash < 18446744073709551616) (w : World) : Calls Tryz.prog 129 #[btV E] w (ValP (.bool (rightE E)) w) := by
  refine xentry_ok E (rightE E) w (fun W g hg _ _ => ?_)
  have ho : OwnE W 0 (.slice (some ⟨g, 0, none⟩) 1 1) [E] := ownE_shut (es := [E]) (c := 1) (Nat.zero_le _) hg (Nat.le_refl _) (by decide) rfl rfl
  have := bright_ok ho (List.pairwise_singleton _ _) 0 0 1 (by decide) (by decide) (by decide) (by decide) (Nat.le_refl _) (fun x hx => by simp at hx; subst hx; exact hh)
  have e : (!([E].any (wrongE 0 0))) = rightE E := by simp [wrongE, pre_zero]
  rw [e] at this
  exact this
theorem right_good {E : Bt} (h : goodE E) : rightE E = true := by
  obtain ⟨_, h1, h2, h3⟩ := h
  simp [rightE]; omega
theorem pre_of {h : Nat} (hh : h < 18446744073709551616) : ∀ (n d : Nat), d + n ≤ 20 → preM h (d + n) / 2 ^ n = preM h d
  | 0, d, _ => by simp
  | n + 1, d, hd => by
    rw [Nat.pow_succ, Nat.mul_comm, ← Nat.div_div_eq_div_mul, show d + (n + 1) = (d + n) + 1 by omega, pre_succ (by omega) hh]
    exact pre_of hh n d (by omega)
theorem bkt_pre {t : Tr} {g : Nat} {L : List Bp} {h d p : Nat} {r : Rf} {es : List Bt} (hb : BktAt t g L (preM h g) d p r es) (hh : h < 18446744073709551616) (hg : g ≤ 20) (hi : t.high ≤ g) : preM h d = p := by
  have h4 := Tr.at_pre t g (preM h g) 0 0 hi hb.kl
  rw [hb.at_] at h4
  simp only [Nat.zero_mul, Nat.zero_add] at h4
  have h5 := pre_of hh (g - d) d (by have := hb.dg; omega)
  rw [show d + (g - d) = g by have := hb.dg; omega] at h5
  rw [← h5, h4]
set_option maxHeartbeats 16000000 in
set_option maxRecDepth 100000 in
theorem xput_ok {w : World} {B : Blk} {bx bd : Nat} {y0 : Cs} {P : Prot} {a : Bool} {N : Nat} {x0 : DirD} {t0 : Tr} {sp0 : Int} (h : IdxT w B bx bd y0 P a N x0 t0 sp0) (E : Bt) (oldest : Int) (hE : goodE E) (hsp0 : 0 ≤ sp0 ∧ sp0 + 8 ≤ 100000) (hN : N + 1300 ≤ 90000) :
    Calls Tryz.prog 64 #[xptr bx, btV E, .int .i64 oldest] w (PutU B bx bd y0 P a N t0.refs.length (putS 8 (bare t0) x0.depth sp0 E oldest) w) := by
  obtain ⟨tops0, L0, hM0, hP0⟩ := h.ex
  have hblt := hM0.bd_lt
  have hrl : 1 ≤ t0.refs.length := refs_pos t0
  have hrl8 : t0.refs.length ≤ 8 := by
    have h1 := refs_le t0
    have h2 := h.depth
    rw [h.high] at h1
    exact Nat.le_trans h1 (Nat.pow_le_pow_right (by decide) h2 : 2 ^ x0.depth ≤ 2 ^ 3)
  obtain ⟨w1, hw1⟩ : ∃ w1, w.alloc (.cells #[.int .u64 E.hash, .int .i64 E.rg, .int .i64 E.at_, .int .i64 E.sz] 118) = w1 := ⟨_, rfl⟩
  have b4 : w1.heap[w.heap.size]? = some (.cells #[.int .u64 E.hash, .int .i64 E.rg, .int .i64 E.at_, .int .i64 E.sz] 118) := by rw [← hw1]; exact heap_alloc_new _ _
  have F1 : Fr (fun _ => False) w w1 := by rw [← hw1]; exact (Fr.refl _ _).alloc _
  have HB4 := hid (fun (V : World) (F : FrX B (fun b => b = bd ∨ b = bx) w1 V) => cells4b (frX_heap F b4 (by decide) (fun e => by omega)))
  have HEn := hid (show Calls Tryz.prog 129 #[btV E] w1 (ValP (.bool true) w1) by have := xentry17 hE.1 w1; rw [right_good hE] at this; exact this)
  obtain ⟨R, hR⟩ : ∃ R, putS 8 (bare t0) x0.depth sp0 E oldest = R := ⟨_, rfl⟩
  rw [hR]
  have HI0 := hid (show PutI w1 B bx bd y0 P a N t0.refs.length E oldest R 8 w1 from ⟨y0, x0, tops0, t0, L0, sp0, N, hM0.fr0 F1, ⟨hP0, h.high, h.ok, Like.refl y0⟩, ⟨rfl, rfl⟩, hR, ⟨by omega, Nat.le_refl _, hrl⟩, ⟨hsp0.1, by omega⟩, FrX.refl _ _ _⟩)
  have HE := hid hE
  have HF1 := hid F1
  have hs1 : w1.heap.size = w.heap.size + 1 := by rw [← hw1]; simp
  have HS1 := hid hs1
  obtain ⟨rl, hrle⟩ : ∃ rl, t0.refs.length = rl := ⟨_, rfl⟩
  rw [hrle] at HI0 hrl8 ⊢
  have HW := hid hw1
  have HBl := hid hblt
  obtain ⟨t0', t1', t2', t3', tz', tl'⟩ := HB4.out w1 (FrX.refl _ _ _)
  clear h hM0 hP0 hR hE hw1 b4 F1 hs1 hrle hsp0 hblt hrl
  go_enter Tryz.func64, Tryz.ntmps64
  go_upto_region 1 with fail
  rw [HW.out]
  go_step3
  go_wp2_with fail
  refine HEn.out.mono ?_
  rintro e V0 ⟨rfl, F0⟩
  have HI1 := hid (show PutI w1 B bx bd y0 P a N rl E oldest R 8 V0 from HI0.out.fr0 F0)
  clear F0 t0' t1' t2' t3' tz' tl' HEn HI0
  go_wp2_with fail
  go_step3
  go_wp2_with fail
  go_loopg [6] 8 (fun k v6 wr => v6 = .bool false ∧ PutI w1 B bx bd y0 P a N rl E oldest R k wr)
  case atStart => exact ⟨rfl, HI1.out⟩
  case round =>
    obtain ⟨rfl, hI⟩ := hrel
    obtain ⟨y, x, tops, t, L, sp, N1, hM, ⟨hPm, hh, hok, hlk⟩, hyg, hps, ⟨hrf, hNr, hrl1⟩, ⟨hsp0, hspf⟩, hF⟩ := hI.ex
    have hdep := hM.small.2.2
    have hkl : preM E.hash x.depth < 2 ^ x.depth := pre_lt2 (by omega) HE.out.1
    have hr8 : t.refs.length ≤ 8 := by
      have h1 := refs_le t
      rw [hh] at h1
      exact Nat.le_trans h1 (Nat.pow_le_pow_right (by decide) hdep : 2 ^ x.depth ≤ 2 ^ 3)
    obtain ⟨d, p, r, es, hb⟩ := bkt_at hkl (Nat.le_of_eq hh) hok hPm
    have hdg := hb.dg
    have hp2 := hb.pl
    have hN1 : N1 + 240 ≤ 90000 := by omega
    obtain ⟨j, hj⟩ := List.mem_iff_getElem?.1 hb.mem
    have hpp : preM E.hash d = p := bkt_pre hb HE.out.1 (by omega) (Nat.le_of_eq hh)
    have HOf := hid (xof_ok hM HE.out.1 hb.slot hb.mem hb.ok (by omega) hp2 (by omega))
    obtain ⟨t0', t1', t2', t3', tz', tl'⟩ := HB4.out wr hF
    have HT := hid (And.intro hok (And.intro hh (And.intro hPm hlk)))
    have HG := hid hyg
    have HPS := hid hps
    have HNr := hid (And.intro hrf (And.intro hNr (And.intro hrl1 (And.intro hsp0 (And.intro hspf (And.intro hr8 hN1))))))
    have HBk := hid (And.intro hb (And.intro hb.ok hpp))
    have HJ := hid hj
    have HD := hid (And.intro hdep (And.intro hdg hp2))
    have HF := hid hF
    clear hok hh hPm hlk hyg hps hrf hNr hrl1 hsp0 hspf hr8 hN1 hb hpp hj hdep hdg hp2 hF hM hkl hI
    go_wp2_with fail
    refine HOf.out.mono ?_
    rintro e V1 ⟨r1, d1, p1, va, n, vc, err, rfl, F1, hr⟩
    have HR1 := hid (And.intro F1 hr)
    clear F1 hr HOf t0' t1' t2' t3' tz' tl'
    obtain ⟨b8, hb8⟩ : ∃ b8, V1.heap.size = b8 := ⟨_, rfl⟩
    have H8 := hid (show 0 < b8 ∧ w1.heap.size ≤ b8 by
      have h1 := HF.out.size
      have h2 := HR1.out.1.size
      have h3 := HS1.out
      omega)
    obtain ⟨f, rfl⟩ : ∃ f, gk = f + 1 := ⟨gk - 1, by have := HNr.out.1; omega⟩
    have HPe := hid (putS_eq (f := f) (sp := sp) (E := E) (oldest := oldest) HBk.out.1.at_ rfl)
    go_upto_region 6 with fail
    obtain ⟨V2, hV2⟩ : ∃ V2, V1.alloc (.cells #[.int .i64 r1.1, .int .i64 r1.2, .int .i64 d1, .int .i64 p1, .slice va n vc] 131) = V2 := ⟨_, rfl⟩
    rw [hV2]
    have FV : Fr (fun _ => False) V1 V2 := by rw [← hV2]; exact (Fr.refl _ _).alloc _
    have g8 : V2.heap[b8]? = some (.cells #[.int .i64 r1.1, .int .i64 r1.2, .int .i64 d1, .int .i64 p1, .slice va n vc] 131) := by rw [← hV2, ← hb8]; exact heap_alloc_new _ _
    have HFV := hid FV
    have HG8 := hid g8
    clear hb8 hV2 FV g8
    rcases HR1.out.2 with ⟨rfl, ⟨rfl, rfl, rfl, hn⟩, ho, hM⟩ | ⟨rfl, ha, hDn⟩
    rotate_left
    · have HX := hid (And.intro ha (hDn.fr0 HFV.out))
      clear ha hDn
      go_wp2_with fail
      go_ret2
      exact ⟨false, 4, rfl, FrX.trans (FrX.none HF1.out) (FrX.trans HF.out (FrX.trans (FrX.of HR1.out.1) (FrX.none HFV.out))), .inr ⟨rfl, HX.out.1, down_like (HX.out.2.mono (by have := HNr.out; omega)) HT.out.2.2.2⟩⟩
    have HSV2 := hid (show PS w1 B bx bd y P a (N1 + 3) x tops (t.slots x.depth) L sp b8 r1 d p va n vc es V2 from ⟨hM.fr0 HFV.out, HG8.out, own_none (own_base ho) HFV.out, FrX.trans HF.out (FrX.trans (FrX.of HR1.out.1) (FrX.none HFV.out)), hn.symm⟩)
    clear ho hM hn HG8
    cases hro : roomB es E.hash 3 with
    | true =>
      have HRo := hid hro
      have HRes := hid (show (⟨(bare t).put x.depth (preM E.hash x.depth) (leafE (putB es E)), x.depth, sp, false⟩ : PutRes) = R by
        rw [← HPS.out, HPe.out]; unfold freshE; rw [if_pos HRo.out, if_pos HRo.out])
      clear hro
      obtain ⟨q0, q1, q2, q3, q4, qz, ql⟩ := cells5 HSV2.out.2.1
      obtain ⟨t0', t1', t2', t3', tz', tl'⟩ := HB4.out V2 HSV2.out.2.2.2.1
      have HRm := hid (xroom_ok HSV2.out.1.idx HSV2.out.2.2.1 HBk.out.2.1.2.1 (by have := HBk.out.2.1.1; omega) d p E.hash)
      rw [HSV2.out.2.2.2.2, HRo.out] at HRm
      go_wp2_with fail
      refine HRm.out.mono ?_
      rintro e V3 ⟨rfl, FR⟩
      have HSV3 := hid (show PS w1 B bx bd y P a (N1 + 3) x tops (t.slots x.depth) L sp b8 r1 d p va n vc es V3 from ⟨HSV2.out.1.fr0 FR, FR.heap HSV2.out.2.1 (fun h => h), own_none HSV2.out.2.2.1 FR, FrX.trans HSV2.out.2.2.2.1 (FrX.none FR), HSV2.out.2.2.2.2⟩)
      clear FR q0 q1 q2 q3 q4 qz ql t0' t1' t2' t3' tz' tl' HRm
      obtain ⟨q0, q1, q2, q3, q4, qz, ql⟩ := cells5 HSV3.out.2.1
      obtain ⟨t0', t1', t2', t3', tz', tl'⟩ := HB4.out V3 HSV3.out.2.2.2.1
      have HRm := hid (xroom_ok HSV3.out.1.idx HSV3.out.2.2.1 HBk.out.2.1.2.1 (by have := HBk.out.2.1.1; omega) d p E.hash)
      rw [HSV3.out.2.2.2.2, HRo.out] at HRm
      go_wp2_with fail
      refine HRm.out.mono ?_
      rintro e V4 ⟨rfl, FR⟩
      have HSV4 := hid (show PS w1 B bx bd y P a (N1 + 3) x tops (t.slots x.depth) L sp b8 r1 d p va n vc es V4 from ⟨HSV3.out.1.fr0 FR, FR.heap HSV3.out.2.1 (fun h => h), own_none HSV3.out.2.2.1 FR, FrX.trans HSV3.out.2.2.2.1 (FrX.none FR), HSV3.out.2.2.2.2⟩)
      clear FR q0 q1 q2 q3 q4 qz ql t0' t1' t2' t3' tz' tl' HRm
      obtain ⟨q0, q1, q2, q3, q4, qz, ql⟩ := cells5 HSV4.out.2.1
      obtain ⟨t0', t1', t2', t3', tz', tl'⟩ := HB4.out V4 HSV4.out.2.2.2.1
      have HPt := hid (bput_ok HSV4.out.2.2.1 HBk.out.2.1.2.1 (by have := HBk.out.2.1.1; omega) d p E)
      rw [HSV4.out.2.2.2.2] at HPt
      go_wp2_with fail
      refine HPt.out.mono ?_
      rintro e VP ⟨ap, cp, rfl, hop, FP⟩
      have hIP := HSV4.out.1.fr0 FP
      have g8P := FP.heap HSV4.out.2.1 (fun h => h)
      have FXP := FrX.trans HSV4.out.2.2.2.1 (FrX.none FP)
      have hkP := bk_put HBk.out.2.1 HRo.out HE.out HBk.out.2.2
      obtain ⟨np, hnp⟩ : ∃ np, (putB es E).length = np := ⟨_, rfl⟩
      have HNP := hid hnp
      rw [hnp]
      clear q0 q1 q2 q3 q4 qz ql t0' t1' t2' t3' tz' tl' HPt hnp
      have HOP := hid (And.intro hIP (And.intro hop (And.intro FXP hkP)))
      have HGP := hid g8P
      obtain ⟨q0, q1, q2, q3, q4, qz, ql⟩ := cells5 g8P
      clear hIP hop FXP hkP g8P FP
      go_upto_region 19 with fail
      obtain ⟨VQ, hVQ⟩ : ∃ VQ, ((VP.setCell ⟨b8, 2, none⟩ (.int .i64 d)).setCell ⟨b8, 3, none⟩ (.int .i64 p)).setCell ⟨b8, 4, none⟩ (.slice ap np cp) = VQ := ⟨_, rfl⟩
      rw [hVQ]
      have FQ : Fr (fun k => k = b8) VP VQ := by rw [← hVQ]; exact set3_fr VP b8 _ _ _
      have g8Q : VQ.heap[b8]? = some (.cells #[.int .i64 r1.1, .int .i64 r1.2, .int .i64 d, .int .i64 p, .slice ap np cp] 131) := by rw [← hVQ]; exact set3_heap HGP.out _ _ _
      have hIQ := HOP.out.1.setNew FQ HGP.out (by decide) H8.out.1
      have hoQ : OwnE VQ 0 (.slice ap (putB es E).length cp) _ := own_fr1 (own_base HOP.out.2.1) FQ (fun g hg e => by
        obtain ⟨_, c, hc⟩ := own_blockT HOP.out.2.1 (show some g = _ from hg.symm)
        rw [e, HGP.out] at hc; cases hc)
      have FXQ := FrX.new HOP.out.2.2.1 FQ H8.out.2
      have HKe := hid (xkeep_ok hIQ (j := j) HJ.out hoQ HOP.out.2.2.2 HD.out.2.1 HD.out.2.2 (bkt_own HBk.out.1 (Nat.le_of_eq HT.out.2.1)) (by have := HNr.out.2.2.2.2.2.2; omega))
      rw [HNP.out] at HKe
      have HQ := hid FXQ
      clear q0 q1 q2 q3 q4 qz ql hVQ FQ hIQ hoQ FXQ
      obtain ⟨q0, q1, q2, q3, q4, qz, ql⟩ := cells5 g8Q
      go_wp2_with fail
      refine HKe.out.mono ?_
      rintro e VR ⟨err, rfl, FR, hr⟩
      have HR := hid (And.intro FR hr)
      clear FR hr q0 q1 q2 q3 q4 qz ql g8Q HKe
      go_wp2_with fail
      go_ret2
      refine ⟨false, err, rfl, FrX.trans (FrX.none HF1.out) (FrX.trans HQ.out (frX_mono HR.out.1 (fun b hb => .inl hb))), ?_⟩
      rcases HR.out.2 with ⟨rfl, m, y', x', t', hI', hx', hL'⟩ | ⟨rfl, ha, hDn⟩
      · refine .inl ⟨rfl, by rw [← HRes.out], y', x', t.put x.depth (preM E.hash x.depth) (fun _ _ => .leaf (↑m, ↑y.gen) (putB es E)), N1 + 3 + 20, ?_, ?_, ?_, ?_, HT.out.2.2.2.trans hL'.1, hL'.2.1.trans HG.out.1, hL'.2.2.trans HG.out.2⟩
        · rw [← HRes.out]
          exact idxT_leaf HBk.out.1 HT.out.2.1 HT.out.1 HT.out.2.2.1 HJ.out HOP.out.2.2.2 hx' hI'
        · have h1 : (t.put x.depth (preM E.hash x.depth) (fun _ _ => .leaf (↑m, ↑y.gen) (putB es E))).refs.length = t.refs.length := Nat.add_right_cancel (refs_put (fun _ _ => .leaf (↑m, ↑y.gen) (putB es E)) 1 (fun _ _ => rfl) t x.depth (preM E.hash x.depth))
          have h2 := HNr.out.2.1
          omega
        · rw [← HRes.out]
          exact bare_put _ _ (fun _ _ => rfl) t x.depth _
        · rw [← HRes.out]; exact hx'
      · exact .inr ⟨rfl, ha, down_like (hDn.mono (by have := HNr.out; omega)) HT.out.2.2.2⟩
    | false =>
      have HRo := hid hro
      have HFe := hid (show freshE es E.hash oldest = es.filter (freshB oldest) by unfold freshE; rw [HRo.out]; rfl)
      have HK1 := hid (bk_filter HBk.out.2.1 (freshB oldest))
      clear hro
      obtain ⟨q0, q1, q2, q3, q4, qz, ql⟩ := cells5 HSV2.out.2.1
      obtain ⟨t0', t1', t2', t3', tz', tl'⟩ := HB4.out V2 HSV2.out.2.2.2.1
      have HRm := hid (xroom_ok HSV2.out.1.idx HSV2.out.2.2.1 HBk.out.2.1.2.1 (by have := HBk.out.2.1.1; omega) d p E.hash)
      rw [HSV2.out.2.2.2.2, HRo.out] at HRm
      go_wp2_with fail
      refine HRm.out.mono ?_
      rintro e V3 ⟨rfl, FR⟩
      have HSV3 := hid (show PS w1 B bx bd y P a (N1 + 3) x tops (t.slots x.depth) L sp b8 r1 d p va n vc es V3 from ⟨HSV2.out.1.fr0 FR, FR.heap HSV2.out.2.1 (fun h => h), own_none HSV2.out.2.2.1 FR, FrX.trans HSV2.out.2.2.2.1 (FrX.none FR), HSV2.out.2.2.2.2⟩)
      clear FR q0 q1 q2 q3 q4 qz ql t0' t1' t2' t3' tz' tl' HRm
      obtain ⟨q0, q1, q2, q3, q4, qz, ql⟩ := cells5 HSV3.out.2.1
      obtain ⟨t0', t1', t2', t3', tz', tl'⟩ := HB4.out V3 HSV3.out.2.2.2.1
      have HFs := hid (bfresh_ok HSV3.out.2.2.1 (by have := HBk.out.2.1.1; omega) d p oldest)
      rw [HSV3.out.2.2.2.2] at HFs
      go_wp2_with fail
      refine HFs.out.mono ?_
      rintro e VF ⟨va1, vc1, rfl, hop, FP⟩
      have hIP := HSV3.out.1.fr0 FP
      have g8P := FP.heap HSV3.out.2.1 (fun h => h)
      have FXP := FrX.trans HSV3.out.2.2.2.1 (FrX.none FP)
      have HOB := hid (show ∀ g, some g = (Value.slice va1 (es.filter (freshB oldest)).length vc1).ownBlock → w1.heap.size ≤ g from fun g hg => Nat.le_trans HSV3.out.2.2.2.1.size (own_blockT hop hg).1)
      obtain ⟨n1, hn1⟩ : ∃ n1, (es.filter (freshB oldest)).length = n1 := ⟨_, rfl⟩
      have HNP := hid hn1
      rw [hn1]
      clear q0 q1 q2 q3 q4 qz ql t0' t1' t2' t3' tz' tl' HFs hn1
      have HOP := hid (And.intro hIP (And.intro hop FXP))
      have HGP := hid g8P
      obtain ⟨q0, q1, q2, q3, q4, qz, ql⟩ := cells5 g8P
      clear hIP hop FXP g8P FP
      go_upto_region 13 with fail
      obtain ⟨VS, hVQ⟩ : ∃ VS, ((VF.setCell ⟨b8, 2, none⟩ (.int .i64 d)).setCell ⟨b8, 3, none⟩ (.int .i64 p)).setCell ⟨b8, 4, none⟩ (.slice va1 n1 vc1) = VS := ⟨_, rfl⟩
      rw [hVQ]
      have FQ : Fr (fun k => k = b8) VF VS := by rw [← hVQ]; exact set3_fr VF b8 _ _ _
      have g8Q : VS.heap[b8]? = some (.cells #[.int .i64 r1.1, .int .i64 r1.2, .int .i64 d, .int .i64 p, .slice va1 n1 vc1] 131) := by rw [← hVQ]; exact set3_heap HGP.out _ _ _
      have hoQ : OwnE VS 0 (.slice va1 (es.filter (freshB oldest)).length vc1) _ := own_fr1 (own_base HOP.out.2.1) FQ (fun g hg e => by
        obtain ⟨_, c, hc⟩ := own_blockT HOP.out.2.1 (show some g = _ from hg.symm)
        rw [e, HGP.out] at hc; cases hc)
      have HSVS := hid (show PS w1 B bx bd y P a (N1 + 3) x tops (t.slots x.depth) L sp b8 r1 d p va1 n1 vc1 (es.filter (freshB oldest)) VS from ⟨HOP.out.1.setNew FQ HGP.out (by decide) H8.out.1, g8Q, hoQ, FrX.new HOP.out.2.2 FQ H8.out.2, HNP.out⟩)
      clear q0 q1 q2 q3 q4 qz ql hVQ FQ g8Q hoQ HOP HGP HSV2 HSV3
      cases hro : roomB (es.filter (freshB oldest)) E.hash 3 with
      | true =>
        have HRo1 := hid hro
        have HRes := hid (show (⟨(bare t).put x.depth (preM E.hash x.depth) (leafE (putB (es.filter (freshB oldest)) E)), x.depth, sp, false⟩ : PutRes) = R by
          rw [← HPS.out, HPe.out, HFe.out, if_pos HRo1.out])
        clear hro
        obtain ⟨q0, q1, q2, q3, q4, qz, ql⟩ := cells5 HSVS.out.2.1
        obtain ⟨t0', t1', t2', t3', tz', tl'⟩ := HB4.out VS HSVS.out.2.2.2.1
        have HRm := hid (xroom_ok HSVS.out.1.idx HSVS.out.2.2.1 HK1.out.2.1 (by have := HK1.out.1; omega) d p E.hash)
        rw [HSVS.out.2.2.2.2, HRo1.out] at HRm
        go_wp2_with fail
        refine HRm.out.mono ?_
        rintro e V4 ⟨rfl, FR⟩
        have HSV4 := hid (show PS w1 B bx bd y P a (N1 + 3) x tops (t.slots x.depth) L sp b8 r1 d p va1 n1 vc1 (es.filter (freshB oldest)) V4 from ⟨HSVS.out.1.fr0 FR, FR.heap HSVS.out.2.1 (fun h => h), own_none HSVS.out.2.2.1 FR, FrX.trans HSVS.out.2.2.2.1 (FrX.none FR), HSVS.out.2.2.2.2⟩)
        clear FR q0 q1 q2 q3 q4 qz ql t0' t1' t2' t3' tz' tl' HRm
        obtain ⟨q0, q1, q2, q3, q4, qz, ql⟩ := cells5 HSV4.out.2.1
        obtain ⟨t0', t1', t2', t3', tz', tl'⟩ := HB4.out V4 HSV4.out.2.2.2.1
        have HPt := hid (bput_ok HSV4.out.2.2.1 HK1.out.2.1 (by have := HK1.out.1; omega) d p E)
        rw [HSV4.out.2.2.2.2] at HPt
        go_wp2_with fail
        refine HPt.out.mono ?_
        rintro e VP ⟨ap, cp, rfl, hop, FP⟩
        have hIP := HSV4.out.1.fr0 FP
        have g8P := FP.heap HSV4.out.2.1 (fun h => h)
        have FXP := FrX.trans HSV4.out.2.2.2.1 (FrX.none FP)
        have hkP := bk_put HK1.out HRo1.out HE.out HBk.out.2.2
        obtain ⟨np, hnp⟩ : ∃ np, (putB (es.filter (freshB oldest)) E).length = np := ⟨_, rfl⟩
        have HNP := hid hnp
        rw [hnp]
        clear q0 q1 q2 q3 q4 qz ql t0' t1' t2' t3' tz' tl' HPt hnp
        have HOP := hid (And.intro hIP (And.intro hop (And.intro FXP hkP)))
        have HGP := hid g8P
        obtain ⟨q0, q1, q2, q3, q4, qz, ql⟩ := cells5 g8P
        clear hIP hop FXP hkP g8P FP
        go_upto_region 19 with fail
        obtain ⟨VQ, hVQ⟩ : ∃ VQ, ((VP.setCell ⟨b8, 2, none⟩ (.int .i64 d)).setCell ⟨b8, 3, none⟩ (.int .i64 p)).setCell ⟨b8, 4, none⟩ (.slice ap np cp) = VQ := ⟨_, rfl⟩
        rw [hVQ]
        have FQ : Fr (fun k => k = b8) VP VQ := by rw [← hVQ]; exact set3_fr VP b8 _ _ _
        have g8Q : VQ.heap[b8]? = some (.cells #[.int .i64 r1.1, .int .i64 r1.2, .int .i64 d, .int .i64 p, .slice ap np cp] 131) := by rw [← hVQ]; exact set3_heap HGP.out _ _ _
        have hIQ := HOP.out.1.setNew FQ HGP.out (by decide) H8.out.1
        have hoQ : OwnE VQ 0 (.slice ap (putB (es.filter (freshB oldest)) E).length cp) _ := own_fr1 (own_base HOP.out.2.1) FQ (fun g hg e => by
          obtain ⟨_, c, hc⟩ := own_blockT HOP.out.2.1 (show some g = _ from hg.symm)
          rw [e, HGP.out] at hc; cases hc)
        have FXQ := FrX.new HOP.out.2.2.1 FQ H8.out.2
        have HKe := hid (xkeep_ok hIQ (j := j) HJ.out hoQ HOP.out.2.2.2 HD.out.2.1 HD.out.2.2 (bkt_own HBk.out.1 (Nat.le_of_eq HT.out.2.1)) (by have := HNr.out.2.2.2.2.2.2; omega))
        rw [HNP.out] at HKe
        have HQ := hid FXQ
        clear q0 q1 q2 q3 q4 qz ql hVQ FQ hIQ hoQ FXQ
        obtain ⟨q0, q1, q2, q3, q4, qz, ql⟩ := cells5 g8Q
        go_wp2_with fail
        refine HKe.out.mono ?_
        rintro e VR ⟨err, rfl, FR, hr⟩
        have HR := hid (And.intro FR hr)
        clear FR hr q0 q1 q2 q3 q4 qz ql g8Q HKe
        go_wp2_with fail
        go_ret2
        refine ⟨false, err, rfl, FrX.trans (FrX.none HF1.out) (FrX.trans HQ.out (frX_mono HR.out.1 (fun b hb => .inl hb))), ?_⟩
        rcases HR.out.2 with ⟨rfl, m, y', x', t', hI', hx', hL'⟩ | ⟨rfl, ha, hDn⟩
        · refine .inl ⟨rfl, by rw [← HRes.out], y', x', t.put x.depth (preM E.hash x.depth) (fun _ _ => .leaf (↑m, ↑y.gen) (putB (es.filter (freshB oldest)) E)), N1 + 3 + 20, ?_, ?_, ?_, ?_, HT.out.2.2.2.trans hL'.1, hL'.2.1.trans HG.out.1, hL'.2.2.trans HG.out.2⟩
          · rw [← HRes.out]
            exact idxT_leaf HBk.out.1 HT.out.2.1 HT.out.1 HT.out.2.2.1 HJ.out HOP.out.2.2.2 hx' hI'
          · have h1 : (t.put x.depth (preM E.hash x.depth) (fun _ _ => .leaf (↑m, ↑y.gen) (putB (es.filter (freshB oldest)) E))).refs.length = t.refs.length := Nat.add_right_cancel (refs_put (fun _ _ => .leaf (↑m, ↑y.gen) (putB (es.filter (freshB oldest)) E)) 1 (fun _ _ => rfl) t x.depth (preM E.hash x.depth))
            have h2 := HNr.out.2.1
            omega
          · rw [← HRes.out]
            exact bare_put _ _ (fun _ _ => rfl) t x.depth _
          · rw [← HRes.out]; exact hx'
        · exact .inr ⟨rfl, ha, down_like (hDn.mono (by have := HNr.out; omega)) HT.out.2.2.2⟩
      | false =>
        have HRo1 := hid hro
        clear hro
        obtain ⟨q0, q1, q2, q3, q4, qz, ql⟩ := cells5 HSVS.out.2.1
        obtain ⟨t0', t1', t2', t3', tz', tl'⟩ := HB4.out VS HSVS.out.2.2.2.1
        have HRm := hid (xroom_ok HSVS.out.1.idx HSVS.out.2.2.1 HK1.out.2.1 (by have := HK1.out.1; omega) d p E.hash)
        rw [HSVS.out.2.2.2.2, HRo1.out] at HRm
        go_wp2_with fail
        refine HRm.out.mono ?_
        rintro e V4 ⟨rfl, FR⟩
        have HSV4 := hid (show PS w1 B bx bd y P a (N1 + 3) x tops (t.slots x.depth) L sp b8 r1 d p va1 n1 vc1 (es.filter (freshB oldest)) V4 from ⟨HSVS.out.1.fr0 FR, FR.heap HSVS.out.2.1 (fun h => h), own_none HSVS.out.2.2.1 FR, FrX.trans HSVS.out.2.2.2.1 (FrX.none FR), HSVS.out.2.2.2.2⟩)
        clear FR q0 q1 q2 q3 q4 qz ql t0' t1' t2' t3' tz' tl' HRm
        obtain ⟨q0, q1, q2, q3, q4, qz, ql⟩ := cells5 HSV4.out.2.1
        obtain ⟨t0', t1', t2', t3', tz', tl'⟩ := HB4.out V4 HSV4.out.2.2.2.1
        obtain ⟨i0, i1, i2, i3, i4, iz, il⟩ := cells5 HSV4.out.1.idx
        by_cases hd3 : d < 3
        · have hd3i : (d : Int) < 3 := by omega
          go_wp2_with fail
          go_quiet (fail)
          have HSV5 := hid (HSV4.out.fr0 ((Fr.refl _ _).drewN nq))
          clear q0 q1 q2 q3 q4 qz ql t0' t1' t2' t3' tz' tl' i0 i1 i2 i3 i4 iz il
          obtain ⟨V5, hV5⟩ : ∃ V5, V4.drewN nq = V5 := ⟨_, rfl⟩
          rw [hV5] at HSV5 ⊢
          clear hV5
          obtain ⟨q0, q1, q2, q3, q4, qz, ql⟩ := cells5 HSV5.out.2.1
          have hLl : L.length = t.refs.length := by rw [HT.out.2.2.1.length_eq, lds_len]
          have hk12 := bk_halves HK1.out (by omega)
          have hgs : ∃ g sl', (d = x.depth ∧ g = x.depth + 1 ∧ sl' = dblM (t.slots x.depth) ∨ d ≠ x.depth ∧ g = x.depth ∧ sl' = t.slots x.depth) ∧ (∃ k, BktAt t g L k d p r1 es ∧ sl' = t.slots g ∧ putS f ((bare t).put g k (nodeE d (es.filter (freshB oldest)))) g (sp + 1) E oldest = R) ∧ max t.high (d + 1) = g := by
            have hq := HPe.out
            rw [HPS.out, HFe.out, if_neg (by rw [HRo1.out]; decide), if_pos hd3] at hq
            by_cases hdx : d = x.depth
            · rw [if_pos hdx] at hq
              exact ⟨x.depth + 1, _, .inl ⟨hdx, rfl, rfl⟩, ⟨_, bkt_dbl HBk.out.1 (Nat.le_of_eq HT.out.2.1) HT.out.1 HT.out.2.2.1, slots_dblM t x.depth (Nat.le_of_eq HT.out.2.1), hq.symm⟩, by rw [HT.out.2.1]; omega⟩
            · rw [if_neg hdx] at hq
              exact ⟨x.depth, _, .inr ⟨hdx, rfl, rfl⟩, ⟨_, HBk.out.1, rfl, hq.symm⟩, by rw [HT.out.2.1]; have := HD.out.2.1; omega⟩
          obtain ⟨g, sl', hg, ⟨kk, hbg, hslg, hpg⟩, hmx⟩ := hgs
          have hsl : ∀ i ∈ slN (p * 2 ^ (g - d)) (2 ^ (g - d)), sl'[i]? = some r1 := by
            rw [hslg]; exact bkt_own hbg (by omega)
          have HSp := hid (xsplit_ok HSV5.out.1 HJ.out HSV5.out.2.2.1 HK1.out HD.out.2.1 hd3 HD.out.2.2 (by have := HNr.out; omega) (by have := HNr.out; omega) hg hsl (by have := HNr.out; omega))
          rw [HSV5.out.2.2.2.2] at HSp
          have HGG := hid (And.intro hbg (And.intro hslg (And.intro hpg (And.intro hmx (And.intro hk12 hd3)))))
          clear hg hsl hLl hk12 hbg hslg hpg hmx
          go_wp2_with fail
          refine HSp.out.mono ?_
          rintro e VR ⟨err, rfl, FR, hr⟩
          have HR := hid (And.intro FR hr)
          clear FR hr q0 q1 q2 q3 q4 qz ql HSp
          rcases HR.out.2 with ⟨rfl, m0, m1, y', x', tops', hI', hx', hL'⟩ | ⟨rfl, ha, hDn⟩
          · have HIn := hid (And.intro hI' (And.intro hx' hL'))
            clear hI' hx' hL'
            go_wp2_with fail
            go_roundg f
            case measure => omega
            case rel =>
              refine ⟨rfl, ?_⟩
              have hI' := HIn.out.1
              rw [HGG.out.2.1] at hI'
              have hT := idxT_node HGG.out.1 (by have := HGG.out.2.2.2.1; omega) HGG.out.2.2.2.1 HT.out.1 HT.out.2.2.1 HJ.out HGG.out.2.2.2.2.1.1 HGG.out.2.2.2.2.1.2 HIn.out.2.1 hI'
              obtain ⟨tops2, L2, hM2, hP2⟩ := hT.ex
              have h1 : (t.put g kk (fun _ _ => .node (.leaf (↑m0, ↑y.gen) ((es.filter (freshB oldest)).filter fun x => !halfB d x)) (.leaf (↑m1, ↑y.gen) ((es.filter (freshB oldest)).filter (halfB d))))).refs.length = t.refs.length + 1 := Nat.add_right_cancel (refs_put (fun _ _ => .node (.leaf (↑m0, ↑y.gen) ((es.filter (freshB oldest)).filter fun x => !halfB d x)) (.leaf (↑m1, ↑y.gen) ((es.filter (freshB oldest)).filter (halfB d)))) 2 (fun _ _ => rfl) t g kk)
              have h2 := HNr.out
              have h3 := refs_le (t.put g kk (fun _ _ => .node (.leaf (↑m0, ↑y.gen) ((es.filter (freshB oldest)).filter fun x => !halfB d x)) (.leaf (↑m1, ↑y.gen) ((es.filter (freshB oldest)).filter (halfB d)))))
              rw [hT.high] at h3
              have h4 : (2 : Nat) ^ x'.depth ≤ 2 ^ 3 := Nat.pow_le_pow_right (by decide) hM2.small.2.2
              refine ⟨y', x', tops2, _, L2, sp + 1, N1 + 3 + 141, hM2, ⟨hP2, hT.high, hT.ok, HT.out.2.2.2.trans HIn.out.2.2.1⟩, ⟨HIn.out.2.2.2.1.trans HG.out.1, HIn.out.2.2.2.2.trans HG.out.2⟩, ?_, ⟨by omega, by omega, by omega⟩, ⟨by omega, by omega⟩, FrX.trans HSV5.out.2.2.2.1 HR.out.1⟩
              rw [HIn.out.2.1, bare_put _ (nodeE d (es.filter (freshB oldest))) (fun _ _ => rfl) t g kk]
              exact HGG.out.2.2.1
          · have HX := hid (And.intro ha hDn)
            clear ha hDn
            go_wp2_with fail
            go_ret2
            exact ⟨false, 4, rfl, FrX.trans (FrX.none HF1.out) ((FrX.trans HSV5.out.2.2.2.1 HR.out.1)), .inr ⟨rfl, HX.out.1, down_like (HX.out.2.mono (by have := HNr.out; omega)) HT.out.2.2.2⟩⟩
        · have hd3i : ¬ (d : Int) < 3 := by omega
          go_wp2_with fail
          go_quiet (fail)
          have HSV5 := hid (HSV4.out.fr0 ((Fr.refl _ _).drewN nq))
          clear q0 q1 q2 q3 q4 qz ql t0' t1' t2' t3' tz' tl' i0 i1 i2 i3 i4 iz il
          obtain ⟨V5, hV5⟩ : ∃ V5, V4.drewN nq = V5 := ⟨_, rfl⟩
          rw [hV5] at HSV5 ⊢
          clear hV5
          obtain ⟨q0, q1, q2, q3, q4, qz, ql⟩ := cells5 HSV5.out.2.1
          obtain ⟨t0', t1', t2', t3', tz', tl'⟩ := HB4.out V5 HSV5.out.2.2.2.1
          have HEl := hid (belder_ok HSV5.out.2.2.1 (by have := HK1.out.1; omega) d p)
          rw [HSV5.out.2.2.2.2] at HEl
          have hlen3 : 3 ≤ (es.filter (freshB oldest)).length := by
            have h := HRo1.out
            unfold roomB at h
            simp only [Bool.or_eq_false_iff, decide_eq_false_iff_not] at h
            omega
          obtain ⟨i, hbi, hil⟩ := elder_lt (es := (es.filter (freshB oldest))) (by intro h; rw [h] at hlen3; simp at hlen3)
          go_wp2_with fail
          refine HEl.out.mono ?_
          rintro e V6 ⟨he, FR⟩
          rw [hbi] at he
          subst he
          rw [HSV5.out.2.2.2.2] at hbi
          have HSV6 := hid (show PS w1 B bx bd y P a (N1 + 3) x tops (t.slots x.depth) L sp b8 r1 d p va1 n1 vc1 (es.filter (freshB oldest)) V6 from HSV5.out.fr0 FR)
          have hdel := delete_e_ok HSV6.out.2.2.1 (by have := HK1.out.1; omega) i (i + 1) hil rfl
          rw [HSV6.out.2.2.2.2] at hdel
          have HDl := hid (show Calls Tryz.prog 135 #[.slice va1 n1 vc1, .int .i64 i, .int .i64 ((i : Int) + 1)] V6 _ from hdel)
          have HRes := hid (show (⟨(bare t).put x.depth (preM E.hash x.depth) (leafE (putB ((es.filter (freshB oldest)).eraseIdx i) E)), x.depth, sp, true⟩ : PutRes) = R by
            rw [← HPS.out, HPe.out, HFe.out, if_neg (by rw [HRo1.out]; decide), if_neg hd3, HSV6.out.2.2.2.2, hbi]; rfl)
          have HK2 := hid (bk_erase HK1.out i)
          have HRo2 := hid (show roomB ((es.filter (freshB oldest)).eraseIdx i) E.hash 3 = true by
            have h1 := HK1.out.1
            unfold roomB
            rw [List.length_eraseIdx_of_lt hil]
            simp only [Bool.or_eq_true, decide_eq_true_eq]
            exact .inr (by omega))
          clear hdel hbi HEl FR q0 q1 q2 q3 q4 qz ql t0' t1' t2' t3' tz' tl'
          have hi9 : i < 9 := by have := HK1.out.1; omega
          have HIL := hid hil
          clear hil hlen3
          obtain ⟨q0, q1, q2, q3, q4, qz, ql⟩ := cells5 HSV6.out.2.1
          obtain ⟨t0', t1', t2', t3', tz', tl'⟩ := HB4.out V6 HSV6.out.2.2.2.1
          go_wp2_with fail
          refine HDl.out.mono ?_
          rintro e VD ⟨v', rfl, hoD, FD⟩
          obtain ⟨va2, vc2, rfl, -, -, -, -⟩ := own_slice hoD
          obtain ⟨n2, hn2⟩ : ∃ n2, ((es.filter (freshB oldest)).eraseIdx i).length = n2 := ⟨_, rfl⟩
          have HNP2 := hid hn2
          have hnb : ∀ g, some g = (Value.slice va1 n1 vc1).ownBlock → g ≠ b8 := fun g hg e => by
            obtain ⟨_, c, hc⟩ := own_blockT HSV6.out.2.2.1 (show some g = _ by rw [HSV6.out.2.2.2.2]; exact hg)
            rw [e, HSV6.out.2.1] at hc; cases hc
          have hOB : ∀ g, (Value.slice va1 n1 vc1).ownBlock = some g → w1.heap.size ≤ g := fun g hg => HOB.out g (by rw [HSV6.out.2.2.2.2]; exact hg.symm)
          have HOP := hid (And.intro (HSV6.out.1.turn (own_re HSV6.out.2.2.1 (b' := w1.heap.size) (fun g hg => HOB.out g hg.symm)) (by rw [HSV6.out.2.2.2.2]; exact FD) (by have := HS1.out; omega)) (And.intro hoD (FrX.newS HSV6.out.2.2.2.1 FD hOB)))
          have HGP := hid (show VD.heap[b8]? = some (.cells #[.int .i64 r1.1, .int .i64 r1.2, .int .i64 d, .int .i64 p, .slice va1 n1 vc1] 131) from FD.heap HSV6.out.2.1 (fun e => hnb b8 e.symm rfl))
          clear q0 q1 q2 q3 q4 qz ql t0' t1' t2' t3' tz' tl' HDl hnb hOB hoD FD hn2
          obtain ⟨q0, q1, q2, q3, q4, qz, ql⟩ := cells5 HGP.out
          rw [HNP2.out]
          go_upto_region 18 with fail
          obtain ⟨V7, hV7⟩ : ∃ V7, VD.setCell ⟨b8, 4, none⟩ (.slice va2 n2 vc2) = V7 := ⟨_, rfl⟩
          rw [hV7]
          have FQ : Fr (fun k => k = b8) VD V7 := by rw [← hV7]; exact (Fr.refl (fun k => k = b8) VD).setCell (a := ⟨b8, _, none⟩) (fun _ => rfl) _
          have g8Q : V7.heap[b8]? = some (.cells #[.int .i64 r1.1, .int .i64 r1.2, .int .i64 d, .int .i64 p, .slice va2 n2 vc2] 131) := by rw [← hV7]; exact heap_setCell_cells _ _ _ _ HGP.out
          have hoQ : OwnE V7 0 (.slice va2 ((es.filter (freshB oldest)).eraseIdx i).length vc2) _ := own_fr1 (own_base HOP.out.2.1) FQ (fun g hg e => by
            obtain ⟨_, c, hc⟩ := own_blockT HOP.out.2.1 (show some g = _ from hg.symm)
            rw [e, HGP.out] at hc; cases hc)
          have HSV7 := hid (show PS w1 B bx bd y P a (N1 + 3) x tops (t.slots x.depth) L sp b8 r1 d p va2 n2 vc2 ((es.filter (freshB oldest)).eraseIdx i) V7 from ⟨HOP.out.1.setNew FQ HGP.out (by decide) H8.out.1, g8Q, hoQ, FrX.new HOP.out.2.2 FQ H8.out.2, HNP2.out⟩)
          clear q0 q1 q2 q3 q4 qz ql hV7 FQ g8Q hoQ HOP HGP hi9
          obtain ⟨q0, q1, q2, q3, q4, qz, ql⟩ := cells5 HSV7.out.2.1
          obtain ⟨t0', t1', t2', t3', tz', tl'⟩ := HB4.out V7 HSV7.out.2.2.2.1
          have HPt := hid (bput_ok HSV7.out.2.2.1 HK2.out.2.1 (by have := HK2.out.1; omega) d p E)
          rw [HSV7.out.2.2.2.2] at HPt
          go_wp2_with fail
          refine HPt.out.mono ?_
          rintro e VP ⟨ap, cp, rfl, hop, FP⟩
          have hIP := HSV7.out.1.fr0 FP
          have g8P := FP.heap HSV7.out.2.1 (fun h => h)
          have FXP := FrX.trans HSV7.out.2.2.2.1 (FrX.none FP)
          have hkP := bk_put HK2.out HRo2.out HE.out HBk.out.2.2
          obtain ⟨np, hnp⟩ : ∃ np, (putB ((es.filter (freshB oldest)).eraseIdx i) E).length = np := ⟨_, rfl⟩
          have HNP := hid hnp
          rw [hnp]
          clear q0 q1 q2 q3 q4 qz ql t0' t1' t2' t3' tz' tl' HPt hnp
          have HOP := hid (And.intro hIP (And.intro hop (And.intro FXP hkP)))
          have HGP := hid g8P
          obtain ⟨q0, q1, q2, q3, q4, qz, ql⟩ := cells5 g8P
          clear hIP hop FXP hkP g8P FP
          go_upto_region 19 with fail
          obtain ⟨VQ, hVQ⟩ : ∃ VQ, ((VP.setCell ⟨b8, 2, none⟩ (.int .i64 d)).setCell ⟨b8, 3, none⟩ (.int .i64 p)).setCell ⟨b8, 4, none⟩ (.slice ap np cp) = VQ := ⟨_, rfl⟩
          rw [hVQ]
          have FQ : Fr (fun k => k = b8) VP VQ := by rw [← hVQ]; exact set3_fr VP b8 _ _ _
          have g8Q : VQ.heap[b8]? = some (.cells #[.int .i64 r1.1, .int .i64 r1.2, .int .i64 d, .int .i64 p, .slice ap np cp] 131) := by rw [← hVQ]; exact set3_heap HGP.out _ _ _
          have hIQ := HOP.out.1.setNew FQ HGP.out (by decide) H8.out.1
          have hoQ : OwnE VQ 0 (.slice ap (putB ((es.filter (freshB oldest)).eraseIdx i) E).length cp) _ := own_fr1 (own_base HOP.out.2.1) FQ (fun g hg e => by
            obtain ⟨_, c, hc⟩ := own_blockT HOP.out.2.1 (show some g = _ from hg.symm)
            rw [e, HGP.out] at hc; cases hc)
          have FXQ := FrX.new HOP.out.2.2.1 FQ H8.out.2
          have HKe := hid (xkeep_ok hIQ (j := j) HJ.out hoQ HOP.out.2.2.2 HD.out.2.1 HD.out.2.2 (bkt_own HBk.out.1 (Nat.le_of_eq HT.out.2.1)) (by have := HNr.out.2.2.2.2.2.2; omega))
          rw [HNP.out] at HKe
          have HQ := hid FXQ
          clear q0 q1 q2 q3 q4 qz ql hVQ FQ hIQ hoQ FXQ
          obtain ⟨q0, q1, q2, q3, q4, qz, ql⟩ := cells5 g8Q
          go_wp2_with fail
          refine HKe.out.mono ?_
          rintro e VR ⟨err, rfl, FR, hr⟩
          have HR := hid (And.intro FR hr)
          clear FR hr q0 q1 q2 q3 q4 qz ql g8Q HKe
          go_wp2_with fail
          go_ret2
          refine ⟨true, err, rfl, FrX.trans (FrX.none HF1.out) (FrX.trans HQ.out (frX_mono HR.out.1 (fun b hb => .inl hb))), ?_⟩
          rcases HR.out.2 with ⟨rfl, m, y', x', t', hI', hx', hL'⟩ | ⟨rfl, ha, hDn⟩
          · refine .inl ⟨rfl, by rw [← HRes.out], y', x', t.put x.depth (preM E.hash x.depth) (fun _ _ => .leaf (↑m, ↑y.gen) (putB ((es.filter (freshB oldest)).eraseIdx i) E)), N1 + 3 + 20, ?_, ?_, ?_, ?_, HT.out.2.2.2.trans hL'.1, hL'.2.1.trans HG.out.1, hL'.2.2.trans HG.out.2⟩
            · rw [← HRes.out]
              exact idxT_leaf HBk.out.1 HT.out.2.1 HT.out.1 HT.out.2.2.1 HJ.out HOP.out.2.2.2 hx' hI'
            · have h1 : (t.put x.depth (preM E.hash x.depth) (fun _ _ => .leaf (↑m, ↑y.gen) (putB ((es.filter (freshB oldest)).eraseIdx i) E))).refs.length = t.refs.length := Nat.add_right_cancel (refs_put (fun _ _ => .leaf (↑m, ↑y.gen) (putB ((es.filter (freshB oldest)).eraseIdx i) E)) 1 (fun _ _ => rfl) t x.depth (preM E.hash x.depth))
              have h2 := HNr.out.2.1
              omega
            · rw [← HRes.out]
              exact bare_put _ _ (fun _ _ => rfl) t x.depth _
            · rw [← HRes.out]; exact hx'
          · exact .inr ⟨rfl, ha, down_like (hDn.mono (by have := HNr.out; omega)) HT.out.2.2.2⟩
end Go.Proofs.YtgdhaaokolfdoaaGreatDoor
