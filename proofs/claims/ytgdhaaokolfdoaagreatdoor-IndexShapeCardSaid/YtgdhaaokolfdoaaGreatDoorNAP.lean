/- A pack of texts: DF, DG, DJ, DK. Conditions: those that each text names. -/
import Derived.Test.YtgdhaaokolfdoaaGreatDoorNAO
set_option maxHeartbeats 16000000
set_option maxRecDepth 100000
set_option linter.all false
namespace Go.Proofs.YtgdhaaokolfdoaaGreatDoor
section
open Go.RowKit Go.Sg Go.Sg.Bits Go.Sg.Clk CP SF
theorem own_ref1 (w : World) (p s : Int) : (w.alloc (.cells #[.int .i64 p, .int .i64 s] 35)).ownsRow w.heap.size 35 2 (.slice (some ⟨w.heap.size, 0, none⟩) 1 1) 1 [.int .i64 p, .int .i64 s] :=
 ⟨rfl, .inr ⟨w.heap.size, 1, #[.int .i64 p, .int .i64 s], rfl, nR _, han _ _, nR _, by decide, rfl, rfl⟩⟩
variable {W w : World} {B : Blk} {y : Cs} {P : Prot} {a : Bool} {N bd s : Nat} {x : DirD} {slots tops : List Rf}
theorem all_ok (h : StoreC w B y P a N) (hD : DirAt w bd B.s x) (hC : DirC y x tops slots) (hN : N + 1 + x.leaves <= 90000) :
  Calls Tryz.prog 48 #[dptr bd] w (RowU B y P a (N + 1 + x.leaves) slots w) := by
 obtain ⟨i0, hi0, hz0, hz1, hz2⟩ := info_parts Tryz.info35;have HTop := hid (top_ok h hD hC (by omega));have HD := hid hD;have HC := hid hC;have h0 : 0 < w.heap.size := by have := h.base; have := h.base_le; omega
 have hp41 := hC.z.le41;clear h hD hC;go_enter Tryz.func48, Tryz.ntmps48;go_wp2_with (go_at_call 120; refine (HTop.out).mono ?_)
 rintro e W3 ⟨v, err, rfl, F3, ⟨rfl, hown, hS⟩ | ⟨rfl, ha, hDn⟩⟩
 ·obtain ⟨ta, tc, rfl, hT⟩ := rowT_of_own hown;have hsz3 : 0 < W3.heap.size := nLL h0 F3.size;obtain ⟨n, hn⟩ : ∃ n, tops.length = n := ⟨_, rfl⟩
  have HNL := hid (show n = x.leaves by rw [<- hn]; exact HC.out.tlen);have hn41 : n <= 41 := by rw [HNL.out]; exact hp41.1
  have hNn : N + 1 + n <= 90000 := by rw [HNL.out]; exact hN
  rw [hn];have H3 := hi2 hS (aI hT (aI F3 hn));clear hown hS F3 hT hn;go_wp2_with fail
  go_loopw [6, 22] (fun v i wr => ∃ k : Nat, k <= n /\ i = .int .i64 k /\ OwnR wr W3.heap.size v (slots.take (k * x.per)) /\ StoreC wr B y P a (N + 1 + k) /\ FrB B W3 wr) (fun _ i _ => n - (intOf i).toNat)
  case atStart => exact ⟨0, Nat.zero_le _, rfl, by rw [Nat.zero_mul]; exact World.ownsRow_nil _ _ _ _, H3.out.1, FrB.refl _ _⟩
  case round =>
   obtain ⟨k, hk, rfl, hown, hS, F⟩ := hrel;have HR := hi2 hown (aI hS F);clear hown hS F;by_cases hlt : k < n
   ·have hd : decide ((k : Int) < (n : Int)) = true := (by simp; omega);have HPg := hid (page_ok HR.out.2.1 (HD.out.frB (FrB.trans H3.out.2.2.1 HR.out.2.2)) HC.out.z HC.out.leaf HC.out.slen HC.out.tlen (tc := tc) H3.out.2.2.2 (H3.out.2.1.frB HR.out.2.2) hlt (by omega));go_wp2_with (go_at_call 121; refine (HPg.out).mono ?_)
    rintro e W4 ⟨v4, err, rfl, F4, ⟨rfl, hown4, hS4⟩ | ⟨rfl, ha, hDn⟩⟩
    ·have hsl := HC.out.slen;have hle := HC.out.z.slots_le;have hcl : (chunk slots x.per k).length <= 41 := (by rw [chunk_len]; omega);have htl : (slots.take (k * x.per)).length <= 1681 := by
      rw [lT];have : k * x.per <= 41 * 41 := Nat.mul_le_mul (by omega) hp41.2;omega
     obtain ⟨m4, hm4⟩ : ∃ m4, (chunk slots x.per k).length = m4 := ⟨_, rfl⟩
     have H4 := hi2 (own_src hown4) (aI hS4 (aI F4 (oRf HR.out.1 F4 (fun g c hg hs => absurd (hs.2.1 c 35 _ hg) (by decide)))));have hsz4 : W3.heap.size <= W4.heap.size := nT HR.out.2.2.size F4.size;have HM := hid hm4;clear hown4 hS4 F4 hsl hle;go_wp2_with (at_builtin; refine wpList_append_src rfl (.tmp 35) (.tmp 36) 33 rfl W3.heap.size 35 i0 _ 2 16 Tryz.underlying33 hi0 hz0 hz1 hz2 rfl (by decide) _ _ _ rfl H4.out.2.2.2 _ _ _ rfl H4.out.1 (refsC_len _) (refC_cells _) (by simp only [maxLen]; omega) (by omega) hsz4 ?_)
     intro v5 W5 hown5 hg5 hne5;have F5 : FrB B W3 W5 := grown_frB (FrB.trans HR.out.2.2 H4.out.2.2.1) H4.out.2.2.2 (nR _) hg5;have hS5 := H4.out.2.1.grown0 H4.out.2.2.2 (by decide) hsz3 hg5;have H5 := hi2 hown5 (aI hS5 F5);clear hown5 hg5 hne5 F5 hS5;go_wp2_with fail
     go_roundw;case rel =>
      refine ⟨k + 1, hlt, by go_num, ?_, H5.out.2.1, H5.out.2.2⟩;have ho := H5.out.1;rw [<- HM.out, <- lT, <- lA, <- List.flatMap_append, <- take_chunk] at ho;exact ho
     case measure => simp [intOf]; omega
    ·have HX := hi2 ha (aI hDn (FrB.trans (FrB.trans H3.out.2.2.1 HR.out.2.2) F4));clear hDn ha F4;go_wp2_with fail
     go_ret2;exact ⟨_, 4, rfl, HX.out.2.2, .inr ⟨rfl, HX.out.1, HX.out.2.1.mono (by have := HNL.out; omega)⟩⟩
   ·obtain rfl : k = n := by omega
    have hd : decide ((k : Int) < (k : Int)) = false := (by simp);go_wp2_with fail
    go_ret2;have e1 : slots.take (k * x.per) = slots := tL (by rw [HC.out.slen, HNL.out]; exact HC.out.z.slots_le);have ho := HR.out.1;rw [e1] at ho;exact ⟨_, 0, rfl, FrB.trans H3.out.2.2.1 HR.out.2.2, .inl ⟨rfl, own_down ho H3.out.2.2.1.size, by rw [<- HNL.out]; exact HR.out.2.1⟩⟩
 ·have HX := hi2 ha (aI hDn F3);clear hDn ha F3;go_wp2_with fail
  go_ret2;exact ⟨_, 4, rfl, HX.out.2.2, .inr ⟨rfl, HX.out.1, HX.out.2.1.mono (by omega)⟩⟩
theorem pages_ok (h : StoreC w B y P a N) (hD : DirAt w bd B.s x) (hC : DirC y x tops slots) (hN : N + 1 <= 90000) :
  Calls Tryz.prog 55 #[dptr bd] w (RowU B y P a (N + 1) ((x.rp, x.rs) :: tops) w) := by
 obtain ⟨i0, hi0, hz0, hz1, hz2⟩ := info_parts Tryz.info35;have HTop := hid (top_ok h hD hC (by omega));have HD := hid hD;have HC := hid hC;have h0 : 0 < w.heap.size := by have := h.base; have := h.base_le; omega
 have hp41 := hC.z.le41;have htl : tops.length <= 41 := by rw [hC.tlen]; exact hp41.1
 clear h hD hC;go_enter Tryz.func55, Tryz.ntmps55;go_wp2_with (go_at_call 120; refine (HTop.out).mono ?_)
 rintro e W3 ⟨v, err, rfl, F3, ⟨rfl, hown, hS⟩ | ⟨rfl, ha, hDn⟩⟩
 ·have hsz3 : 0 < W3.heap.size := nLL h0 F3.size;obtain ⟨c0, c1, c2, c3, c4, c5, cz, cl⟩ := cells6 (HD.out.frB F3);have F4 : Fq W3 (W3.alloc (.cells #[.int .i64 x.rp, .int .i64 x.rs] 35)) := (Fr.refl _ _).alloc _;have H4 := hi2 (own_src (oRf hown F4 (fun _ _ _ h => h))) (aI (hS.fr0 F4) (aI (FrB.trans F3 (FrB.none F4)) (F3.size)));clear hown hS F3 F4;go_wp2_with (at_builtin; refine wpList_append_src rfl (.tmp 20) (.tmp 21) 33 rfl W3.heap.size 35 i0 _ 2 16 Tryz.underlying33 hi0 hz0 hz1 hz2 rfl (by decide) _ _ _ rfl (own_ref1 W3 x.rp x.rs) _ _ _ rfl H4.out.1 (refsC_len _) (refC_cells _) (by simp only [maxLen]; omega) (by omega) (by simp) ?_)
  intro v5 W5 hown5 hg5 hne5;have F5 := grown_frB H4.out.2.2.1 (own_ref1 W3 x.rp x.rs) H4.out.2.2.2 hg5;have hS5 := H4.out.2.1.grown0 (own_ref1 W3 x.rp x.rs) (by decide) hsz3 hg5;have H5 := hi2 hown5 (aI hS5 F5);clear hown5 hg5 hne5 F5 hS5;go_wp2_with fail
  go_ret2;refine ⟨v5, 0, rfl, H5.out.2.2, .inl ⟨rfl, own_down ?_ H4.out.2.2.2, H5.out.2.1⟩⟩;have ho := H5.out.1;rw [Nat.add_comm] at ho;exact ho
 ·have HX := hi2 ha (aI hDn F3);clear hDn ha F3;go_wp2_with fail
  go_ret2;exact ⟨_, 4, rfl, HX.out.2.2, .inr ⟨rfl, HX.out.1, HX.out.2.1⟩⟩
theorem dir_set (h : DirAt W bd s x) (p q : Int) : DirAt ((W.setCell ⟨bd, 4, none⟩ (.int .i64 p)).setCell ⟨bd, 5, none⟩ (.int .i64 q)) bd s { x with rp := p, rs := q } := by
 unfold DirAt;rw [hsc _ _ _ _ (hsc _ _ _ _ h)];rfl
theorem dirset_f {k : Nat} (x y : Value) : Fr (fun b => b = k) W ((W.setCell ⟨k, 4, none⟩ x).setCell ⟨k, 5, none⟩ y) :=
 Fr.setCell (S := fun b => b = k) (Fr.setCell (S := fun b => b = k) (Fr.refl _ _) (fun _ => rfl) _) (fun _ => rfl) _
theorem dirset_frB (F : FrB B w W) (h : w.heap.size <= bd) (x y : Value) : FrB B w ((W.setCell ⟨bd, 4, none⟩ x).setCell ⟨bd, 5, none⟩ y) :=
 Fr.setCell (Fr.setCell F (fun hb => absurd hb (Nat.not_lt.2 h)) _) (fun hb => absurd hb (Nat.not_lt.2 h)) _
theorem dirset_st (h : StoreC W B y P a N) (hD : DirAt W bd s x) (h0 : 0 < bd) (u v : Value) : StoreC ((W.setCell ⟨bd, 4, none⟩ u).setCell ⟨bd, 5, none⟩ v) B y P a N :=
 h.frL (dirset_f u v) hD (by decide) h0
theorem dirset_down (h : DownC W B y P N) (hD : DirAt W bd s x) (u v : Value) : DownC ((W.setCell ⟨bd, 4, none⟩ u).setCell ⟨bd, 5, none⟩ v) B y P N :=
 h.frL (dirset_f u v) hD (by decide)
theorem down_like {y' : Cs} (h : DownC w B y P N) (k : Like y' y) : DownC w B y' P N := by
 obtain ⟨D, h1, h2, h3, h4, h5⟩ := h.ex;exact ⟨D, h1, h2, h3, h4.trans k.sectors, h5.trans k.size⟩
theorem ref1_row (w : World) (p s : Int) : RowR (w.alloc (.cells #[.int .i64 p, .int .i64 s] 35)) (some ⟨w.heap.size, 0, none⟩) [(p, s)] := ⟨fun i x hx => by
 have hb : (w.alloc (.cells #[.int .i64 p, .int .i64 s] 35)).heap[w.heap.size]? = some (.cells #[.int .i64 p, .int .i64 s] 35) := han _ _;obtain ⟨c0, c1, -, cl⟩ := cells2 hb;cases i with
 | zero => simp at hx; subst hx; exact ⟨_, _, rfl, cl, c0, c1⟩
 | succ i => simp at hx⟩
theorem load_one (w : World) (r : Rf) (hr : rightR r) : Calls Tryz.prog 119 #[.slice (some ⟨w.heap.size, 0, none⟩) 1 1] (w.alloc (.cells #[.int .i64 r.1, .int .i64 r.2] 35)) (LoadP [r] (w.alloc (.cells #[.int .i64 r.1, .int .i64 r.2] 35))) :=
 load_ok (ref1_row w r.1 r.2) (by simpa using hr) rfl (by omega)
def MakeU (B : Blk) (y : Cs) (P : Prot) (a : Bool) (N : Nat) (r : Rf) (w : World) (e : Ending) (w' : World) : Prop :=
 ∃ v err, e = .returned (.tuple #[v, .int .i64 err]) /\ FrB B w w' /\ ((err = 0 /\ ∃ bd m1 m2 : Nat, v = dptr bd /\ w.heap.size <= bd /\ DirAt w' bd B.s { atZ y.plan with rp := m2, rs := y.gen } /\ TakeIs y.taken y.pages y.hand m1 /\
  TakeIs (y.new m1 (loadM [r])).taken y.pages (y.new m1 (loadM [r])).hand m2 /\ StoreC w' B ((y.new m1 (loadM [r])).new m2 (loadM [((m1 : Int), (y.gen : Int))])) P a (N + 2)) \/ (err = 4 /\ a = true /\ DownC w' B y P (N + 2)))
theorem make_dir_ok {M : Nat} {own : List Nat} (h : StoreC w B y P a N) (hfit : fitsM y.plan = true) (hL : Live y own M) (hM : own.length + 1 + 2 * M < y.pages) (hpg : y.pages <= 2147483647) (hrm : 12 <= y.room) (r : Rf) (hr : rightR r) (hN : N + 2 <= 90000) :
  Calls Tryz.prog 47 #[B.ptr, ref2 r.1 r.2] w (MakeU B y P a N r w) := by
 obtain ⟨w1, hw1⟩ : ∃ w1, w.alloc (.cells #[.int .i64 r.1, .int .i64 r.2] 35) = w1 := ⟨_, rfl⟩
 have b1 : w1.heap[w.heap.size]? = some (.cells #[.int .i64 r.1, .int .i64 r.2] 35) := by rw [<- hw1]; exact han _ _
 have hf1 : Fq w w1 := by rw [<- hw1]; exact (Fr.refl _ _).alloc _
 have hgen : y.gen < 9223372036854775808 := by obtain ⟨x, c, hS, rfl, hi⟩ := h.ex; exact gen_lt hS
 obtain ⟨e0, e1, ez, el⟩ := cells2 b1;have hrt := right_dir_ok r.1 r.2 w1;unfold RightP at hrt;rw [show rightM r.1 r.2 = true by obtain ⟨h1, h2, h3, h4⟩ := hr; simp [rightM]; omega] at hrt;have HRT := hid hrt;have HW1 := hid hw1;have HF1 := hid hf1;have HB1 := hid b1;have HAt := hid (fun W (F : Fq w W) => dirat_ok (h.fr0 F) hfit);have HS := hid h;have HL := hid hL;have h0 : 0 < w.heap.size := by have := h.base; have := h.base_le; omega
 have HG := hid (show (0 : Int) <= (y.gen : Int) /\ (y.gen : Int) < 9223372036854775808 by omega);have HR := hid hr;clear hw1 b1 hrt h hf1 hfit hL hr;go_enter Tryz.func47, Tryz.ntmps47;go_wp2_with (rw [HW1.out]; go_at_call 117; refine HRT.out.mono ?_)
 rintro e W2 ⟨rfl, F2⟩;have HF2 := hid (HF1.out.trans F2 (fun _ _ h => h));have HB2 := hid (F2.heap HB1.out (fun h => h));clear F2 HRT e0 e1 ez el;go_wp2_with (go_at_call 118; refine (HAt.out _ HF2.out).mono ?_)
 rintro e W3 ⟨bd, rfl, hD, hbd, F3⟩;have HF3 := hid (HF2.out.trans F3 (fun _ _ h => h));have b3 := F3.heap HB2.out (fun h => h);obtain ⟨e0, e1, ez, el⟩ := cells2 b3;have HD3 := hid hD;have HBD := hid (nT HF2.out.size hbd);have HB3 := hid b3;clear F3 hD b3 hbd;go_upto_region 4 with fail
 have F4 : Fq W3 (W3.alloc (.cells #[.int .i64 r.1, .int .i64 r.2] 35)) := (Fr.refl _ _).alloc _;have HLd := hid (load_one W3 r HR.out);have HF4 := hid (HF3.out.trans F4 (fun _ _ h => h));have HD4 := hid (F4.heap HD3.out (fun h => h));clear F4;go_wp2_with (go_at_call 119; refine HLd.out.mono ?_)
 rintro e W5 ⟨la, lc, rfl, hb, F5⟩;have HF5 := hid (HF4.out.trans F5 (fun _ _ h => h));have HD5 := hid (F5.heap HD4.out (fun h => h));have HN1 := hid (new_u (HS.out.fr0 HF5.out) (hb.inp B) (loadM_byte _) (by simpa using hrm) (HL.out.free (by omega)) (by omega));clear F5 hb e0 e1 ez el;go_wp2_with (go_at_call 22; refine HN1.out.mono ?_)
 rintro e W6 ⟨p1, s1, err, rfl, F6, ⟨rfl, m1, rfl, rfl, ht1, hS6⟩ | ⟨rfl, ha, hDn⟩⟩
 ·have F06 : FrB B w W6 := FrB.trans (FrB.none HF5.out) F6;have HF6 := hid F06;have HD6 := hid (DirAt.frB HD5.out F6);have hL1 := HL.out.new (bs := loadM [r]) HS.out.apart ht1;have HS6 := hi2 hS6 (aI ht1 hL1);have hm1 := ht1.1;have HR1 := hid (show rightR ((m1 : Int), (y.gen : Int)) from ⟨by simp, by simp only; omega, HG.out.1, HG.out.2⟩);clear F6 hS6 ht1 hL1 F06;go_upto_region 7 with fail
  obtain ⟨W7, hW7⟩ : ∃ W7, W6.alloc (.cells #[.int .i64 m1, .int .i64 y.gen] 35) = W7 := ⟨_, rfl⟩
  rw [hW7];have F7 : Fq W6 W7 := by rw [<- hW7]; exact (Fr.refl _ _).alloc _
  have b7 : W7.heap[W6.heap.size]? = some (.cells #[.int .i64 m1, .int .i64 y.gen] 35) := by rw [<- hW7]; exact han _ _
  obtain ⟨e0, e1, ez, el⟩ := cells2 b7;have HF7 := hid F7;have HD7 := hid (F7.heap HD6.out (fun h => h));have F8 : Fq W7 (W7.alloc (.cells #[.int .i64 m1, .int .i64 y.gen] 35)) := (Fr.refl _ _).alloc _;have HF8 := hid (F7.trans F8 (fun _ _ h => h));have HLd2 := hid (load_one W7 ((m1 : Int), (y.gen : Int)) HR1.out);clear F7 b7 hW7 F8 HLd HN1;go_wp2_with (go_at_call 119; refine HLd2.out.mono ?_)
  rintro e W9 ⟨la2, lc2, rfl, hb2, F9⟩;have HF9 := hid (HF8.out.trans F9 (fun _ _ h => h));have HN2 := hid (new_u (HS6.out.1.fr0 HF9.out) (hb2.inp B) (loadM_byte _) (by show 12 * 1 <= y.room; omega) (HS6.out.2.2.free (by rw [lA]; exact hM)) (by omega));have HD9 := hid (HF9.out.heap HD6.out (fun h => h));clear F9 hb2 e0 e1 ez el;go_wp2_with (go_at_call 22; refine HN2.out.mono ?_)
  rintro e W10 ⟨p2, s2, err, rfl, F10, hres⟩;have F010 : FrB B w W10 := FrB.trans HF6.out (FrB.trans (FrB.none HF9.out) F10);have hD10 := DirAt.frB HD9.out F10;have HF10 := hid F010;obtain ⟨c0, c1, c2, c3, c4, c5, cz, cl⟩ := cells6 hD10;have HD10 := hid hD10;have HX := hid hres;clear F10 F010 hD10 hres;rcases HX.out with ⟨rfl, m2, rfl, rfl, ht2, hS10⟩ | ⟨rfl, ha, hDn⟩
  ·have HY := hi2 ht2 hS10;have hg2 : (y.new m1 (loadM [r])).gen = y.gen := rfl;rw [hg2];clear ht2 hS10;go_wp2_with fail
   go_ret2;refine ⟨_, 0, rfl, dirset_frB HF10.out HBD.out _ _, .inl ⟨rfl, bd, m1, m2, rfl, HBD.out, dir_set HD10.out _ _, HS6.out.2.1, HY.out.1, dirset_st HY.out.2 HD10.out (by have := HBD.out; omega) _ _⟩⟩
  ·have HY := hi2 ha hDn;clear ha hDn;go_wp2_with fail
   go_ret2;refine ⟨_, 4, rfl, dirset_frB HF10.out HBD.out _ _, .inr ⟨rfl, HY.out.1, dirset_down ((down_like HY.out.2 (show Like y (y.new m1 (loadM [r])) from ⟨rfl, rfl, rfl, rfl, rfl, rfl, rfl⟩)).mono (by omega)) HD10.out _ _⟩⟩
 ·have HX := hi2 ha (aI hDn (FrB.trans (FrB.none HF5.out) F6));clear hDn ha F6;go_wp2_with fail
  go_ret2;exact ⟨_, 4, rfl, Fr.alloc HX.out.2.2 _, .inr ⟨rfl, HX.out.1, (HX.out.2.1.fr0 ((Fr.refl _ _).alloc _)).mono (by omega)⟩⟩
end
section
open Go.RowKit Go.Sg Go.Shelf
attribute [local go_sem] Oper.semAt_some
def chV (b off n per j : Nat) : Value := .slice (some ⟨b, off + j * per * 2, none⟩) (min per (n - j * per)) (min per (n - j * per))
theorem Tryz.info33' : (Tryz.prog.info? 33).map (fun i => (i.zero, i.size, i.bytes)) = some (some (.slice none 0 0), 1, 24) := by kernel_rfl
theorem from33 (b off n c q : Nat) (h : q < n) (hc : n <= c) (W : World) : (Instr.slice 33 (.slice (some ⟨b, off, none⟩) n c) (some (.int .i64 q)) none none).run Tryz.prog W = .ok (.slice (some ⟨b, off + q * 2, none⟩) (n - q) (c - q)) W := by
 rw [slice_fromG 33 2 (by kernel_rfl) (fun W => by kernel_rfl) _ n c q (by omega) W];rw [if_neg (by omega)];simp [Addr.add]
theorem cut33 (b off n c q e : Nat) (h0 : 0 < e) (hc : q + e <= c) (W : World) : (Instr.slice 33 (.slice (some ⟨b, off, none⟩) n c) (some (.int .i64 q)) (some (.int .i64 ((q : Int) + (e : Int)))) (some (.int .i64 ((q : Int) + (e : Int))))).run Tryz.prog W = .ok (.slice (some ⟨b, off + q * 2, none⟩) e e) W := by
 rw [run_slice_lhm W 33 (some ⟨b, off, none⟩) n c (by kernel_rfl) .i64 .i64 .i64 q ((q : Int) + (e : Int)) ((q : Int) + (e : Int)) (by omega) (by omega) (by omega) (by omega)];rw [show (sizeOf (Tryz.prog.elem 33)).run Tryz.prog W = .ok 2 W by kernel_rfl];have e1 : ((q : Int) + (e : Int)).toNat = q + e := by omega
 simp only [Result.andThen_ok, sliced, e1, Int.toNat_natCast, Nat.add_sub_cancel_left];rw [if_neg (by omega)];simp [Addr.add]
theorem chunk_any (a : Option Addr) (n c per : Nat) (hp : 1 <= per) (w : World) :
  Calls Tryz.prog 239 #[.slice a n c, .int .i64 per] w fun e w' => e = .returned (.func (.func 272) #[] #[.pointer (some ⟨w.heap.size, 0, none⟩), .pointer (some ⟨w.heap.size + 1, 0, none⟩)]) /\ (w.alloc (.cells #[.slice a n c] 33)).alloc (.cells #[.int .i64 per] 3) = w' := by
 obtain ⟨w1, hw1⟩ : ∃ w1, (w.alloc (.cells #[.slice a n c] 33)).alloc (.cells #[.int .i64 per] 3) = w1 := ⟨_, rfl⟩
 obtain ⟨b0, b1, F1⟩ := heap_two hw1;have hd : decide ((per : Int) < 1) = false := by simp; omega
 have c0 := coh b1 0;simp at c0;have HW := hid hw1;clear b0 b1 F1 hw1;go_enter Tryz.func239, Tryz.ntmps239;go_wp2_with fail
 rw [HW.out];go_wp2_with fail
 go_ret;exact ⟨rfl, rfl⟩
abbrev encC (b off n per : Nat) (j : Nat) : Array Value := #[chV b off n per j]
def KpC (bs bn : Nat) (W W' : World) : Prop := W'.heap[bs]? = W.heap[bs]? /\ W'.heap[bn]? = W.heap[bn]?
variable {w : World} {b c m n off per : Nat}
theorem chunkf_stops {bs bn : Nat} (hs : w.heap[bs]? = some (.cells #[.slice (some ⟨b, off, none⟩) n c] 33)) (hnb : w.heap[bn]? = some (.cells #[.int .i64 per] 3)) (hper : 1 <= per /\ per <= 1000) (hn : n <= 100000) (hc : n <= c) (hm : ∀ k, k < m ↔ k * per < n) :
  SeqStopsK Fence.wide 9 Tryz.prog 272 #[.pointer (some ⟨bs, 0, none⟩), .pointer (some ⟨bn, 0, none⟩)] (encC b off n per) (KpC bs bn) (fun xs => xs = List.range m) (fun _ => True) m w := fun l J Jx W hW hJ _ hY h0 => by
 have hs' := (hW.block bs (loh hs)).trans hs;have hn' := (hW.block bn (loh hnb)).trans hnb;have HX := hi2 hs' hn';have HM := hid hm;clear hs hnb hW hs' hn' hm;refine callsIn_of_wp Tryz.func272 rfl trivial ?_ rfl;simp only [Tryz.ntmps272, zA, lC, List.length_nil, Nat.reduceAdd, Nat.reduceSub, Array.replicate_succ, Array.replicate_zero, List.push_toArray, List.append_toArray, List.nil_append, List.cons_append];gi_wp2
 gi_loopw [4] (fun i wr => ∃ k : Nat, k <= m /\ i = .int .i64 ((k * per : Nat) : Int) /\ J (List.range k) wr /\ KpC bs bn W wr) (fun i _ => (n + per : Nat) - (intOf i).toNat)
 case atStart => exact ⟨0, Nat.zero_le _, by simp, h0, rfl, rfl⟩
 case round =>
  obtain ⟨k, hk, rfl, hJs, hkp⟩ := hrel;obtain ⟨q, hq⟩ : ∃ q, k * per = q := ⟨_, rfl⟩
  have cs := coh (hkp.1.trans HX.out.1) 0;have cn := coh (hkp.2.trans HX.out.2) 0;simp at cs cn;have HK := hid hkp;have hkm := HM.out k;rw [hq] at hkm;have HQ := hid hq;rw [hq];clear hq hkp;by_cases hlt : q < n
  ·have hkm' : k < m := hkm.2 hlt;have hd : decide ((q : Int) < (n : Int)) = true := by simp; omega
   obtain ⟨E, hE⟩ : ∃ E, min per (n - q) = E := ⟨_, rfl⟩
   have hE1 : 0 < E /\ E <= per /\ q + E <= n := by omega
   have hmin : min (per : Int) ((n - q : Nat) : Int) = (E : Int) := by omega
   have hsl1 := from33 b off n c q hlt hc;have hsl2 := cut33 b off n c q E hE1.1 (by omega);have hch : chV b off n per k = .slice (some ⟨b, off + q * 2, none⟩) E E := by
    have := HQ.out;unfold chV; rw [this, hE]
   have HE := hid hE;have HKM := hid hkm';have HJ := hid hJs;clear hkm hE hJs hkm';gi_wp2
   gi_big_quiet_th (fail)
   obtain ⟨fn, tmps, assign, body, hy, hR⟩ := hY _ k (wr.drewN nq) (abides_fr hJ HJ.out ((Fr.refl _ _).drewN nq)) (by simpa using HKM.out);dsimp only [encC] at hy;rw [hch] at hy;have cs' : (wr.drewN nq).cell? ⟨bs, 0, none⟩ = some (.slice (some ⟨b, off, none⟩) n c) := cs;gi_wp2
   refine hR.mono ?_;rintro e W3 (⟨rfl, hJ3, hk3⟩ | ⟨rfl, hJx3⟩)
   ·have HJ3 := hid hJ3;have HK3 := hid hk3;have cn3 := coh ((show W3.heap[bn]? = wr.heap[bn]? from hk3.2).trans (HK.out.2.trans HX.out.2)) 0;simp at cn3;clear hJ3 hk3;gi_wp2
    go_roundw;case rel =>
     have he : k * per + per = (k + 1) * per := (by rw [Nat.succ_mul]);refine ⟨k + 1, HKM.out, ?_, by rw [List.range_succ]; exact HJ3.out, HK3.out.1.trans HK.out.1, HK3.out.2.trans HK.out.2⟩;rw [<- he, HQ.out];go_num
    case measure => simp [intOf]; omega
   ·have HJX := hid hJx3;clear hJx3;gi_wp2
    refine bodyPost_ret (results_none rfl _ _ _) rfl ?_;exact ⟨⟨_, rfl⟩, .inr ⟨_, trivial, HJX.out⟩⟩
  ·obtain rfl : k = m := by
    have := mt hkm.1 (by omega);omega
   have hd : decide ((q : Int) < (n : Int)) = false := by simp; omega
   clear hkm;gi_wp2
   go_end0
   exact ⟨⟨_, rfl⟩, .inl ⟨_, rfl, hJs⟩⟩
theorem own_up {base z e size : Nat} {v : Value} {xs : List Value} (h : w.ownsRow base e size v n xs) (hg : ∀ g, some g = v.ownBlock -> z <= g) : w.ownsRow z e size v n xs := by
 obtain ⟨hl, h0 | ⟨g, cap, cur, hv, hb, r⟩⟩ := h
 ·exact ⟨hl, .inl h0⟩
 ·exact ⟨hl, .inr ⟨g, cap, cur, hv, hg g (by rw [hv]; rfl), r⟩⟩
def HoldsC (w : World) (z b off n per : Nat) (pre : List Nat) (W : World) : Prop :=
 ∃ v, Boxed W w.heap.size 291 v /\ W.ownsRow w.heap.size 33 1 v pre.length (pre.map (chV b off n per)) /\ ∀ g, some g = v.ownBlock -> z <= g
def ChunksP (b off n per m : Nat) (w : World) (e : Ending) (w' : World) : Prop := ∃ v, e = .returned v /\ w'.ownsRow w.heap.size 33 1 v m ((List.range m).map (chV b off n per)) /\ Fq w w'
theorem chunks_ok (hper : 1 <= per /\ per <= 1000) (hn : n <= 100000) (hc : n <= c) (hm : ∀ k, k < m ↔ k * per < n) (hmn : m <= 100000) :
  Calls Tryz.prog 184 #[.slice (some ⟨b, off, none⟩) n c, .int .i64 per] w (ChunksP b off n per m w) := by
 obtain ⟨i0, hi0, hz0, hz1, hz2⟩ := info_parts Tryz.info33';refine (callsIn_wide (n := 10)).1 ?_;have F := hid (chunk_any (some ⟨b, off, none⟩) n c per hper.1 (w.alloc (.cells #[.slice none 0 0] 291)));refine callsIn_of_wp_marks Tryz.func184 rfl trivial ?_ rfl;simp only [Tryz.ntmps184, zA, lC, List.length_nil, Nat.reduceAdd, Nat.reduceSub, Array.replicate_succ, Array.replicate_zero, List.push_toArray, List.append_toArray, List.nil_append, List.cons_append];gi_wp2_with (gi_at_call 239; refine (callsIn_wide.2 F.out).mono ?_; rintro e w' ⟨rfl, rfl⟩)
 obtain ⟨W0, hW0⟩ : ∃ W0, ((w.alloc (.cells #[.slice none 0 0] 291)).alloc (.cells #[.slice (some ⟨b, off, none⟩) n c] 33)).alloc (.cells #[.int .i64 per] 3) = W0 := ⟨_, rfl⟩
 have hF0 : Fq w W0 := by rw [<- hW0]; exact (((Fr.refl _ w).alloc _).alloc _).alloc _
 have hsz : W0.heap.size = w.heap.size + 1 + 1 + 1 := by rw [<- hW0]; simp
 obtain ⟨hnx, hb1, hb2, -⟩ := heap_three hW0;simp only [hW0];have hKB : ∀ (W : World) (l : Nat) (o o' : Obj), W0.heap.size <= l -> W.heap[l]? = some o -> o.isCells = false -> o.isWalk = false -> KpC (w.heap.size + 1) (w.heap.size + 2) W (W.putObj l o') := fun W l o o' hl _ _ _ => ⟨hpj _ _ _ _ (by omega), hpj _ _ _ _ (by omega)⟩
 refine wpIn_rangeFunc_ownH (F := Fence.wide) rfl (by omega) (gf := 272) (lb := #[.pointer (some ⟨w.heap.size + 1, 0, none⟩), .pointer (some ⟨w.heap.size + 2, 0, none⟩)]) rfl trivial (enters_of Tryz.func272 (by kernel_rfl) rfl)
  (chunkf_stops hb1 hb2 hper hn hc hm) (fun h k => ⟨k.1.trans h.1, k.2.trans h.2⟩) hKB (Below.refl _ _) (fun _ => rfl)
  (fun pre W => HoldsC w W0.heap.size b off n per pre W /\ Fq w W /\ Fr (fun _ => True) W0 W)
  (fun _ _ _ => False)
  (own_and ((holdsRow_own w.heap.size w.heap.size 291 33 1 (fun pre : List Nat => pre.length) (fun pre => pre.map (chV b off n per)) (fun _ v => ∀ g, some g = v.ownBlock -> W0.heap.size <= g)).from _) (own_and (own_fr (by omega)) (own_fr (nR _))))
  (fun _ _ _ _ _ h => h.elim)
  ⟨⟨_, hnx, World.ownsRow_nil _ _ _ _, fun g h => by simp [Value.ownBlock] at h⟩, hF0, Fr.refl _ _⟩
  (fun x a' W => a' = { tmps := #[.slice (some ⟨b, off, none⟩) n c, .int .i64 per, undef, undef, .slice none 0 0, .pointer (some ⟨w.heap.size, 0, none⟩), chV b off n per x, .slice (some ⟨b, off, none⟩) n c, .int .i64 per, .func (.func 272) #[] #[.pointer (some ⟨w.heap.size + 1, 0, none⟩), .pointer (some ⟨w.heap.size + 2, 0, none⟩)], chV b off n per x, undef, undef, undef, undef, undef], defers := [] })
  (fun x a' => own_pure _ _)
  ?assign ?body ?done ?stop
 case assign =>
  rintro l pre x W K ⟨hI, hF, hFT⟩ hK;have HI := hi2 hI (aI hF hFT);have HK := hid hK;clear hI hF hFT hK hnx hb1 hb2;gi_wp2
  refine HK.out _ _ ((KeepsOthers.refl _).from _) ⟨rfl, rfl⟩ HI.out rfl
 case body =>
  rintro l pre x a' W hl ⟨r, hr⟩ ⟨⟨v, hv, hown, hgv⟩, hF, hFT⟩ rfl hlen;have e0 := hv.cell;have e1 := hv.frozen;have l1 := hv.lt;have hsW := hF.size;have hsW0 := hFT.size;obtain ⟨A, E, hcv⟩ : ∃ A E, chV b off n per x = .slice A E E := ⟨_, _, rfl⟩
  have HV := hid hv;have HO := hi2 hown (own_up hown hgv);clear hv hown hnx hb1 hb2 hgv;rw [hcv];have HCV := hid hcv;clear hcv;gi_wp2_with (gi_at_builtin; refine wpListIn_append_own _ rfl (.tmp 11) (.tmp 13) 291 rfl W0.heap.size 33 i0 _ 1 24 Tryz.underlying291 hi0 hz0 hz1 hz2 rfl (by decide) _ _ _ rfl (HO.out.2.alloc _) ⟨W.heap.size, 0, none⟩ 1 1 [.slice A E E] rfl rfl (cell_one_new _ _ _) (by simp [Value.oneCell']) ?c3 ?c4 ?c5 ?_)
  case c3 => simp [maxLen]; omega
  case c4 => omega
  case c5 => simp; omega
  intro v1 w2 hown2 hgrow hnil;obtain ⟨g, cap, rfl⟩ := ownsRow_succ hown2;have hgz : W0.heap.size <= g := by rw [hsz]; exact (oBT hown2 (g := g) rfl).1
  have hkeep : ∀ bb, w.heap.size < bb -> bb < W0.heap.size -> (w2.setCell ⟨w.heap.size, 0, none⟩ (.slice (some ⟨g, 0, none⟩) (pre.length + 1) cap)).heap[bb]? = W.heap[bb]? := fun bb h1 h2 => by
   rw [heap_setCell_ne _ _ _ _ (by simp; omega), hgrow.block bb (by simp; omega) (fun e => by have := (oBT HO.out.2 e).1; omega)];exact heap_alloc_lt _ _ _ (by omega)
  obtain ⟨d1, d2, d3, d4, d5⟩ := HV.out.appended (by decide) HO.out.1 hsW (nR _) (own_down hown2 (by omega)) hgrow;have f0 := d1.cell;have f1 := d1.frozen;have D2 := hid d2;have D3 := hid d3;clear hown2 hgrow hnil d1 d2 d3;gi_wp2
  refine ⟨d4.from _, ⟨hkeep _ (by omega) (by omega), hkeep _ (by omega) (by omega)⟩, ⟨_, D2.out, by simpa [HCV.out] using D3.out, fun g' e => by cases e; exact hgz⟩, ?_, ⟨d5.os.trans hFT.os, d5.tape.trans hFT.tape, d5.output.trans hFT.output, nT hFT.size d5.size, fun _ _ hn => absurd trivial hn⟩⟩;exact ⟨d5.os.trans hF.os, d5.tape.trans hF.tape, d5.output.trans hF.output, nT hF.size d5.size, fun b hb hn => (d5.block b hb).trans (hF.block b hb hn)⟩
 case done =>
  rintro D ys W hD rfl ⟨⟨v, hv, hown, -⟩, hF, -⟩ hK;have e0 := hv.cell;have HO := hid hown;clear hown hv hnx hb1 hb2;gi_wp2
  have hI := ownsRow_putObj HO.out (.deferred none) hK rfl;refine marks_ret1 (t := 4) rfl hK ⟨v, rfl, by simpa using hI, hF.putObj (fun hh => by omega) _⟩
 case stop => exact fun _ _ _ _ _ _ h => h.elim
end
section
open Go.RowKit Go.Sg Go.Sg.Bits Go.Sg.Clk CP SF
def PutIs (y : Cs) (n m : Nat) : Prop := y.fresh n = true /\ m = n \/ y.fresh n = false /\ TakeIs y.taken y.pages y.hand m
def AllFresh (y : Cs) (own : List Nat) : Prop := (∀ k ∈ own, y.fresh (k : Nat) = true) /\ ∀ k, y.dying k = false
structure Tops (y : Cs) (rp : Int) (tops : List Rf) (rest : List Nat) (M : Nat) (K : Prop) (c0 : Cont) (C : Nat -> Option (List Int)) : Prop where
 live : Live y (pgs rp tops ++ rest) M
 right : ∀ r ∈ tops, rightR r
 rr : 0 <= rp
 cont : ∀ (j : Nat) r bs, tops[j]? = some r -> C j = some bs -> y.cont r.1 = some (r.2.toNat, bs)
 calm : K -> AllFresh y (pgs rp tops ++ rest)
 keep : ∀ k ∈ rest, y.cont k = c0 k
variable {y : Cs} {M N g i j k m n : Nat} {own rest : List Nat} {rp : Int} {K : Prop} {C : Nat -> Option (List Int)} {X : Nat -> Prop} {W w w' : World} {c : Array Value}
theorem PutIs.new (h : PutIs y n m) (hL : Live y own M) : m = n \/ m ∉ own := by
 rcases h with ⟨_, h⟩ | ⟨_, h⟩
 ·exact .inl h
 ·exact .inr fun hm => by have := (hL.tk m hm).1; rw [h.2.1] at this; cases this
theorem PutIs.lt (h : PutIs y n m) (hn : n < y.pages) : m < y.pages := by
 rcases h with ⟨_, rfl⟩ | ⟨_, h⟩
 ·exact hn
 ·exact h.1
theorem PutIs.cont (h : PutIs y n m) (bs : List Int) : (y.put n m bs).cont = updC y.cont m (some (y.gen, bs)) :=
 put_cont (h.imp id fun h => h.1)
theorem put_other (hL : Live y own M) (h : PutIs y n m) (hk : k ∈ own) (hkn : k ≠ n) (bs : List Int) : (y.put n m bs).cont k = y.cont k := by
 rw [h.cont, updC_ne];intro e;have e' : k = m := by omega
 rcases h.new hL with h | h
 ·omega
 ·exact h (e' ▸ hk)
variable {c0 : Cont} {r : Rf}
theorem Tops.mem {tops : List Rf} (h : Tops y rp tops rest M K c0 C) (hi : tops[i]? = some r) : (pgs rp tops ++ rest)[i + 1]? = some r.1.toNat := by
 have hl := (gI.1 hi).1;rw [List.getElem?_append_left (by simp [pgs]; omega)];simp [pgs, hi]
theorem Tops.page {tops : List Rf} (h : Tops y rp tops rest M K c0 C) (hi : tops[i]? = some r) : r.1 = (r.1.toNat : Int) /\ r.1.toNat < y.pages /\ y.taken r.1.toNat = true /\ y.dead r.1.toNat = false := by
 have hm := gM (h.mem hi);have hr := h.right r (gM hi);exact ⟨by have := hr.1; omega, h.live.lt _ hm, (h.live.tk _ hm).1, (h.live.tk _ hm).2.2⟩
theorem Tops.rpage {tops : List Rf} (h : Tops y rp tops rest M K c0 C) : rp = (rp.toNat : Int) /\ rp.toNat < y.pages /\ y.taken rp.toNat = true /\ y.dead rp.toNat = false := by
 have hm : rp.toNat ∈ pgs rp tops ++ rest := by simp [pgs]
 exact ⟨by have := h.rr; omega, h.live.lt _ hm, (h.live.tk _ hm).1, (h.live.tk _ hm).2.2⟩
theorem right_of (hm : m <= 2147483647) (hg : g < 9223372036854775808) : rightR ((m : Int), (g : Int)) := ⟨by simp, by simp only; omega, by simp, by simp only; omega⟩
theorem allfresh_put (h : AllFresh y own) (hn : n ∈ own) (hm : PutIs y n m) (bs : List Int) : AllFresh (y.put n m bs) (own.map (sw n m)) := by
 have hf := h.1 n hn;rcases hm with ⟨_, rfl⟩ | ⟨h0, _⟩
 ·have e : own.map (sw m m) = own := by
   have : sw m m = id := by funext k; simp only [sw, id]; split <;> omega
   rw [this, List.map_id]
  rw [e, Cs.put, if_pos hf];exact h
 ·rw [hf] at h0; cases h0
theorem allfresh_new (h : AllFresh y own) (bs : List Int) : AllFresh (y.new m bs) (own ++ [m]) := by
 refine ⟨fun k hk => ?_, h.2⟩;show updI y.fresh m true k = true;rw [updI_of];split
 ·rfl
 ·rename_i e;rcases List.mem_append.1 hk with hk | hk
  ·exact h.1 k hk
  ·simp at hk; exact absurd hk e
theorem put_tops {tops : List Rf} (h : Tops y rp tops rest M K c0 C) (ap : Apart y.taken y.fresh y.dying y.dead) (hi : tops[i]? = some r) (hm : PutIs y r.1.toNat m) (hpg : y.pages <= 2147483647) (hg : y.gen < 9223372036854775808) (bs : List Int) :
  Tops (y.put r.1.toNat m bs) rp (tops.set i ((m : Int), (y.gen : Int))) rest M K c0 (fun j => if j = i then some bs else C j) := by
 have hmi := h.mem hi;have hil := (gI.1 hi).1;have hL := h.live.put (bs := bs) ap (gM hmi) hm;have e : (pgs rp tops ++ rest).map (sw r.1.toNat m) = pgs rp (tops.set i ((m : Int), (y.gen : Int))) ++ rest := by
  rw [map_sw_set h.live.nd hmi, List.set_append_left _ _ (by simp [pgs]; omega)];simp [pgs, List.map_set]
 rw [e] at hL;refine ⟨hL, fun x hx => ?_, h.rr, fun j x bs' hj hC => ?_, fun hK => ?_, fun k hk => ?_⟩
 ·rcases List.mem_or_eq_of_mem_set hx with hx | rfl
  ·exact h.right x hx
  ·exact right_of (by have := hm.lt (h.page hi).2.1; omega) hg
 ·rw [List.getElem?_set] at hj;by_cases e : i = j
  ·subst e;rw [if_pos rfl, if_pos hil] at hj;cases hj;rw [if_pos rfl] at hC;cases hC;rw [hm.cont];simp [updC]
  ·rw [if_neg e] at hj;rw [if_neg (fun e' => e e'.symm)] at hC;have hx := h.mem hj;have hne : x.1.toNat ≠ r.1.toNat := fun he => by
    rw [he] at hx;have := (List.getElem?_inj (gI.1 hx).1 h.live.nd).1 (hx.trans hmi.symm);omega
   have := put_other h.live hm (gM hx) hne bs;rw [<- (h.page hj).1] at this;rw [this];exact h.cont j x bs' hj hC
 ·have := allfresh_put (h.calm hK) (gM hmi) hm bs;rw [e] at this; exact this
 ·have hkr : k ∈ pgs rp tops ++ rest := List.mem_append_right _ hk;rw [put_other h.live hm hkr (fun he => ?_) bs]
  ·exact h.keep k hk
  ·have hd := (List.nodup_append.1 h.live.nd).2.2 r.1.toNat (by simp only [pgs, List.mem_cons, List.mem_map]; exact .inr ⟨r, gM hi, rfl⟩) k hk;exact hd he.symm
theorem new_tops {tops : List Rf} (h : Tops y rp tops rest M K c0 C) (ap : Apart y.taken y.fresh y.dying y.dead) (hm : TakeIs y.taken y.pages y.hand m) (hpg : y.pages <= 2147483647) (hg : y.gen < 9223372036854775808) (bs : List Int) :
    Tops (y.new m bs) rp (tops ++ [((m : Int), (y.gen : Int))]) rest M K c0 (fun j => if j = tops.length then some bs else if j < tops.length then C j else none) := by
  have hL := h.live.new (bs := bs) ap hm;have hno : m ∉ pgs rp tops ++ rest := fun hm' => by have := (h.live.tk m hm').1; rw [hm.2.1] at this; cases this
  have e : (pgs rp tops ++ rest ++ [m]).Perm (pgs rp (tops ++ [((m : Int), (y.gen : Int))]) ++ rest) := by
    have e1 : pgs rp (tops ++ [((m : Int), (y.gen : Int))]) = pgs rp tops ++ [m] := (by simp [pgs]);rw [e1, List.append_assoc, List.append_assoc];exact List.Perm.append_left _ List.perm_append_comm
  refine ⟨hL.perm e, fun x hx => ?_, h.rr, fun j x bs' hj hC => ?_, fun hK => ?_, fun k hk => ?_⟩
  · rcases List.mem_append.1 hx with hx | hx
    · exact h.right x hx
    · simp at hx; subst hx; exact right_of (by have := hm.1; omega) hg
  · by_cases e : j = tops.length
    · subst e;rw [if_pos rfl] at hC;cases hC;rw [List.getElem?_append_right (nR _)] at hj;simp at hj;subst hj;simp [Cs.new, updC]
    · rw [if_neg e] at hC;split at hC
      · rename_i hjl;rw [List.getElem?_append_left hjl] at hj;have hx := gM (h.mem hj);have hp := (h.page hj).1;have hne : x.1 ≠ (m : Int) := fun he => hno (by rw [he] at hx; simpa using hx)
        show updC y.cont m (some (y.gen, bs)) x.1 = _;rw [updC_ne hne];exact h.cont j x bs' hj hC
      · cases hC
  · have h1 := allfresh_new (m := m) (h.calm hK) bs;exact ⟨fun k hk => h1.1 k (e.mem_iff.2 hk), h1.2⟩
  · have hkr : k ∈ pgs rp tops ++ rest := List.mem_append_right _ hk;show updC y.cont m (some (y.gen, bs)) k = _
    rw [updC_ne (fun he => hno (by have : k = m := by omega
                                   rw [<- this]; exact hkr))]
    exact h.keep k hk
theorem root_put {tops : List Rf} (h : Tops y rp tops rest M K c0 C) (ap : Apart y.taken y.fresh y.dying y.dead) (hm : PutIs y rp.toNat m) (bs : List Int) :
  Tops (y.put rp.toNat m bs) m tops rest M K c0 C /\ (y.put rp.toNat m bs).cont m = some (y.gen, bs) := by
 have hmi : (pgs rp tops ++ rest)[0]? = some rp.toNat := by simp [pgs]
 have hL := h.live.put (bs := bs) ap (gM hmi) hm;rw [map_sw_set h.live.nd hmi] at hL;have he : (pgs rp tops ++ rest).set 0 m = pgs m tops ++ rest := by simp [pgs]
 refine ⟨⟨by rw [<- he]; exact hL, h.right, by simp, fun j x bs' hj hC => ?_, fun hK => ?_, fun k hk => ?_⟩, by rw [hm.cont]; simp [updC]⟩;rotate_left
 ·have := allfresh_put (h.calm hK) (gM hmi) hm bs;rw [map_sw_set h.live.nd hmi, he] at this; exact this
 ·have hkr : k ∈ pgs rp tops ++ rest := List.mem_append_right _ hk;rw [put_other h.live hm hkr (fun he => ?_) bs]
  ·exact h.keep k hk
  ·have hd := (List.nodup_append.1 h.live.nd).2.2 rp.toNat (by simp [pgs]) k hk;exact hd he.symm
 have hx := h.mem hj;have hne : x.1.toNat ≠ rp.toNat := fun he => by
  rw [he] at hx;have := (List.getElem?_inj (gI.1 hx).1 h.live.nd).1 (hx.trans hmi.symm);omega
 have := put_other h.live hm (gM hx) hne bs;rw [<- (h.page hj).1] at this;rw [this];exact h.cont j x bs' hj hC
theorem DirC.tops {y : Cs} {x : DirD} {tops slots : List Rf} {rest : List Nat} {M : Nat} {K : Prop} {c0 : Cont} (h : DirC y x tops slots) (hL : Live y (pgs x.rp tops ++ rest) M) (hK : K -> AllFresh y (pgs x.rp tops ++ rest)) (hc : ∀ k ∈ rest, y.cont k = c0 k) : Tops y x.rp tops rest M K c0 (fun j => some (loadM (chunk slots x.per j))) :=
 ⟨hL, h.leaf.tr, h.rr.1, fun j r bs hj hC => by cases hC; exact h.leaf.at_ j r hj, hK, hc⟩
abbrev FrX (B : Blk) (X : Nat -> Prop) (w w' : World) : Prop := Fr (fun b => (B.base <= b /\ MutB B w b) \/ X b) w w'
theorem FrX.refl (B : Blk) (X : Nat -> Prop) (w : World) : FrX B X w w := Fr.refl _ _
variable {B : Blk}
theorem FrX.of (h : FrB B w w') : FrX B X w w' := Fr.mono h fun _ _ h => .inl h
theorem FrX.none (h : Fq w w') : FrX B X w w' := Fr.mono h fun _ _ h => h.elim
theorem FrX.trans {w1 w2 : World} (h : FrX B X w w1) (k : FrX B X w1 w2) : FrX B X w w2 := by
 refine Fr.trans h k fun b hb hs => ?_
 rcases Classical.em ((B.base <= b /\ MutB B w b) \/ X b) with hm | hm
 ·exact hm
 ·rcases hs with hs | hs
  ·have e := Fr.block h b hb hm;refine .inl ⟨hs.1, fun c t f hc => hs.2.1 c t f (e.trans hc), ?_⟩;rw [<- e]; exact hs.2.2
  ·exact .inr hs
theorem DirAt.frX {bd s : Nat} {x : DirD} (h : DirAt w bd s x) (F : FrX B X w w') (hX : ¬ X bd) : DirAt w' bd s x :=
 Fr.heap F h fun hs => by
  rcases hs with hs | hs
  ·exact absurd (hs.2.1 _ _ _ h) (by decide)
  ·exact hX hs
variable {l : List Rf}
theorem RowT.frX {a : Option Addr} (h : RowT w a l) (F : FrX B X w w') (hX : ∀ b off, a = some ⟨b, off, none⟩ -> l ≠ [] -> ¬ X b) : RowT w' a l :=
 ⟨h.row.fr F fun b off e _ hne hs => by
  obtain ⟨c, hc⟩ := h.ty b off e hne;rcases hs with hs | hs
  ·exact absurd (hs.2.1 c 35 _ hc) (by decide)
  ·exact hX b off e hne hs, fun b off e hne => by
  obtain ⟨c, hc⟩ := h.ty b off e hne;exact ⟨c, Fr.heap F hc fun hs => by
   rcases hs with hs | hs
   ·exact absurd (hs.2.1 c 35 _ hc) (by decide)
   ·exact hX b off e hne hs⟩⟩
theorem flat_set (l : List Rf) : ∀ (k : Nat) (p s : Int), k < l.length -> (l.set k (p, s)).flatMap refC = ((l.flatMap refC).set (k * 2) (.int .i64 p)).set (k * 2 + 1) (.int .i64 s) := by
 induction l with
 | nil => intro k p s h; simp at h
 | cons y l ih =>
  intro k p s h;cases k with
  | zero => simp [refC]
  | succ k =>
   have e : (k + 1) * 2 = k * 2 + 1 + 1 := by omega
   have h' : k < l.length := by simpa using h
   rw [e];simp only [sS, List.flatMap_cons, refC, List.cons_append, List.nil_append];rw [ih k p s h']
theorem own_set {base c : Nat} (h : OwnR w base (.slice (some ⟨g, 0, none⟩) l.length c) l) (hk : k < l.length) (p s : Int) :
  ((w.setCell ⟨g, k * 2, none⟩ (.int .i64 p)).setCell ⟨g, k * 2 + 1, none⟩ (.int .i64 s)).ownsRow base 35 2 (.slice (some ⟨g, 0, none⟩) (l.set k (p, s)).length c) (l.set k (p, s)).length ((l.set k (p, s)).flatMap refC) := by
 obtain ⟨hl, ⟨h0, h1⟩ | ⟨g', cap, cur, hv, hb, hg, hc, hm, hs, ht⟩⟩ := h
 ·cases h0
 ·cases hv;refine ⟨by rw [refsC_len], .inr ⟨g, c, (cur.setIfInBounds (k * 2) (.int .i64 p)).setIfInBounds (k * 2 + 1) (.int .i64 s), by rw [List.length_set], hb, ?_, by rw [List.length_set]; exact hc, hm, by simpa using hs, ?_⟩⟩
  ·rw [hsc _ _ _ _ (hsc _ _ _ _ hg)]
  ·rw [flat_set l k p s hk, List.length_set, <- ht];simp only [Array.toList_setIfInBounds, List.take_set]
theorem set2_f (u v : Value) : Fr (fun b => b = g) W ((W.setCell ⟨g, i, none⟩ u).setCell ⟨g, j, none⟩ v) :=
 Fr.setCell (S := fun b => b = g) (Fr.setCell (S := fun b => b = g) (Fr.refl _ _) (fun _ => rfl) _) (fun _ => rfl) _
theorem set2_frX (h : FrX B X w W) (hg : w.heap.size <= g \/ X g) (u v : Value) : FrX B X w ((W.setCell ⟨g, i, none⟩ u).setCell ⟨g, j, none⟩ v) := by
 have hs : g < w.heap.size -> (B.base <= g /\ MutB B w g) \/ X g := fun hl => by
  rcases hg with h | h
  ·omega
  ·exact .inr h
 exact Fr.setCell (Fr.setCell h hs _) hs _
variable {P : Prot}
theorem set2_st {a : Bool} (h : StoreC W B y P a N) (hg : W.heap[g]? = some (.cells c 35)) (h0 : 0 < g) (u v : Value) : StoreC ((W.setCell ⟨g, i, none⟩ u).setCell ⟨g, j, none⟩ v) B y P a N :=
 h.frL (set2_f u v) hg (by decide) h0
theorem set2_down (h : DownC W B y P N) (hg : W.heap[g]? = some (.cells c 35)) (u v : Value) : DownC ((W.setCell ⟨g, i, none⟩ u).setCell ⟨g, j, none⟩ v) B y P N :=
 h.frL (set2_f u v) hg (by decide)
theorem rowT_chunk {b off : Nat} (h : RowT w (some ⟨b, off, none⟩) l) (per k : Nat) : RowT w (some ⟨b, off + k * per * 2, none⟩) (chunk l per k) :=
 ⟨⟨fun i x hx => by
   have hi : i < per := by
    have h1 := (gI.1 hx).1;rw [chunk_len] at h1; omega
   rw [chunk_get hi] at hx;obtain ⟨b', off', e, hb, h0, h1⟩ := h.row.at_ _ x hx;cases e;have e1 : off + k * per * 2 + i * 2 = off + (k * per + i) * 2 := by rw [Nat.add_mul]; omega
   exact ⟨b, _, rfl, hb, by rw [e1]; exact h0, by rw [e1]; exact h1⟩⟩,
  fun b' off' e hne => by
   cases e;exact h.ty b off rfl (by rintro rfl; simp [chunk] at hne)⟩
end
end Go.Proofs.YtgdhaaokolfdoaaGreatDoor
