/- A pack of texts: XRD, XKP. Conditions: those that each text names. -/
import Derived.Test.YtgdhaaokolfdoaaGreatDoorNAU
set_option maxHeartbeats 16000000
set_option maxRecDepth 100000
set_option linter.all false
namespace Go.Proofs.YtgdhaaokolfdoaaGreatDoor
open Go.RowKit Go.Sg Go.Sg.Bits Go.Sg.Clk CP SF
abbrev slotV (r : Rf) (d p : Int) (v : Value) : Value := .agg #[.int .i64 r.1, .int .i64 r.2, .int .i64 d, .int .i64 p, v]
def SlotU (B : Blk) (bx bd : Nat) (y : Cs) (P : Prot) (a : Bool) (N : Nat) (x : DirD) (tops slots : List Rf) (L : List Bp) (sp : Int) (r : Rf) (d p : Nat) (es : List Bt) (w : World) (e : Ending) (w' : World) : Prop :=
 ∃ (r1 : Rf) (d1 p1 : Int) (va : Option Addr) (n vc : Nat) (err : Int), e = .returned (.tuple #[slotV r1 d1 p1 (.slice va n vc), .int .i64 err]) /\ FrB B w w' /\
  ((err = 0 /\ (r1 = r /\ d1 = d /\ p1 = p /\ n = es.length) /\ OwnE w' w.heap.size (.slice va es.length vc) es /\ IdxM w' B bx bd y P a N x tops slots L sp) \/ (err = 4 /\ a = true /\ DownC w' B y P N))
variable {N bd bx d p : Nat} {es : List Bt} {w : World} {v : Value} {a : Bool} {sp : Int}
theorem right_of_ok (h : BkOk d p es) : es.any (wrongE d p) = false := by
 rw [List.any_eq_false];intro x hx;obtain ⟨⟨g0, g1, g2, g3⟩, hp⟩ := h.2.2 x hx;simp only [wrongE, rightE, hp];simp;omega
theorem right_bk (hE : OwnE w 0 v es) (h : BkOk d p es) (hd : d <= 8) (hp : p < 2 ^ d) : Calls Tryz.prog 190 #[bkV d p v, .int .i64 3] w (ValP (.bool true) w) := by
 have := bright_ok hE h.2.1 d p 3 hd hp (by decide) (by decide) h.1 (fun x hx => (h.2.2 x hx).1.1);rw [right_of_ok h] at this;exact this
def set5 (W : World) (b : Nat) (u0 u1 u2 u3 u4 : Value) : World := ((((W.setCell ⟨b, 0, none⟩ u0).setCell ⟨b, 1, none⟩ u1).setCell ⟨b, 2, none⟩ u2).setCell ⟨b, 3, none⟩ u3).setCell ⟨b, 4, none⟩ u4
theorem set5_fr (W : World) (b : Nat) (u0 u1 u2 u3 u4 : Value) : Fr (fun k => k = b) W (set5 W b u0 u1 u2 u3 u4) :=
 (((((Fr.refl (fun k => k = b) W).setCell (a := ⟨b, _, none⟩) (fun _ => rfl) _).setCell (a := ⟨b, _, none⟩) (fun _ => rfl) _).setCell (a := ⟨b, _, none⟩) (fun _ => rfl) _).setCell (a := ⟨b, _, none⟩) (fun _ => rfl) _).setCell (a := ⟨b, _, none⟩) (fun _ => rfl) _
variable {B : Blk} {y : Cs} {P : Prot} {x : DirD} {slots tops : List Rf} {L : List Bp}
theorem IdxM.setNew {W : World} {b : Nat} {c : Array Value} {t : TypeId} (h : IdxM w B bx bd y P a N x tops slots L sp) (F : Fr (fun k => k = b) w W) (hb : w.heap[b]? = some (.cells c t)) (ht : t ∉ 5 :: 227 :: 209 :: mutT) (h0 : 0 < b) : IdxM W B bx bd y P a N x tops slots L sp :=
 { h with
  st := h.st.frL F hb (fun hm => ht (by simp only [List.mem_cons] at hm ⊢; rcases hm with hm | hm <;> simp [hm])) h0
  idx := F.heap h.idx (fun e => by have h1 := h.idx; unfold IdxAt at h1; rw [e, hb] at h1; cases h1; exact ht (by simp))
  dir := F.heap h.dir (fun e => by have h1 := h.dir; unfold DirAt at h1; rw [e, hb] at h1; cases h1; exact ht (by simp)) }
variable {r : Rf}
theorem xread_ok (h : IdxM w B bx bd y P a N x tops slots L sp) (hq : (r, packM d p es) ∈ L) (hk : BkOk d p es) (hd : d <= 8) (hp : p < 2 ^ d) (hN : N + 1 <= 90000) :
  Calls Tryz.prog 192 #[xptr bx, ref2 r.1 r.2] w (SlotU B bx bd y P a (N + 1) x tops slots L sp r d p es w) := by
 obtain ⟨w1, hw1⟩ : ∃ w1, (w.alloc (.cells #[.int .i64 r.1, .int .i64 r.2] 35)).alloc (.cells #[.int .i64 0, .int .i64 0, .int .i64 0, .int .i64 0, .slice none 0 0] 131) = w1 := ⟨_, rfl⟩
 obtain ⟨b3, b4, F1⟩ := heap_two hw1;have hs1 : w1.heap.size = w.heap.size + 2 := by rw [<- hw1]; simp
 have hrr := h.bk _ hq;have HRD := hid (fun W (F : Fq w1 W) => read_u ((h.st.fr0 F1).fr0 F) r.1 r.2 hrr.1.1 hrr.1.2.2.1 hrr.2 hN);have HB := hid (fun W (F : FrB B w1 W) => aI (cells2 (FrB.heap F b3 (by decide))) (aI (cells5 (idxAt_frB (F1.heap h.idx (fun h => h) : IdxAt w1 bx B.s bd 3 3 sp) F)) (cells5 (FrB.heap F b4 (by decide)))));have HB4 := hid (fun W (F : FrB B w1 W) => FrB.heap F b4 (by decide));have hp20 : p < 1048576 := nLL hp (nT (Nat.pow_le_pow_right (by decide) hd) (by decide));obtain ⟨⟨c0, c1, cz, cl⟩, ⟨i0, i1, i2, i3, i4, iz, il⟩, -⟩ := HB.out _ (FrB.refl _ _);have H1 := hi2 h (aI F1 hs1);have HK := hid hk;have HW := hid hw1;have FG : Fq w1 w1.drew := (Fr.refl _ _).drew;clear h hw1 b3 b4 F1 hs1 hrr hq hk;go_enter Tryz.func192, Tryz.ntmps192;go_upto_region 1 with fail
 rw [HW.out];refine wp_region_noPanic ?_;refine region_plan (fun V => FrB B w1 V) (.rd 0 (.rd 1 (.rd 2 (.rd 3 (.rd 4 (.op 5 (.rd 6 (.rd 7 (.rd 8 (.rd 9 (.rd 10 .done))))))))))) (by kernel_rfl) (by kernel_rfl) (by kernel_rfl) (fun _ _ _ _ _ h => h) (FrB.none FG) ?_;iterate 5
  try simp only [Act.put, sI, sZ, sS]
  refine plan_rd _ ?_ (by simp only [gA, gZ, gS]; rfl) (by rfl) ?_ ?_;rotate_left
  ·intro V hV;obtain ⟨⟨c0, c1, cz, cl⟩, ⟨i0, i1, i2, i3, i4, iz, il⟩, -⟩ := HB.out V hV;go_simp;try with_reducible rfl
 try simp only [Act.put, sI, sZ, sS]
 refine plan_op _ (by simp only [gA, gZ, gS]; rfl) (by rfl) (fun K hK => ?_);go_simp;refine (HRD.out _ FG).mono ?_;rintro _ V2 ⟨la, ll, lc, err, rfl, F2, hr⟩;have FG2 : FrB B w1 V2 := FrB.trans (FrB.none FG) F2;have H2 := hi2 FG2 hr;try go_simp
 refine hK _ _ FG2 ?_;clear hK K F2 hr FG2;iterate 5
  try simp only [Act.put, sI, sZ, sS]
  refine plan_rd _ ?_ (by simp only [gA, gZ, gS]; rfl) (by rfl) ?_ ?_;rotate_left
  ·intro V hV;go_simp;try with_reducible rfl
 try simp only [Act.put, sI, sZ, sS]
 refine plan_done ?_;refine NoPanic.normal ?_;clear FG;rcases H2.out.2 with ⟨rfl, rfl, hb, hS⟩ | ⟨rfl, ha, hDn⟩
 ·have hll := packM_len d p es;rw [hll] at hb ⊢;have HUn := hid (unpack_ok (sl := 3) hb rfl (by have := HK.out.1; omega) (fun z hz => (HK.out.2.2 z hz).1) (by omega) hp20 (fun W v hE => right_bk hE HK.out hd hp));have HS := hi2 hS H2.out.1;clear hb hS hll c0 c1 cz cl i0 i1 i2 i3 i4 iz il;obtain ⟨⟨c0, c1, cz, cl⟩, ⟨i0, i1, i2, i3, i4, iz, il⟩, ⟨o0, o1, o2, o3, o4, oz, ol⟩⟩ := HB.out V2 HS.out.2;go_wp2_with fail
  refine HUn.out.mono ?_;rintro e W3 ⟨va, vc, rfl, hown, F3⟩;obtain ⟨n, hn⟩ : ∃ n, es.length = n := ⟨_, rfl⟩
  have HN := hid hn;rw [hn];have H3 := hi2 hown F3;have hs3 : w.heap.size + 2 <= W3.heap.size := by have := HS.out.2.size; have := F3.size; have := H1.out.2.2; omega
  clear c0 c1 cz cl i0 i1 i2 i3 i4 iz il o0 o1 o2 o3 o4 oz ol;obtain ⟨⟨c0, c1, cz, cl⟩, -, ⟨o0, o1, o2, o3, o4, oz, ol⟩⟩ := HB.out W3 (FrB.trans HS.out.2 (FrB.none F3));clear hown F3 hn;go_wp2_with fail
  refine bodyPost_ret (v := .tuple #[slotV r d p (.slice va n vc), .int .i64 0]) (by simp [results, go_sem, *]) rfl ⟨r, d, p, va, n, vc, 0, rfl, ?_, .inl ⟨rfl, ⟨rfl, rfl, rfl, HN.out.symm⟩, ?_, ?_⟩⟩
  ·exact (FrB.trans (FrB.none H1.out.2.1) (FrB.trans HS.out.2 (FrB.none H3.out.2))).trans' ((set5_fr W3 (w.heap.size + 1) _ _ _ _ _).alloc _) (fun b hb e => by omega)
  ·have hv2 : w.heap.size + 2 <= V2.heap.size := by have := HS.out.2.size; have := H1.out.2.2; omega
   exact oN (own_fr1 (own_mono H3.out.1 (by omega)) (set5_fr W3 (w.heap.size + 1) _ _ _ _ _) (fun g hg e => by
    have := (own_blkT H3.out.1 hg).1;omega)) ((Fr.refl _ _).alloc _)
  ·have h3 := ((H1.out.1.fr0 H1.out.2.1).frB HS.out.2 HS.out.1).fr0 H3.out.2;exact (h3.setNew (set5_fr W3 (w.heap.size + 1) _ _ _ _ _) (HB4.out W3 (FrB.trans HS.out.2 (FrB.none H3.out.2))) (by decide) (by omega)).fr0 ((Fr.refl _ _).alloc _)
 ·have HX := hi2 ha (aI hDn H2.out.1);clear hDn ha;have hs3 : w.heap.size + 2 <= V2.heap.size := by have := H2.out.1.size; have := H1.out.2.2; omega
  clear c0 c1 cz cl i0 i1 i2 i3 i4 iz il;obtain ⟨-, -, ⟨o0, o1, o2, o3, o4, oz, ol⟩⟩ := HB.out V2 H2.out.1;go_wp2_with fail
  refine bodyPost_ret (v := .tuple #[slotV (0, 0) 0 0 (.slice none 0 0), .int .i64 4]) (by simp [results, go_sem, *]) rfl ⟨(0, 0), 0, 0, none, 0, 0, 4, rfl, ?_, .inr ⟨rfl, HX.out.1, ?_⟩⟩
  ·exact (FrB.trans (FrB.none H1.out.2.1) HX.out.2.2).trans' (set5_fr V2 (w.heap.size + 1) _ _ _ _ _) (fun b hb e => by omega)
  ·exact HX.out.2.1.frL (set5_fr V2 (w.heap.size + 1) _ _ _ _ _) (HB4.out V2 HX.out.2.2) (by decide)
def KeepU (B : Blk) (bx bd : Nat) (y : Cs) (P : Prot) (a : Bool) (N : Nat) (depth : Nat) (slots : List Rf) (S : List Nat) (L : List Bp) (j : Nat) (ld : List Int) (sp : Int) (w : World) (e : Ending) (w' : World) : Prop :=
 ∃ err, e = .returned (.int .i64 err) /\ FrX B (fun b => b = bd) w w' /\ ((err = 0 /\ ∃ (m : Nat) (y' : Cs) (x' : DirD) (tops' : List Rf), IdxM w' B bx bd y' P a N x' tops' (setM slots S ((m : Int), (y.gen : Int))) (L.set j (((m : Int), (y.gen : Int)), ld)) sp /\ x'.depth = depth /\ (Like y y' /\ y'.gen = y.gen /\ y'.dead = y.dead)) \/ (err = 4 /\ a = true /\ DownC w' B y P N))
def KMid (B : Blk) (bx bd : Nat) (y : Cs) (P : Prot) (a : Bool) (N : Nat) (x : DirD) (tops slots : List Rf) (L : List Bp) (sp : Int) (j : Nat) (ld : List Int) (p3 s3 err : Int) (V : World) : Prop :=
 (err = 0 /\ ∃ m : Nat, p3 = (m : Int) /\ s3 = (y.gen : Int) /\ ∃ y', IdxM V B bx bd y' P a N x tops slots (L.set j (((m : Int), (y.gen : Int)), ld)) sp /\ (Like y y' /\ y'.gen = y.gen /\ y'.dead = y.dead)) \/ (err = 4 /\ a = true /\ DownC V B y P N)
theorem eql35x (p s q t : Int) (w : World) : (binOp .eql 35 (ref2 p s) (ref2 q t)).run Tryz.prog w = .ok (.bool (decide (p = q) && decide (s = t))) w := by
 have h : Tryz.prog.underlying 35 = _ := Tryz.underlying35;go_simp;by_cases h1 : p = q <;> by_cases h2 : s = t <;> simp [h1, h2]
section
variable {B : Blk} {bx bd : Nat} {y : Cs} {P : Prot} {a : Bool} {N : Nat} {x : DirD} {tops slots : List Rf} {L : List Bp} {sp : Int} {j : Nat} {ld : List Int} {p3 s3 err : Int} {V V' : World}
theorem kmid_of {r : Rf} {ld0 : List Int} (h : IdxM V B bx bd y P a N x tops slots L sp) (hj : L[j]? = some (r, ld0)) (F : FrB B V V')
  (hr : (err = 0 /\ (∃ m : Nat, p3 = m /\ s3 = y.gen /\ (y.fresh r.1.toNat = true /\ m = r.1.toNat \/ y.fresh r.1.toNat = false /\ TakeIs y.taken y.pages y.hand m) /\ StoreC V' B (y.put r.1.toNat m ld) P a (N + 1))) \/ (err = 4 /\ a = true /\ DownC V' B y P (N + 1))) : KMid B bx bd y P a (N + 1) x tops slots L sp j ld p3 s3 err V' := by
 rcases hr with ⟨rfl, m, rfl, rfl, hm, hS⟩ | hr
 ·exact .inl ⟨rfl, m, rfl, rfl, _, h.after_put hj hm F hS, put_like y r.1.toNat m ld⟩
 ·exact .inr hr
theorem KMid.fr0 (h : KMid B bx bd y P a N x tops slots L sp j ld p3 s3 err V) (F : Fq V V') : KMid B bx bd y P a N x tops slots L sp j ld p3 s3 err V' := by
 rcases h with ⟨rfl, m, h1, h2, y', h3, h4⟩ | ⟨rfl, ha, hD⟩
 ·exact .inl ⟨rfl, m, h1, h2, y', h3.fr0 F, h4⟩
 ·exact .inr ⟨rfl, ha, hD.fr0 F⟩
theorem KMid.set (h : KMid B bx bd y P a N x tops slots L sp j ld p3 s3 err V) {b : Nat} {c : Array Value} (F : Fr (fun k => k = b) V V') (hb : V.heap[b]? = some (.cells c 35)) (h0 : 0 < b) : KMid B bx bd y P a N x tops slots L sp j ld p3 s3 err V' := by
 rcases h with ⟨rfl, m, h1, h2, y', h3, h4⟩ | ⟨rfl, ha, hD⟩
 ·exact .inl ⟨rfl, m, h1, h2, y', h3.setNew F hb (by decide) h0, h4⟩
 ·exact .inr ⟨rfl, ha, hD.frL F hb (by decide)⟩
end
theorem xkeep_ok (h : IdxM w B bx bd y P a N x tops slots L sp) {j : Nat} {ld0 : List Int} (hj : L[j]? = some (r, ld0)) (hE : OwnE w 0 v es) (hk : BkOk d p es) (hd : d <= x.depth) (hp : p < 2 ^ d)
  (hsl : ∀ i ∈ slN (p * 2 ^ (x.depth - d)) (2 ^ (x.depth - d)), slots[i]? = some r) (hN : N + 20 <= 90000) :
  Calls Tryz.prog 137 #[xptr bx, slotV r d p v] w (KeepU B bx bd y P a (N + 20) x.depth slots (slN (p * 2 ^ (x.depth - d)) (2 ^ (x.depth - d))) L j (packM d p es) sp w) := by
 obtain ⟨va, vc, rfl, -, -, -, -⟩ := oSl hE;obtain ⟨n, hn⟩ : ∃ n, es.length = n := ⟨_, rfl⟩
 have hdep := h.small.2.2;have hp20 : p < 1048576 := nLL hp (nT (Nat.pow_le_pow_right (by decide) (by omega : d <= 20)) (by decide));obtain ⟨w1, hw1⟩ : ∃ w1, w.alloc (.cells #[.int .i64 r.1, .int .i64 r.2, .int .i64 d, .int .i64 p, .slice va n vc] 131) = w1 := ⟨_, rfl⟩
 have b3 : w1.heap[w.heap.size]? = some (.cells #[.int .i64 r.1, .int .i64 r.2, .int .i64 d, .int .i64 p, .slice va n vc] 131) := by rw [<- hw1]; exact han _ _
 have F1 : Fq w w1 := by rw [<- hw1]; exact (Fr.refl _ _).alloc _
 have HB := hid (fun (V : World) (F : FrB B w1 V) => aI (cells5 (FrB.heap F b3 (by decide))) (cells5 (idxAt_frB (F1.heap h.idx (fun h => h) : IdxAt w1 bx B.s bd 3 3 sp) F)));have HPk := hid (fun V (F : Fq w1 V) => pack_ok (oN (oN hE F1) F) (by have := hk.1; omega) (fun z hz => (hk.2.2 z hz).1) d p 3 (by omega) hp20 hk.1 (by decide) (fun W FW => right_bk (oN (oN (oN hE F1) F) FW) hk (by omega) hp));have hpg := gM (h.page hj);have htk := h.live.tk _ hpg;have hrr := (h.bk _ (gM hj)).1;have hrn : r.1 = (r.1.toNat : Int) := by have := hrr.1; simp only at this; omega
 have HWr := hid (fun V la lc (F : Fq w1 V) (hb : ByV V la (10 + 20 * es.length) lc (packM d p es)) => by
  have := write_u ((h.st.fr0 F1).fr0 F) r.1.toNat r.2 (hb.inp B) (packM_byte d p es) (by rw [h.room]; have := hk.1; omega) (h.live.lt _ hpg) htk.1 htk.2.2 h.free (by omega);rw [<- hrn] at this;exact this)
 have HN := hid hn;have H1 := hi2 h (aI F1 (aI hj (aI hsl hrr)));have HDk := hi2 hd hp;have FG : Fq w1 w1.drew := (Fr.refl _ _).drew;have HW := hid hw1;rw [hn] at HPk HWr ⊢;clear h hj hE hk hsl hw1 b3 F1 hpg htk hrr hrn hn hd hp;go_enter Tryz.func137, Tryz.ntmps137;go_upto_region 1 with fail
 rw [HW.out];refine wp_region_noPanic ?_;refine region_plan (fun V => FrB B w1 V) (.rd 0 (.rd 1 (.rd 2 (.rd 3 (.rd 4 (.rd 5 (.op 6 (.rd 7 (.rd 8 (.rd 9 (.rd 10 (.rd 11 .done)))))))))))) (by kernel_rfl) (by kernel_rfl) (by kernel_rfl) (fun _ _ _ _ _ h => h) (FrB.none FG) ?_;iterate 6
  try simp only [Act.put, sI, sZ, sS]
  refine plan_rd _ ?_ (by simp only [gA, gZ, gS]; rfl) (by rfl) ?_ ?_;rotate_left
  ·intro V hV;obtain ⟨⟨o0, o1, o2, o3, o4, oz, ol⟩, ⟨i0, i1, i2, i3, i4, iz, il⟩⟩ := HB.out V hV;go_simp;try with_reducible rfl
 try simp only [Act.put, sI, sZ, sS]
 refine plan_op _ (by simp only [gA, gZ, gS]; rfl) (by rfl) (fun K hK => ?_);go_simp;refine (HPk.out _ FG).mono ?_;rintro _ V2 ⟨la, lc, rfl, hb, F2⟩;have FG2 := FG.trans F2 (fun _ _ h => h);rw [HN.out] at hb ⊢;have H2 := hi2 hb FG2;try go_simp
 refine hK _ _ (FrB.none FG2) ?_;clear hK K hb F2 FG2;iterate 5
  try simp only [Act.put, sI, sZ, sS]
  refine plan_rd _ ?_ (by simp only [gA, gZ, gS]; rfl) (by rfl) ?_ ?_;rotate_left
  ·intro V hV;go_simp;try with_reducible rfl
 try simp only [Act.put, sI, sZ, sS]
 refine plan_done ?_;refine NoPanic.normal ?_;have HB2 := hid (fun (V : World) (F : FrB B V2 V) => HB.out V (FrB.trans (FrB.none H2.out.2) F));have FD : Fq V2 V2.drew := (Fr.refl _ _).drew;clear FG;go_wp2_with fail
 refine wp_region_noPanic ?_;refine region_plan (fun V => FrB B V2 V) (.rd 0 (.rd 1 (.rd 2 (.rd 3 (.rd 4 (.rd 5 (.rd 6 (.two 7 11 (.rd 8 (.rd 9 (.rd 10 (.op 11 (.op 12 (.rd 13 .done)))))) (.op 7 (.rd 8 (.rd 9 (.rd 10 (.op 12 (.rd 13 .done)))))))))))))) (by kernel_rfl) (by kernel_rfl) (by kernel_rfl) (fun _ _ _ _ _ h => h) (FrB.none FD) ?_;iterate 7
  try simp only [Act.put, sI, sZ, sS]
  refine plan_rd _ ?_ (by simp only [gA, gZ, gS]; rfl) (by rfl) ?_ ?_;rotate_left
  ·intro V hV;obtain ⟨⟨o0, o1, o2, o3, o4, oz, ol⟩, ⟨i0, i1, i2, i3, i4, iz, il⟩⟩ := HB2.out V hV;go_simp;try with_reducible rfl
 try simp only [Act.put, sI, sZ, sS]
 refine plan_two ?_ ?_
 ·refine plan_op _ (by simp only [gA, gZ, gS]; rfl) (by rfl) (fun K hK => ?_);go_simp;refine (HWr.out _ la lc (H2.out.2.trans FD (fun _ _ h => h)) (H2.out.1.fr FD (fun _ _ _ h => h))).mono ?_;rintro _ V3 ⟨p3, s3, err, rfl, F3, hr⟩;have FG3 : FrB B V2 V3 := FrB.trans (FrB.none FD) F3;have H3 := hi2 FG3 hr;try go_simp
  refine hK _ _ FG3 ?_;clear hK K F3 hr FG3;iterate 3
   try simp only [Act.put, sI, sZ, sS]
   refine plan_rd _ ?_ (by simp only [gA, gZ, gS]; rfl) (by rfl) ?_ ?_;rotate_left
   ·intro V hV;go_simp;try with_reducible rfl
  try simp only [Act.put, sI, sZ, sS]
  refine plan_op _ (by simp only [gA, gZ, gS]; rfl) (by rfl) (fun K hK => ?_);go_simp;refine hK _ _ (H3.out.1.alloc _) ?_;clear hK K;try simp only [Act.put, sI, sZ, sS]
  refine plan_op _ (by simp only [gA, gZ, gS]; rfl) (by rfl) (fun K hK => ?_);go_simp;obtain ⟨b7, hb7⟩ : ∃ b7, V3.heap.size = b7 := ⟨_, rfl⟩
  obtain ⟨V5, hV5⟩ : ∃ V5, V3.alloc (.cells #[.int .i64 p3, .int .i64 s3] 35) = V5 := ⟨_, rfl⟩
  have F5 : Fq V3 V5 := by rw [<- hV5]; exact (Fr.refl _ _).alloc _
  have g7 : V5.heap[b7]? = some (.cells #[.int .i64 p3, .int .i64 s3] 35) := by rw [<- hV5, <- hb7]; exact han V3 _
  have FG5 := FrB.trans H3.out.1 (FrB.none F5);have H5 := hi2 g7 (aI FG5 ((kmid_of (H1.out.1.fr0 (H1.out.2.1.trans H2.out.2 (fun _ _ h => h))) H1.out.2.2.1 H3.out.1 H3.out.2).fr0 F5));rw [hb7, hV5];refine hK _ _ FG5 ?_;clear hK K hV5 F5 g7 FG5;try simp only [Act.put, sI, sZ, sS]
  refine plan_rd _ ?_ (by simp only [gA, gZ, gS]; rfl) (by rfl) ?_ ?_;rotate_left
  ·intro V hV;go_simp;try with_reducible rfl
  try simp only [Act.put, sI, sZ, sS]
  refine plan_done ?_;refine NoPanic.normal ?_;have HEq := hid (fun W => eql35x p3 s3 r.1 r.2 W);obtain ⟨bq, hbq⟩ : ∃ bq, (decide (p3 = r.1) && decide (s3 = r.2)) = bq := ⟨_, rfl⟩
  rw [hbq] at HEq;have heq := HEq.out;have HBq := hid hbq;obtain ⟨y0, y1, yz, yl⟩ := cells2 H5.out.1;obtain ⟨⟨o0, o1, o2, o3, o4, oz, ol⟩, ⟨i0, i1, i2, i3, i4, iz, il⟩⟩ := HB2.out V5 H5.out.2.1;clear hbq FD;rcases H5.out.2.2 with ⟨rfl, m, rfl, rfl, y', hI, hL⟩ | ⟨rfl, ha, hDn⟩
  ·have HI := hi2 hI hL;clear hI hL;cases bq with
   | true =>
    go_wp2_with fail
    go_ret;have hmr : ((m : Int), (y.gen : Int)) = r := by
     have := HBq.out;simp at this;exact Prod.ext this.1 this.2
    refine ⟨0, rfl, FrX.of (FrB.trans (FrB.none (H1.out.2.1.trans H2.out.2 (fun _ _ h => h))) H5.out.2.1), .inl ⟨rfl, m, y', x, tops, ?_, rfl, HI.out.2⟩⟩;rw [setM_same (by rw [hmr]; exact H1.out.2.2.2.1)];exact HI.out.1.mono (by omega) hN
   | false =>
    have hgl := gen_small H1.out.1.st;have hml := HI.out.1.bk _ (gM (by rw [List.getElem?_set, if_pos rfl, if_pos (gI.1 H1.out.2.2.1).1] : (L.set j (((m : Int), (y.gen : Int)), packM d p es))[j]? = some (((m : Int), (y.gen : Int)), packM d p es)));have HPo := hid (xpoint_ok HI.out.1 (r := ((m : Int), (y.gen : Int))) va n vc HDk.out.1 HDk.out.2 hml.1 (by omega));clear hgl hml;go_wp2_with fail
    refine HPo.out.mono ?_;rintro e V6 ⟨err, rfl, F6, hr6⟩;have H6 := hi2 F6 hr6;clear F6 hr6 y0 y1 yz yl o0 o1 o2 o3 o4 oz ol i0 i1 i2 i3 i4 iz il heq;go_wp2_with fail
    go_ret;refine ⟨err, rfl, FrX.trans (FrX.of (FrB.trans (FrB.none (H1.out.2.1.trans H2.out.2 (fun _ _ h => h))) H5.out.2.1)) H6.out.1, ?_⟩;rcases H6.out.2 with ⟨rfl, y6, x6, t6, hI6, hx6, hL6⟩ | ⟨rfl, ha, hDn⟩
    ·exact .inl ⟨rfl, m, y6, x6, t6, hI6.mono (by omega) hN, hx6, HI.out.2.1.trans hL6.1, hL6.2.1.trans HI.out.2.2.1, hL6.2.2.trans HI.out.2.2.2⟩
    ·exact .inr ⟨rfl, ha, down_like (hDn.mono (by omega)) HI.out.2.1⟩
  ·have HX := hi2 ha hDn;clear ha hDn;go_wp2_with fail
   go_ret;exact ⟨4, rfl, FrX.of (FrB.trans (FrB.none (H1.out.2.1.trans H2.out.2 (fun _ _ h => h))) H5.out.2.1), .inr ⟨rfl, HX.out.1, HX.out.2.mono (by omega)⟩⟩
 ·refine plan_op _ (by simp only [gA, gZ, gS]; rfl) (by rfl) (fun K hK => ?_);go_simp;obtain ⟨b7, hb7⟩ : ∃ b7, V2.heap.size = b7 := ⟨_, rfl⟩
  obtain ⟨V4, hV4⟩ : ∃ V4, (V2.alloc (.cells #[.int .i64 0, .int .i64 0] 35)).drew = V4 := ⟨_, rfl⟩
  have F4 : Fq V2 V4 := by rw [<- hV4]; exact ((Fr.refl _ _).alloc _).drew
  have g7 : V4.heap[b7]? = some (.cells #[.int .i64 0, .int .i64 0] 35) := by rw [<- hV4, <- hb7]; exact han V2 _
  rw [hb7, hV4];refine hK _ _ (FrB.none F4) ?_;clear hK K hV4;try simp only [Act.put, sI, sZ, sS]
  refine plan_op _ (by simp only [gA, gZ, gS]; rfl) (by rfl) (fun K hK => ?_);go_simp;refine (HWr.out _ la lc (H2.out.2.trans F4 (fun _ _ h => h)) (H2.out.1.fr F4 (fun _ _ _ h => h))).mono ?_;rintro _ V3 ⟨p3, s3, err, rfl, F3, hr⟩;have FG3 : FrB B V2 V3 := FrB.trans (FrB.none F4) F3;have g73 := FrB.heap F3 g7 (by decide);have H3 := hi2 FG3 hr;try go_simp
  refine hK _ _ FG3 ?_;clear hK K F3 hr FG3;iterate 3
   try simp only [Act.put, sI, sZ, sS]
   refine plan_rd _ ?_ (by simp only [gA, gZ, gS]; rfl) (by rfl) ?_ ?_;rotate_left
   ·intro V hV;go_simp;try with_reducible rfl
  try simp only [Act.put, sI, sZ, sS]
  refine plan_op _ (by simp only [gA, gZ, gS]; rfl) (by rfl) (fun K hK => ?_);obtain ⟨y0, y1, yz, yl⟩ := cells2 g73;go_simp;obtain ⟨V5, hV5⟩ : ∃ V5, (V3.setCell ⟨b7, 0, none⟩ (.int .i64 p3)).setCell ⟨b7, 1, none⟩ (.int .i64 s3) = V5 := ⟨_, rfl⟩
  have F5 : Fr (fun k => k = b7) V3 V5 := by rw [<- hV5]; exact ((Fr.refl (fun k => k = b7) V3).setCell (a := ⟨b7, _, none⟩) (fun _ => rfl) _).setCell (a := ⟨b7, _, none⟩) (fun _ => rfl) _
  have g7' : V5.heap[b7]? = some (.cells #[.int .i64 p3, .int .i64 s3] 35) := by rw [<- hV5, hsc _ _ _ _ (hsc _ _ _ _ g73)]; rfl
  have FG5 : FrB B V2 V5 := FrB.trans' H3.out.1 F5 (fun b hb e => by omega);have H5 := hi2 g7' (aI FG5 ((kmid_of (H1.out.1.fr0 (H1.out.2.1.trans H2.out.2 (fun _ _ h => h))) H1.out.2.2.1 H3.out.1 H3.out.2).set F5 g73 (by rw [<- hb7]; exact nLL H1.out.1.st.base (nT H1.out.1.st.base_le (nT H1.out.2.1.size H2.out.2.size)))));rw [hV5];refine hK _ _ FG5 ?_;clear hK K hV5 F5 g7' FG5 y0 y1 yz yl g73 g7;try simp only [Act.put, sI, sZ, sS]
  refine plan_rd _ ?_ (by simp only [gA, gZ, gS]; rfl) (by rfl) ?_ ?_;rotate_left
  ·intro V hV;go_simp;try with_reducible rfl
  try simp only [Act.put, sI, sZ, sS]
  refine plan_done ?_;refine NoPanic.normal ?_;have HEq := hid (fun W => eql35x p3 s3 r.1 r.2 W);obtain ⟨bq, hbq⟩ : ∃ bq, (decide (p3 = r.1) && decide (s3 = r.2)) = bq := ⟨_, rfl⟩
  rw [hbq] at HEq;have heq := HEq.out;have HBq := hid hbq;obtain ⟨y0, y1, yz, yl⟩ := cells2 H5.out.1;obtain ⟨⟨o0, o1, o2, o3, o4, oz, ol⟩, ⟨i0, i1, i2, i3, i4, iz, il⟩⟩ := HB2.out V5 H5.out.2.1;clear hbq FD;rcases H5.out.2.2 with ⟨rfl, m, rfl, rfl, y', hI, hL⟩ | ⟨rfl, ha, hDn⟩
  ·have HI := hi2 hI hL;clear hI hL;cases bq with
   | true =>
    go_wp2_with fail
    go_ret;have hmr : ((m : Int), (y.gen : Int)) = r := by
     have := HBq.out;simp at this;exact Prod.ext this.1 this.2
    refine ⟨0, rfl, FrX.of (FrB.trans (FrB.none (H1.out.2.1.trans H2.out.2 (fun _ _ h => h))) H5.out.2.1), .inl ⟨rfl, m, y', x, tops, ?_, rfl, HI.out.2⟩⟩;rw [setM_same (by rw [hmr]; exact H1.out.2.2.2.1)];exact HI.out.1.mono (by omega) hN
   | false =>
    have hgl := gen_small H1.out.1.st;have hml := HI.out.1.bk _ (gM (by rw [List.getElem?_set, if_pos rfl, if_pos (gI.1 H1.out.2.2.1).1] : (L.set j (((m : Int), (y.gen : Int)), packM d p es))[j]? = some (((m : Int), (y.gen : Int)), packM d p es)));have HPo := hid (xpoint_ok HI.out.1 (r := ((m : Int), (y.gen : Int))) va n vc HDk.out.1 HDk.out.2 hml.1 (by omega));clear hgl hml;go_wp2_with fail
    refine HPo.out.mono ?_;rintro e V6 ⟨err, rfl, F6, hr6⟩;have H6 := hi2 F6 hr6;clear F6 hr6 y0 y1 yz yl o0 o1 o2 o3 o4 oz ol i0 i1 i2 i3 i4 iz il heq;go_wp2_with fail
    go_ret;refine ⟨err, rfl, FrX.trans (FrX.of (FrB.trans (FrB.none (H1.out.2.1.trans H2.out.2 (fun _ _ h => h))) H5.out.2.1)) H6.out.1, ?_⟩;rcases H6.out.2 with ⟨rfl, y6, x6, t6, hI6, hx6, hL6⟩ | ⟨rfl, ha, hDn⟩
    ·exact .inl ⟨rfl, m, y6, x6, t6, hI6.mono (by omega) hN, hx6, HI.out.2.1.trans hL6.1, hL6.2.1.trans HI.out.2.2.1, hL6.2.2.trans HI.out.2.2.2⟩
    ·exact .inr ⟨rfl, ha, down_like (hDn.mono (by omega)) HI.out.2.1⟩
  ·have HX := hi2 ha hDn;clear ha hDn;go_wp2_with fail
   go_ret;exact ⟨4, rfl, FrX.of (FrB.trans (FrB.none (H1.out.2.1.trans H2.out.2 (fun _ _ h => h))) H5.out.2.1), .inr ⟨rfl, HX.out.1, HX.out.2.mono (by omega)⟩⟩
def GMid (B : Blk) (bx bd : Nat) (y : Cs) (P : Prot) (a : Bool) (N : Nat) (x : DirD) (tops slots : List Rf) (L : List Bp) (sp : Int) (r : Rf) (p3 s3 err : Int) (V : World) : Prop :=
 (err = 0 /\ (p3, s3) = r /\ IdxM V B bx bd y P a N x tops slots L sp) \/ (err = 4 /\ a = true /\ DownC V B y P N)
section
variable {B : Blk} {bx bd : Nat} {y : Cs} {P : Prot} {a : Bool} {N : Nat} {x : DirD} {tops slots : List Rf} {L : List Bp} {sp : Int} {r : Rf} {p3 s3 err : Int} {V V' : World} {k : Nat}
theorem gmid_of (h : IdxM V B bx bd y P a N x tops slots L sp) (hk : slots[k]? = some r) (F : FrB B V V') (hr : (err = 0 /\ slots[k]? = some (p3, s3) /\ StoreC V' B y P a (N + 2)) \/ (err = 4 /\ a = true /\ DownC V' B y P (N + 2))) : GMid B bx bd y P a (N + 2) x tops slots L sp r p3 s3 err V' := by
 rcases hr with ⟨rfl, h1, hS⟩ | hr
 ·exact .inl ⟨rfl, Option.some.inj (h1.symm.trans hk), h.frB F hS⟩
 ·exact .inr hr
theorem GMid.fr0 (h : GMid B bx bd y P a N x tops slots L sp r p3 s3 err V) (F : Fq V V') : GMid B bx bd y P a N x tops slots L sp r p3 s3 err V' := by
 rcases h with ⟨rfl, h1, h3⟩ | ⟨rfl, ha, hD⟩
 ·exact .inl ⟨rfl, h1, h3.fr0 F⟩
 ·exact .inr ⟨rfl, ha, hD.fr0 F⟩
theorem GMid.set (h : GMid B bx bd y P a N x tops slots L sp r p3 s3 err V) {b : Nat} {c : Array Value} (F : Fr (fun k => k = b) V V') (hb : V.heap[b]? = some (.cells c 35)) (h0 : 0 < b) : GMid B bx bd y P a N x tops slots L sp r p3 s3 err V' := by
 rcases h with ⟨rfl, h1, h3⟩ | ⟨rfl, ha, hD⟩
 ·exact .inl ⟨rfl, h1, h3.setNew F hb (by decide) h0⟩
 ·exact .inr ⟨rfl, ha, hD.frL F hb (by decide)⟩
end
theorem xof_ok (h : IdxM w B bx bd y P a N x tops slots L sp) {hash : Nat} (hh : hash < 18446744073709551616) (hs : slots[preM hash x.depth]? = some r) (hq : (r, packM d p es) ∈ L) (hk : BkOk d p es) (hd : d <= 8) (hp : p < 2 ^ d) (hN : N + 3 <= 90000) :
  Calls Tryz.prog 130 #[xptr bx, .int .u64 hash] w (SlotU B bx bd y P a (N + 3) x tops slots L sp r d p es w) := by
 obtain ⟨w1, hw1⟩ : ∃ w1, w.alloc (.cells #[.int .i64 0, .int .i64 0, .int .i64 0, .int .i64 0, .slice none 0 0] 131) = w1 := ⟨_, rfl⟩
 have b4 : w1.heap[w.heap.size]? = some (.cells #[.int .i64 0, .int .i64 0, .int .i64 0, .int .i64 0, .slice none 0 0] 131) := by rw [<- hw1]; exact han _ _
 have F1 : Fq w w1 := by rw [<- hw1]; exact (Fr.refl _ _).alloc _
 have hs1 : w1.heap.size = w.heap.size + 1 := by rw [<- hw1]; simp
 have hsm := h.small;have HB := hid (fun W (F : FrB B w1 W) => aI (cells5 (idxAt_frB (F1.heap h.idx (fun h => h) : IdxAt w1 bx B.s bd 3 3 sp) F)) (cells5 (FrB.heap F b4 (by decide))));have HB4 := hid (fun W (F : FrB B w1 W) => FrB.heap F b4 (by decide));have HDp := hid (fun V (F : Fq w1 V) => depth_ok (F.heap (F1.heap h.dir (fun h => h)) (fun h => h) : DirAt V bd B.s x));obtain ⟨g, hg⟩ : ∃ g, x.depth = g := ⟨_, rfl⟩
 have HPr := hid (fun V => prefix_ok hash g hh (by omega) V);have hsl : preM hash x.depth < x.slots := by rw [<- h.c.slen]; exact (gI.1 hs).1
 have HGt := hid (fun V (F : Fq w1 V) => get_ok ((h.st.fr0 F1).fr0 F) (F.heap (F1.heap h.dir (fun h => h)) (fun h => h) : DirAt V bd B.s x) h.c (preM hash x.depth) hsl (by omega));have HQ := hi2 hq (aI hk hN);obtain ⟨⟨i0, i1, i2, i3, i4, iz, il⟩, -⟩ := HB.out _ (FrB.refl _ _);rw [hg] at HDp HGt;obtain ⟨kk, hkk⟩ : ∃ kk, preM hash g = kk := ⟨_, rfl⟩
 rw [hkk] at HPr HGt;rw [hg, hkk] at hs;have H1 := hi2 h (aI F1 (aI hs1 hs));have HW := hid hw1;have FG : Fq w1 w1.drew := (Fr.refl _ _).drew;clear h hw1 b4 F1 hs1 hs hq hk hg hsl hkk hsm;go_enter Tryz.func130, Tryz.ntmps130;go_upto_region 1 with fail
 rw [HW.out];refine wp_region_noPanic ?_;refine region_plan (fun V => FrB B w1 V) (.rd 0 (.rd 1 (.rd 2 (.rd 3 (.rd 4 (.rd 5 (.rd 6 (.rd 7 (.rd 8 (.two 9 15 (.two 10 15 (.two 11 15 (.rd 12 (.rd 13 (.rd 14 (.op 15 (.op 16 (.rd 17 .done)))))) (.op 11 (.rd 12 (.rd 13 (.rd 14 (.op 16 (.rd 17 .done))))))) (.op 10 (.op 11 (.rd 12 (.rd 13 (.rd 14 (.op 16 (.rd 17 .done)))))))) (.op 9 (.op 10 (.op 11 (.rd 12 (.rd 13 (.rd 14 (.op 16 (.rd 17 .done)))))))))))))))))) (by kernel_rfl) (by kernel_rfl) (by kernel_rfl) (fun _ _ _ _ _ h => h) (FrB.none FG) ?_;iterate 9
  try simp only [Act.put, sI, sZ, sS]
  refine plan_rd _ ?_ (by simp only [gA, gZ, gS]; rfl) (by rfl) ?_ ?_;rotate_left
  ·intro V hV;obtain ⟨⟨i0, i1, i2, i3, i4, iz, il⟩, -⟩ := HB.out V hV;go_simp;try with_reducible rfl
 try simp only [Act.put, sI, sZ, sS]
 refine plan_two ?_ ?_
 ·refine plan_op _ (by simp only [gA, gZ, gS]; rfl) (by rfl) (fun K hK => ?_);go_simp;refine (HDp.out _ FG).mono ?_;rintro _ _ ⟨rfl, rfl⟩;try go_simp
  refine hK _ _ (FrB.none FG) ?_;clear hK K;try simp only [Act.put, sI, sZ, sS]
  refine plan_two ?_ ?_
  ·refine plan_op _ (by simp only [gA, gZ, gS]; rfl) (by rfl) (fun K hK => ?_);go_simp;refine (HPr.out _).mono ?_;rintro _ _ ⟨rfl, rfl⟩;try go_simp
   refine hK _ _ (FrB.none FG) ?_;clear hK K;try simp only [Act.put, sI, sZ, sS]
   refine plan_two ?_ ?_
   ·refine plan_op _ (by simp only [gA, gZ, gS]; rfl) (by rfl) (fun K hK => ?_);go_simp;refine (HGt.out _ FG).mono ?_;rintro _ V3 ⟨p3, s3, err, rfl, F3, hr⟩;have FG3 : FrB B w1 V3 := FrB.trans (FrB.none FG) F3;have H3 := hi2 FG3 hr;try go_simp
    refine hK _ _ FG3 ?_;clear hK K F3 hr FG3;iterate 3
     try simp only [Act.put, sI, sZ, sS]
     refine plan_rd _ ?_ (by simp only [gA, gZ, gS]; rfl) (by rfl) ?_ ?_;rotate_left
     ·intro V hV;go_simp;try with_reducible rfl
    try simp only [Act.put, sI, sZ, sS]
    refine plan_op _ (by simp only [gA, gZ, gS]; rfl) (by rfl) (fun K hK => ?_);go_simp;refine hK _ _ (H3.out.1.alloc _) ?_;clear hK K;try simp only [Act.put, sI, sZ, sS]
    refine plan_op _ (by simp only [gA, gZ, gS]; rfl) (by rfl) (fun K hK => ?_);go_simp;obtain ⟨b6, hb6⟩ : ∃ b6, V3.heap.size = b6 := ⟨_, rfl⟩
    obtain ⟨V5, hV5⟩ : ∃ V5, V3.alloc (.cells #[.int .i64 p3, .int .i64 s3] 35) = V5 := ⟨_, rfl⟩
    have F5 : Fq V3 V5 := (by rw [<- hV5]; exact (Fr.refl _ _).alloc _);have g5 : V5.heap[b6]? = some (.cells #[.int .i64 p3, .int .i64 s3] 35) := (by rw [<- hV5, <- hb6]; exact han V3 _);have FG5 := FrB.trans H3.out.1 (FrB.none F5);have H5 := hi2 g5 (aI FG5 ((gmid_of (H1.out.1.fr0 H1.out.2.1) H1.out.2.2.2 H3.out.1 H3.out.2).fr0 F5));rw [hb6, hV5];refine hK _ _ FG5 ?_;clear hK K hV5 F5 g5 FG5;try simp only [Act.put, sI, sZ, sS]
    refine plan_rd _ ?_ (by simp only [gA, gZ, gS]; rfl) (by rfl) ?_ ?_;rotate_left
    ·intro V hV;go_simp;try with_reducible rfl
    try simp only [Act.put, sI, sZ, sS]
    refine plan_done ?_;refine NoPanic.normal ?_;clear FG;obtain ⟨y0, y1, yz, yl⟩ := cells2 H5.out.1;obtain ⟨⟨i0, i1, i2, i3, i4, iz, il⟩, ⟨o0, o1, o2, o3, o4, oz, ol⟩⟩ := HB.out V5 H5.out.2.1;rcases H5.out.2.2 with ⟨rfl, he, hI⟩ | ⟨rfl, ha, hDn⟩
    ·obtain ⟨rfl, rfl⟩ : p3 = r.1 /\ s3 = r.2 := by rw [<- he]; exact ⟨rfl, rfl⟩
     have HRe := hid (xread_ok hI HQ.out.1 HQ.out.2.1 (by omega) hp (by omega));clear hI he;go_wp2_with fail
     refine HRe.out.mono ?_;rintro e V6 ⟨r6, d6, p6, va, n6, vc, err, rfl, F6, hr6⟩;have FG6 : FrB B w1 V6 := FrB.trans H5.out.2.1 F6;have H6 := hi2 FG6 (aI F6.size hr6);clear y0 y1 yz yl i0 i1 i2 i3 i4 iz il o0 o1 o2 o3 o4 oz ol F6 hr6;obtain ⟨-, ⟨o0, o1, o2, o3, o4, oz, ol⟩⟩ := HB.out V6 FG6;clear FG6;go_wp2_with fail
     have hs1 := H1.out.2.2.1;have g4 := HB4.out V6 H6.out.1;have hv5 : w1.heap.size <= V5.heap.size := H5.out.2.1.size;refine bodyPost_ret (v := .tuple #[slotV r6 d6 p6 (.slice va n6 vc), .int .i64 err]) (by simp [results, go_sem, *]) rfl ⟨r6, d6, p6, va, n6, vc, err, rfl, ?_, ?_⟩
     ·exact (FrB.trans (FrB.none H1.out.2.1) H6.out.1).trans' (set5_fr V6 w.heap.size _ _ _ _ _) (fun b hb e => by omega)
     ·rcases H6.out.2.2 with ⟨rfl, hh, ho, hI⟩ | ⟨rfl, ha, hDn⟩
      ·refine .inl ⟨rfl, hh, ?_, ?_⟩
       ·exact own_fr1 (own_mono ho (by omega)) (set5_fr V6 w.heap.size _ _ _ _ _) (fun g hg e => by
         have := (own_blkT ho hg).1;omega)
       ·exact (hI.mono (by omega) hN).setNew (set5_fr V6 w.heap.size _ _ _ _ _) g4 (by decide) (nLL H1.out.1.st.base H1.out.1.st.base_le)
      ·exact .inr ⟨rfl, ha, (hDn.mono (by omega)).frL (set5_fr V6 w.heap.size _ _ _ _ _) g4 (by decide)⟩
    ·have HX := hi2 ha hDn;clear ha hDn;go_wp2_with fail
     have hs1 := H1.out.2.2.1;refine bodyPost_ret (v := .tuple #[slotV (0, 0) 0 0 (.slice none 0 0), .int .i64 4]) (by simp [results, go_sem, *]) rfl ⟨(0, 0), 0, 0, none, 0, 0, 4, rfl, ?_, .inr ⟨rfl, HX.out.1, ?_⟩⟩
     ·exact (FrB.trans (FrB.none H1.out.2.1) H5.out.2.1).trans' (set5_fr V5 w.heap.size _ _ _ _ _) (fun b hb e => by omega)
     ·exact (HX.out.2.mono (by omega)).frL (set5_fr V5 w.heap.size _ _ _ _ _) (HB4.out V5 H5.out.2.1) (by decide)
   ·refine plan_op _ (by simp only [gA, gZ, gS]; rfl) (by rfl) (fun K hK => ?_);go_simp;obtain ⟨b6, hb6⟩ : ∃ b6, w1.heap.size = b6 := ⟨_, rfl⟩
    obtain ⟨V4, hV4⟩ : ∃ V4, (w1.alloc (.cells #[.int .i64 0, .int .i64 0] 35)).drew = V4 := ⟨_, rfl⟩
    have F4 : Fq w1 V4 := (by rw [<- hV4]; exact ((Fr.refl _ _).alloc _).drew);have g6 : V4.heap[b6]? = some (.cells #[.int .i64 0, .int .i64 0] 35) := (by rw [<- hV4, <- hb6]; exact han w1 _);rw [hb6, hV4];refine hK _ _ (FrB.none F4) ?_;clear hK K hV4;try simp only [Act.put, sI, sZ, sS]
    refine plan_op _ (by simp only [gA, gZ, gS]; rfl) (by rfl) (fun K hK => ?_);go_simp;refine (HGt.out _ F4).mono ?_;rintro _ V3 ⟨p3, s3, err, rfl, F3, hr⟩;have FG3 : FrB B w1 V3 := FrB.trans (FrB.none F4) F3;have g63 := FrB.heap F3 g6 (by decide);have H3 := hi2 FG3 hr;try go_simp
    refine hK _ _ FG3 ?_;clear hK K F3 hr FG3;iterate 3
     try simp only [Act.put, sI, sZ, sS]
     refine plan_rd _ ?_ (by simp only [gA, gZ, gS]; rfl) (by rfl) ?_ ?_;rotate_left
     ·intro V hV;go_simp;try with_reducible rfl
    try simp only [Act.put, sI, sZ, sS]
    refine plan_op _ (by simp only [gA, gZ, gS]; rfl) (by rfl) (fun K hK => ?_);obtain ⟨y0, y1, yz, yl⟩ := cells2 g63;go_simp;obtain ⟨V5, hV5⟩ : ∃ V5, (V3.setCell ⟨b6, 0, none⟩ (.int .i64 p3)).setCell ⟨b6, 1, none⟩ (.int .i64 s3) = V5 := ⟨_, rfl⟩
    have F5 : Fr (fun k => k = b6) V3 V5 := (by rw [<- hV5]; exact ((Fr.refl (fun k => k = b6) V3).setCell (a := ⟨b6, _, none⟩) (fun _ => rfl) _).setCell (a := ⟨b6, _, none⟩) (fun _ => rfl) _);have g5 : V5.heap[b6]? = some (.cells #[.int .i64 p3, .int .i64 s3] 35) := (by rw [<- hV5, hsc _ _ _ _ (hsc _ _ _ _ g63)]; rfl);have FG5 : FrB B w1 V5 := FrB.trans' H3.out.1 F5 (fun b hb e => by omega);have H5 := hi2 g5 (aI FG5 ((gmid_of (H1.out.1.fr0 H1.out.2.1) H1.out.2.2.2 H3.out.1 H3.out.2).set F5 g63 (by rw [<- hb6]; exact nLL H1.out.1.st.base (nT H1.out.1.st.base_le H1.out.2.1.size))));rw [hV5];refine hK _ _ FG5 ?_;clear hK K hV5 F5 g5 FG5 y0 y1 yz yl g63 g6;try simp only [Act.put, sI, sZ, sS]
    refine plan_rd _ ?_ (by simp only [gA, gZ, gS]; rfl) (by rfl) ?_ ?_;rotate_left
    ·intro V hV;go_simp;try with_reducible rfl
    try simp only [Act.put, sI, sZ, sS]
    refine plan_done ?_;refine NoPanic.normal ?_;clear FG;obtain ⟨y0, y1, yz, yl⟩ := cells2 H5.out.1;obtain ⟨⟨i0, i1, i2, i3, i4, iz, il⟩, ⟨o0, o1, o2, o3, o4, oz, ol⟩⟩ := HB.out V5 H5.out.2.1;rcases H5.out.2.2 with ⟨rfl, he, hI⟩ | ⟨rfl, ha, hDn⟩
    ·obtain ⟨rfl, rfl⟩ : p3 = r.1 /\ s3 = r.2 := by rw [<- he]; exact ⟨rfl, rfl⟩
     have HRe := hid (xread_ok hI HQ.out.1 HQ.out.2.1 (by omega) hp (by omega));clear hI he;go_wp2_with fail
     refine HRe.out.mono ?_;rintro e V6 ⟨r6, d6, p6, va, n6, vc, err, rfl, F6, hr6⟩;have FG6 : FrB B w1 V6 := FrB.trans H5.out.2.1 F6;have H6 := hi2 FG6 (aI F6.size hr6);clear y0 y1 yz yl i0 i1 i2 i3 i4 iz il o0 o1 o2 o3 o4 oz ol F6 hr6;obtain ⟨-, ⟨o0, o1, o2, o3, o4, oz, ol⟩⟩ := HB.out V6 FG6;clear FG6;go_wp2_with fail
     have hs1 := H1.out.2.2.1;have g4 := HB4.out V6 H6.out.1;have hv5 : w1.heap.size <= V5.heap.size := H5.out.2.1.size;refine bodyPost_ret (v := .tuple #[slotV r6 d6 p6 (.slice va n6 vc), .int .i64 err]) (by simp [results, go_sem, *]) rfl ⟨r6, d6, p6, va, n6, vc, err, rfl, ?_, ?_⟩
     ·exact (FrB.trans (FrB.none H1.out.2.1) H6.out.1).trans' (set5_fr V6 w.heap.size _ _ _ _ _) (fun b hb e => by omega)
     ·rcases H6.out.2.2 with ⟨rfl, hh, ho, hI⟩ | ⟨rfl, ha, hDn⟩
      ·refine .inl ⟨rfl, hh, ?_, ?_⟩
       ·exact own_fr1 (own_mono ho (by omega)) (set5_fr V6 w.heap.size _ _ _ _ _) (fun g hg e => by
         have := (own_blkT ho hg).1;omega)
       ·exact (hI.mono (by omega) hN).setNew (set5_fr V6 w.heap.size _ _ _ _ _) g4 (by decide) (nLL H1.out.1.st.base H1.out.1.st.base_le)
      ·exact .inr ⟨rfl, ha, (hDn.mono (by omega)).frL (set5_fr V6 w.heap.size _ _ _ _ _) g4 (by decide)⟩
    ·have HX := hi2 ha hDn;clear ha hDn;go_wp2_with fail
     have hs1 := H1.out.2.2.1;refine bodyPost_ret (v := .tuple #[slotV (0, 0) 0 0 (.slice none 0 0), .int .i64 4]) (by simp [results, go_sem, *]) rfl ⟨(0, 0), 0, 0, none, 0, 0, 4, rfl, ?_, .inr ⟨rfl, HX.out.1, ?_⟩⟩
     ·exact (FrB.trans (FrB.none H1.out.2.1) H5.out.2.1).trans' (set5_fr V5 w.heap.size _ _ _ _ _) (fun b hb e => by omega)
     ·exact (HX.out.2.mono (by omega)).frL (set5_fr V5 w.heap.size _ _ _ _ _) (HB4.out V5 H5.out.2.1) (by decide)
  ·refine plan_op _ (by simp only [gA, gZ, gS]; rfl) (by rfl) (fun K hK => ?_);go_simp;obtain ⟨b6, hb6⟩ : ∃ b6, w1.heap.size = b6 := ⟨_, rfl⟩
   obtain ⟨V4, hV4⟩ : ∃ V4, (w1.alloc (.cells #[.int .i64 0, .int .i64 0] 35)).drew = V4 := ⟨_, rfl⟩
   have F4 : Fq w1 V4 := by rw [<- hV4]; exact ((Fr.refl _ _).alloc _).drew
   have g6 : V4.heap[b6]? = some (.cells #[.int .i64 0, .int .i64 0] 35) := by rw [<- hV4, <- hb6]; exact han w1 _
   rw [hb6, hV4];refine hK _ _ (FrB.none F4) ?_;clear hK K hV4;try simp only [Act.put, sI, sZ, sS]
   refine plan_op _ (by simp only [gA, gZ, gS]; rfl) (by rfl) (fun K hK => ?_);go_simp;refine (HPr.out _).mono ?_;rintro _ _ ⟨rfl, rfl⟩;try go_simp
   refine hK _ _ (FrB.none F4) ?_;clear hK K;try simp only [Act.put, sI, sZ, sS]
   refine plan_op _ (by simp only [gA, gZ, gS]; rfl) (by rfl) (fun K hK => ?_);go_simp;refine (HGt.out _ F4).mono ?_;rintro _ V3 ⟨p3, s3, err, rfl, F3, hr⟩;have FG3 : FrB B w1 V3 := FrB.trans (FrB.none F4) F3;have g63 := FrB.heap F3 g6 (by decide);have H3 := hi2 FG3 hr;try go_simp
   refine hK _ _ FG3 ?_;clear hK K F3 hr FG3;iterate 3
    try simp only [Act.put, sI, sZ, sS]
    refine plan_rd _ ?_ (by simp only [gA, gZ, gS]; rfl) (by rfl) ?_ ?_;rotate_left
    ·intro V hV;go_simp;try with_reducible rfl
   try simp only [Act.put, sI, sZ, sS]
   refine plan_op _ (by simp only [gA, gZ, gS]; rfl) (by rfl) (fun K hK => ?_);obtain ⟨y0, y1, yz, yl⟩ := cells2 g63;go_simp;obtain ⟨V5, hV5⟩ : ∃ V5, (V3.setCell ⟨b6, 0, none⟩ (.int .i64 p3)).setCell ⟨b6, 1, none⟩ (.int .i64 s3) = V5 := ⟨_, rfl⟩
   have F5 : Fr (fun k => k = b6) V3 V5 := by rw [<- hV5]; exact ((Fr.refl (fun k => k = b6) V3).setCell (a := ⟨b6, _, none⟩) (fun _ => rfl) _).setCell (a := ⟨b6, _, none⟩) (fun _ => rfl) _
   have g5 : V5.heap[b6]? = some (.cells #[.int .i64 p3, .int .i64 s3] 35) := by rw [<- hV5, hsc _ _ _ _ (hsc _ _ _ _ g63)]; rfl
   have FG5 : FrB B w1 V5 := FrB.trans' H3.out.1 F5 (fun b hb e => by omega);have H5 := hi2 g5 (aI FG5 ((gmid_of (H1.out.1.fr0 H1.out.2.1) H1.out.2.2.2 H3.out.1 H3.out.2).set F5 g63 (by rw [<- hb6]; exact nLL H1.out.1.st.base (nT H1.out.1.st.base_le H1.out.2.1.size))));rw [hV5];refine hK _ _ FG5 ?_;clear hK K hV5 F5 g5 FG5 y0 y1 yz yl g63 g6;try simp only [Act.put, sI, sZ, sS]
   refine plan_rd _ ?_ (by simp only [gA, gZ, gS]; rfl) (by rfl) ?_ ?_;rotate_left
   ·intro V hV;go_simp;try with_reducible rfl
   try simp only [Act.put, sI, sZ, sS]
   refine plan_done ?_;refine NoPanic.normal ?_;clear FG;obtain ⟨y0, y1, yz, yl⟩ := cells2 H5.out.1;obtain ⟨⟨i0, i1, i2, i3, i4, iz, il⟩, ⟨o0, o1, o2, o3, o4, oz, ol⟩⟩ := HB.out V5 H5.out.2.1;rcases H5.out.2.2 with ⟨rfl, he, hI⟩ | ⟨rfl, ha, hDn⟩
   ·obtain ⟨rfl, rfl⟩ : p3 = r.1 /\ s3 = r.2 := by rw [<- he]; exact ⟨rfl, rfl⟩
    have HRe := hid (xread_ok hI HQ.out.1 HQ.out.2.1 (by omega) hp (by omega));clear hI he;go_wp2_with fail
    refine HRe.out.mono ?_;rintro e V6 ⟨r6, d6, p6, va, n6, vc, err, rfl, F6, hr6⟩;have FG6 : FrB B w1 V6 := FrB.trans H5.out.2.1 F6;have H6 := hi2 FG6 (aI F6.size hr6);clear y0 y1 yz yl i0 i1 i2 i3 i4 iz il o0 o1 o2 o3 o4 oz ol F6 hr6;obtain ⟨-, ⟨o0, o1, o2, o3, o4, oz, ol⟩⟩ := HB.out V6 FG6;clear FG6;go_wp2_with fail
    have hs1 := H1.out.2.2.1;have g4 := HB4.out V6 H6.out.1;have hv5 : w1.heap.size <= V5.heap.size := H5.out.2.1.size;refine bodyPost_ret (v := .tuple #[slotV r6 d6 p6 (.slice va n6 vc), .int .i64 err]) (by simp [results, go_sem, *]) rfl ⟨r6, d6, p6, va, n6, vc, err, rfl, ?_, ?_⟩
    ·exact (FrB.trans (FrB.none H1.out.2.1) H6.out.1).trans' (set5_fr V6 w.heap.size _ _ _ _ _) (fun b hb e => by omega)
    ·rcases H6.out.2.2 with ⟨rfl, hh, ho, hI⟩ | ⟨rfl, ha, hDn⟩
     ·refine .inl ⟨rfl, hh, ?_, ?_⟩
      ·exact own_fr1 (own_mono ho (by omega)) (set5_fr V6 w.heap.size _ _ _ _ _) (fun g hg e => by
        have := (own_blkT ho hg).1;omega)
      ·exact (hI.mono (by omega) hN).setNew (set5_fr V6 w.heap.size _ _ _ _ _) g4 (by decide) (nLL H1.out.1.st.base H1.out.1.st.base_le)
     ·exact .inr ⟨rfl, ha, (hDn.mono (by omega)).frL (set5_fr V6 w.heap.size _ _ _ _ _) g4 (by decide)⟩
   ·have HX := hi2 ha hDn;clear ha hDn;go_wp2_with fail
    have hs1 := H1.out.2.2.1;refine bodyPost_ret (v := .tuple #[slotV (0, 0) 0 0 (.slice none 0 0), .int .i64 4]) (by simp [results, go_sem, *]) rfl ⟨(0, 0), 0, 0, none, 0, 0, 4, rfl, ?_, .inr ⟨rfl, HX.out.1, ?_⟩⟩
    ·exact (FrB.trans (FrB.none H1.out.2.1) H5.out.2.1).trans' (set5_fr V5 w.heap.size _ _ _ _ _) (fun b hb e => by omega)
    ·exact (HX.out.2.mono (by omega)).frL (set5_fr V5 w.heap.size _ _ _ _ _) (HB4.out V5 H5.out.2.1) (by decide)
 ·refine plan_op _ (by simp only [gA, gZ, gS]; rfl) (by rfl) (fun K hK => ?_);go_simp;obtain ⟨b6, hb6⟩ : ∃ b6, w1.heap.size = b6 := ⟨_, rfl⟩
  obtain ⟨V4, hV4⟩ : ∃ V4, (w1.alloc (.cells #[.int .i64 0, .int .i64 0] 35)).drew = V4 := ⟨_, rfl⟩
  have F4 : Fq w1 V4 := by rw [<- hV4]; exact ((Fr.refl _ _).alloc _).drew
  have g6 : V4.heap[b6]? = some (.cells #[.int .i64 0, .int .i64 0] 35) := by rw [<- hV4, <- hb6]; exact han w1 _
  rw [hb6, hV4];refine hK _ _ (FrB.none F4) ?_;clear hK K hV4;try simp only [Act.put, sI, sZ, sS]
  refine plan_op _ (by simp only [gA, gZ, gS]; rfl) (by rfl) (fun K hK => ?_);go_simp;refine (HDp.out _ F4).mono ?_;rintro _ _ ⟨rfl, rfl⟩;try go_simp
  refine hK _ _ (FrB.none F4) ?_;clear hK K;try simp only [Act.put, sI, sZ, sS]
  refine plan_op _ (by simp only [gA, gZ, gS]; rfl) (by rfl) (fun K hK => ?_);go_simp;refine (HPr.out _).mono ?_;rintro _ _ ⟨rfl, rfl⟩;try go_simp
  refine hK _ _ (FrB.none F4) ?_;clear hK K;try simp only [Act.put, sI, sZ, sS]
  refine plan_op _ (by simp only [gA, gZ, gS]; rfl) (by rfl) (fun K hK => ?_);go_simp;refine (HGt.out _ F4).mono ?_;rintro _ V3 ⟨p3, s3, err, rfl, F3, hr⟩;have FG3 : FrB B w1 V3 := FrB.trans (FrB.none F4) F3;have g63 := FrB.heap F3 g6 (by decide);have H3 := hi2 FG3 hr;try go_simp
  refine hK _ _ FG3 ?_;clear hK K F3 hr FG3;iterate 3
   try simp only [Act.put, sI, sZ, sS]
   refine plan_rd _ ?_ (by simp only [gA, gZ, gS]; rfl) (by rfl) ?_ ?_;rotate_left
   ·intro V hV;go_simp;try with_reducible rfl
  try simp only [Act.put, sI, sZ, sS]
  refine plan_op _ (by simp only [gA, gZ, gS]; rfl) (by rfl) (fun K hK => ?_);obtain ⟨y0, y1, yz, yl⟩ := cells2 g63;go_simp;obtain ⟨V5, hV5⟩ : ∃ V5, (V3.setCell ⟨b6, 0, none⟩ (.int .i64 p3)).setCell ⟨b6, 1, none⟩ (.int .i64 s3) = V5 := ⟨_, rfl⟩
  have F5 : Fr (fun k => k = b6) V3 V5 := by rw [<- hV5]; exact ((Fr.refl (fun k => k = b6) V3).setCell (a := ⟨b6, _, none⟩) (fun _ => rfl) _).setCell (a := ⟨b6, _, none⟩) (fun _ => rfl) _
  have g5 : V5.heap[b6]? = some (.cells #[.int .i64 p3, .int .i64 s3] 35) := by rw [<- hV5, hsc _ _ _ _ (hsc _ _ _ _ g63)]; rfl
  have FG5 : FrB B w1 V5 := FrB.trans' H3.out.1 F5 (fun b hb e => by omega);have H5 := hi2 g5 (aI FG5 ((gmid_of (H1.out.1.fr0 H1.out.2.1) H1.out.2.2.2 H3.out.1 H3.out.2).set F5 g63 (by rw [<- hb6]; exact nLL H1.out.1.st.base (nT H1.out.1.st.base_le H1.out.2.1.size))));rw [hV5];refine hK _ _ FG5 ?_;clear hK K hV5 F5 g5 FG5 y0 y1 yz yl g63 g6;try simp only [Act.put, sI, sZ, sS]
  refine plan_rd _ ?_ (by simp only [gA, gZ, gS]; rfl) (by rfl) ?_ ?_;rotate_left
  ·intro V hV;go_simp;try with_reducible rfl
  try simp only [Act.put, sI, sZ, sS]
  refine plan_done ?_;refine NoPanic.normal ?_;clear FG;obtain ⟨y0, y1, yz, yl⟩ := cells2 H5.out.1;obtain ⟨⟨i0, i1, i2, i3, i4, iz, il⟩, ⟨o0, o1, o2, o3, o4, oz, ol⟩⟩ := HB.out V5 H5.out.2.1;rcases H5.out.2.2 with ⟨rfl, he, hI⟩ | ⟨rfl, ha, hDn⟩
  ·obtain ⟨rfl, rfl⟩ : p3 = r.1 /\ s3 = r.2 := by rw [<- he]; exact ⟨rfl, rfl⟩
   have HRe := hid (xread_ok hI HQ.out.1 HQ.out.2.1 (by omega) hp (by omega));clear hI he;go_wp2_with fail
   refine HRe.out.mono ?_;rintro e V6 ⟨r6, d6, p6, va, n6, vc, err, rfl, F6, hr6⟩;have FG6 : FrB B w1 V6 := FrB.trans H5.out.2.1 F6;have H6 := hi2 FG6 (aI F6.size hr6);clear y0 y1 yz yl i0 i1 i2 i3 i4 iz il o0 o1 o2 o3 o4 oz ol F6 hr6;obtain ⟨-, ⟨o0, o1, o2, o3, o4, oz, ol⟩⟩ := HB.out V6 FG6;clear FG6;go_wp2_with fail
   have hs1 := H1.out.2.2.1;have g4 := HB4.out V6 H6.out.1;have hv5 : w1.heap.size <= V5.heap.size := H5.out.2.1.size;refine bodyPost_ret (v := .tuple #[slotV r6 d6 p6 (.slice va n6 vc), .int .i64 err]) (by simp [results, go_sem, *]) rfl ⟨r6, d6, p6, va, n6, vc, err, rfl, ?_, ?_⟩
   ·exact (FrB.trans (FrB.none H1.out.2.1) H6.out.1).trans' (set5_fr V6 w.heap.size _ _ _ _ _) (fun b hb e => by omega)
   ·rcases H6.out.2.2 with ⟨rfl, hh, ho, hI⟩ | ⟨rfl, ha, hDn⟩
    ·refine .inl ⟨rfl, hh, ?_, ?_⟩
     ·exact own_fr1 (own_mono ho (by omega)) (set5_fr V6 w.heap.size _ _ _ _ _) (fun g hg e => by
       have := (own_blkT ho hg).1;omega)
     ·exact (hI.mono (by omega) hN).setNew (set5_fr V6 w.heap.size _ _ _ _ _) g4 (by decide) (nLL H1.out.1.st.base H1.out.1.st.base_le)
    ·exact .inr ⟨rfl, ha, (hDn.mono (by omega)).frL (set5_fr V6 w.heap.size _ _ _ _ _) g4 (by decide)⟩
  ·have HX := hi2 ha hDn;clear ha hDn;go_wp2_with fail
   have hs1 := H1.out.2.2.1;refine bodyPost_ret (v := .tuple #[slotV (0, 0) 0 0 (.slice none 0 0), .int .i64 4]) (by simp [results, go_sem, *]) rfl ⟨(0, 0), 0, 0, none, 0, 0, 4, rfl, ?_, .inr ⟨rfl, HX.out.1, ?_⟩⟩
   ·exact (FrB.trans (FrB.none H1.out.2.1) H5.out.2.1).trans' (set5_fr V5 w.heap.size _ _ _ _ _) (fun b hb e => by omega)
   ·exact (HX.out.2.mono (by omega)).frL (set5_fr V5 w.heap.size _ _ _ _ _) (HB4.out V5 H5.out.2.1) (by decide)
end Go.Proofs.YtgdhaaokolfdoaaGreatDoor
