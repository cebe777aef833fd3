/- A pack of texts: SL, SG. Conditions: those that each text names. -/
import Derived.Test.YtgdhaaokolfdoaaGreatDoorNAE
import Derived.Test.YtgdhaaokolfdoaaGreatDoorNAC
set_option maxHeartbeats 16000000
set_option linter.all false
namespace Go.Proofs.YtgdhaaokolfdoaaGreatDoor
open Go.RowKit Go.Sg Go.Sg.Bits Go.Sg.Clk CP
variable {W w : World} {B : Blk} {x : Sto}
theorem StoreAt.withMem (h : StoreAt w B x) (F : FrR B [.bc, .bp, .bm] w W) {m : Int -> Option Pg} (hm : MemAt W B.bc B.bp B.bm x.places m)
  (hl : ∀ k p, m k = some p -> ∃ bs, ByV W p.la p.ll p.lc bs /\ bs.length <= x.room) : StoreAt W B { x with mem := m } := by
 have S := h.stays F;exact ⟨S.s (by decide), S.dev (by decide) (by decide) (by decide), S.bits (by decide) (by decide), S.fr (by decide), S.dy (by decide), S.de (by decide), hm, hl, h.ne, h.ge, h.rg, h.inr⟩
theorem load_putF (h : StoreAt w B x) {L : List Role} (F : FrR B L w W) {n : Int} {p : Pg} {g : Option (Int × Pg)} (hp : ∃ bs, ByV w p.la p.ll p.lc bs /\ bs.length <= x.room) :
  ∀ k q, putF x.mem n p g k = some q -> ∃ bs, ByV W q.la q.ll q.lc bs /\ bs.length <= x.room := by
 intro k q hq;unfold putF at hq;split at hq
 ·cases hq;obtain ⟨bs, hb, hl⟩ := hp;exact ⟨bs, h.byv F hb, hl⟩
 ·split at hq
  ·cases hq
  ·obtain ⟨bs, hb, hl⟩ := h.load k q hq;exact ⟨bs, h.byv F hb, hl⟩
namespace SF
variable {B : Blk} {w w' : World} {x : Sto} {g : Option (Int × Pg)} {D : Dev} {err : Int}
theorem OutR_frB (h : OutR w x g D err) (F : FrB B w w') : OutR w' x g D err := by
 cases g with
 | none => exact h
 | some g =>
  obtain ⟨k, q⟩ := g;unfold OutR at h ⊢;simp only at h ⊢;split
  ·rename_i hd;rw [if_pos hd] at h;obtain ⟨bs, hb, he⟩ := h;exact ⟨bs, hb.frB F, he⟩
  ·rename_i hd;rw [if_neg hd] at h;exact h
theorem OutR_frL (h : OutR w x g D err) {k : Nat} (F : Fr (fun b => b = k) w w') {cs : Array Value} {t : TypeId} (hk : w.heap[k]? = some (.cells cs t)) (ht : t ≠ 5) : OutR w' x g D err := by
 cases g with
 | none => exact h
 | some g =>
  obtain ⟨k, q⟩ := g;unfold OutR at h ⊢;simp only at h ⊢;split
  ·rename_i hd;rw [if_pos hd] at h;obtain ⟨bs, hb, he⟩ := h;exact ⟨bs, hb.frL F hk ht, he⟩
  ·rename_i hd;rw [if_neg hd] at h;exact h
def Inp (w : World) (B : Blk) (a : Option Addr) (n c : Nat) (bs : List Int) : Prop := SlB w a n c bs /\ ∀ b off, a = some ⟨b, off, none⟩ -> n = 0 \/ b < B.base \/ kd w b = 6
def tk (x : Sto) (n : Nat) : Sto := { x with taken := upd x.taken n true, hand := (n + 1) % x.pages, fresh := updI x.fresh n true }
def refV (err : Int) (n st : Int) : Value := if err = 0 then .agg #[.int .i64 n, .int .i64 st] else .agg #[.int .i64 0, .int .i64 0]
def NewPost (B : Blk) (x : Sto) (bs : List Int) (w : World) (e : Ending) (w' : World) : Prop :=
 ∃ n err g D p, TakeIs x.taken x.pages x.hand n /\ e = .returned (.tuple #[refV err n x.gen, .int .i64 err]) /\ GoneOk x.mem x.places n g /\ OutR w' x g D err /\
  StoreAt w' B { tk x n with mem := putF x.mem n p g, dev := D } /\ (p.stamp = x.gen /\ p.dirty = true /\ ByV w' p.la p.ll p.lc bs) /\ FrB B w w'
theorem new_ok (h : StoreAt w B x) (hT : Tab w) (hB0 : 0 < B.base) {la : Option Addr} {ll lc : Nat} {bs : List Int} (hin : Inp w B la ll lc bs) (hl : ll <= x.room) {j : Nat} (hj : j < x.pages) (hfree : x.taken j = false)
  (hk : ∀ W p n, TakeIs x.taken x.pages x.hand n -> StoreAt W B (tk x n) -> FrB B w W -> (∃ bs, ByV W p.la p.ll p.lc bs /\ bs.length <= x.room) -> Calls Tryz.prog 82 #[B.ptr, .int .i64 n, p.val] W (KeepOut B (tk x n) n p W)) :
  Calls Tryz.prog 22 #[B.ptr, .slice la ll lc] w (NewPost B x bs w) := by
 have c11 := h.sc.c11;have c12 := h.sc.c12;have c13 := h.sc.c13;have c14 := h.sc.c14;have l := h.sc.lt;have hlen := hin.1.by_.len;have hrm := h.rg.1;obtain ⟨w1, hw1⟩ : ∃ w1, w.alloc (.cells #[.int .i64 0, .int .i64 0] 35) = w1 := ⟨_, rfl⟩
 have F1 : Fq w w1 := by rw [<- hw1]; exact (Fr.refl _ _).alloc _
 have b1 : w1.heap[w.heap.size]? = some (.cells #[.int .i64 0, .int .i64 0] 35) := by rw [<- hw1]; exact han _ _
 have HTK := hid (take_some (h.bits.fr F1 (fun h => h) (fun h => h)) (hT.fr F1 (fun h => h)) hj hfree);have H := hid h;have HIN := hid hin;have HK := hid hk;have HW := hid hw1;have HF1 := hid F1;have HB1 := hid b1;have HL := hid hlen;clear h hT hin hk hw1 F1 b1 hfree hlen;go_enter Tryz.func22, Tryz.ntmps22;go_wp2_with fail
 rw [HW.out];refine HTK.out.mono ?_;rintro e w2 ⟨n, hn, rfl, hbits, F2⟩;have F02 : FrR B [.bs, .bw] w w2 := (HF1.out.mono (fun _ _ h => h.elim)).trans F2 (fun b _ h => by
  rcases h with rfl | rfl
  ·exact ⟨.bs, by simp, rfl⟩
  ·exact ⟨.bw, by simp, rfl⟩)
 have nbx : ∀ r, w.heap.size ≠ B.at_ r := fun r e => by have := (H.out.heaps r).2.2.1; omega
 have hb2 := F2.heap HB1.out (fun h => by rcases h with h | h; exact nbx .bs h; exact nbx .bw h);have S2 := H.out.stays F02;have s2 := S2.s (by decide);obtain ⟨lf, ck, hfm, hfs⟩ := (S2.fr (by decide)).ex;have e12 : w2.cell? ⟨B.s, 12, none⟩ = some (.int .i64 x.gen) := by simpa using coh s2 12
 have e14 : w2.cell? ⟨B.s, 14, none⟩ = some (.map (some B.fr)) := by simpa using coh s2 14
 have hup := fun (W : World) (hW : W.heap[B.fr]? = some (.map (ents lf) ck)) => run_mapUpdate (P := Tryz.prog) (T := 153) Tryz.underlying153 Tryz.underlying3 hW n (.bool true)
 have HB2 := hid hb2;have NBX := hid nbx;clear hb2 nbx;have HN := hid hn;have HBI := hid hbits;have HF02 := hid F02;have HS2 := hid S2;have Hs2 := hid s2;have HFS := hid hfs;clear hn hbits F2 F02 S2 s2 hfs;go_wp2
 obtain ⟨w3, hw3⟩ : ∃ w3, w2.putObj B.fr (.map (ents (put lf n (.bool true) ck)) (bump lf n ck)) = w3 := ⟨_, rfl⟩
 have F23 : Fr (fun b => b = B.fr) w2 w3 := by rw [<- hw3]; exact (Fr.refl (fun b => b = B.fr) _).putObj (fun _ => rfl) _
 have hf3 : w3.heap[B.fr]? = some (.map (ents (put lf n (.bool true) ck)) (bump lf n ck)) := by rw [<- hw3]; exact heap_putObj_same _ _ _ (loh hfm)
 rw [hw3];have HB3 := hid (F23.heap HB2.out (NBX.out .fr));have F03 : FrR B [.bs, .bw, .fr] w w3 := (HF02.out.mono (fun b _ ⟨r, hr, e⟩ => ⟨r, by simp at hr ⊢; rcases hr with h | h <;> simp [h], e⟩)).trans F23 (fun b _ h => ⟨.fr, by simp, h⟩);have n1 : B.bs ≠ B.fr := fun e => by have := H.out.inj (r := .bs) (r' := .fr) e; cases this
 have n2 : B.bw ≠ B.fr := fun e => by have := H.out.inj (r := .bw) (r' := .fr) e; cases this
 have S3 := H.out.stays F03;have nn := HN.out.1;have hS3 : StoreAt w3 B (tk x n) := by
  refine ⟨S3.s (by decide), S3.dev (by decide) (by decide) (by decide), HBI.out.fr F23 n1 n2, ⟨_, _, hf3, HFS.out.put n⟩, S3.dy (by decide), S3.de (by decide), S3.mem (by decide) (by decide) (by decide), S3.load, H.out.ne, H.out.ge, H.out.rg, ?_, H.out.inr.2⟩;intro k hk;show 0 <= k /\ k < x.pages;by_cases hkn : k = n
  ·omega
  ·exact H.out.inr.1 k (by simpa [tk, updI, hkn] using hk)
 have e12 : w3.cell? ⟨B.s, 12, none⟩ = some (.int .i64 x.gen) := hS3.sc.c12;have hsl : SlB w3 la ll lc bs := by
  refine ⟨HIN.out.1.by_.frn F03 ?_, HIN.out.1.at_⟩;rintro b off e - hn0 ⟨r, _, rfl⟩;have hh := H.out.heaps r;rcases HIN.out.2 _ off e with h | h | h
  ·omega
  ·omega
  ·rw [hh.2.2.2] at h; cases r <;> simp [Role.kind] at h
 have HC := hid (fun W (F : Fq w3 W) => (clone_v (w := W) ⟨hsl.by_.fr F (fun _ _ _ _ h => h), hsl.at_⟩ (by omega)).mono
  (fun (e : Ending) W' ⟨a', c', he, hb, F'⟩ => (⟨a', c', he, hb, F.trans F' (fun _ _ h => h)⟩ : ∃ a' c', e = Ending.returned (.slice a' ll c') /\ ByV W' a' ll c' bs /\ Fq w3 W')))
 have ls : B.s < w3.heap.size := hS3.sc.lt;have HS3 := hid hS3;have HF03 := hid F03;clear hw3 F23 hf3 hup hfm F03 n1 n2 S3 hS3 hsl c11 c12 c13 c14 e14;go_region_held3 (fun W => W.cell? ⟨B.s, 12, none⟩ = some (.int .i64 x.gen)) (go_keep)
  (first
   | (go_at_call 83; refine (HC.out _ (by first | exact Fr.refl _ _ | exact (Fr.refl _ _).drew)).mono ?_; rintro e w4 ⟨a', c', rfl, hb4, F4⟩; have e12 := (F4.cell (p := ⟨B.s, 12, none⟩) ls (fun h => h)).trans e12; have HB4 := hid hb4; have HF4 := hid F4; clear hb4 F4)
   | (go_at_call 82; refine (HK.out _ ⟨x.gen, a', ll, c', true⟩ n HN.out (HS3.out.fr0 HF4.out) ((H.out.frB HF03.out).trans (FrB.none HF4.out)) ⟨bs, HB4.out, by rw [HL.out]; exact hl⟩).mono ?_; rintro e w5 ⟨err, g, D, rfl, hg, ho, hS5, F5⟩; have e12 : w5.cell? ⟨B.s, 12, none⟩ = some (.int .i64 x.gen) := hS5.sc.c12; have H5 := hi2 hg (aI ho (aI hS5 F5)); clear hg ho hS5 F5))
 obtain ⟨hg, ho, hS5, F5⟩ := H5.out;have hb5 := F5.heap (FrB.heap (FrB.none HF4.out) (B := B) HB3.out (by decide)) (by decide);obtain ⟨f0, f1, fz, fl⟩ := cells2 hb5;have c12 : w5.cell? ⟨B.s, 12, none⟩ = some (.int .i64 x.gen) := hS5.sc.c12;have l5 := hS5.sc.lt;have nb5 : ¬ w.heap.size = B.s := by omega
 have FF : FrB B w w5 := ((H.out.frB HF03.out).trans (FrB.none HF4.out)).trans F5;have hbv5 := HB4.out.frB F5;have H6 := hi2 hg (aI ho (aI hS5 (aI FF (aI hbv5 hb5))));clear hg ho hS5 F5 hb5 FF hbv5 H5;by_cases he : err = 0
 ·subst he;go_wp2
  refine bodyPost_ret (v := .tuple #[.agg #[.int .i64 n, .int .i64 x.gen], .int .i64 0]) (by simp [results, go_sem, *]) rfl ?_;obtain ⟨hg, ho, hS5, FF, hbv5, hb5⟩ := H6.out;have FL : Fr (fun b => b = w.heap.size) w5 ((w5.setCell ⟨w.heap.size, 0, none⟩ (.int .i64 n)).setCell ⟨w.heap.size, 1, none⟩ (.int .i64 x.gen)) := ((Fr.refl (fun b => b = w.heap.size) _).setCell (a := ⟨w.heap.size, 0, none⟩) (fun _ => rfl) _).setCell (a := ⟨w.heap.size, 1, none⟩) (fun _ => rfl) _;refine ⟨n, 0, g, D, ⟨x.gen, a', ll, c', true⟩, HN.out, rfl, hg, OutR_frL ho FL hb5 (by decide), hS5.frL FL hb5 (by decide), ⟨rfl, rfl, hbv5.frL FL hb5 (by decide)⟩, ?_⟩;exact (FF.setCell (a := ⟨w.heap.size, 0, none⟩) (fun h => absurd h (Nat.lt_irrefl _)) _).setCell (a := ⟨w.heap.size, 1, none⟩) (fun h => absurd h (Nat.lt_irrefl _)) _
 ·have he2 : (err != 0) = true := by simpa using he
  go_wp2
  refine bodyPost_ret (v := .tuple #[.agg #[.int .i64 0, .int .i64 0], .int .i64 err]) (by simp [results, go_sem, *]) rfl ?_;obtain ⟨hg, ho, hS5, FF, hbv5, hb5⟩ := H6.out;have FL : Fr (fun b => b = w.heap.size) w5 ((w5.setCell ⟨w.heap.size, 0, none⟩ (.int .i64 0)).setCell ⟨w.heap.size, 1, none⟩ (.int .i64 0)) := ((Fr.refl (fun b => b = w.heap.size) _).setCell (a := ⟨w.heap.size, 0, none⟩) (fun _ => rfl) _).setCell (a := ⟨w.heap.size, 1, none⟩) (fun _ => rfl) _;refine ⟨n, err, g, D, ⟨x.gen, a', ll, c', true⟩, HN.out, by rw [refV, if_neg he], hg, OutR_frL ho FL hb5 (by decide), hS5.frL FL hb5 (by decide), ⟨rfl, rfl, hbv5.frL FL hb5 (by decide)⟩, ?_⟩;exact (FF.setCell (a := ⟨w.heap.size, 0, none⟩) (fun h => absurd h (Nat.lt_irrefl _)) _).setCell (a := ⟨w.heap.size, 1, none⟩) (fun h => absurd h (Nat.lt_irrefl _)) _
end SF
theorem Tryz.zero4 (w : World) : (zeroValue 4).run Tryz.prog w = .ok (.bool false) w := by kernel_rfl
def goneX (x : Sto) (n : Nat) : Sto :=
 if x.fresh n = true then { x with fresh := updI x.fresh n false, taken := upd x.taken n false, mem := updM x.mem n none } else { x with dying := updI x.dying n true }
theorem StoreAt.ner (h : StoreAt w B x) {r r' : Role} (hr : r ≠ r') : B.at_ r ≠ B.at_ r' := fun e => hr (h.inj e)
namespace SF
theorem gone_dying {w : World} {B : Blk} {x : Sto} (h : StoreAt w B x) {n : Nat} (hn : n < x.pages) (hf : x.fresh n = false) :
  Calls Tryz.prog 89 #[B.ptr, .int .i64 n] w fun e w' => e = .returned (.tuple #[]) /\ StoreAt w' B (goneX x n) /\ FrR B [.dy] w w' := by
 have c14 := h.sc.c14;have c15 := h.sc.c15;obtain ⟨lf, cf, hfm, hfs⟩ := h.fr.ex;obtain ⟨ld, cd, hdm, hds⟩ := h.dy.ex;have hl := run_lookup (P := Tryz.prog) (T := 153) false Tryz.underlying153 Tryz.underlying3 Tryz.zero4 hfm n;rw [hfs.at_, hf] at hl;simp at hl;have hup := run_mapUpdate (P := Tryz.prog) (T := 153) Tryz.underlying153 Tryz.underlying3 hdm n (.bool true);have H := hid h;have HD := hid hds;have HM := hid hdm;have HF := hid hf;clear h hfm hfs hds hf hdm;go_enter Tryz.func89, Tryz.ntmps89;go_wp2
 refine bodyPost_ret (results_none rfl _ _ _) rfl ?_;have F : FrR B [.dy] w (w.putObj B.dy (.map (ents (put ld n (.bool true) cd)) (bump ld n cd))) := (Fr.refl _ _).putObj (fun _ => ⟨.dy, by simp, rfl⟩) _;refine ⟨rfl, ?_, F⟩;have S := H.out.stays F;have e : goneX x n = { x with dying := updI x.dying n true } := by rw [goneX, HF.out]; rfl
 rw [e];refine ⟨S.s (by decide), S.dev (by decide) (by decide) (by decide), S.bits (by decide) (by decide), S.fr (by decide), ⟨_, _, heap_putObj_same _ _ _ (loh HM.out), HD.out.put n⟩, S.de (by decide), S.mem (by decide) (by decide) (by decide), S.load, H.out.ne, H.out.ge, H.out.rg, H.out.inr.1, ?_, H.out.inr.2.2⟩;intro k hk;show 0 <= k /\ k < x.pages;by_cases hkn : k = n
 ·omega
 ·exact H.out.inr.2.1 k (by simpa [updI, hkn] using hk)
end SF
end Go.Proofs.YtgdhaaokolfdoaaGreatDoor
namespace Go.Sg
theorem quiet_left {P : Program} {f : FuncId} {args : Array Value} {w : World} {n : Nat} {v : Value}
  (h : Calls P f args (w.drewN n) fun e w' => e = .returned v /\ w.drewN n = w') : Calls P f args (w.drewN n) fun e w'' => e = .returned v /\ ∃ m, w'' = w.drewN m :=
 h.mono fun _ _ ⟨he, hm⟩ => ⟨he, n, hm.symm⟩
end Go.Sg
namespace Go.Proofs.YtgdhaaokolfdoaaGreatDoor
open Go.RowKit Go.Sg Go.Sg.Bits Go.Sg.Clk CP
namespace SF
def WFresh (B : Blk) (x : Sto) (n : Nat) (bs : List Int) (w : World) (e : Ending) (w' : World) : Prop :=
 ∃ err g D p, e = .returned (.tuple #[.agg #[.int .i64 n, .int .i64 x.gen], .int .i64 err]) /\ GoneOk x.mem x.places n g /\ OutR w' x g D err /\
  StoreAt w' B { x with mem := putF x.mem n p g, dev := D } /\ (p.stamp = x.gen /\ p.dirty = true /\ ByV w' p.la p.ll p.lc bs) /\ FrB B w w'
theorem write_fresh {w : World} {B : Blk} {x : Sto} (h : StoreAt w B x) (n : Nat) (st : Int) {la : Option Addr} {ll lc : Nat} {bs : List Int} (hin : Inp w B la ll lc bs) (hl : ll <= x.room) (hp : n < x.pages) (ht : x.taken n = true) (hf : x.fresh n = true)
  (hk : ∀ W p, StoreAt W B x -> FrB B w W -> (∃ bs, ByV W p.la p.ll p.lc bs /\ bs.length <= x.room) -> Calls Tryz.prog 82 #[B.ptr, .int .i64 n, p.val] W (KeepOut B x n p W)) :
  Calls Tryz.prog 26 #[B.ptr, .agg #[.int .i64 n, .int .i64 st], .slice la ll lc] w (WFresh B x n bs w) := by
 obtain ⟨w1, hw1⟩ : ∃ w1, (w.alloc (.cells #[.int .i64 n, .int .i64 st] 35)).alloc (.cells #[.int .i64 0, .int .i64 0] 35) = w1 := ⟨_, rfl⟩
 obtain ⟨b0, b1, F1⟩ := heap_two hw1;obtain ⟨d0, d1, dz, dl⟩ := cells2 b0;have c11 := h.sc.c11;have l := h.sc.lt;have HI := hid (in_ok (h.fr0 F1) n st (by omega) (by omega));have H1 := hid (h.fr0 F1);have HT := hid ht;have HF := hid hf;have HW := hid hw1;have HB0 := hid b0;have HB1 := hid b1;have HF1 := hid F1;have HK := hid hk;have HIN := hid hin;have hrm := h.rg.1;clear hw1 b0 b1 F1 h ht hf hk hin;go_enter Tryz.func26, Tryz.ntmps26;go_wp2_with fail
 rw [HW.out];refine HI.out.mono ?_;rintro e w2 ⟨rfl, F2⟩;obtain ⟨e0, e1, ez, el⟩ := cells2 (F2.heap HB1.out (fun h => h));obtain ⟨f0, f1, fz, fl⟩ := cells2 (F2.heap HB0.out (fun h => h));have h2 := H1.out.fr0 F2;have g13 := h2.sc.c13;have g14 := h2.sc.c14;have HH := hid (fun W (F : Fq w2 W) => (has_at (h2.bits.fr F (fun h => h) (fun h => h)) n hp));rw [HT.out] at HH;obtain ⟨lf, cf, hfm, hfs⟩ := h2.fr.ex;have hlk := fun (W : World) (hW : W.heap[B.fr]? = some (.map (ents lf) cf)) => run_lookup (P := Tryz.prog) (T := 153) false Tryz.underlying153 Tryz.underlying3 Tryz.zero4 hW n
 rw [hfs.at_, HF.out] at hlk;simp only [if_true, Option.getD_some, Bool.false_eq_true, if_false] at hlk;have HF2 := hid F2;have H2 := hid h2;clear F2 h2 hfs;go_wp2
 go_quiet ((go_at_call 88; exact quiet_left (HH.out _ ((Fr.refl _ _).drewN _))))
 go_wp2
 go_quiet (fail)
 go_wp2
 have e12 : w2.cell? ⟨B.s, 12, none⟩ = some (.int .i64 x.gen) := H2.out.sc.c12;have hsl : SlB w2 la ll lc bs := ⟨(HIN.out.1.by_.fr HF1.out (fun _ _ _ _ h => h)).fr HF2.out (fun _ _ _ _ h => h), HIN.out.1.at_⟩;have HL := hid hsl.by_.len;have HC := hid (fun W (F : Fq w2 W) => (clone_v (w := W) ⟨hsl.by_.fr F (fun _ _ _ _ h => h), hsl.at_⟩ (by omega)).mono
  (fun (e : Ending) W' ⟨a', c', he, hb, F'⟩ => (⟨a', c', he, hb, F.trans F' (fun _ _ h => h)⟩ : ∃ a' c', e = Ending.returned (.slice a' ll c') /\ ByV W' a' ll c' bs /\ Fq w2 W')))
 have ls : B.s < w2.heap.size := H2.out.sc.lt;have ms : ¬ w.heap.size + 1 = B.s := by omega
 have HBB := hi2 (HF2.out.heap HB0.out (fun h => h)) (HF2.out.heap HB1.out (fun h => h));clear hsl HB0 HB1 d0 d1 dz hlk hfm c11 g13 g14 fz;go_region_held3 (fun W => W.cell? ⟨w.heap.size, 0, none⟩ = some (.int .i64 n) /\ W.cell? ⟨B.s, 12, none⟩ = some (.int .i64 x.gen)) (go_keep)
  (first
   | (go_at_call 83; refine (HC.out _ (by first | exact (Fr.refl _ _).drewN _ | exact ((Fr.refl _ _).drewN _).drew)).mono ?_; rintro e w4 ⟨a', c', rfl, hb4, F4⟩; have e12 := (F4.cell (p := ⟨B.s, 12, none⟩) ls (fun h => h)).trans e12; have f0 := (F4.cell (p := ⟨w.heap.size, 0, none⟩) fl (fun h => h)).trans f0; have e0 := (F4.cell (p := ⟨w.heap.size + 1, 0, none⟩) el (fun h => h)).trans e0; have e1 := (F4.cell (p := ⟨w.heap.size + 1, 1, none⟩) el (fun h => h)).trans e1; have HB4 := hid hb4; have HF4 := hid F4; clear hb4 F4)
   | (go_at_call 82; refine (HK.out _ ⟨x.gen, a', ll, c', true⟩ (H2.out.fr0 HF4.out) (FrB.none ((HF1.out.trans HF2.out (fun _ _ h => h)).trans HF4.out (fun _ _ h => h))) ⟨bs, HB4.out, by rw [HL.out]; exact hl⟩).mono ?_; rintro e w5 ⟨err, g, D, rfl, hg, ho, hS5, F5⟩; have e12 : w5.cell? ⟨B.s, 12, none⟩ = some (.int .i64 x.gen) := hS5.sc.c12; obtain ⟨f0, f1, fz, fl⟩ := cells2 (F5.heap (HF4.out.heap HBB.out.1 (fun h => h)) (by decide)); have hb5 := F5.heap (HF4.out.heap HBB.out.2 (fun h => h)) (by decide); obtain ⟨e0, e1, ez, el⟩ := cells2 hb5; have H5 := hi2 hg (aI ho (aI hS5 (aI F5 hb5))); clear hg ho hS5 F5 hb5))
 go_wp2
 refine bodyPost_ret (v := .tuple #[.agg #[.int .i64 n, .int .i64 x.gen], .int .i64 err]) (by simp [results, go_sem, *]) rfl ?_;obtain ⟨hg, ho, hS5, F5, hb5⟩ := H5.out;have FL : Fr (fun b => b = w.heap.size + 1) w5 ((w5.setCell ⟨w.heap.size + 1, 0, none⟩ (.int .i64 n)).setCell ⟨w.heap.size + 1, 1, none⟩ (.int .i64 x.gen)) := ((Fr.refl (fun b => b = w.heap.size + 1) _).setCell (a := ⟨w.heap.size + 1, 0, none⟩) (fun _ => rfl) _).setCell (a := ⟨w.heap.size + 1, 1, none⟩) (fun _ => rfl) _;refine ⟨err, g, D, ⟨x.gen, a', ll, c', true⟩, rfl, hg, OutR_frL ho FL hb5 (by decide), hS5.frL FL hb5 (by decide), ⟨rfl, rfl, (HB4.out.frB F5).frL FL hb5 (by decide)⟩, ?_⟩;exact (((FrB.none ((HF1.out.trans HF2.out (fun _ _ h => h)).trans HF4.out (fun _ _ h => h))).trans F5).setCell (a := ⟨w.heap.size + 1, 0, none⟩) (fun h => absurd h (by simp)) _).setCell (a := ⟨w.heap.size + 1, 1, none⟩) (fun h => absurd h (by simp)) _
end SF
end Go.Proofs.YtgdhaaokolfdoaaGreatDoor
