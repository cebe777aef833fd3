/- A pack of texts: XFN, XFM, MDX, AWX, ST0. Conditions: those that each text names. -/
import Derived.Test.YtgdhaaokolfdoaaGreatDoorJCJ
import Derived.Test.YtgdhaaokolfdoaaGreatDoorJCA
import Derived.Test.YtgdhaaokolfdoaaGreatDoorJCB
set_option linter.unusedVariables false
set_option linter.unusedSimpArgs false
set_option linter.unnecessarySimpa false
namespace Go.Proofs.YtgdhaaokolfdoaaGreatDoor
open Go.RowKit Go.Sg Go.Sg.Bits Go.Sg.Clk CP SF
theorem set3a_fr (W : World) (b : Nat) (u0 u1 u2 : Value) : Fr (fun k => k = b) W (((W.setCell ⟨b, 0, none⟩ u0).setCell ⟨b, 1, none⟩ u1).setCell ⟨b, 2, none⟩ u2) :=
  (((Fr.refl (fun k => k = b) W).setCell (a := ⟨b, _, none⟩) (fun _ => rfl) _).setCell (a := ⟨b, _, none⟩) (fun _ => rfl) _).setCell (a := ⟨b, _, none⟩) (fun _ => rfl) _
theorem FrB.new3 {B : Blk} {w w1 V V' : World} (F1 : Fr (fun _ => False) w w1) (h : FrB B w1 V) (F : Fr (fun k => k = w.heap.size) V V') : FrB B w V' := Fr.trans (FrB.trans (FrB.none F1) h) F fun k hk e => by omega
def FindU (B : Blk) (bx bd : Nat) (y : Cs) (P : Prot) (a : Bool) (N : Nat) (x : DirD) (tops slots : List Rf) (L : List Bp) (sp : Int) (es : List Bt) (h : Nat) (w : World) (e : Ending) (w' : World) : Prop :=
  ∃ (c0 c1 c2 : Int) (ok : Bool) (err : Int), e = .returned (.tuple #[.agg #[.int .i64 c0, .int .i64 c1, .int .i64 c2], .bool ok, .int .i64 err]) ∧ FrB B w w' ∧
    ((err = 0 ∧ ok = hasB es h ∧ .agg #[.int .i64 c0, .int .i64 c1, .int .i64 c2] = locV (atB es h) ∧ IdxM w' B bx bd y P a N x tops slots L sp) ∨ (err = 4 ∧ a = true ∧ DownC w' B y P N))
theorem loc_three (o : Option Bt) : ∃ c0 c1 c2 : Int, locV o = .agg #[.int .i64 c0, .int .i64 c1, .int .i64 c2] := by
  cases o with
  | none => exact ⟨_, _, _, rfl⟩
  | some e => exact ⟨_, _, _, rfl⟩
set_option maxHeartbeats 8000000 in
set_option maxRecDepth 100000 in
theorem xfind_ok {w : World} {B : Blk} {bx bd : Nat} {y : Cs} {P : Prot} {a : Bool} {N : Nat} {x : DirD} {tops slots : List Rf} {L : List Bp} {sp : Int} (h : IdxM w B bx bd y P a N x tops slots L sp) {hash : Nat} (hh : hash < 18446744073709551616) {r : Rf} {d p : Nat} {es : List Bt} (hs : slots[preM hash x.depth]? = some r) (hq : (r, packM d p es) ∈ L) (hk : BkOk d p es) (hd : d ≤ 8) (hp : p < 2 ^ d) (hN : N + 3 ≤ 90000) :
    Calls Tryz.prog 66 #[xptr bx, .int .u64 hash] w (FindU B bx bd y P a (N + 3) x tops slots L sp es hash w) := by
  obtain ⟨w1, hw1⟩ : ∃ w1, w.alloc (.cells #[.int .i64 0, .int .i64 0, .int .i64 0] 116) = w1 := ⟨_, rfl⟩
  have b4 : w1.heap[w.heap.size]? = some (.cells #[.int .i64 0, .int .i64 0, .int .i64 0] 116) := by rw [← hw1]; exact heap_alloc_new _ _
  have F1 : Fr (fun _ => False) w w1 := by rw [← hw1]; exact (Fr.refl _ _).alloc _
  have hs1 : w1.heap.size = w.heap.size + 1 := by rw [← hw1]; simp
  have HB4 := hid (fun (V : World) (F : FrB B w1 V) => cells3 (F.heap b4 (by decide)))
  have HB5 := hid (fun (V : World) (F : FrB B w1 V) => F.heap b4 (by decide))
  have HBl := hid (show 0 < w.heap.size by have := h.bd_lt; omega)
  have HOf := hid (xof_ok (h.fr0 F1) hh hs hq hk hd hp hN)
  have HF1 := hid F1
  have HS1 := hid hs1
  have HK := hid (And.intro hk hN)
  have HW := hid hw1
  obtain ⟨a0, a1, a2, az, al⟩ := HB4.out _ (FrB.refl _ _)
  clear h hw1 b4 F1 hs1 hs hq hk hd hp hN hh
  go_enter Tryz.func66, Tryz.ntmps66
  go_upto_region 1 with fail
  rw [HW.out]
  go_wp2_with fail
  refine HOf.out.mono ?_
  rintro e V1 ⟨r1, d1, p1, va, n, vc, err, rfl, F1, hr⟩
  have HR1 := hid (And.intro F1 hr)
  clear F1 hr HOf a0 a1 a2 az al
  obtain ⟨b8, hb8⟩ : ∃ b8, V1.heap.size = b8 := ⟨_, rfl⟩
  have H8 := hid (show w.heap.size < b8 by
    have h2 := HR1.out.1.size
    have h3 := HS1.out
    omega)
  go_upto_region 4 with fail
  obtain ⟨V2, hV2⟩ : ∃ V2, V1.alloc (.cells #[.int .i64 r1.1, .int .i64 r1.2, .int .i64 d1, .int .i64 p1, .slice va n vc] 131) = V2 := ⟨_, rfl⟩
  rw [hV2]
  have FV : Fr (fun _ => False) V1 V2 := by rw [← hV2]; exact (Fr.refl _ _).alloc _
  have g8 : V2.heap[b8]? = some (.cells #[.int .i64 r1.1, .int .i64 r1.2, .int .i64 d1, .int .i64 p1, .slice va n vc] 131) := by rw [← hV2, ← hb8]; exact heap_alloc_new _ _
  have HF2 := hid (FrB.trans HR1.out.1 (FrB.none FV))
  have HFV := hid FV
  have HG8 := hid g8
  clear hb8 hV2 FV g8
  rcases HR1.out.2 with ⟨rfl, ⟨rfl, rfl, rfl, hn⟩, ho, hM⟩ | ⟨rfl, ha, hDn⟩
  rotate_left
  · have HX := hid (And.intro ha (hDn.fr0 HFV.out))
    clear ha hDn
    obtain ⟨a0, a1, a2, az, al⟩ := HB4.out _ HF2.out
    go_wp2_with fail
    refine bodyPost_ret (v := .tuple #[.agg #[.int .i64 0, .int .i64 0, .int .i64 0], .bool false, .int .i64 4]) (by simp [results, go_sem, *]) rfl ?_
    exact ⟨0, 0, 0, false, 4, rfl, FrB.new3 HF1.out HF2.out (set3a_fr _ _ _ _ _), .inr ⟨rfl, HX.out.1, HX.out.2.frL (set3a_fr _ _ _ _ _) (HB5.out _ HF2.out) (by decide)⟩⟩
  · have HM := hid (hM.fr0 HFV.out)
    have HFd := hid (find_ok (own_none (own_base ho) HFV.out) HK.out.1.2.1 (by have := HK.out.1.1; omega) d p hash)
    rw [← hn] at HFd
    clear ho hM hn
    obtain ⟨a0, a1, a2, az, al⟩ := HB4.out _ HF2.out
    obtain ⟨q0, q1, q2, q3, q4, qz, ql⟩ := cells5 HG8.out
    go_wp2_with fail
    refine HFd.out.mono ?_
    rintro e V3 ⟨rfl, F3⟩
    obtain ⟨c0, c1, c2, hloc⟩ := loc_three (atB es hash)
    obtain ⟨ok, hok⟩ : ∃ ok, hasB es hash = ok := ⟨_, rfl⟩
    have HL := hid (And.intro hloc hok)
    rw [hloc, hok]
    have HF3 := hid F3
    clear F3 a0 a1 a2 az al q0 q1 q2 q3 q4 qz ql hloc hok HFd
    obtain ⟨a0, a1, a2, az, al⟩ := HB4.out _ (FrB.trans HF2.out (FrB.none HF3.out))
    go_wp2_with fail
    refine bodyPost_ret (v := .tuple #[.agg #[.int .i64 c0, .int .i64 c1, .int .i64 c2], .bool ok, .int .i64 0]) (by simp [results, go_sem, *]) rfl ?_
    have F4 := FrB.trans HF2.out (FrB.none HF3.out)
    refine ⟨c0, c1, c2, ok, 0, rfl, FrB.trans (FrB.new3 HF1.out F4 (set3a_fr _ _ _ _ _)) (FrB.none ((Fr.refl _ _).alloc _)), .inl ⟨rfl, HL.out.2.symm, HL.out.1.symm, ?_⟩⟩
    exact ((HM.out.fr0 HF3.out).setNew (set3a_fr _ _ _ _ _) (HB5.out _ F4) (by decide) HBl.out).fr0 ((Fr.refl _ _).alloc _)
end Go.Proofs.YtgdhaaokolfdoaaGreatDoor

namespace Go.Proofs.YtgdhaaokolfdoaaGreatDoor
open Go.RowKit Go.Sg Go.Sg.Bits Go.Sg.Clk CP SF
theorem live_nil11 {y : Cs} (h : ∀ k, y.taken k = false) (hd : ∀ k, y.dying k = false) (he : ∀ k, y.dead k = false) : Live y [] 11 :=
  ⟨List.nodup_nil, fun k hk => (by cases hk), fun k hk => (by cases hk), fun k _ ht => (by rw [h] at ht; cases ht), ⟨[], fun k hk => (by rw [hd] at hk; cases hk), by simp⟩, ⟨[], fun k hk => (by rw [he] at hk; cases hk), by simp⟩⟩
theorem at17 : atZ small17 = ⟨6, 3, 0, 0, 0⟩ := by
  have h6 : (layM small17).per.toNat = 6 := by decide +kernel
  unfold atZ
  rw [h6]
  rfl
theorem most17 : mostP small17 = 3 := by decide +kernel
theorem open17 (y : Cs) (c : Cont) (D : Dev) (hD : D = Dev.fresh 120 96) (hy : y = openY small17 0 D c) : y.plan = small17 ∧ y.pages = 108 ∧ y.room = 77 ∧ y.places = 8 ∧ y.gen = 1 ∧ y.cont = c ∧ (∀ k, y.taken k = false) ∧ (∀ k, y.fresh k = false) ∧ (∀ k, y.dying k = false) ∧ ∀ k, y.dead k = false := by
  subst hy hD
  exact ⟨rfl, (show (layM small17).pages.toNat = 108 by decide +kernel), rfl, rfl, rfl, rfl, fun _ => rfl, fun _ => rfl, fun _ => rfl, fun _ => rfl⟩
theorem fm_idx {w : World} {B : Blk} {y : Cs} {N N' m0 m1 m2 bx bd : Nat} {ld : List Int} (h0 : StoreC w B y noP false N) (hp : y.plan = small17) (hpg : y.pages = 108) (hrm : y.room = 77) (hpl : y.places = 8) (ht : ∀ k, y.taken k = false) (hd : ∀ k, y.dying k = false) (he : ∀ k, y.dead k = false)
    (t0 : TakeIs y.taken y.pages y.hand m0) (t1 : TakeIs (y.new m0 ld).taken y.pages (y.new m0 ld).hand m1) (t2 : TakeIs ((y.new m0 ld).new m1 (loadM [((m0 : Int), (y.gen : Int))])).taken y.pages ((y.new m0 ld).new m1 (loadM [((m0 : Int), (y.gen : Int))])).hand m2)
    {w' : World} (hS : StoreC w' B (((y.new m0 ld).new m1 (loadM [((m0 : Int), (y.gen : Int))])).new m2 (loadM [((m1 : Int), (y.gen : Int))])) noP false N') (hD : DirAt w' bd B.s { atZ y.plan with rp := m2, rs := y.gen }) (hI : IdxAt w' bx B.s bd 3 3 0) (hbase : B.base ≤ bd ∧ B.base ≤ bx) :
    ∃ y' x tops, IdxM w' B bx bd y' noP false N' x tops [((m0 : Int), (y.gen : Int))] [(((m0 : Int), (y.gen : Int)), ld)] 0 ∧ x.depth = 0 ∧ (Like y y' ∧ y'.gen = y.gen ∧ y'.dead = y.dead) := by
  have hfit : fitsM y.plan = true := by rw [hp]; exact small17_fits
  have hL := live_nil11 ht hd he
  have hgl := gen_small h0
  have hm0 : m0 < 108 := by rw [← hpg]; exact t0.1
  have hm1 : m1 < 108 := by rw [← hpg]; exact t1.1
  have hm2 : m2 < 108 := by rw [← hpg]; exact t2.1
  have n01 : m0 ≠ m1 := fun e => by have := t1.2.1; simp [Cs.new, upd, e] at this
  have n02 : m0 ≠ m2 := fun e => by have := t2.2.1; simp [Cs.new, upd, e] at this
  have n12 : m1 ≠ m2 := fun e => by have := t2.2.1; simp [Cs.new, upd, e] at this
  rw [hp, at17] at hD
  have a0 := h0.apart
  have a1 : Apart (y.new m0 ld).taken (y.new m0 ld).fresh (y.new m0 ld).dying (y.new m0 ld).dead := a0.new t0.2.1
  have a2 : Apart ((y.new m0 ld).new m1 (loadM [((m0 : Int), (y.gen : Int))])).taken ((y.new m0 ld).new m1 (loadM [((m0 : Int), (y.gen : Int))])).fresh ((y.new m0 ld).new m1 (loadM [((m0 : Int), (y.gen : Int))])).dying ((y.new m0 ld).new m1 (loadM [((m0 : Int), (y.gen : Int))])).dead := a1.new t1.2.1
  have l2 := ((hL.new (bs := ld) a0 t0).new (bs := loadM [((m0 : Int), (y.gen : Int))]) a1 t1).new (bs := loadM [((m1 : Int), (y.gen : Int))]) a2 t2
  have e2 : (([] : List Nat) ++ [m0] ++ [m1] ++ [m2]).Perm (pgs (m2 : Int) [((m1 : Int), (y.gen : Int))] ++ bpg [(((m0 : Int), (y.gen : Int)), ld)]) := by
    simp only [pgs, bpg, List.map_cons, List.map_nil, List.nil_append, List.append_nil, Int.toNat_natCast, List.cons_append]
    exact (List.Perm.swap _ _ _).trans (((List.Perm.swap _ _ _).cons _).trans (List.Perm.swap _ _ _))
  refine ⟨_, ⟨6, 3, 0, m2, y.gen⟩, [((m1 : Int), (y.gen : Int))], ⟨hS, hI, hD, ⟨?_, (by simp [DirD.slots]), (by simp [DirD.leaves, DirD.slots]), ⟨?_, ?_, ?_⟩, ⟨by simp, by simp⟩, ?_⟩, l2.perm e2, ?_, by simp, hp, hpg, hrm, hpl, ⟨rfl, rfl⟩, hbase⟩, rfl, ⟨?_, rfl, rfl⟩⟩
  · refine dirZ_of (x := ⟨6, 3, 0, (m2 : Int), (y.gen : Int)⟩) (by simpa [Cs.new] using hfit) (by simp only [Cs.new]; rw [hp]; decide +kernel) (by simp only [Cs.new]; rw [hp]; rfl) (by simp only [Cs.new]; rw [hp, hrm]; rfl) (by simp) (by simp only [Cs.new]; omega)
  · intro q hq; simp at hq; subst hq; exact right_of (by omega) hgl
  · intro q hq; simp at hq; subst hq; exact right_of (by omega) hgl
  · intro i q hi
    cases i with
    | zero =>
      simp at hi
      subst hi
      simp only [Cs.new]
      rw [updC_ne (by omega), updC_same]
      simp [chunk]
    | succ i => simp at hi
  · simp only [Cs.new]
    rw [updC_same]; simp
  · intro q hq
    simp at hq
    subst hq
    refine ⟨right_of (by omega) hgl, ?_⟩
    simp only [Cs.new]
    rw [updC_ne (by omega), updC_ne (by omega), updC_same]
    simp
  · exact ⟨rfl, rfl, rfl, rfl, rfl, rfl, rfl⟩
def FmtI (B : Blk) (y : Cs) (N : Nat) (w : World) (e : Ending) (w' : World) : Prop :=
  ∃ (bx bd : Nat) (y' : Cs) (x : DirD) (tops : List Rf) (r : Rf), e = .returned (.tuple #[xptr bx, .int .i64 0]) ∧ FrB B w w' ∧ (w.heap.size ≤ bx ∧ w.heap.size ≤ bd) ∧ IdxM w' B bx bd y' noP false (N + 3) x tops [r] [(r, packM 0 0 [])] 0 ∧ x.depth = 0 ∧ (Like y y' ∧ y'.gen = y.gen ∧ y'.dead = y.dead)
set_option maxHeartbeats 8000000 in
set_option maxRecDepth 100000 in
theorem xformat_ok {w : World} {B : Blk} {y : Cs} {N : Nat} (h : StoreC w B y noP false N) (hp : y.plan = small17) (hpg : y.pages = 108) (hrm : y.room = 77) (hpl : y.places = 8) (ht : ∀ k, y.taken k = false) (hd : ∀ k, y.dying k = false) (he : ∀ k, y.dead k = false) (hb : B.base ≤ w.heap.size) (hN : N + 3 ≤ 90000) :
    Calls Tryz.prog 127 #[B.ptr] w (FmtI B y N w) := by
  have hfit : fitsM y.plan = true := by rw [hp]; exact small17_fits
  have HOn := hid (xon_ok h hfit)
  have HH := hid (And.intro h (And.intro hp (And.intro hpg (And.intro hrm (And.intro hpl (And.intro ht (And.intro hd (And.intro he (And.intro hb hN)))))))))
  clear h hp hpg hrm hpl ht hd he hfit
  go_enter Tryz.func127, Tryz.ntmps127
  go_wp2_with fail
  refine HOn.out.mono ?_
  rintro e w1 ⟨bx, rfl, hbx, hbxl, F1⟩
  rw [HH.out.2.1, most17] at hbx
  have hPk := pack_ok (w := w1) (v := .slice none 0 0) (es := []) ⟨by simp, .inl ⟨rfl, rfl⟩⟩ (by simp) (by simp) 0 0 3 (by decide) (by decide) (by simp) (by decide) (fun W F => by
    have := bright_ok (w := W) (v := .slice none 0 0) (es := []) ⟨by simp, .inl ⟨rfl, rfl⟩⟩ List.Pairwise.nil 0 0 3 (by decide) (by decide) (by decide) (by decide) (by simp) (by simp)
    exact this)
  have HPk := hid (show Calls Tryz.prog 188 #[.agg #[.int .i64 0, .int .i64 0, .slice none 0 0], .int .i64 3] w1 (fun e w' => ∃ a c, e = .returned (.tuple #[.slice a 10 c, .int .i64 0]) ∧ ByV w' a 10 c (packM 0 0 []) ∧ Fr (fun _ => False) w1 w') from hPk)
  obtain ⟨i0, i1, i2, i3, i4, iz, il⟩ := cells5 hbx
  have HX := hid (And.intro hbx (And.intro hbxl F1))
  clear hbx hbxl F1 hPk
  go_wp2_with fail
  refine HPk.out.mono ?_
  rintro e w2 ⟨pa, pc, rfl, hby, F2⟩
  have hS2 := (HH.out.1.fr0 HX.out.2.2).fr0 F2
  have HNw := hid (new_u hS2 (hby.inp B) (packM_byte 0 0 []) (by rw [HH.out.2.2.2.1]; decide) ⟨0, by rw [HH.out.2.2.1]; decide, HH.out.2.2.2.2.2.1 0⟩ (by have := HH.out.2.2.2.2.2.2.2.2.2; omega))
  have H2 := hid (And.intro (F2.heap HX.out.1 (fun h => h)) (And.intro (HX.out.2.2.trans F2 (fun _ _ h => h)) hS2))
  clear F2 hby hS2 HPk i0 i1 i2 i3 i4 iz il
  obtain ⟨i0, i1, i2, i3, i4, iz, il⟩ := cells5 H2.out.1
  go_wp2_with fail
  refine HNw.out.mono ?_
  rintro e w3 ⟨p, s, err, rfl, F3, ⟨rfl, m0, rfl, rfl, t0, hS3⟩ | ⟨_, ha, _⟩⟩
  rotate_left
  · cases ha
  have g3 := F3.heap H2.out.1 (by decide)
  have HT0 := hid t0
  have H3 := hid (And.intro F3 (And.intro g3 hS3))
  clear F3 g3 hS3 t0 HNw i0 i1 i2 i3 i4 iz il
  obtain ⟨w4, hw4⟩ : ∃ w4, w3.alloc (.cells #[.int .i64 m0, .int .i64 y.gen] 35) = w4 := ⟨_, rfl⟩
  have F4 : Fr (fun _ => False) w3 w4 := by rw [← hw4]; exact (Fr.refl _ _).alloc _
  have b4 : w4.heap[w3.heap.size]? = some (.cells #[.int .i64 m0, .int .i64 y.gen] 35) := by rw [← hw4]; exact heap_alloc_new _ _
  have hm0 : m0 < 108 := by have := HT0.out.1; rw [HH.out.2.2.1] at this; exact this
  have hl1 := (live_nil11 HH.out.2.2.2.2.2.1 HH.out.2.2.2.2.2.2.1 HH.out.2.2.2.2.2.2.2.1).new (bs := packM 0 0 []) HH.out.1.apart HT0.out
  have hMk := make_dir_ok (H3.out.2.2.fr0 F4) (show fitsM (y.new m0 (packM 0 0 [])).plan = true by show fitsM y.plan = true; rw [HH.out.2.1]; exact small17_fits) hl1 (by show ([] ++ [m0]).length + 1 + 2 * 11 < y.pages; rw [HH.out.2.2.1]; simp) (by show y.pages ≤ _; rw [HH.out.2.2.1]; decide) (by show 12 ≤ y.room; rw [HH.out.2.2.2.1]; decide) ((m0 : Int), (y.gen : Int)) (right_of (by omega) (gen_small HH.out.1)) (by have := HH.out.2.2.2.2.2.2.2.2.2; omega)
  have HMk := hid hMk
  have HF4 := hid F4
  have HW4 := hid hw4
  have HG4 := hid (F4.heap H3.out.2.1 (fun h => h))
  obtain ⟨c0, c1, cz, cl⟩ := cells2 b4
  obtain ⟨i0, i1, i2, i3, i4, iz, il⟩ := cells5 HG4.out
  clear hMk hl1 hw4 F4 b4 hm0
  go_upto_region 8 with fail
  rw [HW4.out]
  go_wp2_with fail
  refine HMk.out.mono ?_
  rintro e w5 ⟨v, err, rfl, F5, ⟨rfl, bd, m1, m2, rfl, hbd, hD, t1, t2, hS⟩ | ⟨_, ha, _⟩⟩
  rotate_left
  · cases ha
  have g5 := F5.heap HG4.out (by decide)
  have H5 := hid (And.intro F5 (And.intro g5 (And.intro hbd (And.intro hD (And.intro t1 (And.intro t2 hS))))))
  clear F5 g5 hbd hD t1 t2 hS HMk i0 i1 i2 i3 i4 iz il c0 c1 cz cl
  obtain ⟨i0, i1, i2, i3, i4, iz, il⟩ := cells5 H5.out.2.1
  go_wp2_with fail
  go_ret2
  have F0 : FrB B w w5 := FrB.trans (FrB.none H2.out.2.1) (FrB.trans H3.out.1 (FrB.trans (FrB.none HF4.out) H5.out.1))
  have F6 : Fr (fun k => k = bx) w5 (w5.setCell ⟨bx, 1, none⟩ (dptr bd)) := (Fr.refl (fun k => k = bx) w5).setCell (a := ⟨bx, 1, none⟩) (fun _ => rfl) _
  have hbdw : w.heap.size ≤ bd := Nat.le_trans (FrB.trans (FrB.none H2.out.2.1) (FrB.trans H3.out.1 (FrB.none HF4.out))).size H5.out.2.2.1
  have hbxw : w.heap.size ≤ bx := HX.out.2.1
  have hI := fm_idx (ld := packM 0 0 []) HH.out.1 HH.out.2.1 HH.out.2.2.1 HH.out.2.2.2.1 HH.out.2.2.2.2.1 HH.out.2.2.2.2.2.1 HH.out.2.2.2.2.2.2.1 HH.out.2.2.2.2.2.2.2.1 HT0.out H5.out.2.2.2.2.1 H5.out.2.2.2.2.2.1 (H5.out.2.2.2.2.2.2.frL F6 H5.out.2.1 (by decide) (by have := HH.out.1.base; have := HH.out.1.base_le; omega)) (F6.heap H5.out.2.2.2.1 (fun e => by have h1 := H5.out.2.2.2.1; unfold DirAt at h1; rw [e, H5.out.2.1] at h1; cases h1)) (heap_setCell_cells _ _ _ _ H5.out.2.1) ⟨Nat.le_trans HH.out.2.2.2.2.2.2.2.2.1 hbdw, Nat.le_trans HH.out.2.2.2.2.2.2.2.2.1 hbxw⟩
  obtain ⟨y', x, tops, hM, hx, hL⟩ := hI
  exact ⟨bx, bd, y', x, tops, _, rfl, Fr.trans F0 F6 (fun k hk e => by omega), ⟨hbxw, hbdw⟩, hM, hx, hL⟩
end Go.Proofs.YtgdhaaokolfdoaaGreatDoor

namespace Go.Proofs.YtgdhaaokolfdoaaGreatDoor
open Go.RowKit Go.Sg Go.Sg.Bits Go.Sg.Clk CP SF
def MadeI (w : World) (e : Ending) (w' : World) : Prop :=
  ∃ (B : Blk) (bx bd : Nat) (y : Cs) (x : DirD) (r : Rf), e = .returned (.tuple #[.pointer (some ⟨B.d, 0, none⟩), B.ptr, xptr bx]) ∧ Fr (fun _ => False) w w' ∧ (B.base = w.heap.size ∧ w.heap.size ≤ bx ∧ w.heap.size ≤ bd) ∧ IdxT w' B bx bd y noP false 3 x (.leaf r []) 0 ∧ x.depth = 0 ∧ (y.gen = 1 ∧ ∀ k, y.dead k = false)
theorem idxT_one {w : World} {B : Blk} {bx bd : Nat} {y : Cs} {N : Nat} {x : DirD} {tops : List Rf} {r : Rf} (h : IdxM w B bx bd y noP false N x tops [r] [(r, packM 0 0 [])] 0) (hx : x.depth = 0) : IdxT w B bx bd y noP false N x (.leaf r []) 0 :=
  ⟨⟨tops, _, by rw [hx]; exact h, List.Perm.refl _⟩, by rw [hx]; rfl, ⟨by simp, List.Pairwise.nil, by simp⟩⟩
set_option maxHeartbeats 4000000 in
set_option maxRecDepth 100000 in
theorem made17_ok (w : World) (hT : Tab w) : Calls Tryz.prog 62 #[] w (MadeI w) := by
  have hT0 := hT.lt
  have HT := hid hT
  have H20 := hid (flashnew_ok 120 96 (by omega) (by omega) w)
  clear hT
  go_enter Tryz.func62, Tryz.ntmps62
  go_wp2_with fail
  refine H20.out.mono ?_
  rintro e w1 ⟨rfl, hD, F1⟩
  have HD := hid hD
  have HF1 := hid F1
  clear hD F1
  go_wp2_with fail
  refine (small17_ok _).mono ?_
  rintro e w2 ⟨rfl, F2⟩
  have HF2 := hid (HF1.out.trans F2 (fun _ _ h => h))
  have HD2 := hid (HD.out.fr F2 (fun h => h) (fun h => h) (fun h => h) (fun _ _ _ _ _ h => h))
  clear F2
  go_wp2_with fail
  have H19 := format_c HD2.out HF2.out.size (HT.out.fr HF2.out (fun h => h)) hT0 3 2 4 3 8 0 small17_fits
  refine H19.mono ?_
  rintro e w3 ⟨B, hB, rfl, hS, F3⟩
  have HF3 := hid (HF2.out.trans F3 (fun _ _ h => h))
  have hbase : B.base = w.heap.size := hB.1
  have HB := hid hB
  obtain ⟨a1, a2, a3, a4, a5, a6, a7, a8, a9, a10⟩ := open17 _ (fun _ => none) _ rfl rfl
  have HM := hid (xformat_ok hS a1 a2 a3 a4 a7 a9 a10 (by rw [hbase]; exact HF3.out.size) (by omega))
  have HG := hid (And.intro a5 a10)
  clear hB hS F3 H19 HD HD2 H20 HF2 HF1 a1 a2 a3 a4 a5 a6 a7 a8 a9 a10
  go_wp2_with fail
  refine HM.out.mono ?_
  rintro e w4 ⟨bx, bd, y, x, tops, r, rfl, F4, hbb, hM, hx, hL⟩
  have H4 := hid (And.intro F4 (And.intro hbb (And.intro hM (And.intro hx hL))))
  clear F4 hbb hM hx hL HM
  go_wp2_with fail
  have hw := HF3.out.size
  refine bodyPost_ret (v := .tuple #[.pointer (some ⟨w.heap.size + 2, 0, none⟩), B.ptr, xptr bx]) (by simp [results, go_sem, *]) rfl ?_
  refine ⟨B, bx, bd, y, x, r, by rw [HB.out.2.1], FrI.fr0 (frB_frI H4.out.1) (by omega) HF3.out, ⟨hbase, Nat.le_trans hw H4.out.2.1.1, Nat.le_trans hw H4.out.2.1.2⟩, idxT_one H4.out.2.2.1 H4.out.2.2.2.1, H4.out.2.2.2.1, H4.out.2.2.2.2.2.1.trans HG.out.1, fun k => ?_⟩
  · rw [H4.out.2.2.2.2.2.2]; exact HG.out.2 k
end Go.Proofs.YtgdhaaokolfdoaaGreatDoor

namespace Go.Proofs.YtgdhaaokolfdoaaGreatDoor
open Go.RowKit Go.Sg Go.Sg.Bits Go.Sg.Clk CP SF
theorem refs_bare : ∀ t : Tr, (bare t).refs.length = t.refs.length
  | .leaf _ _ => rfl
  | .node l r => by simp only [bare, Tr.refs, List.length_append, refs_bare l, refs_bare r]
def entT (t : Tr) (g h : Nat) : List Bt := ((bare t).at_ g (preM h g) 0 0).2.2.2
def FindI (B : Blk) (bx bd : Nat) (y : Cs) (P : Prot) (a : Bool) (N : Nat) (x : DirD) (t : Tr) (sp : Int) (h : Nat) (w : World) (e : Ending) (w' : World) : Prop :=
  ∃ (c0 c1 c2 : Int) (ok : Bool) (err : Int), e = .returned (.tuple #[.agg #[.int .i64 c0, .int .i64 c1, .int .i64 c2], .bool ok, .int .i64 err]) ∧ FrB B w w' ∧
    ((err = 0 ∧ ok = hasB (entT t x.depth h) h ∧ .agg #[.int .i64 c0, .int .i64 c1, .int .i64 c2] = locV (atB (entT t x.depth h) h) ∧ IdxT w' B bx bd y P a N x t sp) ∨ (err = 4 ∧ a = true ∧ DownC w' B y P N))
theorem IdxT.find {w : World} {B : Blk} {bx bd : Nat} {y : Cs} {P : Prot} {a : Bool} {N : Nat} {x : DirD} {t : Tr} {sp : Int} (h : IdxT w B bx bd y P a N x t sp) {hash : Nat} (hh : hash < 18446744073709551616) (hN : N + 3 ≤ 90000) :
    Calls Tryz.prog 66 #[xptr bx, .int .u64 hash] w (FindI B bx bd y P a (N + 3) x t sp hash w) := by
  obtain ⟨tops, L, hM, hP⟩ := h.ex
  have hd := h.depth
  have hkl : preM hash x.depth < 2 ^ x.depth := pre_lt2 (by omega) hh
  obtain ⟨d, p, r, es, hb⟩ := bkt_at hkl (Nat.le_of_eq h.high) h.ok hP
  have hes : entT t x.depth hash = es := by unfold entT; rw [bare_at, hb.at_]
  refine (xfind_ok hM hh hb.slot hb.mem hb.ok (by have := hb.dg; omega) hb.pl hN).mono ?_
  rintro e w' ⟨c0, c1, c2, ok, err, he, F, ⟨h0, h1, h2, h3⟩ | hr⟩
  · exact ⟨c0, c1, c2, ok, err, he, F, .inl ⟨h0, by rw [hes]; exact h1, by rw [hes]; exact h2, ⟨⟨tops, L, h3, hP⟩, h.high, h.ok⟩⟩⟩
  · exact ⟨c0, c1, c2, ok, err, he, F, .inr hr⟩
def awE (k : Nat) : Bt := ⟨(k % 2) * 9223372036854775808 + k, 0, 0, 0⟩
def awR : Nat → PutRes
  | 0 => ⟨.leaf (0, 0) [], 0, 0, false⟩
  | k + 1 => putS 8 (awR k).t (awR k).g (awR k).sp (awE k) 0
theorem aw1 : awR 1 = ⟨.leaf (0, 0) [awE 0], 0, 0, false⟩ := by kernel_rfl
theorem aw2 : awR 2 = ⟨.leaf (0, 0) [awE 0, awE 1], 0, 0, false⟩ := by kernel_rfl
theorem aw3 : awR 3 = ⟨.leaf (0, 0) [awE 0, awE 2, awE 1], 0, 0, false⟩ := by kernel_rfl
theorem aw4 : awR 4 = ⟨.node (.leaf (0, 0) [awE 0, awE 2]) (.leaf (0, 0) [awE 1, awE 3]), 1, 1, false⟩ := by kernel_rfl
theorem eql116 (a b c d e f : Int) (w : World) : (binOp .eql 116 (.agg #[.int .i64 a, .int .i64 b, .int .i64 c]) (.agg #[.int .i64 d, .int .i64 e, .int .i64 f])).run Tryz.prog w = .ok (.bool (decide (a = d) && (decide (b = e) && decide (c = f)))) w := by
  have h : Tryz.prog.underlying 116 = _ := Tryz.underlying116
  go_simp
  by_cases h1 : a = d <;> by_cases h2 : b = e <;> by_cases h3 : c = f <;> simp [h1, h2, h3]
theorem awh0 : ((awE 0).hash : Int) = 0 := by simp [awE]
theorem awh1 : ((awE 1).hash : Int) = 9223372036854775809 := by simp [awE]
theorem awh2 : ((awE 2).hash : Int) = 2 := by simp [awE]
theorem awh3 : ((awE 3).hash : Int) = 9223372036854775811 := by simp [awE]
def AwI (w0 : World) (base : Nat) (bx : Nat) (k : Nat) (V : World) : Prop :=
  ∃ (B : Blk) (bd : Nat) (y : Cs) (x : DirD) (t : Tr) (N : Nat), IdxT V B bx bd y noP false N x t (awR k).sp ∧ N ≤ 3 + 1230 * k ∧ (bare t = (awR k).t ∧ x.depth = (awR k).g) ∧ B.base = base ∧ Fr (fun _ => False) w0 V ∧ (base = w0.heap.size ∧ base ≤ bx ∧ base ≤ bd)
theorem aw_put {w0 V : World} {base bx k : Nat} (h : AwI w0 base bx k V) (hk : k < 4) : Calls Tryz.prog 64 #[xptr bx, .agg #[.int .u64 (awE k).hash, .int .i64 0, .int .i64 0, .int .i64 0], .int .i64 0] V (fun e w' => e = .returned (.tuple #[.bool false, .int .i64 0]) ∧ AwI w0 base bx (k + 1) w') := by
  obtain ⟨B, bd, y, x, t, N, hT, hN, ⟨hb, hg⟩, hB, hF, hbs⟩ := h
  have hE : goodE (awE k) := by
    refine ⟨?_, by simp [awE], by simp [awE], by simp [awE]⟩
    simp only [awE]; have := Nat.mod_lt k (show 0 < 2 by decide); omega
  have hsp : 0 ≤ (awR k).sp ∧ (awR k).sp + 8 ≤ 100000 := by
    rcases (by omega : k = 0 ∨ k = 1 ∨ k = 2 ∨ k = 3) with rfl | rfl | rfl | rfl
    · decide
    · rw [aw1]; decide
    · rw [aw2]; decide
    · rw [aw3]; decide
  have hR : putS 8 (bare t) x.depth (awR k).sp (awE k) 0 = awR (k + 1) := by rw [hb, hg]; rfl
  have hl : (awR (k + 1)).lost = false := by
    rcases (by omega : k = 0 ∨ k = 1 ∨ k = 2 ∨ k = 3) with rfl | rfl | rfl | rfl
    · rw [aw1]
    · rw [aw2]
    · rw [aw3]
    · rw [aw4]
  have hp := xput_ok hT (awE k) 0 hE hsp (by omega)
  rw [hR] at hp
  refine hp.mono ?_
  rintro e w' ⟨lost, err, rfl, F, ⟨rfl, rfl, y', x', t', N', hT', hN', hb', hx', -⟩ | ⟨_, ha, _⟩⟩
  · have hr := hT'.depth
    have h1 := refs_le t'
    rw [hT'.high] at h1
    have h2 : (2 : Nat) ^ x'.depth ≤ 2 ^ 3 := Nat.pow_le_pow_right (by decide) hr
    have h3 := refs_pos t
    refine ⟨by rw [hl], B, bd, y', x', t', N', hT', by omega, ⟨hb', hx'⟩, hB, ?_, hbs⟩
    exact hF.trans F fun b hb hs => by
      rcases hs with hs | hs | hs
      · have := hs.1; omega
      · omega
      · omega
  · cases ha
set_option maxHeartbeats 4000000 in
set_option maxRecDepth 100000 in
theorem awake17_ok (w : World) (hT : Tab w) : Calls Tryz.prog 69 #[] w fun e w' => e = .returned (.bool true) ∧ Fr (fun _ => False) w w' := by
  have HM := hid (made17_ok w hT)
  clear hT
  go_enter Tryz.func69, Tryz.ntmps69
  go_wp2_with fail
  refine HM.out.mono ?_
  rintro e w1 ⟨B, bx, bd, y, x, r, rfl, F1, ⟨hb1, hb2, hb3⟩, hI, hx, -⟩
  have HI := hid (show AwI w w.heap.size bx 0 w1 from ⟨B, bd, y, x, _, 3, hI, by omega, ⟨rfl, hx⟩, hb1, F1, ⟨rfl, hb2, hb3⟩⟩)
  clear F1 hb1 hb2 hb3 hI hx HM
  go_wp2_with fail
  go_loopg [4] 4 (fun n v wr => ∃ k : Nat, v = .int .i64 k ∧ n + k = 4 ∧ AwI w w.heap.size bx k wr)
  case atStart => exact ⟨0, rfl, rfl, HI.out⟩
  case round =>
    obtain ⟨k, rfl, hnk, hA⟩ := hrel
    have HA := hid hA
    clear hA
    rcases (by omega : k = 0 ∨ k = 1 ∨ k = 2 ∨ k = 3 ∨ k = 4) with rfl | rfl | rfl | rfl | rfl
    · have hp := aw_put HA.out (by omega)
      rw [awh0] at hp
      have HP := hid hp
      clear hp
      go_wp2_with fail
      refine HP.out.mono ?_
      rintro e V ⟨rfl, hA2⟩
      have HA2 := hid hA2
      clear hA2 HP
      go_wp2_with fail
      go_roundg 3
      case measure => omega
      case rel => exact ⟨1, by simp, by omega, HA2.out⟩
    · have hp := aw_put HA.out (by omega)
      rw [awh1] at hp
      have HP := hid hp
      clear hp
      go_wp2_with fail
      refine HP.out.mono ?_
      rintro e V ⟨rfl, hA2⟩
      have HA2 := hid hA2
      clear hA2 HP
      go_wp2_with fail
      go_roundg 2
      case measure => omega
      case rel => exact ⟨2, by simp, by omega, HA2.out⟩
    · have hp := aw_put HA.out (by omega)
      rw [awh2] at hp
      have HP := hid hp
      clear hp
      go_wp2_with fail
      refine HP.out.mono ?_
      rintro e V ⟨rfl, hA2⟩
      have HA2 := hid hA2
      clear hA2 HP
      go_wp2_with fail
      go_roundg 1
      case measure => omega
      case rel => exact ⟨3, by simp, by omega, HA2.out⟩
    · have hp := aw_put HA.out (by omega)
      rw [awh3] at hp
      have HP := hid hp
      clear hp
      go_wp2_with fail
      refine HP.out.mono ?_
      rintro e V ⟨rfl, hA2⟩
      have HA2 := hid hA2
      clear hA2 HP
      go_wp2_with fail
      go_roundg 0
      case measure => omega
      case rel => exact ⟨4, by simp, by omega, HA2.out⟩
    · obtain ⟨B', bd', y', x', t', N', hT', hN', ⟨hb', hx'⟩, hB', hF', hbs⟩ := HA.out
      have HE := hid (show hasB (entT t' x'.depth 9223372036854775809) 9223372036854775809 = true ∧ locV (atB (entT t' x'.depth 9223372036854775809) 9223372036854775809) = .agg #[.int .i64 0, .int .i64 0, .int .i64 0] by
        unfold entT
        rw [hb', hx', aw4]
        exact ⟨by decide +kernel, by kernel_rfl⟩)
      have hf := hT'.find (hash := 9223372036854775809) (by decide) (by omega)
      rw [show ((9223372036854775809 : Nat) : Int) = 9223372036854775809 by omega] at hf
      have HFi := hid hf
      clear hf
      have HH := hid (And.intro hF' (And.intro hB' (And.intro hbs hx')))
      clear hT' hN' hb' hx' hB' hF' hbs
      go_wp2_with fail
      refine HFi.out.mono ?_
      rintro e V ⟨c0, c1, c2, ok, err, rfl, F, ⟨rfl, hok, hc, hI⟩ | ⟨_, ha, _⟩⟩
      rotate_left
      · cases ha
      rw [HE.out.1] at hok
      rw [HE.out.2] at hc
      cases hc
      subst hok
      obtain ⟨V2, hV2⟩ : ∃ V2, V.alloc (.cells #[.int .i64 0, .int .i64 0, .int .i64 0] 116) = V2 := ⟨_, rfl⟩
      have F2 : Fr (fun _ => False) V V2 := by rw [← hV2]; exact (Fr.refl _ _).alloc _
      have b2 : V2.heap[V.heap.size]? = some (.cells #[.int .i64 0, .int .i64 0, .int .i64 0] 116) := by rw [← hV2]; exact heap_alloc_new _ _
      have HI2 := hid (hI.fr0 F2)
      obtain ⟨tops2, L2, hM2, -⟩ := HI2.out.ex
      have HDp := hid (fun W (F : Fr (fun _ => False) V2 W) => xdepth_ok (hM2.fr0 F).idx (hM2.fr0 F).dir)
      have HSp := hid (fun W (F : Fr (fun _ => False) V2 W) => xsplits_ok (hM2.fr0 F).idx)
      rw [HH.out.2.2.2, aw4] at HDp
      rw [aw4] at HSp
      obtain ⟨a0, a1, a2, az, al⟩ := cells3 b2
      have HV := hid hV2
      have HF := hid (And.intro F F2)
      clear hV2 F2 b2 hI F hM2
      go_upto_region 11 with fail
      rw [HV.out]
      go_wp2_with fail
      refine (HDp.out _ (Fr.refl _ _)).mono ?_
      rintro e V3 ⟨rfl, rfl⟩
      go_wp2_with fail
      refine (HSp.out _ (Fr.refl _ _)).mono ?_
      rintro e V4 ⟨rfl, rfl⟩
      have heq := eql116 0 0 0 0 0 0
      simp only [decide_true, Bool.and_self] at heq
      go_wp2_with fail
      refine bodyPost_ret (v := .bool true) (by simp [results, go_sem, *]) rfl ⟨rfl, ?_⟩
      have hb := HH.out.2.1
      have hbs := HH.out.2.2.1
      exact (FrI.fr0 (frB_frI (FrB.trans HF.out.1 (FrB.none HF.out.2))) (by omega) HH.out.1)
end Go.Proofs.YtgdhaaokolfdoaaGreatDoor

namespace Go.Proofs.YtgdhaaokolfdoaaGreatDoor
open Go.RowKit Go.Sg Go.Sg.Bits Go.Sg.Clk CP SF
theorem take_plI (es : List Bt) (h : Nat) : es.take (plI es h) = es.takeWhile fun e => decide (e.hash < h) := by
  unfold plI
  exact (List.prefix_iff_eq_take.1 (List.takeWhile_prefix _)).symm
theorem putB_form (es : List Bt) (x : Bt) (hs : SortedB es) : ∃ rest, putB es x = (es.takeWhile fun e => decide (e.hash < x.hash)) ++ x :: rest := by
  unfold putB
  split
  · rename_i hb
    obtain ⟨y, hy, -⟩ := (hasB_iff hs).1 hb
    have hlt := (List.getElem?_eq_some_iff.1 hy).1
    refine ⟨es.drop (plI es x.hash + 1), ?_⟩
    rw [← take_plI, List.set_eq_take_append_cons_drop, if_pos hlt]
  · exact ⟨es.drop (plI es x.hash), by unfold insB; rw [take_plI]⟩
theorem tw_all (l : List Bt) (p : Bt → Bool) (x : Bt) (rest : List Bt) (hx : p x = false) : (l.takeWhile p ++ x :: rest).takeWhile p = l.takeWhile p := by
  induction l with
  | nil => simp [hx]
  | cons y l ih =>
    rw [List.takeWhile_cons]
    split
    · rename_i hy; simp [hy, ih]
    · simp [hx]
theorem put_at (es : List Bt) (x : Bt) (hs : SortedB es) : hasB (putB es x) x.hash = true ∧ atB (putB es x) x.hash = some x := by
  obtain ⟨rest, hr⟩ := putB_form es x hs
  have h1 : hasB (putB es x) x.hash = true := by rw [hr]; unfold hasB; simp
  refine ⟨h1, ?_⟩
  unfold atB
  rw [if_pos h1]
  unfold plI
  rw [hr, tw_all _ _ _ _ (by simp)]
  simp
theorem mem_putB {es : List Bt} {x y : Bt} (h : y ∈ putB es x) : y ∈ es ∨ y = x := by
  unfold putB at h
  split at h
  · exact List.mem_or_eq_of_mem_set h
  · unfold insB at h
    rcases List.mem_append.1 h with h | h
    · exact .inl (List.mem_of_mem_take h)
    · rcases List.mem_cons.1 h with h | h
      · exact .inr h
      · exact .inl (List.mem_of_mem_drop h)
def staleE (es : List Bt) (x : Bt) : List Bt := if roomB es x.hash 3 = true then putB es x else putB [] x
theorem put_stale {es : List Bt} (x : Bt) (ho : ∀ e ∈ es, e.rg ≤ 1099511627776) : putS 8 (.leaf (0, 0) es) 0 0 x 1099511627777 = ⟨.leaf (0, 0) (staleE es x), 0, 0, false⟩ := by
  have hat : (Tr.leaf (0, 0) es).at_ 0 (preM x.hash 0) 0 0 = (0, 0, (0, 0), es) := rfl
  have h := putS_eq (f := 7) (t := .leaf (0, 0) es) (g := 0) (sp := 0) (E := x) (oldest := 1099511627777) hat rfl
  rw [show bare (.leaf (0, 0) es) = .leaf (0, 0) es from rfl] at h
  rw [h]
  have hf : freshE es x.hash 1099511627777 = if roomB es x.hash 3 = true then es else [] := by
    unfold freshE
    split
    · rfl
    · rw [List.filter_eq_nil_iff]
      intro e he
      simp [freshB]
      have := ho e he
      omega
  by_cases hr : roomB es x.hash 3 = true
  · rw [hf, if_pos hr, if_pos hr]
    unfold staleE
    rw [if_pos hr]
    rfl
  · rw [hf, if_neg hr, if_pos (by rfl)]
    unfold staleE
    rw [if_neg hr]
    rfl
theorem stale_mem {es : List Bt} {x : Bt} (ho : ∀ e ∈ es, e.rg ≤ 1099511627776) (hx : x.rg ≤ 1099511627776) : ∀ e ∈ staleE es x, e.rg ≤ 1099511627776 := by
  intro e he
  unfold staleE at he
  split at he
  · rcases mem_putB he with h | rfl
    · exact ho e h
    · exact hx
  · rcases mem_putB he with h | rfl
    · cases h
    · exact hx
theorem stale_at {es : List Bt} (x : Bt) (hs : SortedB es) : hasB (staleE es x) x.hash = true ∧ atB (staleE es x) x.hash = some x := by
  unfold staleE
  split
  · exact put_at es x hs
  · exact put_at [] x List.Pairwise.nil
def StI (w0 : World) (base bx k : Nat) (es : List Bt) (V : World) : Prop :=
  ∃ (B : Blk) (bd : Nat) (y : Cs) (x : DirD) (r : Rf) (N : Nat), IdxT V B bx bd y noP false N x (.leaf r es) 0 ∧ N ≤ 3 + 40 * k ∧ x.depth = 0 ∧ (∀ e ∈ es, e.rg ≤ 1099511627776) ∧ B.base = base ∧ Fr (fun _ => False) w0 V ∧ (base = w0.heap.size ∧ base ≤ bx ∧ base ≤ bd)
theorem stI_put {w0 V : World} {base bx k : Nat} {es : List Bt} (h : StI w0 base bx k es V) (E : Bt) (hE : goodE E) (hk : k ≤ 200) : Calls Tryz.prog 64 #[xptr bx, btV E, .int .i64 1099511627777] V (fun e w' => e = .returned (.tuple #[.bool false, .int .i64 0]) ∧ StI w0 base bx (k + 1) (staleE es E) w') := by
  obtain ⟨B, bd, y, x, r, N, hT, hN, hx, ho, hB, hF, hbs⟩ := h
  have hp := xput_ok hT E 1099511627777 hE (by decide) (by omega)
  rw [show bare (.leaf r es) = .leaf (0, 0) es from rfl, hx, put_stale E ho] at hp
  refine hp.mono ?_
  rintro e w' ⟨lost, err, rfl, F, ⟨rfl, rfl, y', x', t', N', hT', hN', hb', hx', -⟩ | ⟨_, ha, _⟩⟩
  · cases t' with
    | node l r => cases hb'
    | leaf r' es' =>
      cases hb'
      refine ⟨rfl, B, bd, y', x', r', N', hT', ?_, hx', stale_mem ho hE.2.1.2, hB, ?_, hbs⟩
      · simp only [Tr.refs, List.length_singleton] at hN'; omega
      · exact hF.trans F fun b hb hs => by
          rcases hs with hs | hs | hs
          · have := hs.1; omega
          · omega
          · omega
  · cases ha
theorem stI_find {w0 V : World} {base bx k : Nat} {es : List Bt} (h : StI w0 base bx k es V) {hash : Nat} (hh : hash < 18446744073709551616) (hk : k ≤ 200) : Calls Tryz.prog 66 #[xptr bx, .int .u64 hash] V (fun e w' => e = .returned (.tuple #[locV (atB es hash), .bool (hasB es hash), .int .i64 0]) ∧ StI w0 base bx (k + 1) es w') := by
  obtain ⟨B, bd, y, x, r, N, hT, hN, hx, ho, hB, hF, hbs⟩ := h
  refine (hT.find hh (by omega)).mono ?_
  rintro e w' ⟨c0, c1, c2, ok, err, rfl, F, ⟨rfl, h1, h2, hI⟩ | ⟨_, ha, _⟩⟩
  · have he : entT (.leaf r es) x.depth hash = es := rfl
    rw [he] at h1 h2
    exact ⟨by rw [h1, h2], B, bd, y, x, r, N + 3, hI, by omega, hx, ho, hB, FrI.fr0 (frB_frI F) (by omega) hF, hbs⟩
  · cases ha
theorem StI.sorted {w0 V : World} {base bx k : Nat} {es : List Bt} (h : StI w0 base bx k es V) : SortedB es := by
  obtain ⟨B, bd, y, x, r, N, hT, -⟩ := h
  exact hT.ok.2.1
theorem stI_depth {w0 V : World} {base bx k : Nat} {es : List Bt} (h : StI w0 base bx k es V) : Calls Tryz.prog 67 #[xptr bx] V (IntP 0 V) := by
  obtain ⟨B, bd, y, x, r, N, hT, hN, hx, -⟩ := h
  obtain ⟨tops, L, hM, -⟩ := hT.ex
  have := xdepth_ok hM.idx hM.dir
  rw [hx] at this
  exact this
theorem stI_splits {w0 V : World} {base bx k : Nat} {es : List Bt} (h : StI w0 base bx k es V) : Calls Tryz.prog 68 #[xptr bx] V (IntP 0 V) := by
  obtain ⟨B, bd, y, x, r, N, hT, -⟩ := h
  obtain ⟨tops, L, hM, -⟩ := hT.ex
  exact xsplits_ok hM.idx
theorem StI.fr0 {w0 V V' : World} {base bx k : Nat} {es : List Bt} (h : StI w0 base bx k es V) (F : Fr (fun _ => False) V V') : StI w0 base bx k es V' := by
  obtain ⟨B, bd, y, x, r, N, hT, h1, h2, h3, h4, h5, h6⟩ := h
  exact ⟨B, bd, y, x, r, N, hT.fr0 F, h1, h2, h3, h4, h5.trans F (fun _ _ h => h), h6⟩
end Go.Proofs.YtgdhaaokolfdoaaGreatDoor
