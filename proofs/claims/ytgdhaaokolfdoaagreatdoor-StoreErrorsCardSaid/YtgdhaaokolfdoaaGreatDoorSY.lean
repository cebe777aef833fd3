/- StoreErrors: what Read and Write tell of a page and a stamp. Conditions: the store lies in the world as StoreAt says, with one page. -/
import Derived.Test.YtgdhaaokolfdoaaGreatDoorSX
import Derived.Test.YtgdhaaokolfdoaaGreatDoorAX
namespace Go.Proofs.YtgdhaaokolfdoaaGreatDoor
open Go.RowKit Go.Sg Go.Sg.Bits Go.Sg.Clk CP SF
/-- A store of 48 pages on a device never written, the first of which was made. -/
structure One (x : Sto) (p1 : Pg) : Prop where
  pages : x.pages = 48
  room : x.room = 77
  gen : x.gen = 1
  places : x.places = 8
  t0 : x.taken 0 = true
  t1 : ∀ i, 1 ≤ i → x.taken i = false
  f0 : x.fresh 0 = true
  m0 : x.mem 0 = some p1
  m1 : ∀ k, k ≠ 0 → x.mem k = none
  de : x.dead 0 = false
  dy : x.dying 0 = false
  st : p1.stamp = 1
  dev : x.dev = Dev.fresh 60 96
def wantR (page stamp : Int) : Int := if page < 0 ∨ 48 ≤ page then 2 else if page = 0 ∧ stamp = 1 then 0 else 5
def wantW (page : Int) (ll : Nat) : Int := if 77 < ll then 9 else if page < 0 ∨ 48 ≤ page then 2 else if page = 0 then 0 else 7
def RdPost (B : Blk) (x : Sto) (v : Int) (w : World) (e : Ending) (w' : World) : Prop :=
  ∃ a n c, e = .returned (.tuple #[.slice a n c, .int .i64 v]) ∧ StoreAt w' B x ∧ FrB B.base w w'
theorem err_read {w : World} {B : Blk} {x : Sto} {p1 : Pg} (h : StoreAt w B x) (h1 : One x p1) (page stamp : Int) :
    Calls Tryz.prog 24 #[B.ptr, .agg #[.int .i64 page, .int .i64 stamp]] w (RdPost B x (wantR page stamp) w) := by
  by_cases hr : page < 0 ∨ 48 ≤ page
  · rw [wantR, if_pos hr]
    exact (read_range h page stamp (by rw [h1.pages]; exact hr)).mono fun e w' ⟨he, hF⟩ => ⟨none, 0, 0, he, h.fr0 hF, FrB.none hF⟩
  · rw [wantR, if_neg hr]
    by_cases hp : page = 0
    · subst hp
      obtain ⟨bs, hb, _⟩ := h.load 0 p1 h1.m0
      refine (read_hit h 0 stamp (by omega) (by rw [h1.pages]; omega) h1.m0 hb).mono fun e w' ⟨he, hS, hF⟩ => ?_
      by_cases hs : stamp = 1
      · rw [if_pos ⟨rfl, hs⟩]
        rw [if_pos (by rw [h1.st, hs])] at he
        obtain ⟨a, c, he, _⟩ := he
        exact ⟨a, _, c, he, hS, hF⟩
      · rw [if_neg (fun e => hs e.2)]
        rw [if_neg (by rw [h1.st]; exact fun e => hs e.symm)] at he
        exact ⟨none, 0, 0, he, hS, hF⟩
    · rw [if_neg (fun e => hp e.1)]
      refine (read_zero h page stamp (by omega) (by rw [h1.pages]; omega) (h1.m1 page hp) (by rw [h1.dev]; rfl) (by rw [h1.dev]; intro y hy; cases hy) (by rw [h1.dev]; exact Nat.zero_le _) (by rw [h1.dev]; rfl)).mono fun e w' ⟨he, hS, hF⟩ => ⟨none, 0, 0, he, hS, hF⟩
/-- What stands behind the write. -/
structure One' (x : Sto) : Prop where
  pages : x.pages = 48
  t0 : x.taken 0 = true
  f0 : x.fresh 0 = true
  de : x.dead 0 = false
  dy : x.dying 0 = false
def WrPost (B : Blk) (v : Int) (w : World) (e : Ending) (w' : World) : Prop :=
  ∃ a b x', e = .returned (.tuple #[.agg #[.int .i64 a, .int .i64 b], .int .i64 v]) ∧ StoreAt w' B x' ∧ One' x' ∧ FrB B.base w w'
theorem err_write {w : World} {B : Blk} {x : Sto} {p1 : Pg} (h : StoreAt w B x) (h1 : One x p1) (page stamp : Int) {la : Option Addr} {ll lc : Nat} {bs : List Int} (hin : Inp w B la ll lc bs) :
    Calls Tryz.prog 26 #[B.ptr, .agg #[.int .i64 page, .int .i64 stamp], .slice la ll lc] w (WrPost B (wantW page ll) w) := by
  have o : One' x := ⟨h1.pages, h1.t0, h1.f0, h1.de, h1.dy⟩
  by_cases hl : 77 < ll
  · rw [wantW, if_pos hl]
    exact (write_long h page stamp la ll lc (by rw [h1.room]; exact hl)).mono fun e w' ⟨he, hF⟩ => ⟨0, 0, x, he, h.fr0 hF, o, FrB.none hF⟩
  · rw [wantW, if_neg hl]
    have hl' : ll ≤ x.room := by rw [h1.room]; omega
    by_cases hr : page < 0 ∨ 48 ≤ page
    · rw [if_pos hr]
      exact (write_range h page stamp la ll lc hl' (by rw [h1.pages]; exact hr)).mono fun e w' ⟨he, hF⟩ => ⟨0, 0, x, he, h.fr0 hF, o, FrB.none hF⟩
    · rw [if_neg hr]
      by_cases hp : page = 0
      · subst hp
        rw [if_pos rfl]
        have H := wfresh_room h 0 stamp hin hl' (by rw [h1.pages]; omega) h1.t0 h1.f0 (.inl (by rw [show x.mem ((0 : Nat) : Int) = some p1 from h1.m0]; rfl))
        exact H.mono fun e w' ⟨p, he, hS, _, hF⟩ => ⟨_, _, _, he, hS, ⟨h1.pages, h1.t0, h1.f0, h1.de, h1.dy⟩, hF⟩
      · rw [if_neg hp]
        obtain ⟨n, rfl⟩ := Int.eq_ofNat_of_zero_le (show 0 ≤ page by omega)
        exact (write_none h n stamp la ll lc hl' (by rw [h1.pages]; omega) (h1.t1 n (by omega))).mono fun e w' ⟨he, hF⟩ => ⟨0, 0, x, he, h.fr0 hF, o, FrB.none hF⟩
theorem err_cases (page stamp : Int) (ll : Nat) : ∃ vr vw, wantR page stamp = vr ∧ wantW page ll = vw ∧
      (77 < ll ∧ vw = 9 ∧ ((page < 0 ∧ vr = 2) ∨ (¬ page < 0 ∧ 48 ≤ page ∧ vr = 2) ∨ (page = 0 ∧ stamp = 1 ∧ vr = 0) ∨ (page = 0 ∧ stamp ≠ 1 ∧ vr = 5) ∨ (¬ page < 0 ∧ ¬ 48 ≤ page ∧ page ≠ 0 ∧ vr = 5)) ∨
       ll ≤ 77 ∧ ((page < 0 ∧ vr = 2 ∧ vw = 2) ∨ (¬ page < 0 ∧ 48 ≤ page ∧ vr = 2 ∧ vw = 2) ∨ (page = 0 ∧ stamp = 1 ∧ vr = 0 ∧ vw = 0) ∨ (page = 0 ∧ stamp ≠ 1 ∧ vr = 5 ∧ vw = 0) ∨ (¬ page < 0 ∧ ¬ 48 ≤ page ∧ page ≠ 0 ∧ vr = 5 ∧ vw = 7))) := by
  refine ⟨_, _, rfl, rfl, ?_⟩
  unfold wantR wantW
  by_cases h1 : 77 < ll
  · refine .inl ⟨h1, by rw [if_pos h1], ?_⟩
    split <;> (try split) <;> omega
  · refine .inr ⟨by omega, ?_⟩
    rw [if_neg h1]
    split <;> (try split) <;> (try split) <;> omega
set_option maxHeartbeats 4000000 in
set_option maxRecDepth 100000 in
/-- StoreErrors where the load is not too long to be asked. -/
theorem errors_in (page stamp : Int) (la : Option Addr) (ll lc : Nat) (bs : List Int) (w : World) (hT : Tab w) (hsl : SlB w la ll lc bs) (hlb : ∀ b off, la = some ⟨b, off, none⟩ → b < w.heap.size) (hll : ll ≤ 200) :
    Calls Tryz.prog 4 #[.int .i64 page, .int .i64 stamp, .slice la ll lc] w fun e w' => e = .returned (.bool true) ∧ Fr (fun _ => False) w w' := by
  have hT0 := hT.lt
  have HT := hid hT
  have H20 := hid (flashnew_ok 60 96 (by omega) (by omega) w)
  have HSL := hid (And.intro hsl hlb)
  clear hT hsl hlb
  have kc := fun (W : World) (C : Array Value) (n c g : Nat) (hg : g = W.heap.size) => Joins.run_convert_bytes_const_at (P := Tryz.prog) W 22 5 C n c g hg Tryz.underlying22 Tryz.underlying5
  go_enter Tryz.func4, Tryz.ntmps4
  go_wp2_with fail
  refine H20.out.mono ?_
  rintro e w1 ⟨rfl, hD, F1⟩
  have HD := hid hD
  have HF1 := hid F1
  clear hD F1
  go_wp2_with fail
  refine (small13_ok _).mono ?_
  rintro e w2 ⟨rfl, F2⟩
  have HF2 := hid (HF1.out.trans F2 (fun _ _ h => h))
  have HD2 := hid (HD.out.fr F2 (fun h => h) (fun h => h) (fun h => h) (fun _ _ _ _ _ h => h))
  clear F2
  go_wp2_with fail
  have H19 : Calls Tryz.prog 19 #[.pointer (some ⟨w.heap.size + 2, 0, none⟩), small13.val] w2 (OpenPost w.heap.size (w.heap.size + 2) w.heap.size (w.heap.size + 1) small13 0 (Dev.fresh 60 96) w2) :=
    format_ok HD2.out HF2.out.size 3 2 4 2 8 0 small13_fits
  refine H19.mono ?_
  rintro e w3 ⟨B, hB, rfl, hS, F3⟩
  have HF3 := hid (HF2.out.trans F3 (fun _ _ h => h))
  have HB := hid hB.1
  have HS := hid hS
  clear hB hS F3 H19
  -- the first page
  obtain ⟨w4, hw4⟩ : ∃ w4, w3.alloc (.cells #[.int .u8 97] 5 (1, 2)) = w4 := ⟨_, rfl⟩
  have F4 : Fr (fun _ => False) w3 w4 := by rw [← hw4]; exact (Fr.refl _ _).alloc _
  have hin := inp_one w3 B 97
  rw [hw4] at hin
  have hbase : B.base = w.heap.size := HB.out
  have H22 := hid (new_room (HS.out.fr0 F4) (HT.out.fr (HF3.out.trans F4 (fun _ _ h => h)) (fun h => h)) (by omega) hin (show 1 ≤ 77 by omega) (j := 0) (show 0 < 48 by omega) rfl ⟨[], (fun k hk => by cases hk), (show 0 < 8 by omega)⟩)
  have HBase := hid hbase
  have HW4 := hid hw4
  have HF4 := hid (HF3.out.trans F4 (fun _ _ h => h))
  clear hw4 F4 hin hbase
  go_wp2_with fail
  rw [HW4.out]
  refine H22.out.mono ?_
  rintro e w5 ⟨n, p1, hn, he, hS, hp, F5⟩
  obtain rfl : n = 0 := take_first hn (k := 0) (Nat.le_refl _) (show 0 < 48 by omega) rfl (fun j h1 h2 => by omega)
  have he' : e = .returned (.tuple #[.agg #[.int .i64 0, .int .i64 1], .int .i64 0]) := he
  clear he
  subst he'
  obtain ⟨x1, hx1⟩ : ∃ x1, ({ tk (openX small13 0 (Dev.fresh 60 96)) 0 with mem := updM (openX small13 0 (Dev.fresh 60 96)).mem (0 : Nat) (some p1) } : Sto) = x1 := ⟨_, rfl⟩
  rw [hx1] at hS
  have f1 : One x1 p1 := by
    rw [← hx1]
    refine ⟨rfl, rfl, rfl, rfl, rfl, fun i hi => ?_, rfl, rfl, fun k hk => ?_, rfl, rfl, hp.1, rfl⟩
    · have : ¬ i = 0 := by omega
      simp [tk, upd, openX, this]
    · simp [updM, openX, hk]
  have HX1 := hid f1
  have G5 := hid ((FrB.none (base := B.base) HF4.out).trans F5)
  obtain ⟨w6, hw6⟩ : ∃ w6, w5.alloc (.cells #[.int .i64 0, .int .i64 1] 35) = w6 := ⟨_, rfl⟩
  have F6 : Fr (fun _ => False) w5 w6 := by rw [← hw6]; exact (Fr.refl _ _).alloc _
  have ba : w6.heap[w5.heap.size]? = some (.cells #[.int .i64 0, .int .i64 1] 35) := by rw [← hw6]; exact heap_alloc_new _ _
  have HBA := hid ba
  have G6 := hid (G5.out.trans (FrB.none F6))
  have HS6 := hid (hS.fr0 F6)
  have HRD := hid (err_read (hS.fr0 F6) f1 page stamp)
  have HW6 := hid hw6
  clear hx1 hS F5 F6 hp hn f1 hw6 ba
  -- which page, which stamp
  have hll2 : (ll : Int) ≤ 200 := by omega
  obtain ⟨vr, vw, eR, eW, hcase⟩ := err_cases page stamp ll
  rw [eR] at HRD
  have HWF := hid (fun W (h : StoreAt W B x1) (hin : Inp W B la ll lc bs) => show Calls Tryz.prog 26 #[B.ptr, .agg #[.int .i64 page, .int .i64 stamp], .slice la ll lc] W (WrPost B vw W) from by
    have := err_write h HX1.out page stamp hin
    rw [eW] at this
    exact this)
  clear eR eW
  rcases hcase with ⟨hl, rfl, hcase⟩ | ⟨hl, hcase⟩
  · rcases hcase with ⟨h1, rfl⟩ | ⟨h1, h2, rfl⟩ | ⟨rfl, rfl, rfl⟩ | ⟨rfl, h2, rfl⟩ | ⟨h1, h2, h3, rfl⟩
    all_goals
      go_wp2_with fail
      rw [HW6.out]
      refine HRD.out.mono ?_
      rintro e w7 ⟨ra, rn, rc, rfl, hS7, F7⟩
      have G7 := hid (G6.out.trans F7)
      have HBA7 := hid (F7.heap HBA.out (by decide))
      have hin7 : Inp w7 B la ll lc bs := ⟨⟨HSL.out.1.by_.fr G7.out (fun b off e hb hs => by have h3 := HSL.out.2 b off e; have h4 := HBase.out; have h5 := hs.1; omega), HSL.out.1.at_⟩, fun b off e => .inl (by have h3 := HSL.out.2 b off e; have h4 := HBase.out; omega)⟩
      have HWR := hid (HWF.out w7 hS7 hin7)
      clear hS7 F7 hin7
      go_wp2_with fail
      refine HWR.out.mono ?_
      rintro e w8 ⟨wa, wb, x2, rfl, hS8, o8, F8⟩
      obtain ⟨w9, hw9⟩ : ∃ w9, w8.alloc (.cells #[.int .i64 wa, .int .i64 wb] 35) = w9 := ⟨_, rfl⟩
      have F9 : Fr (fun _ => False) w8 w9 := by rw [← hw9]; exact (Fr.refl _ _).alloc _
      have G9 := hid ((G7.out.trans F8).trans (FrB.none F9))
      have HBA9 := hid (F9.heap (F8.heap HBA7.out (by decide)) (fun h => h))
      have HS9 := hid (hS8.fr0 F9)
      have HO := hid o8
      have HW9 := hid hw9
      clear hw9 F9 F8 hS8 o8
      go_wp2_with fail
      rw [HW9.out]
      obtain ⟨k0, k1, kz, kl⟩ := cells2 HBA9.out
      have HFR1 := hid (fun W (F : Fr (fun _ => False) w9 W) => show Calls Tryz.prog 27 #[B.ptr, .agg #[.int .i64 0, .int .i64 1]] W (fun e W' => e = .returned (.int .i64 0) ∧ StoreAt W' B (goneX x2 0) ∧ FrB B.base w9 W') from
        (free_ok (HS9.out.fr0 F) 0 1 (by rw [HO.out.pages]; omega) HO.out.t0 HO.out.dy HO.out.de).mono (fun e W' ⟨he, hS, F'⟩ => ⟨he, hS, (FrB.none F).trans F'⟩))
      have hx3 : (goneX x2 0).pages = 48 ∧ (goneX x2 0).taken 0 = false := by
        rw [goneX, if_pos (show x2.fresh ((0 : Nat) : Int) = true from HO.out.f0)]
        exact ⟨HO.out.pages, rfl⟩
      generalize goneX x2 0 = x3 at HFR1 hx3
      have HX3 := hid hx3
      clear hx3
      go_region_held3 (fun W => W.cell? ⟨w5.heap.size, 0, none⟩ = some (.int .i64 0) ∧ W.cell? ⟨w5.heap.size, 1, none⟩ = some (.int .i64 1)) (go_keep)
        (first
          | (go_at_call 27; refine (HFR1.out _ (by first | exact Fr.refl _ _ | exact (Fr.refl _ _).drew)).mono ?_; clear HFR1; rintro e w10 ⟨rfl, hS10, F10⟩; obtain ⟨k0, k1, kz, kl⟩ := cells2 (F10.heap HBA9.out (by decide)); have H10 := hid (And.intro hS10 (And.intro F10 (F10.heap HBA9.out (by decide)))); clear hS10 F10)
          | (go_at_call 27; refine ((show Calls Tryz.prog 27 #[B.ptr, .agg #[.int .i64 0, .int .i64 1]] w10 (fun e W' => e = .returned (.int .i64 7) ∧ Fr (fun _ => False) w10 W') from free_none H10.out.1 0 1 (by rw [HX3.out.1]; omega) HX3.out.2)).mono ?_; rintro e w11 ⟨rfl, F11⟩; obtain ⟨k0, k1, kz, kl⟩ := cells2 (F11.heap H10.out.2.2 (fun h => h)); have H11 := hid F11; clear F11))
      have hS11 := H10.out.1.fr0 H11.out
      have HBA11 := hid (H11.out.heap H10.out.2.2 (fun h => h))
      have G11 := hid ((G9.out.trans H10.out.2.1).trans (FrB.none H11.out))
      have HM1 := hid (show Calls Tryz.prog 28 #[B.ptr, .agg #[.int .i64 0, .int .i64 1]] w11 (fun e W' => e = .returned (.int .i64 0) ∧ StoreAt W' B { x3 with taken := upd x3.taken 0 true } ∧ FrB B.base w11 W') from mark_free hS11 0 1 (by rw [HX3.out.1]; omega) HX3.out.2)
      clear hS11
      go_wp2_with fail
      refine HM1.out.mono ?_
      rintro e w12 ⟨rfl, hS12, F12⟩
      obtain ⟨k0, k1, kz, kl⟩ := cells2 (F12.heap HBA11.out (by decide))
      have G12 := hid (G11.out.trans F12)
      have HM2 := hid (show Calls Tryz.prog 28 #[B.ptr, .agg #[.int .i64 0, .int .i64 1]] w12 (fun e W' => e = .returned (.int .i64 8) ∧ Fr (fun _ => False) w12 W') from mark_taken hS12 0 1 (show 0 < x3.pages by rw [HX3.out.1]; omega) rfl)
      clear hS12 F12
      go_wp2_with fail
      refine HM2.out.mono ?_
      rintro e w13 ⟨rfl, F13⟩
      have G13 := G12.out.trans (FrB.none F13)
      rw [HBase.out] at G13
      have F14 := (Fr.refl (fun _ => False) w).trans G13 (fun b hb h => absurd h.1 (by omega))
      have HA := hid (awake13_ok w13 (HT.out.fr F14 (fun h => h)))
      have HF14 := hid F14
      clear F13 G13 F14 k0 k1 kz kl
      go_wp2_with fail
      refine HA.out.mono ?_
      rintro e w15 ⟨rfl, F15⟩
      go_wp2
      go_ret
      exact ⟨rfl, HF14.out.trans F15 (fun _ _ h => h)⟩
  · rcases hcase with ⟨h1, rfl, rfl⟩ | ⟨h1, h2, rfl, rfl⟩ | ⟨rfl, rfl, rfl, rfl⟩ | ⟨rfl, h2, rfl, rfl⟩ | ⟨h1, h2, h3, rfl, rfl⟩
    all_goals
      go_wp2_with fail
      rw [HW6.out]
      refine HRD.out.mono ?_
      rintro e w7 ⟨ra, rn, rc, rfl, hS7, F7⟩
      have G7 := hid (G6.out.trans F7)
      have HBA7 := hid (F7.heap HBA.out (by decide))
      have hin7 : Inp w7 B la ll lc bs := ⟨⟨HSL.out.1.by_.fr G7.out (fun b off e hb hs => by have h3 := HSL.out.2 b off e; have h4 := HBase.out; have h5 := hs.1; omega), HSL.out.1.at_⟩, fun b off e => .inl (by have h3 := HSL.out.2 b off e; have h4 := HBase.out; omega)⟩
      have HWR := hid (HWF.out w7 hS7 hin7)
      clear hS7 F7 hin7
      go_wp2_with fail
      refine HWR.out.mono ?_
      rintro e w8 ⟨wa, wb, x2, rfl, hS8, o8, F8⟩
      obtain ⟨w9, hw9⟩ : ∃ w9, w8.alloc (.cells #[.int .i64 wa, .int .i64 wb] 35) = w9 := ⟨_, rfl⟩
      have F9 : Fr (fun _ => False) w8 w9 := by rw [← hw9]; exact (Fr.refl _ _).alloc _
      have G9 := hid ((G7.out.trans F8).trans (FrB.none F9))
      have HBA9 := hid (F9.heap (F8.heap HBA7.out (by decide)) (fun h => h))
      have HS9 := hid (hS8.fr0 F9)
      have HO := hid o8
      have HW9 := hid hw9
      clear hw9 F9 F8 hS8 o8
      go_wp2_with fail
      rw [HW9.out]
      obtain ⟨k0, k1, kz, kl⟩ := cells2 HBA9.out
      have HFR1 := hid (fun W (F : Fr (fun _ => False) w9 W) => show Calls Tryz.prog 27 #[B.ptr, .agg #[.int .i64 0, .int .i64 1]] W (fun e W' => e = .returned (.int .i64 0) ∧ StoreAt W' B (goneX x2 0) ∧ FrB B.base w9 W') from
        (free_ok (HS9.out.fr0 F) 0 1 (by rw [HO.out.pages]; omega) HO.out.t0 HO.out.dy HO.out.de).mono (fun e W' ⟨he, hS, F'⟩ => ⟨he, hS, (FrB.none F).trans F'⟩))
      have hx3 : (goneX x2 0).pages = 48 ∧ (goneX x2 0).taken 0 = false := by
        rw [goneX, if_pos (show x2.fresh ((0 : Nat) : Int) = true from HO.out.f0)]
        exact ⟨HO.out.pages, rfl⟩
      generalize goneX x2 0 = x3 at HFR1 hx3
      have HX3 := hid hx3
      clear hx3
      go_region_held3 (fun W => W.cell? ⟨w5.heap.size, 0, none⟩ = some (.int .i64 0) ∧ W.cell? ⟨w5.heap.size, 1, none⟩ = some (.int .i64 1)) (go_keep)
        (first
          | (go_at_call 27; refine (HFR1.out _ (by first | exact Fr.refl _ _ | exact (Fr.refl _ _).drew)).mono ?_; clear HFR1; rintro e w10 ⟨rfl, hS10, F10⟩; obtain ⟨k0, k1, kz, kl⟩ := cells2 (F10.heap HBA9.out (by decide)); have H10 := hid (And.intro hS10 (And.intro F10 (F10.heap HBA9.out (by decide)))); clear hS10 F10)
          | (go_at_call 27; refine ((show Calls Tryz.prog 27 #[B.ptr, .agg #[.int .i64 0, .int .i64 1]] w10 (fun e W' => e = .returned (.int .i64 7) ∧ Fr (fun _ => False) w10 W') from free_none H10.out.1 0 1 (by rw [HX3.out.1]; omega) HX3.out.2)).mono ?_; rintro e w11 ⟨rfl, F11⟩; obtain ⟨k0, k1, kz, kl⟩ := cells2 (F11.heap H10.out.2.2 (fun h => h)); have H11 := hid F11; clear F11))
      have hS11 := H10.out.1.fr0 H11.out
      have HBA11 := hid (H11.out.heap H10.out.2.2 (fun h => h))
      have G11 := hid ((G9.out.trans H10.out.2.1).trans (FrB.none H11.out))
      have HM1 := hid (show Calls Tryz.prog 28 #[B.ptr, .agg #[.int .i64 0, .int .i64 1]] w11 (fun e W' => e = .returned (.int .i64 0) ∧ StoreAt W' B { x3 with taken := upd x3.taken 0 true } ∧ FrB B.base w11 W') from mark_free hS11 0 1 (by rw [HX3.out.1]; omega) HX3.out.2)
      clear hS11
      go_wp2_with fail
      refine HM1.out.mono ?_
      rintro e w12 ⟨rfl, hS12, F12⟩
      obtain ⟨k0, k1, kz, kl⟩ := cells2 (F12.heap HBA11.out (by decide))
      have G12 := hid (G11.out.trans F12)
      have HM2 := hid (show Calls Tryz.prog 28 #[B.ptr, .agg #[.int .i64 0, .int .i64 1]] w12 (fun e W' => e = .returned (.int .i64 8) ∧ Fr (fun _ => False) w12 W') from mark_taken hS12 0 1 (show 0 < x3.pages by rw [HX3.out.1]; omega) rfl)
      clear hS12 F12
      go_wp2_with fail
      refine HM2.out.mono ?_
      rintro e w13 ⟨rfl, F13⟩
      have G13 := G12.out.trans (FrB.none F13)
      rw [HBase.out] at G13
      have F14 := (Fr.refl (fun _ => False) w).trans G13 (fun b hb h => absurd h.1 (by omega))
      have HA := hid (awake13_ok w13 (HT.out.fr F14 (fun h => h)))
      have HF14 := hid F14
      clear F13 G13 F14 k0 k1 kz kl
      go_wp2_with fail
      refine HA.out.mono ?_
      rintro e w15 ⟨rfl, F15⟩
      go_wp2
      go_ret
      exact ⟨rfl, HF14.out.trans F15 (fun _ _ h => h)⟩
set_option maxRecDepth 100000 in
theorem storeErrors_walk (page stamp : Int) (la : Option Addr) (ll lc : Nat) (bs : List Int) (w : World) (hT : Tab w) (hsl : SlB w la ll lc bs) (hlb : ∀ b off, la = some ⟨b, off, none⟩ → b < w.heap.size) :
    Calls Tryz.prog 4 #[.int .i64 page, .int .i64 stamp, .slice la ll lc] w fun e w' => e = .returned (.bool true) ∧ Fr (fun _ => False) w w' := by
  by_cases h : ll ≤ 200
  · exact errors_in page stamp la ll lc bs w hT hsl hlb h
  · have h' : (200 : Int) < (ll : Int) := by omega
    go_enter Tryz.func4, Tryz.ntmps4
    go_wp2
    go_ret
    exact ⟨rfl, Fr.refl _ _⟩
end Go.Proofs.YtgdhaaokolfdoaaGreatDoor
