/- A pack of texts: BKX, XDR, IK0, IK1. Conditions: those that each text names. -/
import Derived.Test.YtgdhaaokolfdoaaGreatDoorJCH
import Derived.Test.YtgdhaaokolfdoaaGreatDoorJCJ
import Derived.Test.YtgdhaaokolfdoaaGreatDoorJCK
set_option linter.unusedVariables false
set_option linter.unusedSimpArgs false
set_option linter.unnecessarySimpa false
namespace Go.Proofs.YtgdhaaokolfdoaaGreatDoor
open Go.RowKit Go.Sg CP SF
def drB (es : List Bt) (h : Nat) : List Bt := if hasB es h = true then es.eraseIdx (plI es h) else es
def DropP (d p : Int) (es : List Bt) (h : Nat) (w : World) (e : Ending) (w' : World) : Prop :=
  ∃ a c, e = .returned (.tuple #[bkV d p (.slice a (drB es h).length c), .bool (hasB es h)]) ∧ OwnE w' w.heap.size (.slice a (drB es h).length c) (drB es h) ∧ Fr (fun _ => False) w w'
set_option maxHeartbeats 8000000 in
set_option maxRecDepth 100000 in
theorem bdrop_ok {w : World} {v : Value} {es : List Bt} (hE : OwnE w 0 v es) (hs : SortedB es) (hl : es.length ≤ 254) (d p : Int) (h : Nat) :
    Calls Tryz.prog 139 #[bkV d p v, .int .u64 h] w (DropP d p es h w) := by
  obtain ⟨va, vc, rfl, -, -, -, -⟩ := own_slice hE
  obtain ⟨n, hn⟩ : ∃ n, es.length = n := ⟨_, rfl⟩
  obtain ⟨w1, hw1⟩ : ∃ w1, (w.alloc (.cells #[.int .i64 d, .int .i64 p, .slice va n vc] 129)).alloc (.cells #[.int .i64 0, .int .i64 0, .slice none 0 0] 129) = w1 := ⟨_, rfl⟩
  obtain ⟨b0, b1, F1⟩ := heap_two hw1
  have HB := hid (fun W (F : Fr (fun _ => False) w1 W) => And.intro (cells3 (F.heap b0 (fun h => h))) (cells3 (F.heap b1 (fun h => h))))
  have hE1 := own_none hE F1
  have HPl := hid (place_ok hE1 hs (by omega) d p h)
  have HCl := hid (fun W (F : Fr (fun _ => False) w1 W) => clone_e_ok (own_none hE1 F) (by omega))
  have HF1 := hid F1
  have HN := hid hn
  have HL := hid hl
  have HSo := hid hs
  have hsz : w1.heap.size = w.heap.size + 2 := by rw [← hw1]; simp
  have HSz := hid hsz
  obtain ⟨⟨x0, x1, x2, xz, xl⟩, ⟨y0, y1, y2, yz, yl⟩⟩ := HB.out _ (Fr.refl _ _)
  have HW := hid hw1
  rw [hn] at HPl HCl ⊢
  clear hw1 b0 b1 F1 hE hs hl hn hsz hE1
  obtain ⟨q, hq⟩ : ∃ q, plI es h = q := ⟨_, rfl⟩
  obtain ⟨hb, hhb⟩ : ∃ b, hasB es h = b := ⟨_, rfl⟩
  have HPl' := hid (show Calls Tryz.prog 199 #[bkV d p (.slice va n vc), .int .u64 h] w1 (fun e w' => e = .returned (.tuple #[.int .i64 q, .bool hb]) ∧ Fr (fun _ => False) w1 w') from HPl.out.mono fun e w' hp => ⟨by rw [hp.1, hq, hhb], hp.2⟩)
  have HQ := hid (And.intro hq hhb)
  clear HPl hq hhb
  go_enter Tryz.func139, Tryz.ntmps139
  go_upto_region 1 with fail
  rw [HW.out]
  go_wp2_with fail
  refine HPl'.out.mono ?_
  rintro e W2 ⟨rfl, F2⟩
  have HF2 := hid F2
  clear x0 x1 x2 xz xl y0 y1 y2 yz yl F2
  obtain ⟨⟨x0, x1, x2, xz, xl⟩, ⟨y0, y1, y2, yz, yl⟩⟩ := HB.out _ HF2.out
  go_wp2_with fail
  refine (HCl.out _ HF2.out).mono ?_
  rintro e W3 ⟨v3, rfl, hown3, F3⟩
  obtain ⟨a3, c3, rfl, -, -, -, -⟩ := own_slice hown3
  have hs2 : w.heap.size + 2 ≤ W2.heap.size := by have := HSz.out; have := HF2.out.size; omega
  have HS2 := hid hs2
  have H3 := hid (And.intro hown3 (HF2.out.trans F3 (fun _ _ h => h)))
  clear hown3 F3 x0 x1 x2 xz xl y0 y1 y2 yz yl hs2
  obtain ⟨⟨x0, x1, x2, xz, xl⟩, ⟨y0, y1, y2, yz, yl⟩⟩ := HB.out _ H3.out.2
  rw [HN.out]
  have FS : ∀ (W : World) (o : Nat) (u : Value), Fr (fun b => b = w.heap.size + 1) W (W.setCell ⟨w.heap.size + 1, o, none⟩ u) := fun W o u => (Fr.refl (fun b => b = w.heap.size + 1) _).setCell (a := ⟨w.heap.size + 1, o, none⟩) (fun _ => rfl) u
  have HFS := hid FS
  clear FS
  cases hb with
  | false =>
    have hP : drB es h = es := by unfold drB; rw [HQ.out.2, if_neg (by decide)]
    have HP := hid hP
    clear hP
    go_wp2_with fail
    refine (with_ok d p va n vc a3 n c3 _).mono ?_
    rintro e W6 ⟨rfl, F6⟩
    have H6 := hid (And.intro F6 (H3.out.2.trans F6 (fun _ _ h => h)))
    clear F6 x0 x1 x2 xz xl y0 y1 y2 yz yl
    obtain ⟨⟨x0, x1, x2, xz, xl⟩, ⟨y0, y1, y2, yz, yl⟩⟩ := HB.out _ H6.out.2
    go_wp2_with fail
    refine bodyPost_ret (v := .tuple #[bkV d p (.slice a3 n c3), .bool false]) (by simp [results, go_sem, *]) rfl ⟨a3, c3, by rw [HP.out, HQ.out.2, HN.out], ?_, ?_⟩
    · rw [HP.out]
      exact own_fr1 (own_mono (own_none H3.out.1 H6.out.1) (by have := HS2.out; omega)) (((HFS.out _ _ _).trans (HFS.out _ _ _) (fun _ _ h => h)).trans (HFS.out _ _ _) (fun _ _ h => h)) (fun g' hg' e => by
        have := (own_blockT H3.out.1 (g := g') hg'.symm).1
        have := HS2.out
        omega)
    · exact (((HF1.out.trans H6.out.2 (fun _ _ h => h)).setNew (by omega) _).setNew (by omega) _).setNew (by omega) _
  | true =>
    have hP : drB es h = es.eraseIdx q := by unfold drB; rw [HQ.out.2, if_pos rfl, HQ.out.1]
    obtain ⟨y, hy, -⟩ := (hasB_iff HSo.out).1 HQ.out.2
    rw [HQ.out.1] at hy
    have hqn : q < es.length := (List.getElem?_eq_some_iff.1 hy).1
    have hq9 : q < 254 := by have := HL.out; omega
    have hdel := delete_e_ok H3.out.1 (by have := HL.out; omega) q (q + 1) hqn rfl
    rw [HN.out] at hdel
    have HDl := hid (show Calls Tryz.prog 135 #[.slice a3 n c3, .int .i64 q, .int .i64 ((q : Int) + 1)] W3 _ from hdel)
    have HP := hid (And.intro hP hqn)
    clear hP hy hqn hdel
    go_wp2_with fail
    refine HDl.out.mono ?_
    rintro e W5 ⟨v5, rfl, hown5, F5⟩
    obtain ⟨a5, c5, rfl, -, -, -, -⟩ := own_slice hown5
    have F15 : Fr (fun _ => False) w1 W5 := H3.out.2.trans F5 (fun b hb e => by
      have := (own_blockT H3.out.1 (g := b) (by rw [HN.out]; exact e.symm)).1
      have := HS2.out; have := HSz.out
      omega)
    have H5 := hid (And.intro hown5 F15)
    obtain ⟨n5, hn5⟩ : ∃ n5, (es.eraseIdx q).length = n5 := ⟨_, rfl⟩
    have HN5 := hid hn5
    rw [hn5]
    clear x0 x1 x2 xz xl y0 y1 y2 yz yl F15 F5 hown5 hn5
    obtain ⟨⟨x0, x1, x2, xz, xl⟩, ⟨y0, y1, y2, yz, yl⟩⟩ := HB.out _ H5.out.2
    go_wp2_with fail
    refine (with_ok d p va n vc a5 n5 c5 _).mono ?_
    rintro e W6 ⟨rfl, F6⟩
    have H6 := hid (And.intro F6 (H5.out.2.trans F6 (fun _ _ h => h)))
    clear F6 x0 x1 x2 xz xl y0 y1 y2 yz yl
    obtain ⟨⟨x0, x1, x2, xz, xl⟩, ⟨y0, y1, y2, yz, yl⟩⟩ := HB.out _ H6.out.2
    go_wp2_with fail
    refine bodyPost_ret (v := .tuple #[bkV d p (.slice a5 n5 c5), .bool true]) (by simp [results, go_sem, *]) rfl ⟨a5, c5, by rw [HP.out.1, HQ.out.2, HN5.out], ?_, ?_⟩
    · rw [HP.out.1]
      exact own_fr1 (own_mono (own_none H5.out.1 H6.out.1) (by have := HS2.out; omega)) (((HFS.out _ _ _).trans (HFS.out _ _ _) (fun _ _ h => h)).trans (HFS.out _ _ _) (fun _ _ h => h)) (fun g' hg' e => by
        have := (own_blockT H5.out.1 (g := g') hg'.symm).1
        have := HS2.out
        omega)
    · exact (((HF1.out.trans H6.out.2 (fun _ _ h => h)).setNew (by omega) _).setNew (by omega) _).setNew (by omega) _
end Go.Proofs.YtgdhaaokolfdoaaGreatDoor

namespace Go.Proofs.YtgdhaaokolfdoaaGreatDoor
open Go.RowKit Go.Sg Go.Sg.Bits Go.Sg.Clk CP SF
def dropS (t : Tr) (g : Nat) (h : Nat) : Tr × Bool :=
  let b := t.at_ g (preM h g) 0 0
  if hasB b.2.2.2 h = true then (t.put g (preM h g) (leafE (drB b.2.2.2 h)), true) else (t, false)
def DropU (B : Blk) (bx bd : Nat) (y : Cs) (P : Prot) (a : Bool) (N : Nat) (g : Nat) (sp : Int) (R : Tr × Bool) (n : Nat) (w : World) (e : Ending) (w' : World) : Prop :=
  ∃ (ok : Bool) (err : Int), e = .returned (.tuple #[.bool ok, .int .i64 err]) ∧ FrX B (fun b => b = bd ∨ b = bx) w w' ∧
    ((err = 0 ∧ ok = R.2 ∧ ∃ (y' : Cs) (x' : DirD) (t' : Tr), IdxT w' B bx bd y' P a N x' t' sp ∧ (bare t' = R.1 ∧ t'.refs.length = n) ∧ x'.depth = g ∧ (Like y y' ∧ y'.gen = y.gen ∧ y'.dead = y.dead)) ∨ (err = 4 ∧ a = true ∧ DownC w' B y P N))
theorem bk_drop {d p : Nat} {es : List Bt} (h : BkOk d p es) (k : Nat) : BkOk d p (drB es k) := by
  unfold drB
  split
  · exact bk_erase h _
  · exact h
set_option maxHeartbeats 16000000 in
set_option maxRecDepth 100000 in
theorem xdrop_ok {w : World} {B : Blk} {bx bd : Nat} {y : Cs} {P : Prot} {a : Bool} {N : Nat} {x : DirD} {t : Tr} {sp : Int} (h : IdxT w B bx bd y P a N x t sp) {hash : Nat} (hh : hash < 18446744073709551616) (hN : N + 23 ≤ 90000) :
    Calls Tryz.prog 70 #[xptr bx, .int .u64 hash] w (DropU B bx bd y P a (N + 23) x.depth sp (dropS (bare t) x.depth hash) t.refs.length w) := by
  obtain ⟨tops, L, hM, hP⟩ := h.ex
  have hdep := h.depth
  have hblt := hM.bd_lt
  have hkl : preM hash x.depth < 2 ^ x.depth := pre_lt2 (by omega) hh
  obtain ⟨d, p, r, es, hb⟩ := bkt_at hkl (Nat.le_of_eq h.high) h.ok hP
  obtain ⟨j, hj⟩ := List.mem_iff_getElem?.1 hb.mem
  have hdg := hb.dg
  have hp2 := hb.pl
  have HOf := hid (xof_ok hM hh hb.slot hb.mem hb.ok (by omega) hp2 (by omega))
  have HD0 := hid (show dropS (bare t) x.depth hash = if hasB es hash = true then ((bare t).put x.depth (preM hash x.depth) (leafE (drB es hash)), true) else (bare t, false) by
    unfold dropS; rw [bare_at, hb.at_])
  have HT := hid (And.intro h (And.intro hP (And.intro hdep (And.intro hN (And.intro hdg hp2)))))
  have HBk := hid (And.intro hb hb.ok)
  have HJ := hid hj
  have HBl := hid hblt
  clear h hP hdep hN hdg hp2 hb hj hblt hM hkl hh
  obtain ⟨R, hR⟩ : ∃ R, dropS (bare t) x.depth hash = R := ⟨_, rfl⟩
  have HR0 := hid (HD0.out.symm.trans hR)
  rw [hR]
  clear hR HD0
  go_enter Tryz.func70, Tryz.ntmps70
  go_wp2_with fail
  refine HOf.out.mono ?_
  rintro e V1 ⟨r1, d1, p1, va, n, vc, err, rfl, F1, hr⟩
  have HR1 := hid (And.intro F1 hr)
  clear F1 hr HOf
  obtain ⟨b8, hb8⟩ : ∃ b8, V1.heap.size = b8 := ⟨_, rfl⟩
  have H8 := hid (show 0 < b8 ∧ w.heap.size ≤ b8 by
    have h2 := HR1.out.1.size
    have h3 := HBl.out
    omega)
  go_upto_region 4 with fail
  obtain ⟨V2, hV2⟩ : ∃ V2, V1.alloc (.cells #[.int .i64 r1.1, .int .i64 r1.2, .int .i64 d1, .int .i64 p1, .slice va n vc] 131) = V2 := ⟨_, rfl⟩
  rw [hV2]
  have FV : Fr (fun _ => False) V1 V2 := by rw [← hV2]; exact (Fr.refl _ _).alloc _
  have g8 : V2.heap[b8]? = some (.cells #[.int .i64 r1.1, .int .i64 r1.2, .int .i64 d1, .int .i64 p1, .slice va n vc] 131) := by rw [← hV2, ← hb8]; exact heap_alloc_new _ _
  have HF2 := hid (FrB.trans HR1.out.1 (FrB.none FV))
  have HFV := hid FV
  have HG8 := hid g8
  clear hb8 hV2 FV g8
  rcases HR1.out.2 with ⟨rfl, ⟨rfl, rfl, rfl, hn⟩, ho, hM⟩ | ⟨rfl, ha, hDn⟩
  rotate_left
  · have HX := hid (And.intro ha (hDn.fr0 HFV.out))
    clear ha hDn
    go_wp2_with fail
    go_ret2
    exact ⟨false, 4, rfl, FrX.of HF2.out, .inr ⟨rfl, HX.out.1, HX.out.2.mono (by omega)⟩⟩
  · have HM := hid (hM.fr0 HFV.out)
    have hown := own_none (own_base ho) HFV.out
    have hdr := bdrop_ok hown HBk.out.2.2.1 (by have := HBk.out.2.1; omega) d p hash
    rw [← hn] at hdr
    have HDr := hid hdr
    clear ho hM hn hown hdr
    obtain ⟨q0, q1, q2, q3, q4, qz, ql⟩ := cells5 HG8.out
    go_wp2_with fail
    refine HDr.out.mono ?_
    rintro e V3 ⟨a3, c3, rfl, ho3, F3⟩
    have HO3 := hid (And.intro ho3 F3)
    obtain ⟨n3, hn3⟩ : ∃ n3, (drB es hash).length = n3 := ⟨_, rfl⟩
    have HN3 := hid hn3
    rw [hn3]
    obtain ⟨hb, hhb⟩ : ∃ b, hasB es hash = b := ⟨_, rfl⟩
    have HHb := hid hhb
    rw [hhb]
    clear ho3 hn3 hhb q0 q1 q2 q3 q4 qz ql HDr F3
    obtain ⟨b9, hb9⟩ : ∃ b9, V3.heap.size = b9 := ⟨_, rfl⟩
    go_upto_region 7 with fail
    obtain ⟨V4, hV4⟩ : ∃ V4, V3.alloc (.cells #[.int .i64 d, .int .i64 p, .slice a3 n3 c3] 129) = V4 := ⟨_, rfl⟩
    rw [hV4]
    have F4 : Fr (fun _ => False) V3 V4 := by rw [← hV4]; exact (Fr.refl _ _).alloc _
    have g9 : V4.heap[b9]? = some (.cells #[.int .i64 d, .int .i64 p, .slice a3 n3 c3] 129) := by rw [← hV4, ← hb9]; exact heap_alloc_new _ _
    have F34 := HO3.out.2.trans F4 (fun _ _ h => h)
    have HM4 := hid (HM.out.fr0 F34)
    have HO4 := hid (own_none (own_base HO3.out.1) F4)
    have HF4 := hid (FrB.trans HF2.out (FrB.none F34))
    obtain ⟨q0, q1, q2, q3, q4, qz, ql⟩ := cells5 (F34.heap HG8.out (fun h => h))
    obtain ⟨s0, s1, s2, sz, sl⟩ := cells3 g9
    clear hV4 hb9 F4 g9 F34
    cases hb with
    | false =>
      go_wp2_with fail
      go_ret2
      have hR := HR0.out
      rw [HHb.out, if_neg (by decide)] at hR
      refine ⟨false, 0, rfl, FrX.of HF4.out, .inl ⟨rfl, by rw [← hR], y, x, t, ⟨⟨tops, L, HM4.out.mono (by omega) HT.out.2.2.2.1, HT.out.2.1⟩, HT.out.1.high, HT.out.1.ok⟩, ⟨by rw [← hR], rfl⟩, rfl, Like.refl y, rfl, rfl⟩⟩
    | true =>
      have hkp := bk_drop HBk.out.2 hash
      have hke := xkeep_ok HM4.out (j := j) HJ.out HO4.out hkp HT.out.2.2.2.2.1 HT.out.2.2.2.2.2 (bkt_own HBk.out.1 (Nat.le_of_eq HT.out.1.high)) (by have := HT.out.2.2.2.1; omega)
      rw [HN3.out] at hke
      have HKe := hid hke
      have HKp := hid hkp
      clear hke hkp
      go_wp2_with fail
      refine HKe.out.mono ?_
      rintro e VR ⟨err, rfl, FR, hr⟩
      have HR := hid (And.intro FR hr)
      clear FR hr q0 q1 q2 q3 q4 qz ql s0 s1 s2 sz sl HKe
      go_wp2_with fail
      go_ret2
      have hR := HR0.out
      rw [HHb.out, if_pos rfl] at hR
      refine ⟨true, err, rfl, FrX.trans (FrX.of HF4.out) (frX_mono HR.out.1 (fun b hb => .inl hb)), ?_⟩
      rcases HR.out.2 with ⟨rfl, m, y', x', t', hI', hx', hL'⟩ | ⟨rfl, ha, hDn⟩
      · refine .inl ⟨rfl, by rw [← hR], y', x', t.put x.depth (preM hash x.depth) (fun _ _ => .leaf (↑m, ↑y.gen) (drB es hash)), idxT_leaf HBk.out.1 HT.out.1.high HT.out.1.ok HT.out.2.1 HJ.out HKp.out hx' hI', ⟨?_, ?_⟩, hx', hL'⟩
        · rw [← hR]
          exact bare_put _ _ (fun _ _ => rfl) t x.depth _
        · exact Nat.add_right_cancel (refs_put (fun _ _ => .leaf (↑m, ↑y.gen) (drB es hash)) 1 (fun _ _ => rfl) t x.depth (preM hash x.depth))
      · exact .inr ⟨rfl, ha, hDn⟩
end Go.Proofs.YtgdhaaokolfdoaaGreatDoor

namespace Go.Proofs.YtgdhaaokolfdoaaGreatDoor
open Go.RowKit Go.Sg Go.Sg.Bits Go.Sg.Clk CP SF
def fnd (es : List Bt) (h : Nat) : Option Bt := es.find? fun x => decide (x.hash = h)
theorem hasB_fnd (es : List Bt) (h : Nat) : hasB es h = (fnd es h).isSome := by
  unfold hasB fnd
  induction es with
  | nil => rfl
  | cons x l ih =>
    simp only [List.any_cons, List.find?_cons]
    by_cases hx : x.hash = h
    · simp [hx]
    · simp [hx, ih]
theorem fnd_none {es : List Bt} {h : Nat} (hn : ∀ x ∈ es, x.hash ≠ h) : fnd es h = none := by
  unfold fnd
  rw [List.find?_eq_none]
  intro x hx
  simpa using hn x hx
theorem fnd_append (a b : List Bt) (h : Nat) : fnd (a ++ b) h = (fnd a h).or (fnd b h) := by
  unfold fnd; rw [List.find?_append]
theorem fnd_cons (x : Bt) (l : List Bt) (h : Nat) : fnd (x :: l) h = if x.hash = h then some x else fnd l h := by
  unfold fnd
  rw [List.find?_cons]
  by_cases hx : x.hash = h <;> simp [hx]
theorem tw_lt (es : List Bt) (h : Nat) : ∀ x ∈ es.takeWhile (fun e => decide (e.hash < h)), x.hash < h := by
  intro x hx
  have := List.all_takeWhile (l := es) (p := fun e => decide (e.hash < h))
  rw [List.all_eq_true] at this
  simpa using this x hx
theorem take_lt (es : List Bt) (h : Nat) : ∀ x ∈ es.take (plI es h), x.hash < h := by
  rw [take_plI]; exact tw_lt es h
theorem drop_gt {es : List Bt} {k : Nat} {y : Bt} (hs : SortedB es) (hy : es[k]? = some y) : ∀ x ∈ es.drop (k + 1), y.hash < x.hash := by
  intro x hx
  obtain ⟨j, hj⟩ := List.mem_iff_getElem?.1 hx
  rw [List.getElem?_drop] at hj
  have hk := (List.getElem?_eq_some_iff.1 hy)
  have hj2 := (List.getElem?_eq_some_iff.1 hj)
  have := List.pairwise_iff_getElem.1 hs k (k + 1 + j) hk.1 hj2.1 (by omega)
  rw [hk.2, hj2.2] at this
  exact this
theorem split_at {es : List Bt} {k : Nat} {y : Bt} (hy : es[k]? = some y) : es = es.take k ++ y :: es.drop (k + 1) := by
  have hk := (List.getElem?_eq_some_iff.1 hy)
  have := List.take_append_drop k es
  rw [List.drop_eq_getElem_cons hk.1, hk.2] at this
  exact this.symm
theorem fnd_has {es : List Bt} {h : Nat} (hs : SortedB es) (hb : hasB es h = true) : ∃ y, es[plI es h]? = some y ∧ y.hash = h ∧ fnd es h = some y := by
  obtain ⟨y, hy, hh⟩ := (hasB_iff hs).1 hb
  refine ⟨y, hy, hh, ?_⟩
  have h0 := take_lt es h
  rw [split_at hy, fnd_append, fnd_none (fun x hx => by have := h0 x hx; omega), fnd_cons, if_pos hh]
  rfl
theorem atB_fnd {es : List Bt} {h : Nat} (hs : SortedB es) : atB es h = fnd es h := by
  unfold atB
  by_cases hb : hasB es h = true
  · obtain ⟨y, hy, hh, hf⟩ := fnd_has hs hb
    rw [if_pos hb, hy, hf]
  · rw [if_neg hb]
    have := hasB_fnd es h
    cases hf : fnd es h with
    | none => rfl
    | some y => rw [hf] at this; exact absurd this hb
theorem fnd_put {es : List Bt} (E : Bt) (h : Nat) (hs : SortedB es) : fnd (putB es E) h = if E.hash = h then some E else fnd es h := by
  have h0 := take_lt es E.hash
  unfold putB
  by_cases hb : hasB es E.hash = true
  · rw [if_pos hb]
    obtain ⟨y, hy, hyh, -⟩ := fnd_has hs hb
    have hlt := (List.getElem?_eq_some_iff.1 hy).1
    rw [List.set_eq_take_append_cons_drop, if_pos hlt, fnd_append, fnd_cons]
    by_cases he : E.hash = h
    · rw [if_pos he, if_pos he, fnd_none (fun x hx => by have := h0 x hx; omega)]; rfl
    · rw [if_neg he, if_neg he]
      conv => rhs; rw [split_at hy, fnd_append, fnd_cons, if_neg (by omega)]
  · rw [if_neg hb]
    unfold insB
    rw [fnd_append, fnd_cons]
    by_cases he : E.hash = h
    · rw [if_pos he, if_pos he, fnd_none (fun x hx => by have := h0 x hx; omega)]; rfl
    · rw [if_neg he, if_neg he, ← fnd_append, List.take_append_drop]
theorem fnd_drop {es : List Bt} (k h : Nat) (hs : SortedB es) : fnd (drB es k) h = if k = h then none else fnd es h := by
  have h0 := take_lt es k
  unfold drB
  by_cases hb : hasB es k = true
  · rw [if_pos hb]
    obtain ⟨y, hy, hyh, -⟩ := fnd_has hs hb
    have h1 := drop_gt hs hy
    rw [List.eraseIdx_eq_take_drop_succ, fnd_append]
    by_cases he : k = h
    · rw [if_pos he, fnd_none (fun x hx => by have := h0 x hx; omega), fnd_none (fun x hx => by have := h1 x hx; omega)]; rfl
    · rw [if_neg he]
      conv => rhs; rw [split_at hy, fnd_append, fnd_cons, if_neg (by omega)]
  · rw [if_neg hb]
    by_cases he : k = h
    · subst he
      rw [if_pos rfl]
      have := hasB_fnd es k
      cases hf : fnd es k with
      | none => rfl
      | some y => rw [hf] at this; exact absurd this hb
    · rw [if_neg he]
theorem fnd_filter {es : List Bt} {p : Bt → Bool} {h : Nat} (hp : ∀ x ∈ es, x.hash = h → p x = true) : fnd (es.filter p) h = fnd es h := by
  induction es with
  | nil => rfl
  | cons x l ih =>
    have ihl := ih (fun y hy => hp y (List.mem_cons_of_mem _ hy))
    rw [List.filter_cons]
    by_cases hx : x.hash = h
    · rw [if_pos (hp x List.mem_cons_self hx), fnd_cons, fnd_cons, if_pos hx, if_pos hx]
    · rw [fnd_cons, if_neg hx]
      split
      · rw [fnd_cons, if_neg hx, ihl]
      · exact ihl
def bitH (h d : Nat) : Bool := decide (preM h (d + 1) % 2 = 1)
def look : Tr → Nat → Nat → Nat × List Bt
  | .leaf _ es, d, _ => (d, es)
  | .node l r, d, h => if bitH h d = true then look r (d + 1) h else look l (d + 1) h
def lput (T : Tr) : Tr → Nat → Nat → Tr
  | .leaf _ _, _, _ => T
  | .node l r, d, h => if bitH h d = true then .node l (lput T r (d + 1) h) else .node (lput T l (d + 1) h) r
def same : Tr → Nat → Nat → Nat → Bool
  | .leaf _ _, _, _, _ => true
  | .node l r, d, e, h => if bitH e d = true then bitH h d && same r (d + 1) e h else !bitH h d && same l (d + 1) e h
theorem same_self : ∀ (t : Tr) (d h : Nat), same t d h h = true
  | .leaf _ _, _, _ => rfl
  | .node l r, d, h => by
    simp only [same]
    split
    · rename_i hb; rw [hb, same_self r]; rfl
    · rename_i hb; simp [hb, same_self l]
theorem look_same : ∀ (t : Tr) (d e h : Nat), same t d e h = true → look t d h = look t d e
  | .leaf _ _, _, _, _, _ => rfl
  | .node l r, d, e, h, hs => by
    simp only [same] at hs
    simp only [look]
    by_cases hb : bitH e d = true
    · rw [if_pos hb] at hs ⊢
      simp only [Bool.and_eq_true] at hs
      rw [if_pos hs.1]
      exact look_same r _ _ _ hs.2
    · rw [if_neg hb] at hs ⊢
      simp only [Bool.and_eq_true, Bool.not_eq_true'] at hs
      rw [if_neg (by rw [hs.1]; decide)]
      exact look_same l _ _ _ hs.2
theorem look_in (T : Tr) : ∀ (t : Tr) (d e h : Nat), same t d e h = true → look (lput T t d e) d h = look T (look t d e).1 h
  | .leaf _ _, _, _, _, _ => rfl
  | .node l r, d, e, h, hs => by
    simp only [same] at hs
    simp only [lput, look]
    by_cases hb : bitH e d = true
    · rw [if_pos hb] at hs
      simp only [Bool.and_eq_true] at hs
      simp only [if_pos hb, look, if_pos hs.1]
      exact look_in T r _ _ _ hs.2
    · rw [if_neg hb] at hs
      simp only [Bool.and_eq_true, Bool.not_eq_true'] at hs
      have hn : ¬ bitH h d = true := by rw [hs.1]; decide
      simp only [if_neg hb, look, if_neg hn]
      exact look_in T l _ _ _ hs.2
theorem look_out (T : Tr) : ∀ (t : Tr) (d e h : Nat), same t d e h = false → look (lput T t d e) d h = look t d h
  | .leaf _ _, _, _, _, hs => by cases hs
  | .node l r, d, e, h, hs => by
    simp only [same] at hs
    simp only [lput]
    by_cases hb : bitH e d = true
    · rw [if_pos hb] at hs
      simp only [if_pos hb, look]
      by_cases hh : bitH h d = true
      · rw [hh, Bool.true_and] at hs
        simp only [if_pos hh]
        exact look_out T r _ _ _ hs
      · simp only [if_neg hh]
    · rw [if_neg hb] at hs
      simp only [if_neg hb, look]
      by_cases hh : bitH h d = true
      · simp only [if_pos hh]
      · have hn : bitH h d = false := by simpa using hh
        rw [hn, Bool.not_false, Bool.true_and] at hs
        simp only [if_neg hh]
        exact look_out T l _ _ _ hs
theorem at_look {h : Nat} (hh : h < 18446744073709551616) : ∀ (t : Tr) (g d p : Nat), t.high ≤ g → d + g ≤ 20 → (t.at_ g (preM h (d + g) % 2 ^ g) d p).1 = (look t d h).1 ∧ (t.at_ g (preM h (d + g) % 2 ^ g) d p).2.2.2 = (look t d h).2 ∧ ∀ T, t.put g (preM h (d + g) % 2 ^ g) (fun _ _ => T) = lput T t d h
  | .leaf _ _, _, _, _, _, _ => ⟨rfl, rfl, fun _ => rfl⟩
  | .node l r, g, d, p, hg, h20 => by
    simp only [Tr.high] at hg
    obtain ⟨m, rfl⟩ : ∃ m, g = m + 1 := ⟨g - 1, by omega⟩
    have h1 : preM h (d + (m + 1)) / 2 ^ m = preM h (d + 1) := by
      have := pre_of hh m (d + 1) (by omega)
      rwa [show d + 1 + m = d + (m + 1) by omega] at this
    have h2 : preM h (d + (m + 1)) % 2 ^ (m + 1) = preM h (d + (m + 1)) % 2 ^ m + 2 ^ m * (preM h (d + 1) % 2) := by
      rw [Nat.pow_succ, Nat.mod_mul, h1]
    have h3 : preM h (d + (m + 1)) % 2 ^ m < 2 ^ m := Nat.mod_lt _ (Nat.pow_pos (by decide))
    have il := at_look hh l m (d + 1) (2 * p) (by omega) (by omega)
    have ir := at_look hh r m (d + 1) (2 * p + 1) (by omega) (by omega)
    rw [show d + 1 + m = d + (m + 1) by omega] at il ir
    simp only [Tr.at_, Tr.put, look, lput, Nat.add_sub_cancel]
    by_cases hb : bitH h d = true
    · have hb' : preM h (d + 1) % 2 = 1 := by simpa [bitH] using hb
      rw [hb', Nat.mul_one] at h2
      rw [h2, if_neg (by omega), if_pos hb, Nat.add_sub_cancel]
      refine ⟨ir.1, ir.2.1, fun T => ?_⟩
      rw [if_neg (by omega), if_pos hb, ir.2.2 T]
    · have hb' : preM h (d + 1) % 2 = 0 := by
        have : ¬ preM h (d + 1) % 2 = 1 := by simpa [bitH] using hb
        omega
      have h2 : preM h (d + (m + 1)) % 2 ^ (m + 1) = preM h (d + (m + 1)) % 2 ^ m := by rw [h2, hb']; simp
      rw [h2, if_pos h3, if_neg hb]
      refine ⟨il.1, il.2.1, fun T => ?_⟩
      rw [if_pos h3, if_neg hb, il.2.2 T]
theorem at_root {h : Nat} (hh : h < 18446744073709551616) (t : Tr) (g : Nat) (hg : t.high ≤ g) (h20 : g ≤ 20) : (t.at_ g (preM h g) 0 0).1 = (look t 0 h).1 ∧ (t.at_ g (preM h g) 0 0).2.2.2 = (look t 0 h).2 ∧ ∀ T, t.put g (preM h g) (fun _ _ => T) = lput T t 0 h := by
  have := at_look hh t g 0 0 hg (by omega)
  rw [Nat.zero_add, Nat.mod_eq_of_lt (pre_lt2 h20 hh)] at this
  exact this
theorem put_dbl (f : Rf → List Bt → Tr) : ∀ (t : Tr) (g k : Nat), t.high ≤ g → t.put (g + 1) (2 * k) f = t.put g k f
  | .leaf r es, g, k, _ => rfl
  | .node l r, g, k, h => by
    simp only [Tr.high] at h
    have h2 := Tr.two_pow (g := g) (by omega)
    obtain ⟨m, rfl⟩ : ∃ m, g = m + 1 := ⟨g - 1, by omega⟩
    simp only [Tr.put, Nat.add_sub_cancel] at h2 ⊢
    by_cases hlt : k < 2 ^ m
    · rw [if_pos (by omega), if_pos hlt, put_dbl f l m k (by omega)]
    · rw [if_neg (by omega), if_neg hlt, show 2 * k - 2 ^ (m + 1) = 2 * (k - 2 ^ m) by omega, put_dbl f r m _ (by omega)]
end Go.Proofs.YtgdhaaokolfdoaaGreatDoor

namespace Go.Proofs.YtgdhaaokolfdoaaGreatDoor
open Go.RowKit Go.Sg Go.Sg.Bits Go.Sg.Clk CP SF
def Mx (t : Tr) (h : Nat) : Option Bt := fnd (look t 0 h).2 h
theorem look_bare : ∀ (t : Tr) (d h : Nat), look (bare t) d h = look t d h
  | .leaf _ _, _, _ => rfl
  | .node l r, d, h => by simp only [bare, look, look_bare l, look_bare r]
theorem ok_bare : ∀ (t : Tr) (d p : Nat), okT t d p → okT (bare t) d p
  | .leaf _ _, _, _, h => h
  | .node l r, d, p, h => ⟨ok_bare l _ _ h.1, ok_bare r _ _ h.2⟩
theorem entT_look {t : Tr} {g h : Nat} (hh : h < 18446744073709551616) (hg : t.high ≤ g) (h20 : g ≤ 20) : entT t g h = (look t 0 h).2 := by
  unfold entT
  rw [(at_root hh (bare t) g (by rw [bare_high]; exact hg) h20).2.1, look_bare]
theorem fresh0 {d p : Nat} {es : List Bt} (h : BkOk d p es) (k : Nat) : freshE es k 0 = es := by
  unfold freshE
  split
  · rfl
  · rw [List.filter_eq_self]
    intro x hx
    have := (h.2.2 x hx).1.2.1.1
    simpa [freshB] using this
theorem look_ok {t : Tr} {g h : Nat} (hh : h < 18446744073709551616) (hg : t.high ≤ g) (h20 : g ≤ 20) (hok : okT t 0 0) : ∃ p, BkOk (look t 0 h).1 p (look t 0 h).2 := by
  have h1 := ok_at t g (preM h g) 0 0 hok
  obtain ⟨e1, e2, -⟩ := at_root hh t g hg h20
  rw [e1, e2] at h1
  exact ⟨_, h1⟩
theorem mx_leaf {t : Tr} {e h : Nat} (es : List Bt) (he : ∀ k, k = e → fnd es k = fnd (look t 0 e).2 k ∨ True) : Mx (lput (.leaf (0, 0) es) t 0 e) h = if same t 0 e h = true then fnd es h else Mx t h := by
  unfold Mx
  cases hs : same t 0 e h with
  | true => rw [look_in _ _ _ _ _ hs, if_pos rfl]; rfl
  | false => rw [look_out _ _ _ _ _ hs, if_neg (by decide)]
theorem mx_node {t : Tr} {e h p : Nat} {es : List Bt} {D : Nat} (hl : look t 0 e = (D, es)) (hb : BkOk D p es) : Mx (lput (nodeE D es (0, 0) []) t 0 e) h = Mx t h := by
  unfold Mx
  cases hs : same t 0 e h with
  | false => rw [look_out _ _ _ _ _ hs]
  | true =>
    rw [look_in _ _ _ _ _ hs, look_same _ _ _ _ hs, hl]
    simp only [nodeE, look]
    by_cases hbt : bitH h D = true
    · rw [if_pos hbt]
      exact fnd_filter (fun x _ hx => by unfold halfB; rw [hx]; exact hbt)
    · rw [if_neg hbt]
      exact fnd_filter (fun x _ hx => by
        have : halfB D x = bitH h D := by unfold halfB bitH; rw [hx]
        rw [this]; simpa using hbt)
theorem putS_map {E : Bt} (hE : goodE E) : ∀ (f : Nat) (t : Tr) (g : Nat) (sp : Int), t.high = g → g ≤ 3 → okT t 0 0 → 8 - t.refs.length < f → (putS f t g sp E 0).lost = false → ∀ h, Mx (putS f t g sp E 0).t h = if E.hash = h then some E else Mx t h
  | 0, _, _, _, _, _, _, hf, _, _ => by omega
  | n + 1, t, g, sp, hg, h3, hok, hf, hl, h => by
    have hEh := hE.1
    obtain ⟨e1, e2, e3⟩ := at_root hEh t g (by omega) (by omega)
    have h1 := ok_at t g (preM E.hash g) 0 0 hok
    obtain ⟨⟨D, p, r, es⟩, hz⟩ : ∃ z, t.at_ g (preM E.hash g) 0 0 = z := ⟨_, rfl⟩
    rw [hz] at e1 e2 h1
    simp only at e1 e2 h1
    have hlk : look t 0 E.hash = (D, es) := by rw [e1, e2]
    simp only [putS, hz, fresh0 h1] at hl ⊢
    by_cases hr : roomB es E.hash 3 = true
    · rw [if_pos hr] at hl ⊢
      have e4 := e3 (.leaf (0, 0) (putB es E))
      unfold leafE
      rw [e4, mx_leaf _ (fun _ _ => .inr trivial)]
      cases hs : same t 0 E.hash h with
      | true =>
        rw [if_pos rfl, fnd_put E h h1.2.1]
        unfold Mx
        rw [look_same _ _ _ _ hs, hlk]
      | false =>
        rw [if_neg (by decide), if_neg (fun e => by rw [← e, same_self] at hs; cases hs)]
    · rw [if_neg hr] at hl ⊢
      by_cases hD : D < 3
      · rw [if_pos hD] at hl ⊢
        have e4 := e3 (nodeE D es (0, 0) [])
        have hhn := high_node (fun _ _ => nodeE D es (0, 0) []) (fun _ _ => rfl) t g (preM E.hash g) 0 0
        rw [hz, hg] at hhn
        simp only [Nat.sub_zero] at hhn
        have hdep := Tr.at_depth t g (preM E.hash g) 0 0
        rw [hz, hg] at hdep
        simp only at hdep
        have hrf : (t.put g (preM E.hash g) (fun _ _ => nodeE D es (0, 0) [])).refs.length = t.refs.length + 1 := Nat.add_right_cancel (refs_put (fun _ _ => nodeE D es (0, 0) []) 2 (fun _ _ => rfl) t g (preM E.hash g))
        have hok2 := ok_put (fun _ _ => nodeE D es (0, 0) []) t g (preM E.hash g) 0 0 hok (by rw [hz]; exact bk_halves h1 (by omega))
        have hr8 := refs_le (t.put g (preM E.hash g) (fun _ _ => nodeE D es (0, 0) []))
        have hpw : (2 : Nat) ^ (t.put g (preM E.hash g) (fun _ _ => nodeE D es (0, 0) [])).high ≤ 2 ^ 3 := Nat.pow_le_pow_right (by decide) (by rw [hhn]; omega)
        have hmx : ∀ k, Mx (t.put g (preM E.hash g) (fun _ _ => nodeE D es (0, 0) [])) k = Mx t k := fun k => by rw [e4]; exact mx_node hlk h1
        by_cases hdg : D = g
        · rw [if_pos hdg] at hl ⊢
          have hpd : t.put (g + 1) (2 * preM E.hash g) (nodeE D es) = t.put g (preM E.hash g) (fun _ _ => nodeE D es (0, 0) []) := put_dbl _ t g _ (by omega)
          rw [hpd] at hl ⊢
          rw [putS_map hE n _ _ _ (by rw [hhn]; omega) (by omega) hok2 (by rw [hrf]; omega) hl h, hmx]
        · rw [if_neg hdg] at hl ⊢
          have hpd : t.put g (preM E.hash g) (nodeE D es) = t.put g (preM E.hash g) (fun _ _ => nodeE D es (0, 0) []) := rfl
          rw [hpd] at hl ⊢
          rw [putS_map hE n _ _ _ (by rw [hhn]; omega) h3 hok2 (by rw [hrf]; omega) hl h, hmx]
      · rw [if_neg hD] at hl
        cases hl
theorem dropS_map {t : Tr} {g k : Nat} (hk : k < 18446744073709551616) (hg : t.high = g) (h3 : g ≤ 3) (hok : okT t 0 0) (h : Nat) : Mx (dropS t g k).1 h = if k = h then none else Mx t h := by
  obtain ⟨e1, e2, e3⟩ := at_root hk t g (by omega) (by omega)
  have h1 := ok_at t g (preM k g) 0 0 hok
  obtain ⟨⟨D, p, r, es⟩, hz⟩ : ∃ z, t.at_ g (preM k g) 0 0 = z := ⟨_, rfl⟩
  rw [hz] at e1 e2 h1
  simp only at e1 e2 h1
  have hlk : look t 0 k = (D, es) := by rw [e1, e2]
  unfold dropS
  simp only [hz]
  by_cases hb : hasB es k = true
  · rw [if_pos hb]
    unfold leafE
    rw [e3, mx_leaf _ (fun _ _ => .inr trivial)]
    cases hs : same t 0 k h with
    | true =>
      rw [if_pos rfl, fnd_drop k h h1.2.1]
      unfold Mx
      rw [look_same _ _ _ _ hs, hlk]
    | false =>
      rw [if_neg (by decide), if_neg (fun e => by rw [← e, same_self] at hs; cases hs)]
  · rw [if_neg hb]
    by_cases he : k = h
    · rw [if_pos he]
      unfold Mx
      rw [← he, hlk]
      have := hasB_fnd es k
      cases hf : fnd es k with
      | none => rfl
      | some y => rw [hf] at this; exact absurd this hb
    · rw [if_neg he]
end Go.Proofs.YtgdhaaokolfdoaaGreatDoor
