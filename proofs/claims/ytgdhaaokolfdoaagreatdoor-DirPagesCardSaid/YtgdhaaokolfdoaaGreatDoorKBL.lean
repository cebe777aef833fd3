/- A pack of texts: DD, AD. Conditions: those that each text names. -/
import Derived.Test.YtgdhaaokolfdoaaGreatDoorKBK
set_option linter.unusedVariables false
set_option linter.unusedSimpArgs false
set_option linter.unnecessarySimpa false
/- Chapter 15's directory: Set and Double, whatever they are asked. Conditions: none. -/
namespace Go.Proofs.YtgdhaaokolfdoaaGreatDoor
open Go.RowKit Go.Sg Go.Sg.Bits Go.Sg.Clk CP SF
/-- What Set answers, and what the slots are then. -/
def setE (n : Nat) (l : List Int) (p s : Int) : Int := if rightM p s = false then 1 else if l.any (outB n) = true then 2 else 0
def setR (sl : List Rf) (l : List Int) (p s : Int) : List Rf := if setE sl.length l p s = 0 then setM sl (l.map Int.toNat) (p, s) else sl
def AnyD (base bd : Nat) (B : Blk) (depth : Nat) (sl : List Rf) (K : Prop) (N : Nat) (err : Int) (w : World) (e : Ending) (w' : World) : Prop := StepD base bd B depth sl K N err w e w'
theorem step_same {w w' : World} {base bd : Nat} {B : Blk} {y : Cs} {x : DirD} {tops slots : List Rf} {K : Prop} {N N' : Nat} {err : Int} {e : Ending} (h : DirS w base bd B y x tops slots K N) (hu : ErrP err w e w') (hN : N ≤ N') (h9 : N' ≤ 90000) : StepD base bd B x.depth slots K N' err w e w' :=
  ⟨hu.1, FrD.none hu.2, y, x, tops, (h.fr0 hu.2).mono hN h9, rfl⟩
theorem DirS.set_any {w : World} {base bd : Nat} {B : Blk} {y : Cs} {x : DirD} {tops slots : List Rf} {K : Prop} {N n c : Nat} (h : DirS w base bd B y x tops slots K N) {sa : Option Addr} {l : List Int} (p s : Int) (hs : s < 9223372036854775808) (hl : SlI w sa n c l) (hlF : ∀ W, FrB B w W → SlI W sa n c l) (hn : n ≤ 40) (hN : N + 100 ≤ 90000) :
    Calls Tryz.prog 50 #[dptr bd, .slice sa n c, ref2 p s] w (StepD base bd B x.depth (setR slots l p s) K (N + 100) (setE slots.length l p s) w) := by
  have hdm : x.depth ≤ 20 := by have := h.c.z.most; have := h.per.2; omega
  have hsl : slots.length = x.slots := h.c.slen
  by_cases hr : rightM p s = false
  · have e1 : setE slots.length l p s = 1 := by unfold setE; rw [if_pos hr]
    have e2 : setR slots l p s = slots := by unfold setR; rw [e1, if_neg (by decide)]
    rw [e1, e2]
    exact (set_wrong bd sa n c p s hr w).mono fun e w' hu => step_same h hu (by omega) hN
  · have hr' : rightM p s = true := by simpa using hr
    by_cases ha : l.any (outB slots.length) = true
    · have e1 : setE slots.length l p s = 2 := by unfold setE; rw [if_neg hr, if_pos ha]
      have e2 : setR slots l p s = slots := by unfold setR; rw [e1, if_neg (by decide)]
      rw [e1, e2]
      exact (set_range h.dir hdm hl (by omega) p s hr' (by rw [← hsl]; exact ha)).mono fun e w' hu => step_same h hu (by omega) hN
    · have e1 : setE slots.length l p s = 0 := by unfold setE; rw [if_neg hr, if_neg ha]
      have e2 : setR slots l p s = setM slots (l.map Int.toNat) (p, s) := by unfold setR; rw [e1, if_pos rfl]
      rw [e1, e2]
      have hrr : rightR (p, s) := by
        simp [rightM] at hr'
        exact ⟨hr'.1.1, hr'.1.2, hr'.2, by simp only; omega⟩
      exact h.set (r := (p, s)) hl hlF hn (by rw [← hsl]; simpa using ha) hrr hN
/-- What Double answers, and what the slots are then. -/
def dblE (x : DirD) : Int := if x.depth < x.most then 0 else 6
def dblR (x : DirD) (sl : List Rf) : List Rf := if x.depth < x.most then dblM sl else sl
def dblD (x : DirD) : Nat := if x.depth < x.most then x.depth + 1 else x.depth
theorem DirS.double_any {w : World} {base bd : Nat} {B : Blk} {y : Cs} {x : DirD} {tops slots : List Rf} {K : Prop} {N : Nat} (h : DirS w base bd B y x tops slots K N) (hN : N + 100 ≤ 90000) :
    Calls Tryz.prog 49 #[dptr bd] w (StepD base bd B (dblD x) (dblR x slots) K (N + 100) (dblE x) w) := by
  by_cases hd : x.depth < x.most
  · unfold dblD dblR dblE
    rw [if_pos hd, if_pos hd, if_pos hd]
    exact h.double hd hN
  · unfold dblD dblR dblE
    rw [if_neg hd, if_neg hd, if_neg hd]
    exact (double_full h.dir (by omega)).mono fun e w' hu => step_same h hu (by omega) hN
/-- An act's slots lie on while only what a store and a directory turn does. -/
theorem sli_base {w0 w : World} {sa : Option Addr} {n c : Nat} {l : List Int} (h : SlI w0 sa n c l) (F : Fr (fun _ => False) w0 w) {B : Blk} (hb : w0.heap.size ≤ B.base) : ∀ W, FrB B w W → SlI W sa n c l := fun W G =>
  h.fr0 (F.trans G fun b hb' hs => by omega)
end Go.Proofs.YtgdhaaokolfdoaaGreatDoor

/- DirApart: what the law computes. Conditions: the table of the bits lies in the world. -/
namespace Go.Proofs.YtgdhaaokolfdoaaGreatDoor
open Go.RowKit Go.Sg Go.Sg.Bits Go.Sg.Clk CP SF
theorem frD_all {base : Nat} {w0 w w' : World} (F0 : Fr (fun _ => False) w0 w) (hb : w0.heap.size ≤ base) (F : FrD base w w') : Fr (fun _ => False) w0 w' := F.fr0 hb F0
/-- Between two rounds of the law. -/
def AAt (w : World) (B : Blk) (bd k : Nat) (wr : World) : Prop := ∃ y x tops slots, DirS wr w.heap.size bd B y x tops slots True (2 + 120 * k) ∧ Fr (fun _ => False) w wr
theorem dbl_get {l : List Rf} {i : Nat} {r : Rf} (h : l[i / 2]? = some r) : (dblM l)[i]? = some r := by
  induction l generalizing i with
  | nil => simp at h
  | cons q l ih =>
    match i with
    | 0 => simp at h; subst h; rfl
    | 1 => simp at h; subst h; rfl
    | i + 2 =>
      have e : (i + 2) / 2 = i / 2 + 1 := by omega
      rw [e, List.getElem?_cons_succ] at h
      have := ih h
      simp only [dblM, List.flatMap_cons] at this ⊢
      simpa using this
theorem wf_hi {s : Int} (h : (Lit.int .i64 s).wf = true) : s < 9223372036854775808 := by
  simp [Lit.wf, IntKind.min, IntKind.max, IntKind.bits, IntKind.signed] at h
  omega
theorem setE_pos {n : Nat} {l : List Int} {p s : Int} (h : setE n l p s = 0) : ∀ z ∈ l, 0 ≤ z := fun z hz => by
  unfold setE at h
  split at h
  · cases h
  · split at h
    · cases h
    · rename_i _ h2
      have := List.any_eq_false.1 (by simpa using h2) z hz
      simp [outB] at this
      omega
theorem setR_len (sl : List Rf) (l : List Int) (p s : Int) : (setR sl l p s).length = sl.length := by
  unfold setR; split
  · exact setM_len _ _ _
  · rfl
theorem setR_get {sl : List Rf} {l : List Int} {p s : Int} {er : Int} (h : er = 0 ∧ setR sl l p s = setM sl (l.map Int.toNat) (p, s) ∧ (∀ z ∈ l, 0 ≤ z) ∨ ¬ er = 0 ∧ setR sl l p s = sl) {j : Nat} {r r' : Rf} (hr : sl[j]? = some r) (hr' : (setR sl l p s)[j]? = some r') :
    (er = 0 → (j : Int) ∈ l → r' = (p, s)) ∧ (¬ (er = 0 ∧ (j : Int) ∈ l) → r' = r) := by
  rcases h with ⟨h0, h1, h2⟩ | ⟨h0, h1⟩
  · have hm : j ∈ l.map Int.toNat ↔ (j : Int) ∈ l := by
      rw [List.mem_map]
      constructor
      · rintro ⟨z, hz, e⟩
        have := h2 z hz
        have e' : z = (j : Int) := by omega
        rw [← e']; exact hz
      · intro h; exact ⟨_, h, by simp⟩
    rw [h1, setM_get, hr] at hr'
    refine ⟨fun _ hj => ?_, fun hn => ?_⟩
    · rw [if_pos (hm.2 hj)] at hr'; cases hr'; rfl
    · rw [if_neg (fun h => hn ⟨h0, hm.1 h⟩)] at hr'; cases hr'; rfl
  · rw [h1, hr] at hr'
    cases hr'
    exact ⟨fun h => absurd h h0, fun _ => rfl⟩
theorem plan_sk {P : Program} {md : Region.Mode} {ops : Array Oper} {Q : Exit → Act → World → Prop} {S : World → Prop} {i : Nat} {p : Sg.Pl} {a : Act} {w : World} (o : Oper) (ho : ops[i]? = some o) (hw : Region.wanted o (yielded ops a.tmps) = false) (h : wpPlan P md ops Q S p (a.put o.dst undef) w) : wpPlan P md ops Q S (.rd i p) a w :=
  ⟨undef, o, ho, .inr ⟨hw, rfl⟩, h⟩
theorem half_facts {j m : Nat} (hj : j < 2 * m) (hm : m ≤ 32) : ∃ h : Nat, h < m ∧ j / 2 = h ∧ (j : Int).tdiv 2 = (h : Int) ∧ (j : Int) / 2 = (h : Int) ∧ wrap64 (h : Int) = (h : Int) ∧ (j : Int) < ((2 * m : Nat) : Int) ∧ (h : Int) < (m : Int) := by
  refine ⟨j / 2, by omega, rfl, ?_, by omega, ?_, by omega, by omega⟩
  · rw [Int.tdiv_eq_ediv_of_nonneg (by omega)]; omega
  · generalize hq : j / 2 = q
    simp only [wrap64]
    omega
theorem wrap_dbl {m : Nat} (hm : m ≤ 32) : wrap64 (2 * (m : Int)) = ((2 * m : Nat) : Int) := by simp only [wrap64]; omega
set_option maxHeartbeats 16000000 in
set_option maxRecDepth 100000 in
theorem dirApart_in {a : Option Addr} {n c : Nat} {l : List ActD} (hn : l.length = n) (w : World) (hT : Tab w) (hA : ActDR w a l) :
    Calls Tryz.prog 9 #[.slice a n c] w fun e w' => e = .returned (.bool true) ∧ Fr (fun _ => False) w w' := by
  have hT0 := hT.lt
  have HT := hid hT
  have HA := hid hA
  have HN := hid hn
  have H20 := hid (flashnew_ok 200 96 (by omega) (by omega) w)
  clear hT hA hn
  go_enter Tryz.func9, Tryz.ntmps9
  go_wp2_with (go_at_call 45; refine (lightd_ok HA.out n HN.out).mono ?_)
  rintro e _ ⟨⟨b, rfl, hb⟩, rfl⟩
  cases b with
  | false =>
    go_wp2_with fail
    go_ret
    exact ⟨rfl, Fr.refl _ _⟩
  | true =>
    obtain ⟨hn60, hsl⟩ := hb rfl
    have HSL := hid hsl
    clear hb hsl
    go_wp2_with fail
    refine H20.out.mono ?_
    rintro e w1 ⟨rfl, hD, F1⟩
    have HD := hid hD
    have HF1 := hid F1
    clear hD F1
    go_wp2_with fail
    refine (small15_ok _).mono ?_
    rintro e w2 ⟨rfl, F2⟩
    have HF2 := hid (HF1.out.trans F2 (fun _ _ h => h))
    have HD2 := hid (HD.out.fr F2 (fun h => h) (fun h => h) (fun h => h) (fun _ _ _ _ _ h => h))
    clear F2
    go_wp2_with fail
    have H19 := format_c HD2.out HF2.out.size (HT.out.fr HF2.out (fun h => h)) hT0 3 2 4 5 8 0 small15_fits
    refine H19.mono ?_
    rintro e w3 ⟨B, hB, rfl, hS, F3⟩
    have HF3 := hid (HF2.out.trans F3 (fun _ _ h => h))
    have hbase : B.base = w.heap.size := hB.1
    have HB := hid hbase
    have HM := hid (made15 (K := True) hS (by rw [hbase]; exact HF3.out.size) (0, 0) ⟨by decide, by decide, by decide, by decide⟩)
    clear hB hS F3 H19 HD HD2 H20 HF2 HF1 hbase
    go_wp2_with fail
    refine HM.out.mono ?_
    rintro e w4 ⟨bd, y, x, tops, rfl, F4, hd4, hx0⟩
    rw [HB.out] at F4 hd4
    have H4 := hid (show AAt w B bd 0 w4 from ⟨y, x, tops, _, hd4, frD_all HF3.out (Nat.le_refl _) F4⟩)
    clear F4 hd4 hx0 HM
    go_wp2_with fail
    go_loopw [7] (fun i wr => ∃ k : Nat, k ≤ n ∧ i = .int .i64 k ∧ AAt w B bd k wr) (fun i _ => n - (intOf i).toNat)
    case atStart => exact ⟨0, Nat.zero_le _, rfl, H4.out⟩
    case round =>
      obtain ⟨k, hk, rfl, y1, x1, t1, s1, hd1, hF1⟩ := hrel
      by_cases hlt : k < n
      · have hd : decide ((k : Int) < (n : Int)) = true := by simp; omega
        have hx : l[k]? = some (l[k]'(by rw [HN.out]; exact hlt)) := List.getElem?_eq_getElem _
        generalize l[k]'(by rw [HN.out]; exact hlt) = ac at hx
        have HAW := hid (fun W (F : Fr (fun _ => False) w W) => (HA.out.fr F).at_ k ac hx)
        have h40 : ac.sn ≤ 40 := HSL.out ac (List.mem_of_getElem? hx)
        have HAl := hid (hd1.all (by omega))
        have hs1 : s1.length ≤ 32 := by rw [hd1.c.slen]; exact hd1.small.2
        obtain ⟨m, hm⟩ : ∃ m, s1.length = m := ⟨_, rfl⟩
        have HM1 := hid hm
        have hm32 : m ≤ 32 := by omega
        have HF1 := hid hF1
        have HSL0 := hid (HAW.out w (Fr.refl _ _) |>.elim fun _ h => h.elim fun _ h => h.2.2.2.2.2.2.sli)
        obtain ⟨w0k, hw0k⟩ : ∃ z, (wrap64 (ac.kind.tmod 7 + 7)).tmod 7 = z := ⟨_, rfl⟩
        clear hx hd1 hF1 hs1
        go_wp2_with fail
        refine HAl.out.mono ?_
        rintro e w5 ⟨a5, c5, rfl, hown5, F5, hd5⟩
        rw [hm]
        clear hm
        have hs15 : wr.heap.size ≤ w5.heap.size := F5.size
        have HF5 := hid (frD_all HF1.out (Nat.le_refl _) F5)
        have HO5 := hid hown5
        have HD5 := hid hd5
        obtain ⟨bA, off, rfl, hbA, q0, q1, q2, q3, hok⟩ := HAW.out w5 HF5.out
        have HOK := hid hok
        have HQ := hid (fun W (F : Fr (fun _ => False) w W) => show W.cell? ⟨bA, off + k * 4, none⟩ = some (.int .i64 ac.kind) ∧ W.cell? ⟨bA, off + k * 4 + 1, none⟩ = some (.slice ac.sa ac.sn ac.sc) ∧ W.cell? ⟨bA, off + k * 4 + 2, none⟩ = some (.int .i64 ac.rp) ∧ W.cell? ⟨bA, off + k * 4 + 3, none⟩ = some (.int .i64 ac.rs) by
          obtain ⟨b', off', e, -, h0, h1, h2, h3, -⟩ := HAW.out W F
          cases e
          exact ⟨h0, h1, h2, h3⟩)
        clear hown5 F5 hd5 hok HAl
        have hki : (k : Int) < (n : Int) := by omega
        by_cases h3 : w0k = 3
        · have hd3 : decide (w0k = 3) = true := by simp [h3]
          by_cases hdm : x1.depth < x1.most
          · have HDb := hid (show Calls Tryz.prog 49 #[dptr bd] w5 (StepD w.heap.size bd B (x1.depth + 1) (dblM s1) True (2 + 120 * k + 10 + 100) 0 w5) from HD5.out.double hdm (by omega))
            go_wp2_with fail
            refine HDb.out.mono ?_
            rintro e w6 ⟨rfl, F6, y6, x6, t6, hd6, -⟩
            have HAl6 := hid (hd6.all (by omega))
            have HF6 := hid (frD_all HF5.out (Nat.le_refl _) F6)
            have HO6 := hid (FrD.own HO5.out (by decide) F6)
            clear F6 hd6 HDb
            go_wp2_with fail
            refine HAl6.out.mono ?_
            rintro e w7 ⟨a7, c7, rfl, hown7, F7, hd7⟩
            have hl7 : (dblM s1).length = 2 * m := by rw [dblM_len, HM1.out]
            rw [hl7]
            have HF7 := hid (frD_all HF6.out (Nat.le_refl _) F7)
            have HD7 := hid hd7
            have HR := hid (fun j (hj : j < 2 * m) (W : World) (F : Fr (fun _ => False) w7 W) => show ∃ r : Rf, ∃ g7 g5 : Nat, a7 = some ⟨g7, 0, none⟩ ∧ a5 = some ⟨g5, 0, none⟩ ∧ g7 < W.heap.size ∧ g5 < W.heap.size ∧ W.cell? ⟨g7, j * 2, none⟩ = some (.int .i64 r.1) ∧ W.cell? ⟨g7, j * 2 + 1, none⟩ = some (.int .i64 r.2) ∧ W.cell? ⟨g5, j / 2 * 2, none⟩ = some (.int .i64 r.1) ∧ W.cell? ⟨g5, j / 2 * 2 + 1, none⟩ = some (.int .i64 r.2) by
              obtain ⟨r, hr⟩ : ∃ r, s1[j / 2]? = some r := ⟨_, List.getElem?_eq_getElem (by rw [HM1.out]; omega)⟩
              obtain ⟨g7, e7, h7, u0, u1⟩ := ownR_at (ownsRow_fr hown7 F (fun _ _ _ h => h)) (dbl_get hr)
              obtain ⟨g5, e5, h5, v0, v1⟩ := ownR_at (ownsRow_fr (FrD.own HO6.out (by decide) F7) F (fun _ _ _ h => h)) hr
              exact ⟨r, g7, g5, e7, e5, h7, h5, u0, u1, v0, v1⟩)
            clear hown7 F7 hd7 hl7 HAl6
            have hwm := wrap_dbl hm32
            go_wp2_with fail
            go_loopw [13] (fun i wr2 => ∃ j : Nat, j ≤ 2 * m ∧ i = .int .i64 j ∧ Fr (fun _ => False) w7 wr2) (fun i _ => 2 * m - (intOf i).toNat)
            case atStart => exact ⟨0, Nat.zero_le _, rfl, Fr.refl _ _⟩
            case round =>
              obtain ⟨j, hj, rfl, hFj⟩ := hrel
              have HFj := hid hFj
              clear hFj
              by_cases hj2 : j < 2 * m
              · have hdj : decide ((j : Int) < ((2 * m : Nat) : Int)) = true := by simp; omega
                obtain ⟨r, g7, g5, rfl, rfl, h7, h5, u0, u1, v0, v1⟩ := HR.out j hj2 _ HFj.out
                obtain ⟨hf, hj3, hh, hq2, hq2e, hw2, hji, hj3i⟩ := half_facts hj2 hm32
                rw [hh] at v0 v1
                clear hh
                have hn35 : ∀ W, (binOp .neq 35 (ref2 r.1 r.2) (ref2 r.1 r.2)).run Tryz.prog W = .ok (.bool false) W := fun W => by rw [neq35]; simp
                go_wp2_with fail
                go_quiet (fail)
                go_wp2_with fail
                go_roundw
                case rel => exact ⟨j + 1, hj2, by go_num, HFj.out.drewN _⟩
                case measure => simp [intOf]; omega
              · obtain rfl : j = 2 * m := by omega
                have hdj : decide (((2 * m : Nat) : Int) < ((2 * m : Nat) : Int)) = false := by simp
                go_wp2_with fail
                refine ⟨⟨k + 1, hlt, by go_num, _, _, _, _, (HD7.out.fr0 HFj.out).mono (by omega) (by omega), HF7.out.trans HFj.out (fun _ _ h => h)⟩, ?_⟩
                simp [intOf]; omega
          · have HDb := hid (show Calls Tryz.prog 49 #[dptr bd] w5 (StepD w.heap.size bd B x1.depth s1 True (2 + 120 * k + 10 + 100) 6 w5) from (double_full HD5.out.dir (by omega)).mono fun e w' hu => step_same HD5.out hu (by omega) (by omega))
            go_wp2_with fail
            refine HDb.out.mono ?_
            rintro e w6 ⟨rfl, F6, y6, x6, t6, hd6, -⟩
            have HAl6 := hid (hd6.all (by omega))
            have HF6 := hid (frD_all HF5.out (Nat.le_refl _) F6)
            clear F6 hd6 HDb
            go_wp2_with fail
            refine HAl6.out.mono ?_
            rintro e w7 ⟨a7, c7, rfl, hown7, F7, hd7⟩
            rw [HM1.out]
            have HF7 := hid (frD_all HF6.out (Nat.le_refl _) F7)
            have HD7 := hid hd7
            clear hown7 F7 hd7 HAl6
            go_wp2_with fail
            go_loopw [13] (fun i wr2 => i = .int .i64 0 ∧ wr2 = w7) (fun i _ => 0)
            case atStart => exact ⟨rfl, rfl⟩
            case round =>
              obtain ⟨rfl, rfl⟩ := hrel
              go_wp2_with fail
              refine ⟨⟨k + 1, hlt, by go_num, _, _, _, _, HD7.out.mono (by omega) (by omega), HF7.out⟩, ?_⟩
              simp [intOf]; omega
        · have hd3 : decide (w0k = 3) = false := by simp [h3]
          have HSet := hid (fun W (F : Fr (fun _ => False) w5 W) => (HD5.out.fr0 F).set_any (l := ac.sl) ac.rp ac.rs (wf_hi HOK.out.ws) (HOK.out.sli.fr0 F) (sli_base (HSL0.out) (HF5.out.trans F (fun _ _ h => h)) (by rw [HB.out]; exact Nat.le_refl _)) h40 (by omega))
          obtain ⟨er, her⟩ : ∃ er, setE s1.length ac.sl ac.rp ac.rs = er := ⟨_, rfl⟩
          have her3 : er = 0 ∨ er = 1 ∨ er = 2 := by rw [← her]; unfold setE; split; · simp
                                                     split <;> simp
          have hR : er = 0 ∧ setR s1 ac.sl ac.rp ac.rs = setM s1 (ac.sl.map Int.toNat) (ac.rp, ac.rs) ∧ (∀ z ∈ ac.sl, 0 ≤ z) ∨ ¬ er = 0 ∧ setR s1 ac.sl ac.rp ac.rs = s1 := by
            unfold setR
            rw [her]
            by_cases h0 : er = 0
            · rw [if_pos h0]
              exact .inl ⟨h0, rfl, setE_pos (her.trans h0)⟩
            · rw [if_neg h0]
              exact .inr ⟨h0, rfl⟩
          rw [her] at HSet
          have HR1 := hid (And.intro hR her)
          have FG : Fr (fun _ => False) w5 w5.drew := (Fr.refl _ _).drew
          clear hR her
          have HQ5 := hid (fun W (F : Fr (fun _ => False) w5 W) => HQ.out W (HF5.out.trans F (fun _ _ h => h)))
          go_wp2_with fail
          go_region_held3 (fun W => W.cell? ⟨bA, off + k * 4 + 1, none⟩ = some (.slice ac.sa ac.sn ac.sc) ∧ W.cell? ⟨bA, off + k * 4 + 2, none⟩ = some (.int .i64 ac.rp) ∧ W.cell? ⟨bA, off + k * 4 + 3, none⟩ = some (.int .i64 ac.rs)) (go_keep) (first
            | (go_at_call 51; refine (ref15_ok ac.rp ac.rs _).mono ?_; rintro _ V1 ⟨rfl, G1⟩; have FG := FG.trans G1 (fun _ _ h => h); obtain ⟨q0, q1, q2, q3⟩ := HQ5.out _ FG; clear G1)
            | (go_at_call 50; refine (HSet.out _ FG).mono ?_; rintro _ w6 ⟨rfl, F6, y6, x6, t6, hd6, hx6⟩; obtain ⟨q0, q1, q2, q3⟩ := HQ.out _ (frD_all (HF5.out.trans FG (fun _ _ h => h)) (Nat.le_refl _) F6)))
          have HAl6 := hid (hd6.all (by omega))
          have HF6 := hid (frD_all (HF5.out.trans FG (fun _ _ h => h)) (Nat.le_refl _) F6)
          have HO6 := hid (FrD.own (ownsRow_fr HO5.out FG (fun _ _ _ h => h)) (by decide) F6)
          clear F6 hd6 HSet hx6 FG
          go_wp2_with fail
          refine HAl6.out.mono ?_
          rintro e w7 ⟨a7, c7, rfl, hown7, F7, hd7⟩
          have hl7 : (setR s1 ac.sl ac.rp ac.rs).length = m := by rw [setR_len, HM1.out]
          rw [hl7]
          have HF7 := hid (frD_all HF6.out (Nat.le_refl _) F7)
          have HD7 := hid hd7
          have HR := hid (fun j (hj : j < m) (W : World) (F : Fr (fun _ => False) w7 W) => show ∃ r r' : Rf, ∃ g7 g5 : Nat, a7 = some ⟨g7, 0, none⟩ ∧ a5 = some ⟨g5, 0, none⟩ ∧ g7 < W.heap.size ∧ g5 < W.heap.size ∧ W.cell? ⟨g7, j * 2, none⟩ = some (.int .i64 r'.1) ∧ W.cell? ⟨g7, j * 2 + 1, none⟩ = some (.int .i64 r'.2) ∧ W.cell? ⟨g5, j * 2, none⟩ = some (.int .i64 r.1) ∧ W.cell? ⟨g5, j * 2 + 1, none⟩ = some (.int .i64 r.2) ∧ (er = 0 → (j : Int) ∈ ac.sl → r' = (ac.rp, ac.rs)) ∧ (¬ (er = 0 ∧ (j : Int) ∈ ac.sl) → r' = r) by
            obtain ⟨r, hr⟩ : ∃ r, s1[j]? = some r := ⟨_, List.getElem?_eq_getElem (by rw [HM1.out]; exact hj)⟩
            obtain ⟨r', hr'⟩ : ∃ r', (setR s1 ac.sl ac.rp ac.rs)[j]? = some r' := ⟨_, List.getElem?_eq_getElem (by rw [hl7]; exact hj)⟩
            obtain ⟨g7, e7, h7, u0, u1⟩ := ownR_at (ownsRow_fr hown7 F (fun _ _ _ h => h)) hr'
            obtain ⟨g5, e5, h5, v0, v1⟩ := ownR_at (ownsRow_fr (FrD.own HO6.out (by decide) F7) F (fun _ _ _ h => h)) hr
            obtain ⟨h1, h2⟩ := setR_get HR1.out.1 hr hr'
            exact ⟨r, r', g7, g5, e7, e5, h7, h5, u0, u1, v0, v1, h1, h2⟩)
          clear hown7 F7 hd7 hl7 HAl6 q0 q1 q2 q3
          go_wp2_with fail
          go_loopw [17] (fun i wr2 => ∃ j : Nat, j ≤ m ∧ i = .int .i64 j ∧ Fr (fun _ => False) w7 wr2) (fun i _ => m - (intOf i).toNat)
          case atStart => exact ⟨0, Nat.zero_le _, rfl, Fr.refl _ _⟩
          case round =>
            obtain ⟨j, hj, rfl, hFj⟩ := hrel
            have HFj := hid hFj
            clear hFj
            by_cases hj2 : j < m
            · have hdj : decide ((j : Int) < (m : Int)) = true := by simp; omega
              have hji : (j : Int) < (m : Int) := by omega
              go_wp2_with fail
              go_loopw [18, 19] (fun inv i wr3 => ∃ q : Nat, q ≤ ac.sn ∧ i = .int .i64 q ∧ inv = .bool (decide ((j : Int) ∈ ac.sl.take q)) ∧ Fr (fun _ => False) w7 wr3) (fun _ i _ => ac.sn - (intOf i).toNat)
              case atStart => exact ⟨0, Nat.zero_le _, rfl, by simp, HFj.out⟩
              case round =>
                obtain ⟨q, hq, rfl, rfl, hFq⟩ := hrel
                have HFq := hid hFq
                obtain ⟨q0, q1, q2, q3⟩ := HQ.out _ (HF7.out.trans hFq (fun _ _ h => h))
                clear hFq
                by_cases hq2 : q < ac.sn
                · have hdq : decide ((q : Int) < (ac.sn : Int)) = true := by simp; omega
                  have hqi : (q : Int) < (ac.sn : Int) := by omega
                  obtain ⟨z, hz⟩ : ∃ z, ac.sl[q]? = some z := ⟨_, List.getElem?_eq_getElem (by rw [HOK.out.sli.len]; exact hq2)⟩
                  obtain ⟨bs, os, hsa, hbs, hcs⟩ := (HSL0.out.fr0 (HF7.out.trans HFq.out (fun _ _ h => h))).at_ q z hz
                  rw [hsa] at q1
                  have htk : ac.sl.take (q + 1) = ac.sl.take q ++ [z] := by rw [List.take_add_one, hz]; rfl
                  have HTK := hid htk
                  clear hz hsa htk
                  by_cases hin : (j : Int) ∈ ac.sl.take q
                  · have hdin : decide ((j : Int) ∈ ac.sl.take q) = true := by simp [hin]
                    rw [hdin]
                    go_wp2_with fail
                    go_roundw
                    case rel => exact ⟨q + 1, hq2, by go_num, by rw [HTK.out]; simp [hin], HFq.out⟩
                    case measure => simp [intOf]; omega
                  · have hdin : decide ((j : Int) ∈ ac.sl.take q) = false := by simp [hin]
                    rw [hdin]
                    by_cases hzj : z = (j : Int)
                    · have hdz : decide (z = (j : Int)) = true := by simp [hzj]
                      go_wp2_with fail
                      go_roundw
                      case rel => exact ⟨q + 1, hq2, by go_num, by rw [HTK.out]; simp [hzj], HFq.out⟩
                      case measure => simp [intOf]; omega
                    · have hdz : decide (z = (j : Int)) = false := by simp [hzj]
                      have hzj' : ¬ (j : Int) = z := fun e => hzj e.symm
                      go_wp2_with fail
                      go_roundw
                      case rel => exact ⟨q + 1, hq2, by go_num, by rw [HTK.out, show decide ((j : Int) ∈ ac.sl.take q ++ [z]) = false from decide_eq_false (by rw [List.mem_append, List.mem_singleton]; exact fun h => h.elim hin hzj')]; simp [hzj], HFq.out⟩
                      case measure => simp [intOf]; omega
                · obtain rfl : q = ac.sn := by omega
                  have hdq : decide ((ac.sn : Int) < (ac.sn : Int)) = false := by simp
                  rw [List.take_of_length_le (by rw [HOK.out.sli.len]; exact Nat.le_refl _)]
                  obtain ⟨r, r', g7, g5, rfl, rfl, h7, h5, u0, u1, v0, v1, hr1, hr2⟩ := HR.out j hj2 _ HFq.out
                  have HRR := hid (And.intro hr1 hr2)
                  clear hr1 hr2
                  by_cases hin : (j : Int) ∈ ac.sl
                  · have hdin : decide ((j : Int) ∈ ac.sl) = true := by simp [hin]
                    rw [hdin]
                    by_cases h0 : er = 0
                    · obtain rfl := HRR.out.1 h0 hin
                      subst h0
                      have hn35 : ∀ W, (binOp .neq 35 (ref2 ac.rp ac.rs) (ref2 ac.rp ac.rs)).run Tryz.prog W = .ok (.bool false) W := fun W => by rw [neq35]; simp
                      have FG : Fr (fun _ => False) w7 wr.drew := HFq.out.drew
                      have HS := hid (fun V (F : Fr (fun _ => False) w7 V) => show V.cell? ⟨bA, off + k * 4 + 2, none⟩ = some (.int .i64 ac.rp) ∧ V.cell? ⟨bA, off + k * 4 + 3, none⟩ = some (.int .i64 ac.rs) ∧ V.cell? ⟨g7, j * 2, none⟩ = some (.int .i64 ac.rp) ∧ V.cell? ⟨g7, j * 2 + 1, none⟩ = some (.int .i64 ac.rs) by
                        obtain ⟨-, -, q2', q3'⟩ := HQ.out _ (HF7.out.trans F (fun _ _ h => h))
                        obtain ⟨r1, r2, g7', g5', e7, -, -, -, u0', u1', -, -, hr1, -⟩ := HR.out j hj2 _ F
                        cases e7
                        have hr2 := hr1 (by simp) hin
                        rw [hr2] at u0' u1'
                        exact ⟨q2', q3', u0', u1'⟩)
                      go_wp2_with fail
                      refine wp_region_noPanic ?_
                      refine region_plan (fun V => V.cell? ⟨bA, off + k * 4 + 2, none⟩ = some (.int .i64 ac.rp) ∧ V.cell? ⟨bA, off + k * 4 + 3, none⟩ = some (.int .i64 ac.rs) ∧ V.cell? ⟨g7, j * 2, none⟩ = some (.int .i64 ac.rp) ∧ V.cell? ⟨g7, j * 2 + 1, none⟩ = some (.int .i64 ac.rs))
                        (.rd 0 (.rd 1 (.rd 2 (.rd 3 (.rd 4 (.rd 5 (.rd 6 (.rd 7 (.rd 8 (.rd 9 (.rd 10 (.rd 11 (.rd 12 (.rd 13 (.rd 14 (.op 15 (.rd 16 (.rd 17 (.rd 18 (.rd 19 (.rd 20 (.rd 21 (.rd 22 (.rd 23 (.rd 24 (.rd 25 (.rd 26 (.rd 27 (.rd 28 (.rd 29 (.rd 30 (.rd 31 (.rd 32 (.rd 33 (.rd 34 (.rd 35 (.rd 36 .done)))))))))))))))))))))))))))))))))))))
                        (by kernel_rfl) (by kernel_rfl) (by kernel_rfl) (fun _ _ _ _ _ h => h) (HS.out _ FG) ?_
                      try simp only [Act.put, List.setIfInBounds_toArray, List.set_cons_zero, List.set_cons_succ]
                      refine plan_rd _ ?_ (by simp only [List.getElem?_toArray, List.getElem?_cons_zero, List.getElem?_cons_succ]; rfl) (by rfl) ?_ ?_
                      rotate_left
                      · intro V hV
                        obtain ⟨p1, p2, p3, p4⟩ := hV
                        go_simp
                        try with_reducible rfl
                      try simp only [Act.put, List.setIfInBounds_toArray, List.set_cons_zero, List.set_cons_succ]
                      refine plan_rd _ ?_ (by simp only [List.getElem?_toArray, List.getElem?_cons_zero, List.getElem?_cons_succ]; rfl) (by rfl) ?_ ?_
                      rotate_left
                      · intro V hV
                        obtain ⟨p1, p2, p3, p4⟩ := hV
                        go_simp
                        try with_reducible rfl
                      try simp only [Act.put, List.setIfInBounds_toArray, List.set_cons_zero, List.set_cons_succ]
                      refine plan_rd _ ?_ (by simp only [List.getElem?_toArray, List.getElem?_cons_zero, List.getElem?_cons_succ]; rfl) (by rfl) ?_ ?_
                      rotate_left
                      · intro V hV
                        obtain ⟨p1, p2, p3, p4⟩ := hV
                        go_simp
                        try with_reducible rfl
                      try simp only [Act.put, List.setIfInBounds_toArray, List.set_cons_zero, List.set_cons_succ]
                      refine plan_rd _ ?_ (by simp only [List.getElem?_toArray, List.getElem?_cons_zero, List.getElem?_cons_succ]; rfl) (by rfl) ?_ ?_
                      rotate_left
                      · intro V hV
                        obtain ⟨p1, p2, p3, p4⟩ := hV
                        go_simp
                        try with_reducible rfl
                      try simp only [Act.put, List.setIfInBounds_toArray, List.set_cons_zero, List.set_cons_succ]
                      refine plan_rd _ ?_ (by simp only [List.getElem?_toArray, List.getElem?_cons_zero, List.getElem?_cons_succ]; rfl) (by rfl) ?_ ?_
                      rotate_left
                      · intro V hV
                        obtain ⟨p1, p2, p3, p4⟩ := hV
                        go_simp
                        try with_reducible rfl
                      try simp only [Act.put, List.setIfInBounds_toArray, List.set_cons_zero, List.set_cons_succ]
                      refine plan_rd _ ?_ (by simp only [List.getElem?_toArray, List.getElem?_cons_zero, List.getElem?_cons_succ]; rfl) (by rfl) ?_ ?_
                      rotate_left
                      · intro V hV
                        obtain ⟨p1, p2, p3, p4⟩ := hV
                        go_simp
                        try with_reducible rfl
                      try simp only [Act.put, List.setIfInBounds_toArray, List.set_cons_zero, List.set_cons_succ]
                      refine plan_rd _ ?_ (by simp only [List.getElem?_toArray, List.getElem?_cons_zero, List.getElem?_cons_succ]; rfl) (by rfl) ?_ ?_
                      rotate_left
                      · intro V hV
                        obtain ⟨p1, p2, p3, p4⟩ := hV
                        go_simp
                        try with_reducible rfl
                      try simp only [Act.put, List.setIfInBounds_toArray, List.set_cons_zero, List.set_cons_succ]
                      refine plan_rd _ ?_ (by simp only [List.getElem?_toArray, List.getElem?_cons_zero, List.getElem?_cons_succ]; rfl) (by rfl) ?_ ?_
                      rotate_left
                      · intro V hV
                        obtain ⟨p1, p2, p3, p4⟩ := hV
                        go_simp
                        try with_reducible rfl
                      try simp only [Act.put, List.setIfInBounds_toArray, List.set_cons_zero, List.set_cons_succ]
                      refine plan_rd _ ?_ (by simp only [List.getElem?_toArray, List.getElem?_cons_zero, List.getElem?_cons_succ]; rfl) (by rfl) ?_ ?_
                      rotate_left
                      · intro V hV
                        obtain ⟨p1, p2, p3, p4⟩ := hV
                        go_simp
                        try with_reducible rfl
                      try simp only [Act.put, List.setIfInBounds_toArray, List.set_cons_zero, List.set_cons_succ]
                      refine plan_rd _ ?_ (by simp only [List.getElem?_toArray, List.getElem?_cons_zero, List.getElem?_cons_succ]; rfl) (by rfl) ?_ ?_
                      rotate_left
                      · intro V hV
                        obtain ⟨p1, p2, p3, p4⟩ := hV
                        go_simp
                        try with_reducible rfl
                      try simp only [Act.put, List.setIfInBounds_toArray, List.set_cons_zero, List.set_cons_succ]
                      refine plan_rd _ ?_ (by simp only [List.getElem?_toArray, List.getElem?_cons_zero, List.getElem?_cons_succ]; rfl) (by rfl) ?_ ?_
                      rotate_left
                      · intro V hV
                        obtain ⟨p1, p2, p3, p4⟩ := hV
                        go_simp
                        try with_reducible rfl
                      try simp only [Act.put, List.setIfInBounds_toArray, List.set_cons_zero, List.set_cons_succ]
                      refine plan_rd _ ?_ (by simp only [List.getElem?_toArray, List.getElem?_cons_zero, List.getElem?_cons_succ]; rfl) (by rfl) ?_ ?_
                      rotate_left
                      · intro V hV
                        obtain ⟨p1, p2, p3, p4⟩ := hV
                        go_simp
                        try with_reducible rfl
                      try simp only [Act.put, List.setIfInBounds_toArray, List.set_cons_zero, List.set_cons_succ]
                      refine plan_rd _ ?_ (by simp only [List.getElem?_toArray, List.getElem?_cons_zero, List.getElem?_cons_succ]; rfl) (by rfl) ?_ ?_
                      rotate_left
                      · intro V hV
                        obtain ⟨p1, p2, p3, p4⟩ := hV
                        go_simp
                        try with_reducible rfl
                      try simp only [Act.put, List.setIfInBounds_toArray, List.set_cons_zero, List.set_cons_succ]
                      refine plan_rd _ ?_ (by simp only [List.getElem?_toArray, List.getElem?_cons_zero, List.getElem?_cons_succ]; rfl) (by rfl) ?_ ?_
                      rotate_left
                      · intro V hV
                        obtain ⟨p1, p2, p3, p4⟩ := hV
                        go_simp
                        try with_reducible rfl
                      try simp only [Act.put, List.setIfInBounds_toArray, List.set_cons_zero, List.set_cons_succ]
                      refine plan_rd _ ?_ (by simp only [List.getElem?_toArray, List.getElem?_cons_zero, List.getElem?_cons_succ]; rfl) (by rfl) ?_ ?_
                      rotate_left
                      · intro V hV
                        obtain ⟨p1, p2, p3, p4⟩ := hV
                        go_simp
                        try with_reducible rfl
                      try simp only [Act.put, List.setIfInBounds_toArray, List.set_cons_zero, List.set_cons_succ]
                      refine plan_op _ (by simp only [List.getElem?_toArray, List.getElem?_cons_zero, List.getElem?_cons_succ]; rfl) (by rfl) (fun K hK => ?_)
                      go_simp
                      refine (ref15_ok ac.rp ac.rs _).mono ?_
                      rintro _ V1 ⟨rfl, G1⟩
                      have FG1 := FG.trans G1 (fun _ _ h => h)
                      try go_simp
                      refine hK _ _ (HS.out _ FG1) ?_
                      clear hK K
                      try simp only [Act.put, List.setIfInBounds_toArray, List.set_cons_zero, List.set_cons_succ]
                      refine plan_rd _ ?_ (by simp only [List.getElem?_toArray, List.getElem?_cons_zero, List.getElem?_cons_succ]; rfl) (by rfl) ?_ ?_
                      rotate_left
                      · intro V hV
                        obtain ⟨p1, p2, p3, p4⟩ := hV
                        go_simp
                        try with_reducible rfl
                      try simp only [Act.put, List.setIfInBounds_toArray, List.set_cons_zero, List.set_cons_succ]
                      refine plan_rd _ ?_ (by simp only [List.getElem?_toArray, List.getElem?_cons_zero, List.getElem?_cons_succ]; rfl) (by rfl) ?_ ?_
                      rotate_left
                      · intro V hV
                        obtain ⟨p1, p2, p3, p4⟩ := hV
                        go_simp
                        try with_reducible rfl
                      try simp only [Act.put, List.setIfInBounds_toArray, List.set_cons_zero, List.set_cons_succ]
                      refine plan_rd _ ?_ (by simp only [List.getElem?_toArray, List.getElem?_cons_zero, List.getElem?_cons_succ]; rfl) (by rfl) ?_ ?_
                      rotate_left
                      · intro V hV
                        obtain ⟨p1, p2, p3, p4⟩ := hV
                        go_simp
                        try with_reducible rfl
                      try simp only [Act.put, List.setIfInBounds_toArray, List.set_cons_zero, List.set_cons_succ]
                      refine plan_rd _ ?_ (by simp only [List.getElem?_toArray, List.getElem?_cons_zero, List.getElem?_cons_succ]; rfl) (by rfl) ?_ ?_
                      rotate_left
                      · intro V hV
                        obtain ⟨p1, p2, p3, p4⟩ := hV
                        go_simp
                        try with_reducible rfl
                      try simp only [Act.put, List.setIfInBounds_toArray, List.set_cons_zero, List.set_cons_succ]
                      refine plan_rd _ ?_ (by simp only [List.getElem?_toArray, List.getElem?_cons_zero, List.getElem?_cons_succ]; rfl) (by rfl) ?_ ?_
                      rotate_left
                      · intro V hV
                        obtain ⟨p1, p2, p3, p4⟩ := hV
                        go_simp
                        try with_reducible rfl
                      try simp only [Act.put, List.setIfInBounds_toArray, List.set_cons_zero, List.set_cons_succ]
                      refine plan_rd _ ?_ (by simp only [List.getElem?_toArray, List.getElem?_cons_zero, List.getElem?_cons_succ]; rfl) (by rfl) ?_ ?_
                      rotate_left
                      · intro V hV
                        obtain ⟨p1, p2, p3, p4⟩ := hV
                        go_simp
                        try with_reducible rfl
                      try simp only [Act.put, List.setIfInBounds_toArray, List.set_cons_zero, List.set_cons_succ]
                      refine plan_rd _ ?_ (by simp only [List.getElem?_toArray, List.getElem?_cons_zero, List.getElem?_cons_succ]; rfl) (by rfl) ?_ ?_
                      rotate_left
                      · intro V hV
                        obtain ⟨p1, p2, p3, p4⟩ := hV
                        go_simp
                        try with_reducible rfl
                      try simp only [Act.put, List.setIfInBounds_toArray, List.set_cons_zero, List.set_cons_succ]
                      refine plan_rd _ ?_ (by simp only [List.getElem?_toArray, List.getElem?_cons_zero, List.getElem?_cons_succ]; rfl) (by rfl) ?_ ?_
                      rotate_left
                      · intro V hV
                        obtain ⟨p1, p2, p3, p4⟩ := hV
                        go_simp
                        try with_reducible rfl
                      try simp only [Act.put, List.setIfInBounds_toArray, List.set_cons_zero, List.set_cons_succ]
                      refine plan_rd _ ?_ (by simp only [List.getElem?_toArray, List.getElem?_cons_zero, List.getElem?_cons_succ]; rfl) (by rfl) ?_ ?_
                      rotate_left
                      · intro V hV
                        obtain ⟨p1, p2, p3, p4⟩ := hV
                        go_simp
                        try with_reducible rfl
                      try simp only [Act.put, List.setIfInBounds_toArray, List.set_cons_zero, List.set_cons_succ]
                      refine plan_rd _ ?_ (by simp only [List.getElem?_toArray, List.getElem?_cons_zero, List.getElem?_cons_succ]; rfl) (by rfl) ?_ ?_
                      rotate_left
                      · intro V hV
                        obtain ⟨p1, p2, p3, p4⟩ := hV
                        go_simp
                        try with_reducible rfl
                      try simp only [Act.put, List.setIfInBounds_toArray, List.set_cons_zero, List.set_cons_succ]
                      refine plan_sk _ (by simp only [List.getElem?_toArray, List.getElem?_cons_zero, List.getElem?_cons_succ]; rfl) (by rfl) ?_
                      try simp only [Act.put, List.setIfInBounds_toArray, List.set_cons_zero, List.set_cons_succ]
                      refine plan_sk _ (by simp only [List.getElem?_toArray, List.getElem?_cons_zero, List.getElem?_cons_succ]; rfl) (by rfl) ?_
                      try simp only [Act.put, List.setIfInBounds_toArray, List.set_cons_zero, List.set_cons_succ]
                      refine plan_sk _ (by simp only [List.getElem?_toArray, List.getElem?_cons_zero, List.getElem?_cons_succ]; rfl) (by rfl) ?_
                      try simp only [Act.put, List.setIfInBounds_toArray, List.set_cons_zero, List.set_cons_succ]
                      refine plan_sk _ (by simp only [List.getElem?_toArray, List.getElem?_cons_zero, List.getElem?_cons_succ]; rfl) (by rfl) ?_
                      try simp only [Act.put, List.setIfInBounds_toArray, List.set_cons_zero, List.set_cons_succ]
                      refine plan_sk _ (by simp only [List.getElem?_toArray, List.getElem?_cons_zero, List.getElem?_cons_succ]; rfl) (by rfl) ?_
                      try simp only [Act.put, List.setIfInBounds_toArray, List.set_cons_zero, List.set_cons_succ]
                      refine plan_sk _ (by simp only [List.getElem?_toArray, List.getElem?_cons_zero, List.getElem?_cons_succ]; rfl) (by rfl) ?_
                      try simp only [Act.put, List.setIfInBounds_toArray, List.set_cons_zero, List.set_cons_succ]
                      refine plan_sk _ (by simp only [List.getElem?_toArray, List.getElem?_cons_zero, List.getElem?_cons_succ]; rfl) (by rfl) ?_
                      try simp only [Act.put, List.setIfInBounds_toArray, List.set_cons_zero, List.set_cons_succ]
                      refine plan_sk _ (by simp only [List.getElem?_toArray, List.getElem?_cons_zero, List.getElem?_cons_succ]; rfl) (by rfl) ?_
                      try simp only [Act.put, List.setIfInBounds_toArray, List.set_cons_zero, List.set_cons_succ]
                      refine plan_sk _ (by simp only [List.getElem?_toArray, List.getElem?_cons_zero, List.getElem?_cons_succ]; rfl) (by rfl) ?_
                      try simp only [Act.put, List.setIfInBounds_toArray, List.set_cons_zero, List.set_cons_succ]
                      refine plan_rd _ ?_ (by simp only [List.getElem?_toArray, List.getElem?_cons_zero, List.getElem?_cons_succ]; rfl) (by rfl) ?_ ?_
                      rotate_left
                      · intro V hV
                        obtain ⟨p1, p2, p3, p4⟩ := hV
                        go_simp
                        try with_reducible rfl
                      try simp only [Act.put, List.setIfInBounds_toArray, List.set_cons_zero, List.set_cons_succ]
                      refine plan_rd _ ?_ (by simp only [List.getElem?_toArray, List.getElem?_cons_zero, List.getElem?_cons_succ]; rfl) (by rfl) ?_ ?_
                      rotate_left
                      · intro V hV
                        obtain ⟨p1, p2, p3, p4⟩ := hV
                        go_simp
                        try with_reducible rfl
                      try simp only [Act.put, List.setIfInBounds_toArray, List.set_cons_zero, List.set_cons_succ]
                      refine plan_done ?_
                      refine NoPanic.normal ?_
                      go_wp2_with fail
                      go_roundw
                      case rel => exact ⟨j + 1, hj2, by go_num, FG1⟩
                      case measure => simp [intOf]; omega
                    · obtain rfl := HRR.out.2 (fun h => h0 h.1)
                      have hn35 : ∀ W, (binOp .neq 35 (ref2 r'.1 r'.2) (ref2 r'.1 r'.2)).run Tryz.prog W = .ok (.bool false) W := fun W => by rw [neq35]; simp
                      rcases her3 with rfl | rfl | rfl
                      · exact absurd rfl h0
                      all_goals (
                        go_wp2_with fail
                        go_quiet (fail)
                        go_wp2_with fail
                        go_roundw
                        case rel => exact ⟨j + 1, hj2, by go_num, HFq.out.drewN _⟩
                        case measure => simp [intOf]; omega)
                  · have hdin : decide ((j : Int) ∈ ac.sl) = false := by simp [hin]
                    rw [hdin]
                    obtain rfl := HRR.out.2 (fun h => hin h.2)
                    have hn35 : ∀ W, (binOp .neq 35 (ref2 r'.1 r'.2) (ref2 r'.1 r'.2)).run Tryz.prog W = .ok (.bool false) W := fun W => by rw [neq35]; simp
                    rcases her3 with rfl | rfl | rfl
                    all_goals (
                      go_wp2_with fail
                      go_quiet (fail)
                      go_wp2_with fail
                      go_roundw
                      case rel => exact ⟨j + 1, hj2, by go_num, HFq.out.drewN _⟩
                      case measure => simp [intOf]; omega)
            · obtain rfl : j = m := by omega
              have hdj : decide ((j : Int) < (j : Int)) = false := by simp
              go_wp2_with fail
              refine ⟨⟨k + 1, hlt, by go_num, _, _, _, _, (HD7.out.fr0 HFj.out).mono (by omega) (by omega), HF7.out.trans HFj.out (fun _ _ h => h)⟩, ?_⟩
              simp [intOf]; omega
      · obtain rfl : k = n := by omega
        have hd : decide ((k : Int) < (k : Int)) = false := by simp
        have HAw := hid (awake15_ok wr (HT.out.fr hF1 (fun h => h)))
        have HF1 := hid hF1
        clear hd1 hF1
        go_wp2_with fail
        refine HAw.out.mono ?_
        rintro e w5 ⟨rfl, F5⟩
        go_wp2_with fail
        go_ret
        exact ⟨rfl, HF1.out.trans F5 (fun _ _ h => h)⟩
end Go.Proofs.YtgdhaaokolfdoaaGreatDoor
