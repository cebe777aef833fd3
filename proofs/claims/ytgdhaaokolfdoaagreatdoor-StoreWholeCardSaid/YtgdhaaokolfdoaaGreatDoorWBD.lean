/- A pack of texts: EH, AX, FU, EI, HB, HC, RX. Conditions: those that each text names. -/
import Derived.Test.YtgdhaaokolfdoaaGreatDoorWAX
import Derived.Test.YtgdhaaokolfdoaaGreatDoorWAY
import Derived.Test.YtgdhaaokolfdoaaGreatDoorWBB
import Derived.Test.YtgdhaaokolfdoaaGreatDoorWBC
import Derived.Test.YtgdhaaokolfdoaaGreatDoorWAQ
import Derived.Lib.SmallJoins
import Derived.Deep.Cut
import Derived.Test.YtgdhaaokolfdoaaGreatDoorWAS
import Derived.Test.YtgdhaaokolfdoaaGreatDoorWAR
import Derived.OrdersIn
import Derived.OrdersHeld
import Derived.StillTail
import Derived.RangeFuncCalls
set_option linter.unusedVariables false
set_option linter.unusedSimpArgs false
set_option linter.unnecessarySimpa false
/- Chapter 13's did: every act. Conditions: the store, the document's rows and the act lie in the world, and go together. -/
namespace Go.Proofs.YtgdhaaokolfdoaaGreatDoor
open Go.RowKit Go.Sg Go.Sg.Bits Go.Sg.Clk CP SF
theorem tmod9 (z : Int) : -9 < z.tmod 9 ∧ z.tmod 9 < 9 := by
  rcases Int.lt_or_le z 0 with h | h
  · have h1 := Int.tmod_nonneg (a := -z) 9 (by omega)
    have h2 := Int.tmod_lt_of_pos (-z) (b := 9) (by decide)
    rw [Int.neg_tmod] at h1 h2
    omega
  · have h1 := Int.tmod_nonneg (a := z) 9 h
    have h2 := Int.tmod_lt_of_pos z (b := 9) (by decide)
    omega
theorem kind_range (k : Int) : 0 ≤ (wrap64 (k.tmod 9 + 9)).tmod 9 ∧ (wrap64 (k.tmod 9 + 9)).tmod 9 ≤ 8 := by
  have h1 := tmod9 k
  have h2 : wrap64 (k.tmod 9 + 9) = k.tmod 9 + 9 := by simp only [wrap64]; omega
  rw [h2]
  have h3 := Int.tmod_nonneg (a := k.tmod 9 + 9) 9 (by omega)
  have h4 := Int.tmod_lt_of_pos (k.tmod 9 + 9) (b := 9) (by decide)
  omega
/-- A commit is an act of its own. -/
abbrev isCommit (x : ActV) : Prop := (wrap64 (x.kind.tmod 9 + 9)).tmod 9 = 8
theorem did_plain {w w0 : World} {B : Blk} {y : Cs} {P : Prot} {a : Bool} {N : Nat} (h : StoreC w B y P a N) {r : R13} {t l f yy d : Value} (hr : RefAt w r t l f yy d) {x : ActV} (hx : ActOk w0 x) (hF0 : Fr (fun _ => False) w0 w) (hB0 : w0.heap.size ≤ B.base) (hR : Rel y r) (hN : N + 9 ≤ 90000) (hp0 : 0 < y.pages) (hp1 : y.pages ≤ 65535) (hroom : y.room = 77) (hpl : y.places ≤ 8)
    (hk8 : ¬ isCommit x) : Calls Tryz.prog 36 #[B.ptr, refV r t l f yy d, x.val] w (DidP B y P a N w) := by
  obtain ⟨k1, k2⟩ := kind_range x.kind
  obtain ⟨kd, hkd⟩ : ∃ kd, (wrap64 (x.kind.tmod 9 + 9)).tmod 9 = kd := ⟨_, rfl⟩
  have hk8' : kd ≠ 8 := fun e => hk8 (hkd.trans e)
  rw [hkd] at k1 k2
  by_cases h7 : kd = 7
  · exact did_flush h hr hx hF0 hB0 hR hN hp0 hp1 hroom hpl (hkd.trans h7)
  · by_cases hl0 : r.live.length = 0
    · by_cases h3 : 3 ≤ kd
      · exact did_none h hr hx hF0 hB0 hR hN hp0 hp1 hroom kd ⟨h3, by omega⟩ hkd hl0
      · by_cases hll : x.ll ≤ 77
        · exact did_new h hr hx hF0 hB0 hR hN hp0 hp1 hroom kd (by omega) hkd hll
        · exact did_long h hr hx hF0 hB0 hR hN hp0 hp1 hroom kd ⟨k1, by omega⟩ hkd (.inr (by omega)) (by omega)
    · have hl : 0 < r.live.length := by omega
      by_cases h5 : kd = 5
      · exact did_free h hr hx hF0 hB0 hR hN hp0 hp1 hroom hl (hkd.trans h5)
      · by_cases h6 : kd = 6
        · exact did_read h hr hx hF0 hB0 hR hN hp0 hp1 hroom hl (hkd.trans h6)
        · by_cases hll : x.ll ≤ 77
          · by_cases h3 : 3 ≤ kd
            · obtain ⟨i0, hi0, hat0⟩ := at_ok (n := x.n) hl (by have := hR.lens.1; omega)
              obtain ⟨n0, st0, bs0, hli0, -⟩ := rel_live hR hi0
              have key : ∀ b, y.fresh n0 = b → ∀ (i n st : Nat) bs, r.live[i]? = some ⟨n, st, bs⟩ → wrap64 ((IntKind.u64.wrap x.n).tmod ↑r.live.length) = (i : Int) → y.fresh n = b := fun b hb i n st bs hli hat => by
                have hii : i = i0 := by rw [hat0] at hat; omega
                subst hii
                rw [hli0] at hli
                have : (n0 : Int) = n := by injection hli with e; injection e
                rw [← this]; exact hb
              have hkk : kd = 3 ∨ kd = 4 := by omega
              cases hf : y.fresh n0 with
              | true => exact did_wfresh h hr hx hF0 hB0 hR hN hp0 hp1 hroom hl kd hkk hkd hll (key true hf)
              | false =>
                by_cases hall : allTaken y.taken y.pages 0 y.pages
                · exact did_wfull h hr hx hF0 hB0 hR hN hp0 hp1 hroom hl kd hkk hkd hll (key false hf) hall
                · obtain ⟨j, hj, hjf⟩ := not_all hall
                  exact did_wnew h hr hx hF0 hB0 hR hN hp0 hp1 hroom hl kd hkk hkd hll (key false hf) hj hjf
            · exact did_new h hr hx hF0 hB0 hR hN hp0 hp1 hroom kd (by omega) hkd hll
          · exact did_long h hr hx hF0 hB0 hR hN hp0 hp1 hroom kd ⟨k1, by omega⟩ hkd (.inl hl) (by omega)
end Go.Proofs.YtgdhaaokolfdoaaGreatDoor

/- The example of chapter 13 is awake. Conditions: the library's table lies as its text lays it. -/
namespace Go.Proofs.YtgdhaaokolfdoaaGreatDoor
open Go.RowKit Go.Sg Go.Sg.Bits Go.Sg.Clk CP SF
theorem inp_one (w : World) (B : Blk) (x : Int) : Inp (w.alloc (.cells #[.int .u8 x] 5 (1, 2))) B (some ⟨w.heap.size, 0, none⟩) 1 1 [x] := by
  have h := heap_alloc_new w (.cells #[.int .u8 x] 5 (1, 2))
  refine ⟨⟨⟨rfl, fun i y hy => ⟨w.heap.size, 0, rfl, by simp, ?_⟩⟩, .inr ⟨_, rfl⟩⟩, fun b off e => .inr ?_⟩
  · obtain ⟨rfl, rfl⟩ : i = 0 ∧ y = x := by
      cases i with
      | zero => simp at hy; exact ⟨rfl, hy.symm⟩
      | succ i => simp at hy
    rw [cell_of_heap h]; rfl
  · cases e; exact .inr (kd_cells h)
theorem take_first {n i : Nat} {t : Nat → Bool} {hand : Nat} (h : TakeIs t n hand i) {k : Nat} (h1 : hand ≤ k) (h2 : k < n) (h3 : t k = false) (h4 : ∀ j, hand ≤ j → j < k → t j = true) : i = k := by
  obtain ⟨a, b, c | c⟩ := h
  · rcases Nat.lt_trichotomy i k with h | h | h
    · rw [h4 i c.1 h] at b; cases b
    · exact h
    · rw [c.2 k h1 h h2] at h3; cases h3
  · rw [c.1 k h1 h2 h2] at h3; cases h3
theorem row_one {f : Int → Bool} {L : List Int} (h : RowOf f L) (a : Int) (hf : ∀ k, f k = true ↔ k = a) : L = [a] := by
  obtain ⟨h1, h2⟩ := h
  have hm : ∀ k, k ∈ L ↔ k = a := fun k => (h1 k).trans (hf k)
  cases L with
  | nil => have := (hm a).2 rfl; cases this
  | cons x r =>
    obtain rfl : x = a := (hm x).1 (by simp)
    cases r with
    | nil => rfl
    | cons y r =>
      obtain rfl : y = x := (hm y).1 (by simp)
      simp at h2
theorem eql35_01 (w : World) : (binOp .eql 35 (.agg #[.int .i64 0, .int .i64 1]) (.agg #[.int .i64 0, .int .i64 1])).run Tryz.prog w = .ok (.bool true) w := by kernel_rfl
theorem eql35_12 (w : World) : (binOp .eql 35 (.agg #[.int .i64 1, .int .i64 2]) (.agg #[.int .i64 1, .int .i64 2])).run Tryz.prog w = .ok (.bool true) w := by kernel_rfl
set_option maxHeartbeats 4000000 in
set_option maxRecDepth 100000 in
theorem awake13_ok (w : World) (hT : Tab w) : Calls Tryz.prog 25 #[] w fun e w' => e = .returned (.bool true) ∧ Fr (fun _ => False) w w' := by
  have hT0 := hT.lt
  have HT := hid hT
  have H20 := hid (flashnew_ok 60 96 (by omega) (by omega) w)
  clear hT
  have kc := fun (W : World) (C : Array Value) (n c g : Nat) (hg : g = W.heap.size) => Joins.run_convert_bytes_const_at (P := Tryz.prog) W 22 5 C n c g hg Tryz.underlying22 Tryz.underlying5
  go_enter Tryz.func25, Tryz.ntmps25
  go_wp2_with fail
  refine H20.out.mono ?_
  rintro e w1 ⟨rfl, hD, F1⟩
  have HD := hid hD
  have HF1 := hid F1
  clear hD F1
  go_wp2_with fail
  refine (small13_ok _).mono ?_
  rintro e w2 ⟨rfl, F2⟩
  have HF2 := hid (HF1.out.trans F2 (fun _ _ h => h))
  have HD2 := hid (HD.out.fr F2 (fun h => h) (fun h => h) (fun h => h) (fun _ _ _ _ _ h => h))
  clear F2
  go_wp2_with fail
  have H19 : Calls Tryz.prog 19 #[.pointer (some ⟨w.heap.size + 2, 0, none⟩), small13.val] w2 (OpenPost w.heap.size (w.heap.size + 2) w.heap.size (w.heap.size + 1) small13 0 (Dev.fresh 60 96) w2) :=
    format_ok HD2.out HF2.out.size 3 2 4 2 8 0 small13_fits
  refine H19.mono ?_
  rintro e w3 ⟨B, hB, rfl, hS, F3⟩
  have HF3 := hid (HF2.out.trans F3 (fun _ _ h => h))
  have HB := hid hB.1
  have HS := hid hS
  have h0 : openX small13 0 (Dev.fresh 60 96) = openX small13 0 (Dev.fresh 60 96) := rfl
  clear hB hS F3 H19 h0
  -- the first page
  obtain ⟨w4, hw4⟩ : ∃ w4, w3.alloc (.cells #[.int .u8 97] 5 (1, 2)) = w4 := ⟨_, rfl⟩
  have F4 : Fr (fun _ => False) w3 w4 := by rw [← hw4]; exact (Fr.refl _ _).alloc _
  have hin := inp_one w3 B 97
  rw [hw4] at hin
  have hbase : B.base = w.heap.size := HB.out
  have H22 := hid (new_room (HS.out.fr0 F4) (HT.out.fr (HF3.out.trans F4 (fun _ _ h => h)) (fun h => h)) (by omega) hin (show 1 ≤ 77 by omega) (j := 0) (show 0 < 48 by omega) rfl ⟨[], (fun k hk => by cases hk), (show 0 < 8 by omega)⟩)
  have HBase := hid hbase
  have HW4 := hid hw4
  have HF4 := hid (HF3.out.trans F4 (fun _ _ h => h))
  clear hw4 F4 hin hbase
  go_wp2_with fail
  rw [HW4.out]
  refine H22.out.mono ?_
  rintro e w5 ⟨n, p1, hn, he, hS, hp, F5⟩
  obtain rfl : n = 0 := take_first hn (k := 0) (Nat.le_refl _) (show 0 < 48 by omega) rfl (fun j h1 h2 => by omega)
  have he' : e = .returned (.tuple #[.agg #[.int .i64 0, .int .i64 1], .int .i64 0]) := he
  clear he
  subst he'
  obtain ⟨x1, hx1⟩ : ∃ x1, ({ tk (openX small13 0 (Dev.fresh 60 96)) 0 with mem := updM (openX small13 0 (Dev.fresh 60 96)).mem (0 : Nat) (some p1) } : Sto) = x1 := ⟨_, rfl⟩
  rw [hx1] at hS
  have f1 : x1.pages = 48 ∧ x1.room = 77 ∧ x1.gen = 1 ∧ x1.hand = 1 ∧ x1.places = 8 ∧ x1.taken 0 = true ∧ (∀ i, 1 ≤ i → x1.taken i = false) ∧ x1.fresh 0 = true ∧ x1.mem 0 = some p1 ∧ (∀ k, k ≠ 0 → x1.mem k = none) ∧ (∀ k, x1.dead k = false) ∧ (∀ k, x1.dying k = false) := by
    rw [← hx1]
    refine ⟨rfl, rfl, rfl, rfl, rfl, rfl, fun i hi => ?_, rfl, rfl, fun k hk => ?_, fun _ => rfl, fun _ => rfl⟩
    · have : ¬ i = 0 := by omega
      simp [tk, upd, openX, this]
    · simp [updM, openX, hk]
  have HX1 := hid f1
  have HS1 := hid hS
  have HF5 := hid F5
  clear hx1 hS F5 hp hn f1
  go_wp2_with fail
  -- another load
  obtain ⟨w6, hw6⟩ : ∃ w6, w5.alloc (.cells #[.int .i64 0, .int .i64 1] 35) = w6 := ⟨_, rfl⟩
  have F6 : Fr (fun _ => False) w5 w6 := by rw [← hw6]; exact (Fr.refl _ _).alloc _
  have ba : w6.heap[w5.heap.size]? = some (.cells #[.int .i64 0, .int .i64 1] 35) := by rw [← hw6]; exact heap_alloc_new _ _
  have hs6 : w6.heap.size = w5.heap.size + 1 := by rw [← hw6]; simp
  obtain ⟨w7, hw7⟩ : ∃ w7, w6.alloc (.cells #[.int .u8 98] 5 (1, 2)) = w7 := ⟨_, rfl⟩
  have F7 : Fr (fun _ => False) w6 w7 := by rw [← hw7]; exact (Fr.refl _ _).alloc _
  have hin := inp_one w6 B 98
  rw [hw7, hs6] at hin
  have G5 := hid ((FrB.none (B := B) HF4.out).trans HF5.out)
  have H26 : Calls Tryz.prog 26 #[B.ptr, .agg #[.int .i64 0, .int .i64 1], .slice (some ⟨w5.heap.size + 1, 0, none⟩) 1 1] w7 (WFreshR B x1 0 [98] w7) :=
    wfresh_room (HS1.out.fr0 (F6.trans F7 (fun _ _ h => h))) 0 1 hin (by rw [HX1.out.2.1]; omega) (by rw [HX1.out.1]; omega) HX1.out.2.2.2.2.2.1 HX1.out.2.2.2.2.2.2.2.1 (.inl (by rw [show x1.mem ((0 : Nat) : Int) = some p1 from HX1.out.2.2.2.2.2.2.2.2.1]; rfl))
  have HW67 := hid (And.intro hw6 hw7)
  have HBA := hid (F7.heap ba (fun h => h))
  have HF7 := hid (F6.trans F7 (fun _ _ h => h))
  have HH26 := hid H26
  clear hw6 hw7 F6 F7 ba hs6 hin H26
  rw [HW67.out.1, HW67.out.2]
  refine HH26.out.mono ?_
  rintro e w8 ⟨p2, he, hS, hp, F8⟩
  have he' : e = .returned (.tuple #[.agg #[.int .i64 0, .int .i64 1], .int .i64 0]) := by rw [he, HX1.out.2.2.1]; rfl
  clear he
  subst he'
  obtain ⟨x2, hx2⟩ : ∃ x2, ({ x1 with mem := updM x1.mem (0 : Nat) (some p2) } : Sto) = x2 := ⟨_, rfl⟩
  rw [hx2] at hS
  have f2 : x2.pages = 48 ∧ x2.room = 77 ∧ x2.gen = 1 ∧ x2.hand = 1 ∧ x2.places = 8 ∧ x2.taken 0 = true ∧ (∀ i, 1 ≤ i → x2.taken i = false) ∧ (∀ k, k ≠ 0 → x2.mem k = none) ∧ (∀ k, x2.dead k = false) ∧ (∀ k, x2.dying k = false) := by
    obtain ⟨a1, a2, a3, a4, a5, a6, a7, a8, a9, a10, a11, a12⟩ := HX1.out
    rw [← hx2]
    refine ⟨a1, a2, a3, a4, a5, a6, a7, fun k hk => ?_, a11, a12⟩
    simp [updM, hk, a10]
  have HX2 := hid f2
  have HS2 := hid hS
  have HBA8 := hid (F8.heap HBA.out (by decide))
  have G8 := hid ((G5.out.trans (FrB.none HF7.out)).trans F8)
  clear hx2 hS F8 hp f2
  go_wp2_with fail
  -- the commit
  obtain ⟨w9, hw9⟩ : ∃ w9, w8.alloc (.cells #[.int .i64 0, .int .i64 1] 35) = w9 := ⟨_, rfl⟩
  have F9 : Fr (fun _ => False) w8 w9 := by rw [← hw9]; exact (Fr.refl _ _).alloc _
  have bb : w9.heap[w8.heap.size]? = some (.cells #[.int .i64 0, .int .i64 1] 35) := by rw [← hw9]; exact heap_alloc_new _ _
  have H37 := hid (commit_at (HS2.out.fr0 F9) (fun k hk => by rw [HX2.out.2.2.2.2.2.2.2.2.1] at hk; cases hk) (by rw [HX2.out.2.2.1]; omega))
  have HW9 := hid hw9
  have HBA9 := hid (F9.heap HBA8.out (fun h => h))
  have HBB9 := hid bb
  have G9 := hid (G8.out.trans (FrB.none F9))
  clear hw9 F9 bb
  rw [HW9.out]
  refine H37.out.mono ?_
  rintro e w10 ⟨nn, rfl, hS, F10, hnn⟩
  have HBA10 := hid (F10.heap HBA9.out (by decide))
  have HBB10 := hid (F10.heap HBB9.out (by decide))
  have G10 := hid (G9.out.trans F10)
  obtain ⟨B2, hB2⟩ : ∃ B2, Blk.next B nn = B2 := ⟨_, rfl⟩
  have hB2b : B2.base = B.base ∧ B2.ptr = B.ptr := by rw [← hB2]; exact ⟨rfl, rfl⟩
  obtain ⟨x3, hx3⟩ : ∃ x3, commitX x2 = x3 := ⟨_, rfl⟩
  rw [hx3, hB2] at hS
  have f3 : x3.pages = 48 ∧ x3.room = 77 ∧ x3.gen = 2 ∧ x3.hand = 1 ∧ x3.places = 8 ∧ x3.taken 0 = true ∧ (∀ i, 1 ≤ i → x3.taken i = false) ∧ (∀ k, k ≠ 0 → x3.mem k = none) ∧ (∀ k, x3.fresh k = false) ∧ (∀ k, x3.dying k = false) := by
    obtain ⟨a1, a2, a3, a4, a5, a6, a7, a8, a9, a10⟩ := HX2.out
    rw [← hx3]
    refine ⟨a1, a2, by simp [commitX, a3], a4, a5, by simp [commitX, a6, a9], fun i hi => by simp [commitX, a7 i hi], fun k hk => by simp [commitX, a8 k hk], fun _ => rfl, fun _ => rfl⟩
  have HX3 := hid f3
  have HS3 := hid hS
  have HB2 := hid hB2b
  obtain ⟨k0, k1, kz, kl⟩ := cells2 HBB10.out
  clear hB2 hB2b hx3 hS F10 hnn f3
  go_wp2_with fail
  -- another page
  obtain ⟨w11, hw11⟩ : ∃ w11, w10.alloc (.cells #[.int .u8 99] 5 (1, 2)) = w11 := ⟨_, rfl⟩
  have F11 : Fr (fun _ => False) w10 w11 := by rw [← hw11]; exact (Fr.refl _ _).alloc _
  have hin := inp_one w10 B2 99
  rw [hw11] at hin
  have hb0 : 0 < B2.base := by rw [HB2.out.1, HBase.out]; omega
  have hTb : Tab w10 := by
    have G := G10.out.ge
    rw [HBase.out] at G
    exact HT.out.fr G (fun h => absurd h (by omega))
  have H26b : Calls Tryz.prog 26 #[B.ptr, .agg #[.int .i64 0, .int .i64 1], .slice (some ⟨w10.heap.size, 0, none⟩) 1 1] w11 (WNewR B2 x3 0 [99] w11) := by
    rw [← HB2.out.2]
    exact wnew_room (HS3.out.fr0 F11) (hTb.fr F11 (fun h => h)) hb0 0 1 hin (by rw [HX3.out.2.1]; omega) (by rw [HX3.out.1]; omega) HX3.out.2.2.2.2.2.1 (HX3.out.2.2.2.2.2.2.2.2.1 0) (j := 1) (by rw [HX3.out.1]; omega) (HX3.out.2.2.2.2.2.2.1 1 (by omega))
      ⟨[0], (fun k hk => by
        by_cases h : k = 0
        · simp [h]
        · rw [HX3.out.2.2.2.2.2.2.2.1 k h] at hk; cases hk), (by rw [HX3.out.2.2.2.2.1]; simp)⟩
  have HW11 := hid hw11
  have HH26b := hid H26b
  have HTb := hid hTb
  have HF11 := hid F11
  clear hw11 F11 hin H26b hTb hb0
  rw [HW11.out]
  refine HH26b.out.mono ?_
  rintro e w12 ⟨m, p4, hm, he, hS, hp, F12⟩
  obtain rfl : m = 1 := by
    obtain ⟨a1, a2, a3, a4, a5, a6, a7, _⟩ := HX3.out
    exact take_first hm (k := 1) (by omega) (by omega) (a7 1 (by omega)) (fun j h1 h2 => by omega)
  have he' : e = .returned (.tuple #[.agg #[.int .i64 1, .int .i64 2], .int .i64 0]) := by rw [he, HX3.out.2.2.1]; rfl
  clear he
  subst he'
  obtain ⟨x4, hx4⟩ : ∃ x4, ({ tk x3 1 with mem := updM x3.mem (1 : Nat) (some p4), dying := updI x3.dying (0 : Nat) true } : Sto) = x4 := ⟨_, rfl⟩
  rw [hx4] at hS
  have f4 : x4.pages = 48 ∧ x4.mem 1 = some p4 ∧ (∀ k, x4.dying k = true ↔ k = 0) := by
    rw [← hx4]
    refine ⟨HX3.out.1, rfl, fun k => ?_⟩
    simp only [updI]
    split
    · rename_i h; simp at h; simp [h]
    · rename_i h; simp at h; simp [h, HX3.out.2.2.2.2.2.2.2.2.2]
  have HX4 := hid f4
  have HS4 := hid hS
  have HP4 := hid hp
  have F12' := F12.ge
  rw [HB2.out.1] at F12'
  have HBA12 := hid (F12.heap ((FrB.none (B := B) HF11.out).heap HBA10.out (by decide)) (by decide))
  have HBB12 := hid (F12.heap ((FrB.none (B := B) HF11.out).heap HBB10.out (by decide)) (by decide))
  have G12 := hid ((G10.out.ge.trans HF11.out (fun _ _ h => h.elim)).trans F12' (fun _ _ h => h))
  clear hx4 hS F12 F12' hp hm f4 k0 k1 kz kl
  go_wp2_with fail
  -- it is read
  obtain ⟨w13, hw13⟩ : ∃ w13, w12.alloc (.cells #[.int .i64 1, .int .i64 2] 35) = w13 := ⟨_, rfl⟩
  have F13 : Fr (fun _ => False) w12 w13 := by rw [← hw13]; exact (Fr.refl _ _).alloc _
  have bc : w13.heap[w12.heap.size]? = some (.cells #[.int .i64 1, .int .i64 2] 35) := by rw [← hw13]; exact heap_alloc_new _ _
  have H24 : Calls Tryz.prog 24 #[B.ptr, .agg #[.int .i64 1, .int .i64 2]] w13 (ReadPost B2 x4 p4 2 [99] w13) := by
    rw [← HB2.out.2]
    exact read_hit (HS4.out.fr0 F13) 1 2 (by omega) (by rw [HX4.out.1]; omega) HX4.out.2.1 (HP4.out.2.2.frB (B := B) (FrB.none F13))
  have HW13 := hid hw13
  have HH24 := hid H24
  have HBC13 := hid bc
  have HBA13 := hid (F13.heap HBA12.out (fun h => h))
  have HBB13 := hid (F13.heap HBB12.out (fun h => h))
  have G13 := hid (G12.out.trans F13 (fun _ _ h => h.elim))
  clear hw13 F13 bc H24
  rw [HW13.out]
  refine HH24.out.mono ?_
  rintro e w14 ⟨he, hS, F14⟩
  have hst : p4.stamp = 2 := by rw [HP4.out.1, HX3.out.2.2.1]; rfl
  rw [if_pos hst] at he
  obtain ⟨xa, xc, rfl, hxb⟩ := he
  have F14' := F14.ge
  rw [HB2.out.1] at F14'
  have HXB := hid hxb
  have HS14 := hid hS
  have HBA14 := hid (F14.heap HBA13.out (by decide))
  have HBB14 := hid (F14.heap HBB13.out (by decide))
  have HBC14 := hid (F14.heap HBC13.out (by decide))
  have G14 := hid (G13.out.trans F14' (fun _ _ h => h))
  have hTc : Tab w14 := by
    have G := G14.out
    rw [HBase.out] at G
    exact HT.out.fr G (fun h => absurd h (by omega))
  have H32 : Calls Tryz.prog 32 #[B.ptr] w14 (PartsPost x4 w14) := by
    rw [← HB2.out.2]
    exact parts_at HS14.out hTc
  have HH32 := hid H32
  clear hxb hS F14 F14' hst hTc H32
  go_wp2_with fail
  refine HH32.out.mono ?_
  rintro e w15 ⟨v0, v1, v2, v3, L1, L2, L3, rfl, hI0, hI1, hI2, hI3, hR, F15⟩
  obtain rfl := row_one hR.2.1 0 HX4.out.2.2
  obtain ⟨a0, c0, rfl, -⟩ := hI0
  obtain ⟨a1, c1, rfl, -⟩ := hI1
  obtain ⟨a2, c2, rfl, hi2⟩ := hI2
  obtain ⟨a3, c3, rfl, -⟩ := hI3
  obtain ⟨g, rfl, hg, hgc⟩ := hi2 0 0 rfl
  obtain ⟨w16, hw16⟩ : ∃ w16, w15.alloc (.cells #[.slice a0 (tu x4.taken x4.pages).length c0, .slice a1 L1.length c1, .slice (some ⟨g, 0, none⟩) 1 c2, .slice a3 L3.length c3] 54) = w16 := ⟨_, rfl⟩
  have F16 : Fr (fun _ => False) w15 w16 := by rw [← hw16]; exact (Fr.refl _ _).alloc _
  have bp : w16.heap[w15.heap.size]? = some (.cells #[.slice a0 (tu x4.taken x4.pages).length c0, .slice a1 L1.length c1, .slice (some ⟨g, 0, none⟩) 1 c2, .slice a3 L3.length c3] 54) := by rw [← hw16]; exact heap_alloc_new _ _
  have FA := F15.trans F16 (fun _ _ h => h)
  have G16 := hid (G14.out.trans FA (fun _ _ h => h.elim))
  obtain ⟨ka0, ka1, _, _⟩ := cells2 (FA.heap HBA14.out (fun h => h))
  obtain ⟨kb0, kb1, _, _⟩ := cells2 (FA.heap HBB14.out (fun h => h))
  obtain ⟨kc0, kc1, _, _⟩ := cells2 (FA.heap HBC14.out (fun h => h))
  have kp2 := cell_of_heap bp 2
  simp at kp2
  have kg := (F16.cell (p := ⟨g, 0, none⟩) hg (fun h => h)).trans hgc
  have hstr : (convert 22 9 (.slice xa 1 xc)).run Tryz.prog w16 = .ok (.string ⟨#[99]⟩) w16 := str_at ((HXB.out.frB (B := B) (FrB.none FA)).slb) 9 Tryz.underlying9
  have e1 := eql35_01
  have e2 := eql35_12
  have HW16 := hw16
  clear F15 F16 FA hi2 hgc hR bp hg
  go_wp2
  go_ret
  have G := G16.out
  rw [HBase.out] at G
  exact ⟨rfl, (Fr.refl (fun _ => False) w).trans G (fun b hb h => absurd h (by omega))⟩
end Go.Proofs.YtgdhaaokolfdoaaGreatDoor

/- StoreFull: what the law computes. Conditions: the table of the bits lies in the world. -/
namespace Go.Proofs.YtgdhaaokolfdoaaGreatDoor
open Go.RowKit Go.Sg Go.Sg.Bits Go.Sg.Clk CP SF
abbrev noP : Prot := fun _ => none
/-- The store behind k pages were made. -/
structure FullY (y : Cs) (k : Nat) (bs : List Int) : Prop where
  pages : y.pages = 48
  room : y.room = 77
  gen : y.gen = 1
  places : y.places = 8
  hand : y.hand = k % 48
  taken : ∀ j, j < 48 → y.taken j = decide (j < k)
  cont : ∀ j : Nat, j < k → y.cont j = some (1, bs ++ [(j : Int)])
end Go.Proofs.YtgdhaaokolfdoaaGreatDoor

/- StoreParts: the plain law, and how store and document lie between two acts. Conditions: none. -/
namespace Go.Proofs.YtgdhaaokolfdoaaGreatDoor
open Go.RowKit Go.Sg Go.Sg.Bits Go.Sg.Clk CP SF
/-! ### The plain law -/
theorem rel_new (c : Cont) (D : Dev) : Rel (openY small13 0 D c) (R13.new 48) := by
  have hp : (layM small13).pages.toNat = 48 := by decide +kernel
  refine ⟨?_, fun k hk => ?_, ⟨rfl, ?_⟩, rfl, RowOf.none, RowOf.none, RowOf.none, ⟨fun k hk => (by cases hk), fun k hk => (by cases hk), fun k hk => by cases hk⟩, fun p hp => (by cases hp), List.nodup_nil, fun n hn ht => (by cases ht), ⟨fun k hk => (by cases hk), fun k hk => (by cases hk), fun k hk => (by cases hk), fun k hk => (by cases hk), fun k hk => by cases hk⟩⟩
  · simp [R13.new, openY, openX, Sto.cs, hp]
  · have hk' : k < 48 := by rw [← hp]; exact hk
    show (List.replicate 48 false)[k]? = some false
    rw [List.getElem?_replicate, if_pos hk']
  · show 0 < (layM small13).pages.toNat
    rw [hp]; decide
theorem mem_tu {t : Nat → Bool} {m : Nat} {x : Int} : x ∈ tu t m ↔ ∃ n : Nat, x = n ∧ n < m ∧ t n = true := by
  simp only [tu, List.mem_map, List.mem_filter, List.mem_range]
  constructor
  · rintro ⟨n, ⟨h1, h2⟩, rfl⟩; exact ⟨n, rfl, h1, h2⟩
  · rintro ⟨n, rfl, h1, h2⟩; exact ⟨n, ⟨h1, h2⟩, rfl⟩
theorem tu_nodup (t : Nat → Bool) (m : Nat) : (tu t m).Nodup := by
  unfold tu
  rw [List.Nodup, List.pairwise_map]
  exact (List.nodup_range.filter _).imp (fun h e => h (Int.ofNat.inj e))
/-! ### Between two acts -/
/-- Only cells that a store turns, from a base on, and new blocks, have turned. -/
abbrev FrT (base : Nat) (w w' : World) : Prop := Fr (fun b => base ≤ b ∧ Mut w b) w w'
theorem FrT.heap {base : Nat} {w w' : World} (h : FrT base w w') {b : Nat} {c : Array Value} {t : TypeId} {f : Nat × Nat} (hb : w.heap[b]? = some (.cells c t f)) (ht : t ∉ mutT) : w'.heap[b]? = some (.cells c t f) :=
  Fr.heap h hb fun hs => ht (hs.2 c t f hb)
theorem frB_frT {B : Blk} {w w' : World} (h : FrB B w w') : FrT B.base w w' := Fr.mono h fun b _ hs => ⟨hs.1, hs.2.1⟩
theorem FrT.own {base : Nat} {w w' : World} {b e size n : Nat} {v : Value} {xs : List Value} (h : w.ownsRow b e size v n xs) (he : e ∉ mutT) (F : FrT base w w') : w'.ownsRow b e size v n xs :=
  ownsRow_fr h F fun g c hg hs => he (hs.2 c e _ hg)
structure S13 (w : World) (base s : Nat) (B : Blk) (y : Cs) (r : R13) (N G : Nat) : Prop where
  st : StoreC w B y noP false N
  rel : Rel y r
  base_ : B.base = base
  s_ : B.s = s
  pages : y.pages = 48
  room : y.room = 77
  places : y.places = 8
  gen : y.gen ≤ G
end Go.Proofs.YtgdhaaokolfdoaaGreatDoor

/- A store whose device is fixed, for nothing in memory is dirty: Open, Mark, Read. Conditions: the store lies in the world as StoreK says. -/
namespace Go.Proofs.YtgdhaaokolfdoaaGreatDoor
open Go.RowKit Go.Sg Go.Sg.Bits Go.Sg.Clk CP SF
structure StoreK (w : World) (B : Blk) (y : Cs) (D : Dev) (P : Prot) (N : Nat) : Prop where
  ex : ∃ x c, StoreAt w B x ∧ y = x.cs c ∧ x.dev = D ∧ Holds w x c (fun _ => none) ∧ ∀ k q, x.mem k = some q → q.dirty = false
  dev : DevOk D P false N
  down : D.down = false
  few : N ≤ 90000
  tab : Tab w
  base : 0 < B.base
theorem StoreK.fr0 {w w' : World} {B : Blk} {y : Cs} {D : Dev} {P : Prot} {N : Nat} (h : StoreK w B y D P N) (F : Fr (fun _ => False) w w') : StoreK w' B y D P N := by
  obtain ⟨⟨x, c, hS, hy, hd, hh, hm⟩, h2, h3, h4, ht, hb⟩ := h
  exact ⟨⟨x, c, hS.fr0 F, hy, hd, hh.frB (B := B) (FrB.none F), hm⟩, h2, h3, h4, ht.fr F (fun h => h), hb⟩
theorem StoreK.devAt {w : World} {B : Blk} {y : Cs} {D : Dev} {P : Prot} {N : Nat} (h : StoreK w B y D P N) : DevAt w B.base B.d B.bf B.bq D := by
  obtain ⟨x, c, hS, hy, hd, hh, hm⟩ := h.ex
  rw [← hd]; exact hS.dev
theorem StoreK.c {w : World} {B : Blk} {y : Cs} {D : Dev} {P : Prot} {N : Nat} (h : StoreK w B y D P N) (ha : Apart y.taken y.fresh y.dying y.dead) : StoreC w B y (fun _ => none) false N := by
  obtain ⟨⟨x, c, hS, hy, hd, hh, hm⟩, h2, h3, h4, ht, hb⟩ := h
  subst hd hy
  exact ⟨⟨x, c, hS, rfl, h3, ⟨h2.acts, h2.many, h2.len, fun k bs h => (by cases h), h2.armed, h2.calm, h2.byt⟩, hh, fun _ _ h => absurd rfl h, ha, h4⟩, ht, hb⟩
theorem mark_k {w : World} {B : Blk} {y : Cs} {D : Dev} {P : Prot} {N : Nat} (h : StoreK w B y D P N) (n : Nat) (st : Int) (hp : n < y.pages) (ht : y.taken n = false) :
    Calls Tryz.prog 28 #[B.ptr, .agg #[.int .i64 n, .int .i64 st]] w fun e w' => e = .returned (.int .i64 0) ∧ StoreK w' B { y with taken := upd y.taken n true } D P N ∧ FrB B w w' := by
  obtain ⟨⟨x, c, hS, rfl, rfl, hh, hm⟩, h2, h3, h4, hT, hb⟩ := h
  refine (mark_free hS n st hp ht).mono ?_
  rintro e w' ⟨rfl, hS', F⟩
  have hh' := hh.frB F
  exact ⟨rfl, ⟨⟨_, c, hS', rfl, rfl, ⟨hh'.ok, hh'.mem, hh'.dev⟩, hm⟩, h2, h3, h4, hT.fr F (fun h => by omega), hb⟩, F⟩
/-- What Read of a page that holds a load does. -/
def ReadK (B : Blk) (y : Cs) (D : Dev) (P : Prot) (N : Nat) (load : List Int) (w : World) (e : Ending) (w' : World) : Prop :=
  ∃ la lc, e = .returned (.tuple #[.slice la load.length lc, .int .i64 0]) ∧ ByV w' la load.length lc load ∧ StoreK w' B y D P N ∧ FrB B w w'
theorem read_k {w : World} {B : Blk} {y : Cs} {D : Dev} {P : Prot} {N : Nat} (h : StoreK w B y D P N) (p stamp : Nat) {load : List Int} (hc : y.cont p = some (stamp, load)) :
    Calls Tryz.prog 24 #[B.ptr, .agg #[.int .i64 p, .int .i64 stamp]] w (ReadK B y D P N load w) := by
  obtain ⟨⟨x, c, hS, rfl, rfl, hh, hcl⟩, h2, h3, h4, hT, hb⟩ := h
  obtain ⟨g1, g2, g3, g4⟩ := hh.ok p stamp load hc
  have hrg := hS.rg
  have hsec := hS.dev.rg.1.2
  cases hm : x.mem p with
  | some q =>
    obtain ⟨s0, b0, a1, a2, a3, _⟩ := hh.mem p q hm
    have hc' : c p = some (stamp, load) := hc
    rw [hc'] at a1
    cases a1
    refine (read_hit hS p stamp g1.1 g1.2 hm a3).mono ?_
    rintro e w' ⟨he, hS', F⟩
    rw [if_pos a2] at he
    obtain ⟨la, lc, he, hbv⟩ := he
    exact ⟨la, lc, he, hbv, ⟨⟨x, c, hS', rfl, rfl, hh.frB F, hcl⟩, h2, h3, h4, hT.fr F (fun h => by omega), hb⟩, F⟩
  | none =>
    refine (read_dev hS hh.good (h2.up h3 h4) p stamp stamp load g1.2 hm h2.len (by have := hh.dev p stamp load hc hm; simpa using this) g4 (by omega) g2 (by omega) g3).mono ?_
    rintro e w' ⟨err, g, D, la, lc, hg, ho, hbv, hS', F, e1, e2, e3⟩
    have hDe : D = x.dev ∧ err = 0 := by
      cases g with
      | none => exact ho
      | some g =>
        obtain ⟨k, q⟩ := g
        have hq := hcl k q hg.2.1
        unfold OutR at ho
        simp only [hq, Bool.false_eq_true, if_false] at ho
        exact ho
    obtain ⟨rfl, rfl⟩ := hDe
    have h2n : DevOk x.dev (fun _ => none) false N := ⟨h2.acts, h2.many, h2.len, fun k bs h => (by cases h), h2.armed, h2.calm, h2.byt⟩
    obtain ⟨h1, h1', h3'⟩ := goes hh h2n h3 hg (show OutR w' x g x.dev 0 from ho) F (p := ⟨stamp, la, load.length, lc, false⟩) (st := stamp) ⟨rfl, hbv⟩ ⟨g1, g2, g3, g4⟩ ⟨hrg.2.2.2.2, hrg.2.2.2.1, hrg.2.2.1⟩ (fun h => by cases h) (fun _ => by have := hh.dev p stamp load hc hm; simpa using this)
    have ec : updC c p (some (stamp, load)) = c := by
      funext k
      simp only [updC]
      split
      · rename_i e; rw [e]; exact hc.symm
      · rfl
    have h5 := h3' { x with mem := putF x.mem p ⟨stamp, la, load.length, lc, false⟩ g, dev := x.dev } rfl rfl rfl rfl rfl
    rw [ec] at h5
    obtain ⟨a, cc, he, hbv'⟩ := e3 rfl rfl
    refine ⟨a, cc, he, hbv', ⟨⟨_, c, hS', rfl, rfl, h5, fun k q hq => ?_⟩, h2, h3, h4, hT.fr F (fun h => by omega), hb⟩, F⟩
    have hq' : putF x.mem p ⟨stamp, la, load.length, lc, false⟩ g k = some q := hq
    simp only [putF] at hq'
    split at hq'
    · cases hq'; rfl
    · split at hq'
      · cases hq'
      · exact hcl k q hq'
/-- What was read at a commit is protected. -/
def Kept (P : Prot) (L : List RPg) : Prop := (∀ p ∈ L, ∃ m st : Nat, p.page = m ∧ p.stamp = st ∧ CntOk 48 77 m st p.load ∧ P (12 + m) = some (buildM 96 2 m st p.load)) ∧ (L.map (·.page)).Nodup
/-- The contents that a row of pages tells. -/
def contL (L : List RPg) : Cont := fun k => (L.find? (fun p => decide (p.page = k))).map fun p => (p.stamp.toNat, p.load)
theorem contL_at {L : List RPg} (h : (L.map (·.page)).Nodup) {p : RPg} (hp : p ∈ L) : contL L p.page = some (p.stamp.toNat, p.load) := by
  have : L.find? (fun q => decide (q.page = p.page)) = some p := by
    induction L with
    | nil => cases hp
    | cons a L ih =>
      simp only [List.map_cons, List.nodup_cons] at h
      rw [List.find?_cons]
      rcases List.mem_cons.1 hp with rfl | hp'
      · simp
      · have hne : ¬ a.page = p.page := fun e => h.1 (e ▸ List.mem_map.2 ⟨p, hp', rfl⟩)
        simp only [decide_eq_false hne]
        exact ih h.2 hp'
  rw [contL, this]; rfl
theorem contL_some {L : List RPg} {k : Int} {st : Nat} {bs : List Int} (h : contL L k = some (st, bs)) : ∃ p ∈ L, p.page = k ∧ p.stamp.toNat = st ∧ p.load = bs := by
  unfold contL at h
  cases hf : L.find? (fun p => decide (p.page = k)) with
  | none => rw [hf] at h; cases h
  | some p =>
    rw [hf] at h
    have h1 := List.mem_of_find?_eq_some hf
    have h2 := List.find?_some hf
    simp at h h2
    exact ⟨p, h1, h2, h.1, h.2⟩
/-- Which pages of a row were marked. -/
def tkL (L : List RPg) : Nat → Bool := fun k => L.any fun p => decide (p.page = (k : Int))
theorem tkL_snoc (L : List RPg) (p : RPg) {m : Nat} (hm : p.page = m) : upd (tkL L) m true = tkL (L ++ [p]) := by
  funext k
  by_cases h : k = m
  · subst h; simp [upd, tkL, hm]
  · have h' : ¬ (m : Int) = k := by omega
    simp [upd, tkL, hm, h, h']
theorem tkL_new {L : List RPg} {p : RPg} {m : Nat} (hm : p.page = m) (h : ((L ++ [p]).map (·.page)).Nodup) : tkL L m = false := by
  rw [Bool.eq_false_iff]
  intro e
  simp only [tkL, List.any_eq_true, decide_eq_true_eq] at e
  obtain ⟨q, hq, he⟩ := e
  rw [List.map_append, List.nodup_append] at h
  exact h.2.2 q.page (List.mem_map.2 ⟨q, hq, rfl⟩) p.page (by simp) (by rw [he, hm])
/-- As many were marked as there are. -/
theorem tkL_len {L : List RPg} (h : (L.map (·.page)).Nodup) (h2 : ∀ p ∈ L, ∃ m : Nat, p.page = m ∧ m < 48) : (tu (tkL L) 48).length = L.length := by
  have hp : (L.map (·.page)).Perm (tu (tkL L) 48) := (List.perm_ext_iff_of_nodup h (tu_nodup _ _)).2 fun x => by
    rw [mem_tu]
    constructor
    · intro hx
      obtain ⟨p, hp, rfl⟩ := List.mem_map.1 hx
      obtain ⟨m, e, hm⟩ := h2 p hp
      exact ⟨m, e, hm, by simp only [tkL, List.any_eq_true, decide_eq_true_eq]; exact ⟨p, hp, e⟩⟩
    · rintro ⟨n, rfl, _, h4⟩
      simp only [tkL, List.any_eq_true, decide_eq_true_eq] at h4
      obtain ⟨p, hp, e⟩ := h4
      exact List.mem_map.2 ⟨p, hp, e⟩
  have := hp.length_eq
  simpa using this.symm
/-- A store that is opened upon such a device. -/
theorem open_k {w : World} {B : Blk} {gen : Nat} {D : Dev} {P : Prot} {N : Nat} (hS : StoreAt w B (openX small13 gen D)) (hT : Tab w) (hb : 0 < B.base) (hd : DevOk D P false N) (hdn : D.down = false) (hN : N ≤ 90000) (hz : D.size = 96) (hl : D.loose = []) {L : List RPg} (hL : Kept P L) :
    StoreK w B (openY small13 gen D (contL L)) D P N := by
  have hp : (layM small13).pages.toNat = 48 := by decide +kernel
  have hf : (layM small13).page = 12 := by decide +kernel
  refine ⟨⟨_, contL L, hS, rfl, rfl, ⟨fun k st bs hk => ?_, fun k q hq => (by cases hq), fun k st bs hk _ => ?_⟩, fun k q hq => (by cases hq)⟩, hd, hdn, hN, hT, hb⟩
  · obtain ⟨p, hpL, rfl, rfl, rfl⟩ := contL_some hk
    obtain ⟨m, st, e1, e2, hc, _⟩ := hL.1 p hpL
    show CntOk (layM small13).pages.toNat (D.size - 19) _ _ _
    rw [hp, hz, e1, e2]
    exact hc
  · obtain ⟨p, hpL, rfl, rfl, rfl⟩ := contL_some hk
    obtain ⟨m, st, e1, e2, hc, hP⟩ := hL.1 p hpL
    show D.sec ((layM small13).page + _) = buildM D.size 2 _ _ _
    rw [hf, hz, e1, e2, sec_miss (by rw [hl]; intro z hz; cases hz), (hd.prot _ _ hP).1]
    rfl
end Go.Proofs.YtgdhaaokolfdoaaGreatDoor

/- StoreWhole: how store, document and what the last two commits had lie between two acts; did. Conditions: none. -/
namespace Go.Proofs.YtgdhaaokolfdoaaGreatDoor
open Go.RowKit Go.Sg Go.Sg.Bits Go.Sg.Clk CP SF
/-- Where the device and the store lie. -/
structure Loc where
  base : Nat
  d : Nat
  bf : Nat
  bq : Nat
  s : Nat
structure S13W (w : World) (L : Loc) (B : Blk) (y : Cs) (r : R13) (P : Prot) (N G : Nat) (last ahead : List RPg) : Prop where
  st : StoreC w B y P true N
  rel : Rel y r
  at_ : B.base = L.base ∧ B.d = L.d ∧ B.bf = L.bf ∧ B.bq = L.bq ∧ B.s = L.s
  pages : y.pages = 48
  room : y.room = 77
  places : y.places = 8
  first : y.first = 12
  secs : y.sectors = 60 ∧ y.size = 96
  gen : y.gen ≤ G
  last_ : Kept P last
  ahead_ : Kept P ahead
  alive : ∀ p ∈ last, ∀ m : Nat, p.page = m → y.dead m = false
/-- What there is of the device when all calls are over. -/
def EndW (w : World) (L : Loc) (N : Nat) (last ahead : List RPg) : Prop := ∃ D P, DevAt w L.base L.d L.bf L.bq D ∧ DevOk D P true N ∧ D.sectors = 60 ∧ D.size = 96 ∧ Kept P last ∧ Kept P ahead
theorem S13W.fr0 {w w' : World} {L : Loc} {B : Blk} {y : Cs} {r : R13} {P : Prot} {N G : Nat} {last ahead : List RPg} (h : S13W w L B y r P N G last ahead) (F : Fr (fun _ => False) w w') : S13W w' L B y r P N G last ahead := { h with st := h.st.fr0 F }
theorem EndW.fr0 {w w' : World} {L : Loc} {N : Nat} {last ahead : List RPg} (h : EndW w L N last ahead) (F : Fr (fun _ => False) w w') : EndW w' L N last ahead := by
  obtain ⟨D, P, h1, r⟩ := h
  exact ⟨D, P, h1.fr F (fun h => h) (fun h => h) (fun h => h) (fun _ _ _ _ _ h => h), r⟩
theorem S13W.over {w : World} {L : Loc} {B : Blk} {y : Cs} {r : R13} {P : Prot} {N G : Nat} {last ahead : List RPg} (h : S13W w L B y r P N G last ahead) : EndW w L N last ahead := by
  obtain ⟨⟨⟨x, c, hS, rfl, hi⟩, _, _⟩, _, ⟨e1, e2, e3, e4, _⟩, _, _, _, _, hs, _, h1, h2, _⟩ := h
  refine ⟨x.dev, P, ?_, hi.dev, hs.1, hs.2, h1, h2⟩
  rw [← e1, ← e2, ← e3, ← e4]; exact hS.dev
theorem DownC.over {w : World} {L : Loc} {B : Blk} {y : Cs} {P : Prot} {N : Nat} {last ahead : List RPg} (h : DownC w B y P N) (ha : B.base = L.base ∧ B.d = L.d ∧ B.bf = L.bf ∧ B.bq = L.bq ∧ B.s = L.s) (hs : y.sectors = 60 ∧ y.size = 96) (h1 : Kept P last) (h2 : Kept P ahead) : EndW w L N last ahead := by
  obtain ⟨D, hD, hok, _, k1, k2⟩ := h.ex
  obtain ⟨e1, e2, e3, e4, _⟩ := ha
  exact ⟨D, P, by rw [← e1, ← e2, ← e3, ← e4]; exact hD, hok, k1.trans hs.1, k2.trans hs.2, h1, h2⟩
/-- What did does. -/
def DidW (L : Loc) (N G : Nat) (last ahead last' ahead' : List RPg) (w : World) (e : Ending) (w' : World) : Prop :=
  ∃ v err, e = .returned (.tuple #[v, .int .i64 err, .bool true]) ∧ FrT L.base w w' ∧
    ((err = 0 ∧ ∃ B y r P ta tc la lc fa fc ya yc da dc, v = refV r (.slice ta r.taken.length tc) (.slice la r.live.length lc) (.slice fa r.fresh.length fc) (.slice ya r.dying.length yc) (.slice da r.dead.length dc) ∧ S13W w' L B y r P N G last' ahead' ∧
      RefAt w' r (.slice ta r.taken.length tc) (.slice la r.live.length lc) (.slice fa r.fresh.length fc) (.slice ya r.dying.length yc) (.slice da r.dead.length dc)) ∨ (err = 4 ∧ Ref7 v ∧ EndW w' L N last ahead))
theorem did_w {w w0 : World} {L : Loc} {N G : Nat} {B : Blk} {y : Cs} {r : R13} {P : Prot} {last ahead : List RPg} (h : S13W w L B y r P N G last ahead) {t l f yy d : Value} (hr : RefAt w r t l f yy d) {x : ActV} (hx : ActOk w0 x) (hF0 : Fr (fun _ => False) w0 w) (hB0 : w0.heap.size ≤ L.base) (hN : N + 9 ≤ 90000) (hk : ¬ isCommit x) :
    Calls Tryz.prog 36 #[.pointer (some ⟨L.s, 0, none⟩), refV r t l f yy d, x.val] w (DidW L (N + 9) G last ahead last ahead w) := by
  obtain ⟨hS, hR, ha, hp, hro, hpl, hf, hs, hg, h1, h2, h3⟩ := h
  have ha' := ha
  obtain ⟨e1, e2, e3, e4, e5⟩ := ha
  rw [← e5]
  refine (did_plain hS hr hx hF0 (by omega) hR hN (by omega) (by omega) hro (by omega) hk).mono ?_
  rintro e w' ⟨y', r', v, err, rfl, F, hL, hd, hge, ⟨rfl, hR', hv, hS'⟩ | ⟨rfl, _, hcv, hD⟩⟩
  · obtain ⟨ta, tc, la, lc, fa, fc, ya, yc, da, dc, rfl, hv2⟩ := hv.slices
    exact ⟨_, _, rfl, by rw [← e1]; exact frB_frT F, .inl ⟨rfl, B, y', r', P, ta, tc, la, lc, fa, fc, ya, yc, da, dc, rfl, ⟨hS', hR', ha', by rw [hL.pages]; exact hp, by rw [hL.room]; exact hro, by rw [hL.places]; exact hpl, by rw [hL.first]; exact hf, by rw [hL.sectors, hL.size]; exact hs, by rw [hge]; exact hg, h1, h2, by rw [hd]; exact h3⟩, hv2⟩⟩
  · exact ⟨_, _, rfl, by rw [← e1]; exact frB_frT F, .inr ⟨rfl, hcv, hD.over ha' hs h1 h2⟩⟩
theorem StoreC.cnt {w : World} {B : Blk} {y : Cs} {P : Prot} {a : Bool} {N : Nat} (h : StoreC w B y P a N) {k : Int} {st : Nat} {bs : List Int} (hc : y.cont k = some (st, bs)) : CntOk y.pages y.room k st bs := by
  obtain ⟨x, c, hS, rfl, hi⟩ := h.ex
  exact hi.holds.ok k st bs hc
theorem StoreC.ptk {w : World} {B : Blk} {y : Cs} {P : Prot} {a : Bool} {N : Nat} (h : StoreC w B y P a N) {k : Nat} (hk : k < y.pages) {v : List Int} (hv : P (y.first + k) = some v) : y.taken k = true := by
  obtain ⟨x, c, hS, rfl, hi⟩ := h.ex
  exact (hi.ptk k hk (by have hv' : P (x.first + k) = some v := hv; rw [hv']; simp)).1
/-- A commit, behind a flush and a sync. -/
theorem did_wc {w w0 : World} {L : Loc} {N G : Nat} {B : Blk} {y : Cs} {r : R13} {P : Prot} {last ahead : List RPg} (h : S13W w L B y r P N G last ahead) (hl : StoreL 2 w B y P true N) {t l f yy d : Value} (hr : RefAt w r t l f yy d) {x : ActV} (hx : ActOk w0 x) (hF0 : Fr (fun _ => False) w0 w) (hB0 : w0.heap.size ≤ L.base) (hN : N + 9 ≤ 90000) (hG : G ≤ 999999) (hk : isCommit x) :
    Calls Tryz.prog 36 #[.pointer (some ⟨L.s, 0, none⟩), refV r t l f yy d, x.val] w (DidW L (N + 9) (G + 1) r.live last r.live last w) := by
  obtain ⟨hS, hR, ha, hp, hro, hpl, hf, hs, hg, h1, h2, h3⟩ := h
  have ha' := ha
  obtain ⟨e1, e2, e3, e4, e5⟩ := ha
  rw [← e5]
  refine (did_commit hS hr hx hF0 (by omega) hR hN (by omega) (by omega) hro (by omega) (fun W => ∃ B' : Blk, (B'.base = B.base ∧ B'.d = B.d ∧ B'.bf = B.bf ∧ B'.bq = B.bq ∧ B'.s = B.s) ∧ ∃ P', StoreC W B' y.commit P' true (N + 9) ∧ ∀ k : Nat, k < y.pages → y.taken k = true → y.dead k = false →
    (∀ st bs, y.cont k = some (st, bs) → P' (y.first + k) = some (buildM y.size 2 k st bs)) ∧ ∀ v, P (y.first + k) = some v → P' (y.first + k) = some v) ?_ ?_ ?_ hk).mono ?_
  · rintro W W' ⟨B', h1, P', h3, h4⟩ F; exact ⟨B', h1, P', h3.fr0 F, h4⟩
  · rintro W W' k c ⟨B', h1, P', h3, h4⟩ hk h0 F; exact ⟨B', h1, P', h3.box F hk h0, h4⟩
  · intro W F
    refine (commit_l (hl.fr0 F) (by omega)).mono ?_
    rintro e w' ⟨rfl, F', n, P', hS', _, hP⟩
    exact ⟨rfl, F', Blk.next B n, ⟨rfl, rfl, rfl, rfl, rfl⟩, P', hS'.mono (by omega) hN, hP⟩
  · rintro e w' ⟨v, rfl, F, hv, B', hB', P', h4, hP⟩
    obtain ⟨ta, tc, la, lc, fa, fc, ya, yc, da, dc, rfl, hv2⟩ := hv.slices
    obtain ⟨b1, b2, b3, b4, b5⟩ := hB'
    rw [hf, hp, hs.2] at hP
    refine ⟨_, _, rfl, by rw [← e1]; exact frB_frT F, .inl ⟨rfl, B', y.commit, r.commit, P', ta, tc, la, lc, fa, fc, ya, yc, da, dc, rfl, ⟨h4, rel_commit hR, ⟨b1.trans e1, b2.trans e2, b3.trans e3, b4.trans e4, b5.trans e5⟩, hp, hro, hpl, hf, hs, by show y.gen + 1 ≤ _; omega, ⟨fun p hp' => ?_, hR.nodup⟩, ⟨fun p hp' => ?_, h1.2⟩, fun p hp' m hm => ?_⟩, hv2⟩⟩
    · obtain ⟨m, st, k1, k2, k3, k4, k5, k6, k7, k8⟩ := hR.live p hp'
      have hc := hS.cnt k7
      rw [hp, hro] at hc
      exact ⟨m, st, k1, k2, hc, (hP m (by omega) k4 k6).1 st p.load k7⟩
    · obtain ⟨m, st, k1, k2, k3, k4⟩ := h1.1 p hp'
      have hm : m < 48 := by have := k3.1.2; omega
      exact ⟨m, st, k1, k2, k3, (hP m hm (hS.ptk (by rw [hp]; exact hm) (by rw [hf]; exact k4)) (h3 p hp' m k1)).2 _ k4⟩
    · obtain ⟨m', st, k1, k2, k3, k4, k5, k6, k7, k8⟩ := hR.live p hp'
      have : m' = m := by omega
      subst this
      exact k5
end Go.Proofs.YtgdhaaokolfdoaaGreatDoor

/- A region that draws its order, in the round of a range over a function: what holds of it outside a round holds there. Conditions: no operation of it is a defer statement; the post lets nothing outgrow. -/
namespace Go.Sg
open Go.RowKit
section
variable {n : Nat} {P : Program} {ops : Array Oper} {Q : Exit → Act → World → Prop} {lp : Nat}
/-! ### A plan for a region: what reads cells that stand is taken first; of what is left one comes up, or one of two -/
variable {md : Region.Mode} {S : World → Prop}
inductive Pl where
  | done
  | rd (i : Nat) (p : Pl)
  | op (i : Nat) (p : Pl)
  | two (i j : Nat) (p q : Pl)
def wpPlan (P : Program) (md : Region.Mode) (ops : Array Oper) (Q : Exit → Act → World → Prop) (S : World → Prop) : Pl → Act → World → Prop
  | .done, a, w => Q .normal a w
  | .rd i p, a, w => ∃ v o, ops[i]? = some o ∧ YieldsIf P ops S o v a ∧ wpPlan P md ops Q S p (a.put o.dst v) w
  | .op i p, a, w => wpOp P ops Q i (fun a' w' => S w' ∧ wpPlan P md ops Q S p a' w') a w
  | .two i j p q, a, w => wpOp P ops Q i (fun a' w' => S w' ∧ wpPlan P md ops Q S p a' w') a w ∧ wpOp P ops Q j (fun a' w' => S w' ∧ wpPlan P md ops Q S q a' w') a w
def planB (md : Region.Mode) (ops : Array Oper) : Nat → Pl → Array Bool → Bool
  | _, .done, listed => (Region.ready md ops listed).isEmpty
  | n + 1, .rd i p, listed => Region.free md ops listed i && (Region.ready md ops listed).contains i && planB md ops n p (listed.setIfInBounds i true)
  | n + 1, .op i p, listed => decide (Region.ready md ops listed = [i]) && planB md ops n p (listed.setIfInBounds i true)
  | n + 1, .two i j p q, listed => decide (Region.ready md ops listed = [i, j]) && planB md ops n p (listed.setIfInBounds i true) && planB md ops n q (listed.setIfInBounds j true)
  | 0, _, _ => false
theorem held_of_plan (hs : Region.noSelect ops = true) (hQ : ∀ c a d v w, Q (.panic c) (Act.put a d v) w → Q (.panic c) a w) : ∀ (n : Nat) (l : Pl) (listed : Array Bool) (a : Act) (w : World), planB md ops n l listed = true → S w → wpPlan P md ops Q S l a w → wpAnyH P md ops Q S n listed a w
  | _, .done, listed, a, w, hB, _, h => wpAnyH_done (by simpa [planB] using hB) h _
  | 0, .rd _ _, _, _, _, hB, _, _ => by simp [planB] at hB
  | 0, .op _ _, _, _, _, hB, _, _ => by simp [planB] at hB
  | 0, .two _ _ _ _, _, _, _, hB, _, _ => by simp [planB] at hB
  | n + 1, .rd i p, listed, a, w, hB, hS, h => by
    simp only [planB, Bool.and_eq_true] at hB
    obtain ⟨v, o, ho, hy, hr⟩ := h
    exact wpAnyH_take ho hs hB.1.1 hB.1.2 (fun c a w => hQ c a _ _ w) hy hS (held_of_plan hs hQ n p _ _ _ hB.2 hS hr)
  | n + 1, .op i p, listed, a, w, hB, hS, h => by
    simp only [planB, Bool.and_eq_true, decide_eq_true_eq] at hB
    refine wpAnyH_all (rs := [i]) hB.1 (by simp) fun j hj => ?_
    have e : j = i := by simpa using hj
    subst e
    exact wpOp_mono (fun a' w' h' => ⟨h'.1, held_of_plan hs hQ n p _ _ _ hB.2 h'.1 h'.2⟩) h
  | n + 1, .two i j p q, listed, a, w, hB, hS, h => by
    simp only [planB, Bool.and_eq_true, decide_eq_true_eq] at hB
    refine wpAnyH_all (rs := [i, j]) hB.1.1 (by simp) fun k hk => ?_
    have e : k = i ∨ k = j := by simpa using hk
    rcases e with rfl | rfl
    · exact wpOp_mono (fun a' w' h' => ⟨h'.1, held_of_plan hs hQ n p _ _ _ hB.1.2 h'.1 h'.2⟩) h.1
    · exact wpOp_mono (fun a' w' h' => ⟨h'.1, held_of_plan hs hQ n q _ _ _ hB.2 h'.1 h'.2⟩) h.2
/-- The same, outside a round. -/
theorem region_plan {id : Nat} {a : Act} {w : World} (S : World → Prop) (l : Pl) (hm : P.follows .mixedOrders = true) (hs : Region.noSelect ops = true) (hB : planB .any ops ops.size l (Array.replicate ops.size false) = true)
    (hQ : ∀ c a d v w, Q (.panic c) (Act.put a d v) w → Q (.panic c) a w) (hS : S w.drew) (h : wpPlan P .any ops Q S l a w.drew) : (Code.region id ops true).wp P Q a w :=
  wp_region_any hm (wpAny_of_held (S := S) _ _ _ _ (held_of_plan hs hQ _ l _ _ _ hB hS h))
/-! The steps of a plan. -/
theorem plan_done {a : Act} {w : World} (h : Q .normal a w) : wpPlan P md ops Q S .done a w := h
theorem plan_rd {i : Nat} {p : Pl} {a : Act} {w : World} (o : Oper) (v : Value) (ho : ops[i]? = some o) (hw : Region.wanted o (yielded ops a.tmps) = true) (hr : ∀ w, S w → (execOp a.eval o).run P w = .ok (.value v) w) (h : wpPlan P md ops Q S p (a.put o.dst v) w) : wpPlan P md ops Q S (.rd i p) a w :=
  ⟨v, o, ho, .inl ⟨hw, hr⟩, h⟩
theorem op_step {i : Nat} {K : Act → World → Prop} {a : Act} {w : World} (o : Oper) (ho : ops[i]? = some o) (hw : Region.wanted o (yielded ops a.tmps) = true)
    (h : ∀ K' : Act → World → Prop, (∀ a' w', K a' w' → K' a' w') → Oper.wp P o a w K' Q) : wpOp P ops Q i K a w := by
  unfold wpOp
  simp only [ho, hw, if_true]
  exact .inl (h _ fun a' w' h1 => h1)
theorem plan_op {i : Nat} {p : Pl} {a : Act} {w : World} (o : Oper) (ho : ops[i]? = some o) (hw : Region.wanted o (yielded ops a.tmps) = true)
    (h : ∀ K : Act → World → Prop, (∀ a' w', S w' → wpPlan P md ops Q S p a' w' → K a' w') → Oper.wp P o a w K Q) : wpPlan P md ops Q S (.op i p) a w :=
  op_step o ho hw fun K hK => h K fun a' w' h1 h2 => hK a' w' ⟨h1, h2⟩
theorem plan_two {i j : Nat} {p q : Pl} {a : Act} {w : World} (h1 : wpPlan P md ops Q S (.op i p) a w) (h2 : wpPlan P md ops Q S (.op j q) a w) : wpPlan P md ops Q S (.two i j p q) a w := ⟨h1, h2⟩
end
end Go.Sg
