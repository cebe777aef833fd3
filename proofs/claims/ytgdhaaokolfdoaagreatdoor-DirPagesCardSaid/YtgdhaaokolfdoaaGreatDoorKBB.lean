/- A pack of texts: GB, AX. Conditions: those that each text names. -/
import Derived.Test.YtgdhaaokolfdoaaGreatDoorKBA
import Derived.Test.YtgdhaaokolfdoaaGreatDoorKAG
import Derived.Test.YtgdhaaokolfdoaaGreatDoorKAX
import Derived.Lib.SmallJoins
import Derived.Deep.Cut
set_option linter.unusedVariables false
set_option linter.unusedSimpArgs false
set_option linter.unnecessarySimpa false
/- Chapter 15's pages of references: load. Conditions: the references lie in the world and are right. -/
namespace Go.Sg
/-- A reference's bytes. -/
def refB (x : Int × Int) : List Int := leB x.1.toNat 4 ++ leB x.2.toNat 8
def loadM (l : List (Int × Int)) : List Int := l.flatMap refB
theorem refB_len (x : Int × Int) : (refB x).length = 12 := by simp [refB, leB_length]
theorem loadM_len (l : List (Int × Int)) : (loadM l).length = 12 * l.length := by
  induction l with
  | nil => rfl
  | cons x l ih => simp only [loadM, List.flatMap_cons, List.length_append, List.length_cons] at ih ⊢; rw [refB_len, ih]; omega
def rightR (x : Int × Int) : Prop := 0 ≤ x.1 ∧ x.1 ≤ 2147483647 ∧ 0 ≤ x.2 ∧ x.2 < 9223372036854775808
/-- A slice of references that reads as l. -/
structure RowR (w : World) (a : Option Addr) (l : List (Int × Int)) : Prop where
  at_ : ∀ (i : Nat) (x : Int × Int), l[i]? = some x → ∃ b off, a = some ⟨b, off, none⟩ ∧ b < w.heap.size ∧ w.cell? ⟨b, off + i * 2, none⟩ = some (.int .i64 x.1) ∧ w.cell? ⟨b, off + i * 2 + 1, none⟩ = some (.int .i64 x.2)
theorem RowR.fr {S : Nat → Prop} {w w' : World} {a : Option Addr} {l : List (Int × Int)} (h : RowR w a l) (F : Fr S w w') (hS : ∀ b off, a = some ⟨b, off, none⟩ → b < w.heap.size → l ≠ [] → ¬ S b) : RowR w' a l :=
  ⟨fun i x hx => by
    obtain ⟨b, off, e, hb, h1, h2⟩ := h.at_ i x hx
    have hn : l ≠ [] := by rintro rfl; simp at hx
    exact ⟨b, off, e, Nat.lt_of_lt_of_le hb F.size, (F.cell (p := ⟨b, off + i * 2, none⟩) hb (hS b off e hb hn)).trans h1, (F.cell (p := ⟨b, off + i * 2 + 1, none⟩) hb (hS b off e hb hn)).trans h2⟩⟩
theorem RowR.fr0 {w w' : World} {a : Option Addr} {l : List (Int × Int)} (h : RowR w a l) (F : Fr (fun _ => False) w w') : RowR w' a l := h.fr F (fun _ _ _ _ _ h => h)
end Go.Sg
namespace Go.Proofs.YtgdhaaokolfdoaaGreatDoor
open Go.RowKit Go.Sg CP SF
def LoadP (l : List (Int × Int)) (w : World) (e : Ending) (w' : World) : Prop := ∃ a c, e = .returned (.slice a (12 * l.length) c) ∧ ByV w' a (12 * l.length) c (loadM l) ∧ Fr (fun _ => False) w w'
def WNumP (base r limit : Nat) (bs : List Int) (n k : Nat) (w : World) (e : Ending) (w' : World) : Prop := e = .returned (.tuple #[]) ∧ WtAt w' base r (bs ++ Sg.leB n k) limit ∧ Fr (WtS w base r) w w'
def NewWtP (limit : Nat) (w : World) (e : Ending) (w' : World) : Prop := e = .returned (.pointer (some ⟨w.heap.size, 0, none⟩)) ∧ WtAt w' w.heap.size w.heap.size [] limit ∧ Fr (fun _ => False) w w'
def WBytP (bs : List Int) (w : World) (e : Ending) (w' : World) : Prop := ∃ a c, e = .returned (.slice a bs.length c) ∧ (ByV w' a bs.length c bs ∧ bs.length ≤ c) ∧ Fr (fun _ => False) w w'
theorem wnum_p {w : World} {base r limit : Nat} {bs : List Int} (h : WtAt w base r bs limit) (hbase : base ≤ w.heap.size) (n k : Nat) (kz : Int) (hkz : kz = k) (hk : k = 1 ∨ k = 2 ∨ k = 4 ∨ k = 8) (hn : n < 18446744073709551616) (hroom : bs.length + k ≤ limit) :
    Calls Tryz.prog 179 #[.pointer (some ⟨r, 0, none⟩), .int .u64 n, .int .i64 kz] w (WNumP base r limit bs n k w) := by
  subst hkz; exact wnum_ok2 h hbase n k hk hn hroom
theorem newwt_p (limit : Nat) (z : Int) (hz : z = limit) (hl : limit ≤ 65536) (w : World) : Calls Tryz.prog 178 #[.int .i64 z] w (NewWtP limit w) := by
  subst hz; exact newwriter_ok limit hl w
theorem wbytes_p {w : World} {base r limit : Nat} {bs : List Int} (h : WtAt w base r bs limit) : Calls Tryz.prog 180 #[.pointer (some ⟨r, 0, none⟩)] w (WBytP bs w) := wbytes_ok h
theorem u64_small {z : Int} (h0 : 0 ≤ z) (h1 : z < 9223372036854775808) : IntKind.u64.wrap z = (z.toNat : Int) := by
  simp only [IntKind.wrap, IntKind.signed, IntKind.bits]
  simp
  omega
set_option maxHeartbeats 4000000 in
set_option maxRecDepth 100000 in
theorem load_ok {w : World} {a : Option Addr} {c n : Nat} {l : List (Int × Int)} (h : RowR w a l) (hr : ∀ x ∈ l, rightR x) (hn : l.length = n) (hn1 : n ≤ 64) :
    Calls Tryz.prog 119 #[.slice a n c] w (LoadP l w) := by
  have H := hid h
  have HR := hid (And.intro hr hn)
  have HNW := hid (newwt_p (12 * n) (12 * (n : Int)) (by simp) (by omega) w)
  clear h hr hn
  go_enter Tryz.func119, Tryz.ntmps119
  go_wp2_with (go_at_call 178; refine HNW.out.mono ?_)
  rintro e w1 ⟨rfl, hW, F1⟩
  have HW1 := hid (And.intro hW F1)
  clear hW F1
  go_wp2_with fail
  go_loopw [12] (fun i wr => ∃ k : Nat, k ≤ n ∧ i = .int .i64 k ∧ WtAt wr w.heap.size w.heap.size (loadM (l.take k)) (12 * n) ∧ Fr (fun _ => False) w wr) (fun i _ => n - (intOf i).toNat)
  case atStart => exact ⟨0, Nat.zero_le _, rfl, HW1.out.1, HW1.out.2⟩
  case round =>
    obtain ⟨k, hk, rfl, hW, F⟩ := hrel
    have HW := hid (And.intro hW F)
    by_cases hlt : k < n
    · have hx : l[k]? = some (l[k]'(by rw [HR.out.2]; exact hlt)) := List.getElem?_eq_getElem _
      generalize l[k]'(by rw [HR.out.2]; exact hlt) = x at hx
      have hrx := HR.out.1 x (List.mem_of_getElem? hx)
      obtain ⟨z1, z2⟩ := x
      obtain ⟨p, rfl⟩ := Int.eq_ofNat_of_zero_le hrx.1
      obtain ⟨q, rfl⟩ := Int.eq_ofNat_of_zero_le hrx.2.2.1
      have hp1 : p ≤ 2147483647 := by have := hrx.2.1; simp only at this; omega
      have hq1 : q < 9223372036854775808 := by have := hrx.2.2.2; simp only at this; omega
      obtain ⟨b, off, rfl, hb, h0, h1⟩ := (H.out.fr0 F).at_ k _ hx
      simp only at h0 h1
      have hd : decide ((k : Int) < (n : Int)) = true := by simp; omega
      have hu1 : IntKind.u64.wrap (p : Int) = (p : Int) := by simp [IntKind.wrap, IntKind.signed, IntKind.bits]; omega
      have hu2 : IntKind.u64.wrap (q : Int) = (q : Int) := by simp [IntKind.wrap, IntKind.signed, IntKind.bits]; omega
      have hll : (loadM (l.take k)).length = 12 * k := by rw [loadM_len, List.length_take, HR.out.2]; omega
      have HN1 := hid (fun W (F : Fr (fun _ => False) wr W) => wnum_p (hW.fr F (fun _ _ _ h => h)) (Nat.le_trans HW.out.2.size F.size) p 4 4 (by simp) (by omega) (by omega) (by rw [hll]; omega))
      have HX := hid (And.intro hx hll)
      have hsz : w.heap.size < wr.heap.size := by obtain ⟨⟨v, hr, _⟩, _⟩ := HW.out.1; exact lt_of_heap hr
      clear hx hrx hll hW F
      go_upto_region 5 with fail
      obtain ⟨W2, hW2⟩ : ∃ W2, wr.alloc (.cells #[.int .i64 p, .int .i64 q] 35) = W2 := ⟨_, rfl⟩
      rw [hW2]
      have F2 : Fr (fun _ => False) wr W2 := by rw [← hW2]; exact (Fr.refl _ _).alloc _
      have j9 : W2.heap[wr.heap.size]? = some (.cells #[.int .i64 p, .int .i64 q] 35) := by rw [← hW2]; exact heap_alloc_new _ _
      have H2 := hid (And.intro F2 j9)
      obtain ⟨e0, e1, ez, el⟩ := cells2 j9
      have HC := hid (HN1.out W2 F2)
      clear h0 h1 F2 j9 hW2 HN1
      go_wp2_with (go_at_call 179; refine HC.out.mono ?_)
      rintro e W3 ⟨rfl, hW3, F3⟩
      have j9 := F3.heap H2.out.2 (fun h => by
        rcases h.2 with h | ⟨c, h⟩
        · omega
        · rw [H2.out.2] at h; cases h)
      obtain ⟨e0, e1, ez, el⟩ := cells2 j9
      have F03 : Fr (fun _ => False) w W3 := ((HW.out.2.trans H2.out.1 (fun _ _ h => h))).trans F3 (fun b hb h => by have := h.1; omega)
      have HC2 := hid (wnum_p hW3 F03.size q 8 8 (by simp) (by omega) (by omega) (by rw [List.length_append, HX.out.2, leB_length]; omega))
      have H3 := hid F03
      clear F3 hW3 F03 j9 HC
      go_wp2_with (go_at_call 179; refine HC2.out.mono ?_)
      rintro e W4 ⟨rfl, hW4, F4⟩
      have H4 := hid (And.intro hW4 (H3.out.trans F4 (fun b hb h => by have := h.1; omega)))
      clear F4 hW4
      go_wp2_with fail
      go_roundw
      case rel =>
        refine ⟨k + 1, hlt, by go_num, ?_, H4.out.2⟩
        have e1 : loadM (l.take (k + 1)) = loadM (l.take k) ++ Sg.leB p 4 ++ Sg.leB q 8 := by
          rw [List.take_add_one, HX.out.1]; simp [loadM, refB]
        rw [e1]; exact H4.out.1
      case measure => simp [intOf]; omega
    · obtain rfl : k = n := by omega
      have hd : decide ((k : Int) < (k : Int)) = false := by simp
      have HB := hid (wbytes_p hW)
      clear hW F
      go_wp2_with (go_at_call 180; refine HB.out.mono ?_)
      rintro e W2 ⟨a2, c2, rfl, ⟨hb2, -⟩, F2⟩
      have H2 := hid (And.intro hb2 F2)
      clear hb2 F2
      go_wp2_with fail
      refine bodyPost_ret (v := .slice a2 (loadM (l.take k)).length c2) (by simp [results, go_sem]) rfl ?_
      have e1 : l.take k = l := List.take_of_length_le (by rw [HR.out.2]; exact Nat.le_refl _)
      have hb := H2.out.1
      rw [e1, loadM_len] at hb
      rw [e1, loadM_len]
      exact ⟨a2, c2, rfl, hb, HW.out.2.trans H2.out.2 (fun _ _ h => h)⟩
end Go.Proofs.YtgdhaaokolfdoaaGreatDoor

/- The example of chapter 13 is awake. Conditions: the library's table lies as its text lays it. -/
namespace Go.Proofs.YtgdhaaokolfdoaaGreatDoor
open Go.RowKit Go.Sg Go.Sg.Bits Go.Sg.Clk CP SF
theorem inp_one (w : World) (B : Blk) (x : Int) : Inp (w.alloc (.cells #[.int .u8 x] 5 (1, 2))) B (some ⟨w.heap.size, 0, none⟩) 1 1 [x] := by
  have h := heap_alloc_new w (.cells #[.int .u8 x] 5 (1, 2))
  refine ⟨⟨⟨rfl, fun i y hy => ⟨w.heap.size, 0, rfl, by simp, ?_⟩⟩, .inr ⟨_, rfl⟩⟩, fun b off e => .inr ?_⟩
  · obtain ⟨rfl, rfl⟩ : i = 0 ∧ y = x := by
      cases i with
      | zero => simp at hy; exact ⟨rfl, hy.symm⟩
      | succ i => simp at hy
    rw [cell_of_heap h]; rfl
  · cases e; exact .inr (kd_cells h)
theorem take_first {n i : Nat} {t : Nat → Bool} {hand : Nat} (h : TakeIs t n hand i) {k : Nat} (h1 : hand ≤ k) (h2 : k < n) (h3 : t k = false) (h4 : ∀ j, hand ≤ j → j < k → t j = true) : i = k := by
  obtain ⟨a, b, c | c⟩ := h
  · rcases Nat.lt_trichotomy i k with h | h | h
    · rw [h4 i c.1 h] at b; cases b
    · exact h
    · rw [c.2 k h1 h h2] at h3; cases h3
  · rw [c.1 k h1 h2 h2] at h3; cases h3
theorem row_one {f : Int → Bool} {L : List Int} (h : RowOf f L) (a : Int) (hf : ∀ k, f k = true ↔ k = a) : L = [a] := by
  obtain ⟨h1, h2⟩ := h
  have hm : ∀ k, k ∈ L ↔ k = a := fun k => (h1 k).trans (hf k)
  cases L with
  | nil => have := (hm a).2 rfl; cases this
  | cons x r =>
    obtain rfl : x = a := (hm x).1 (by simp)
    cases r with
    | nil => rfl
    | cons y r =>
      obtain rfl : y = x := (hm y).1 (by simp)
      simp at h2
theorem eql35_01 (w : World) : (binOp .eql 35 (.agg #[.int .i64 0, .int .i64 1]) (.agg #[.int .i64 0, .int .i64 1])).run Tryz.prog w = .ok (.bool true) w := by kernel_rfl
theorem eql35_12 (w : World) : (binOp .eql 35 (.agg #[.int .i64 1, .int .i64 2]) (.agg #[.int .i64 1, .int .i64 2])).run Tryz.prog w = .ok (.bool true) w := by kernel_rfl
set_option maxHeartbeats 4000000 in
set_option maxRecDepth 100000 in
theorem awake13_ok (w : World) (hT : Tab w) : Calls Tryz.prog 25 #[] w fun e w' => e = .returned (.bool true) ∧ Fr (fun _ => False) w w' := by
  have hT0 := hT.lt
  have HT := hid hT
  have H20 := hid (flashnew_ok 60 96 (by omega) (by omega) w)
  clear hT
  have kc := fun (W : World) (C : Array Value) (n c g : Nat) (hg : g = W.heap.size) => Joins.run_convert_bytes_const_at (P := Tryz.prog) W 22 5 C n c g hg Tryz.underlying22 Tryz.underlying5
  go_enter Tryz.func25, Tryz.ntmps25
  go_wp2_with fail
  refine H20.out.mono ?_
  rintro e w1 ⟨rfl, hD, F1⟩
  have HD := hid hD
  have HF1 := hid F1
  clear hD F1
  go_wp2_with fail
  refine (small13_ok _).mono ?_
  rintro e w2 ⟨rfl, F2⟩
  have HF2 := hid (HF1.out.trans F2 (fun _ _ h => h))
  have HD2 := hid (HD.out.fr F2 (fun h => h) (fun h => h) (fun h => h) (fun _ _ _ _ _ h => h))
  clear F2
  go_wp2_with fail
  have H19 : Calls Tryz.prog 19 #[.pointer (some ⟨w.heap.size + 2, 0, none⟩), small13.val] w2 (OpenPost w.heap.size (w.heap.size + 2) w.heap.size (w.heap.size + 1) small13 0 (Dev.fresh 60 96) w2) :=
    format_ok HD2.out HF2.out.size 3 2 4 2 8 0 small13_fits
  refine H19.mono ?_
  rintro e w3 ⟨B, hB, rfl, hS, F3⟩
  have HF3 := hid (HF2.out.trans F3 (fun _ _ h => h))
  have HB := hid hB.1
  have HS := hid hS
  have h0 : openX small13 0 (Dev.fresh 60 96) = openX small13 0 (Dev.fresh 60 96) := rfl
  clear hB hS F3 H19 h0
  -- the first page
  obtain ⟨w4, hw4⟩ : ∃ w4, w3.alloc (.cells #[.int .u8 97] 5 (1, 2)) = w4 := ⟨_, rfl⟩
  have F4 : Fr (fun _ => False) w3 w4 := by rw [← hw4]; exact (Fr.refl _ _).alloc _
  have hin := inp_one w3 B 97
  rw [hw4] at hin
  have hbase : B.base = w.heap.size := HB.out
  have H22 := hid (new_room (HS.out.fr0 F4) (HT.out.fr (HF3.out.trans F4 (fun _ _ h => h)) (fun h => h)) (by omega) hin (show 1 ≤ 77 by omega) (j := 0) (show 0 < 48 by omega) rfl ⟨[], (fun k hk => by cases hk), (show 0 < 8 by omega)⟩)
  have HBase := hid hbase
  have HW4 := hid hw4
  have HF4 := hid (HF3.out.trans F4 (fun _ _ h => h))
  clear hw4 F4 hin hbase
  go_wp2_with fail
  rw [HW4.out]
  refine H22.out.mono ?_
  rintro e w5 ⟨n, p1, hn, he, hS, hp, F5⟩
  obtain rfl : n = 0 := take_first hn (k := 0) (Nat.le_refl _) (show 0 < 48 by omega) rfl (fun j h1 h2 => by omega)
  have he' : e = .returned (.tuple #[.agg #[.int .i64 0, .int .i64 1], .int .i64 0]) := he
  clear he
  subst he'
  obtain ⟨x1, hx1⟩ : ∃ x1, ({ tk (openX small13 0 (Dev.fresh 60 96)) 0 with mem := updM (openX small13 0 (Dev.fresh 60 96)).mem (0 : Nat) (some p1) } : Sto) = x1 := ⟨_, rfl⟩
  rw [hx1] at hS
  have f1 : x1.pages = 48 ∧ x1.room = 77 ∧ x1.gen = 1 ∧ x1.hand = 1 ∧ x1.places = 8 ∧ x1.taken 0 = true ∧ (∀ i, 1 ≤ i → x1.taken i = false) ∧ x1.fresh 0 = true ∧ x1.mem 0 = some p1 ∧ (∀ k, k ≠ 0 → x1.mem k = none) ∧ (∀ k, x1.dead k = false) ∧ (∀ k, x1.dying k = false) := by
    rw [← hx1]
    refine ⟨rfl, rfl, rfl, rfl, rfl, rfl, fun i hi => ?_, rfl, rfl, fun k hk => ?_, fun _ => rfl, fun _ => rfl⟩
    · have : ¬ i = 0 := by omega
      simp [tk, upd, openX, this]
    · simp [updM, openX, hk]
  have HX1 := hid f1
  have HS1 := hid hS
  have HF5 := hid F5
  clear hx1 hS F5 hp hn f1
  go_wp2_with fail
  -- another load
  obtain ⟨w6, hw6⟩ : ∃ w6, w5.alloc (.cells #[.int .i64 0, .int .i64 1] 35) = w6 := ⟨_, rfl⟩
  have F6 : Fr (fun _ => False) w5 w6 := by rw [← hw6]; exact (Fr.refl _ _).alloc _
  have ba : w6.heap[w5.heap.size]? = some (.cells #[.int .i64 0, .int .i64 1] 35) := by rw [← hw6]; exact heap_alloc_new _ _
  have hs6 : w6.heap.size = w5.heap.size + 1 := by rw [← hw6]; simp
  obtain ⟨w7, hw7⟩ : ∃ w7, w6.alloc (.cells #[.int .u8 98] 5 (1, 2)) = w7 := ⟨_, rfl⟩
  have F7 : Fr (fun _ => False) w6 w7 := by rw [← hw7]; exact (Fr.refl _ _).alloc _
  have hin := inp_one w6 B 98
  rw [hw7, hs6] at hin
  have G5 := hid ((FrB.none (B := B) HF4.out).trans HF5.out)
  have H26 : Calls Tryz.prog 26 #[B.ptr, .agg #[.int .i64 0, .int .i64 1], .slice (some ⟨w5.heap.size + 1, 0, none⟩) 1 1] w7 (WFreshR B x1 0 [98] w7) :=
    wfresh_room (HS1.out.fr0 (F6.trans F7 (fun _ _ h => h))) 0 1 hin (by rw [HX1.out.2.1]; omega) (by rw [HX1.out.1]; omega) HX1.out.2.2.2.2.2.1 HX1.out.2.2.2.2.2.2.2.1 (.inl (by rw [show x1.mem ((0 : Nat) : Int) = some p1 from HX1.out.2.2.2.2.2.2.2.2.1]; rfl))
  have HW67 := hid (And.intro hw6 hw7)
  have HBA := hid (F7.heap ba (fun h => h))
  have HF7 := hid (F6.trans F7 (fun _ _ h => h))
  have HH26 := hid H26
  clear hw6 hw7 F6 F7 ba hs6 hin H26
  rw [HW67.out.1, HW67.out.2]
  refine HH26.out.mono ?_
  rintro e w8 ⟨p2, he, hS, hp, F8⟩
  have he' : e = .returned (.tuple #[.agg #[.int .i64 0, .int .i64 1], .int .i64 0]) := by rw [he, HX1.out.2.2.1]; rfl
  clear he
  subst he'
  obtain ⟨x2, hx2⟩ : ∃ x2, ({ x1 with mem := updM x1.mem (0 : Nat) (some p2) } : Sto) = x2 := ⟨_, rfl⟩
  rw [hx2] at hS
  have f2 : x2.pages = 48 ∧ x2.room = 77 ∧ x2.gen = 1 ∧ x2.hand = 1 ∧ x2.places = 8 ∧ x2.taken 0 = true ∧ (∀ i, 1 ≤ i → x2.taken i = false) ∧ (∀ k, k ≠ 0 → x2.mem k = none) ∧ (∀ k, x2.dead k = false) ∧ (∀ k, x2.dying k = false) := by
    obtain ⟨a1, a2, a3, a4, a5, a6, a7, a8, a9, a10, a11, a12⟩ := HX1.out
    rw [← hx2]
    refine ⟨a1, a2, a3, a4, a5, a6, a7, fun k hk => ?_, a11, a12⟩
    simp [updM, hk, a10]
  have HX2 := hid f2
  have HS2 := hid hS
  have HBA8 := hid (F8.heap HBA.out (by decide))
  have G8 := hid ((G5.out.trans (FrB.none HF7.out)).trans F8)
  clear hx2 hS F8 hp f2
  go_wp2_with fail
  -- the commit
  obtain ⟨w9, hw9⟩ : ∃ w9, w8.alloc (.cells #[.int .i64 0, .int .i64 1] 35) = w9 := ⟨_, rfl⟩
  have F9 : Fr (fun _ => False) w8 w9 := by rw [← hw9]; exact (Fr.refl _ _).alloc _
  have bb : w9.heap[w8.heap.size]? = some (.cells #[.int .i64 0, .int .i64 1] 35) := by rw [← hw9]; exact heap_alloc_new _ _
  have H37 := hid (commit_at (HS2.out.fr0 F9) (fun k hk => by rw [HX2.out.2.2.2.2.2.2.2.2.1] at hk; cases hk) (by rw [HX2.out.2.2.1]; omega))
  have HW9 := hid hw9
  have HBA9 := hid (F9.heap HBA8.out (fun h => h))
  have HBB9 := hid bb
  have G9 := hid (G8.out.trans (FrB.none F9))
  clear hw9 F9 bb
  rw [HW9.out]
  refine H37.out.mono ?_
  rintro e w10 ⟨nn, rfl, hS, F10, hnn⟩
  have HBA10 := hid (F10.heap HBA9.out (by decide))
  have HBB10 := hid (F10.heap HBB9.out (by decide))
  have G10 := hid (G9.out.trans F10)
  obtain ⟨B2, hB2⟩ : ∃ B2, Blk.next B nn = B2 := ⟨_, rfl⟩
  have hB2b : B2.base = B.base ∧ B2.ptr = B.ptr := by rw [← hB2]; exact ⟨rfl, rfl⟩
  obtain ⟨x3, hx3⟩ : ∃ x3, commitX x2 = x3 := ⟨_, rfl⟩
  rw [hx3, hB2] at hS
  have f3 : x3.pages = 48 ∧ x3.room = 77 ∧ x3.gen = 2 ∧ x3.hand = 1 ∧ x3.places = 8 ∧ x3.taken 0 = true ∧ (∀ i, 1 ≤ i → x3.taken i = false) ∧ (∀ k, k ≠ 0 → x3.mem k = none) ∧ (∀ k, x3.fresh k = false) ∧ (∀ k, x3.dying k = false) := by
    obtain ⟨a1, a2, a3, a4, a5, a6, a7, a8, a9, a10⟩ := HX2.out
    rw [← hx3]
    refine ⟨a1, a2, by simp [commitX, a3], a4, a5, by simp [commitX, a6, a9], fun i hi => by simp [commitX, a7 i hi], fun k hk => by simp [commitX, a8 k hk], fun _ => rfl, fun _ => rfl⟩
  have HX3 := hid f3
  have HS3 := hid hS
  have HB2 := hid hB2b
  obtain ⟨k0, k1, kz, kl⟩ := cells2 HBB10.out
  clear hB2 hB2b hx3 hS F10 hnn f3
  go_wp2_with fail
  -- another page
  obtain ⟨w11, hw11⟩ : ∃ w11, w10.alloc (.cells #[.int .u8 99] 5 (1, 2)) = w11 := ⟨_, rfl⟩
  have F11 : Fr (fun _ => False) w10 w11 := by rw [← hw11]; exact (Fr.refl _ _).alloc _
  have hin := inp_one w10 B2 99
  rw [hw11] at hin
  have hb0 : 0 < B2.base := by rw [HB2.out.1, HBase.out]; omega
  have hTb : Tab w10 := by
    have G := G10.out.ge
    rw [HBase.out] at G
    exact HT.out.fr G (fun h => absurd h (by omega))
  have H26b : Calls Tryz.prog 26 #[B.ptr, .agg #[.int .i64 0, .int .i64 1], .slice (some ⟨w10.heap.size, 0, none⟩) 1 1] w11 (WNewR B2 x3 0 [99] w11) := by
    rw [← HB2.out.2]
    exact wnew_room (HS3.out.fr0 F11) (hTb.fr F11 (fun h => h)) hb0 0 1 hin (by rw [HX3.out.2.1]; omega) (by rw [HX3.out.1]; omega) HX3.out.2.2.2.2.2.1 (HX3.out.2.2.2.2.2.2.2.2.1 0) (j := 1) (by rw [HX3.out.1]; omega) (HX3.out.2.2.2.2.2.2.1 1 (by omega))
      ⟨[0], (fun k hk => by
        by_cases h : k = 0
        · simp [h]
        · rw [HX3.out.2.2.2.2.2.2.2.1 k h] at hk; cases hk), (by rw [HX3.out.2.2.2.2.1]; simp)⟩
  have HW11 := hid hw11
  have HH26b := hid H26b
  have HTb := hid hTb
  have HF11 := hid F11
  clear hw11 F11 hin H26b hTb hb0
  rw [HW11.out]
  refine HH26b.out.mono ?_
  rintro e w12 ⟨m, p4, hm, he, hS, hp, F12⟩
  obtain rfl : m = 1 := by
    obtain ⟨a1, a2, a3, a4, a5, a6, a7, _⟩ := HX3.out
    exact take_first hm (k := 1) (by omega) (by omega) (a7 1 (by omega)) (fun j h1 h2 => by omega)
  have he' : e = .returned (.tuple #[.agg #[.int .i64 1, .int .i64 2], .int .i64 0]) := by rw [he, HX3.out.2.2.1]; rfl
  clear he
  subst he'
  obtain ⟨x4, hx4⟩ : ∃ x4, ({ tk x3 1 with mem := updM x3.mem (1 : Nat) (some p4), dying := updI x3.dying (0 : Nat) true } : Sto) = x4 := ⟨_, rfl⟩
  rw [hx4] at hS
  have f4 : x4.pages = 48 ∧ x4.mem 1 = some p4 ∧ (∀ k, x4.dying k = true ↔ k = 0) := by
    rw [← hx4]
    refine ⟨HX3.out.1, rfl, fun k => ?_⟩
    simp only [updI]
    split
    · rename_i h; simp at h; simp [h]
    · rename_i h; simp at h; simp [h, HX3.out.2.2.2.2.2.2.2.2.2]
  have HX4 := hid f4
  have HS4 := hid hS
  have HP4 := hid hp
  have F12' := F12.ge
  rw [HB2.out.1] at F12'
  have HBA12 := hid (F12.heap ((FrB.none (B := B) HF11.out).heap HBA10.out (by decide)) (by decide))
  have HBB12 := hid (F12.heap ((FrB.none (B := B) HF11.out).heap HBB10.out (by decide)) (by decide))
  have G12 := hid ((G10.out.ge.trans HF11.out (fun _ _ h => h.elim)).trans F12' (fun _ _ h => h))
  clear hx4 hS F12 F12' hp hm f4 k0 k1 kz kl
  go_wp2_with fail
  -- it is read
  obtain ⟨w13, hw13⟩ : ∃ w13, w12.alloc (.cells #[.int .i64 1, .int .i64 2] 35) = w13 := ⟨_, rfl⟩
  have F13 : Fr (fun _ => False) w12 w13 := by rw [← hw13]; exact (Fr.refl _ _).alloc _
  have bc : w13.heap[w12.heap.size]? = some (.cells #[.int .i64 1, .int .i64 2] 35) := by rw [← hw13]; exact heap_alloc_new _ _
  have H24 : Calls Tryz.prog 24 #[B.ptr, .agg #[.int .i64 1, .int .i64 2]] w13 (ReadPost B2 x4 p4 2 [99] w13) := by
    rw [← HB2.out.2]
    exact read_hit (HS4.out.fr0 F13) 1 2 (by omega) (by rw [HX4.out.1]; omega) HX4.out.2.1 (HP4.out.2.2.frB (B := B) (FrB.none F13))
  have HW13 := hid hw13
  have HH24 := hid H24
  have HBC13 := hid bc
  have HBA13 := hid (F13.heap HBA12.out (fun h => h))
  have HBB13 := hid (F13.heap HBB12.out (fun h => h))
  have G13 := hid (G12.out.trans F13 (fun _ _ h => h.elim))
  clear hw13 F13 bc H24
  rw [HW13.out]
  refine HH24.out.mono ?_
  rintro e w14 ⟨he, hS, F14⟩
  have hst : p4.stamp = 2 := by rw [HP4.out.1, HX3.out.2.2.1]; rfl
  rw [if_pos hst] at he
  obtain ⟨xa, xc, rfl, hxb⟩ := he
  have F14' := F14.ge
  rw [HB2.out.1] at F14'
  have HXB := hid hxb
  have HS14 := hid hS
  have HBA14 := hid (F14.heap HBA13.out (by decide))
  have HBB14 := hid (F14.heap HBB13.out (by decide))
  have HBC14 := hid (F14.heap HBC13.out (by decide))
  have G14 := hid (G13.out.trans F14' (fun _ _ h => h))
  have hTc : Tab w14 := by
    have G := G14.out
    rw [HBase.out] at G
    exact HT.out.fr G (fun h => absurd h (by omega))
  have H32 : Calls Tryz.prog 32 #[B.ptr] w14 (PartsPost x4 w14) := by
    rw [← HB2.out.2]
    exact parts_at HS14.out hTc
  have HH32 := hid H32
  clear hxb hS F14 F14' hst hTc H32
  go_wp2_with fail
  refine HH32.out.mono ?_
  rintro e w15 ⟨v0, v1, v2, v3, L1, L2, L3, rfl, hI0, hI1, hI2, hI3, hR, F15⟩
  obtain rfl := row_one hR.2.1 0 HX4.out.2.2
  obtain ⟨a0, c0, rfl, -⟩ := hI0
  obtain ⟨a1, c1, rfl, -⟩ := hI1
  obtain ⟨a2, c2, rfl, hi2⟩ := hI2
  obtain ⟨a3, c3, rfl, -⟩ := hI3
  obtain ⟨g, rfl, hg, hgc⟩ := hi2 0 0 rfl
  obtain ⟨w16, hw16⟩ : ∃ w16, w15.alloc (.cells #[.slice a0 (tu x4.taken x4.pages).length c0, .slice a1 L1.length c1, .slice (some ⟨g, 0, none⟩) 1 c2, .slice a3 L3.length c3] 54) = w16 := ⟨_, rfl⟩
  have F16 : Fr (fun _ => False) w15 w16 := by rw [← hw16]; exact (Fr.refl _ _).alloc _
  have bp : w16.heap[w15.heap.size]? = some (.cells #[.slice a0 (tu x4.taken x4.pages).length c0, .slice a1 L1.length c1, .slice (some ⟨g, 0, none⟩) 1 c2, .slice a3 L3.length c3] 54) := by rw [← hw16]; exact heap_alloc_new _ _
  have FA := F15.trans F16 (fun _ _ h => h)
  have G16 := hid (G14.out.trans FA (fun _ _ h => h.elim))
  obtain ⟨ka0, ka1, _, _⟩ := cells2 (FA.heap HBA14.out (fun h => h))
  obtain ⟨kb0, kb1, _, _⟩ := cells2 (FA.heap HBB14.out (fun h => h))
  obtain ⟨kc0, kc1, _, _⟩ := cells2 (FA.heap HBC14.out (fun h => h))
  have kp2 := cell_of_heap bp 2
  simp at kp2
  have kg := (F16.cell (p := ⟨g, 0, none⟩) hg (fun h => h)).trans hgc
  have hstr : (convert 22 9 (.slice xa 1 xc)).run Tryz.prog w16 = .ok (.string ⟨#[99]⟩) w16 := str_at ((HXB.out.frB (B := B) (FrB.none FA)).slb) 9 Tryz.underlying9
  have e1 := eql35_01
  have e2 := eql35_12
  have HW16 := hw16
  clear F15 F16 FA hi2 hgc hR bp hg
  go_wp2
  go_ret
  have G := G16.out
  rw [HBase.out] at G
  exact ⟨rfl, (Fr.refl (fun _ => False) w).trans G (fun b hb h => absurd h (by omega))⟩
end Go.Proofs.YtgdhaaokolfdoaaGreatDoor
