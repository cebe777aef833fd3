/- A pack of texts: GB, AX. Conditions: those that each text names. -/
import Derived.Test.YtgdhaaokolfdoaaGreatDoorJBA
import Derived.Test.YtgdhaaokolfdoaaGreatDoorJAG
import Derived.Test.YtgdhaaokolfdoaaGreatDoorJAX
import Derived.Lib.SmallJoins
import Derived.Deep.Cut
set_option linter.unusedVariables false
set_option linter.unusedSimpArgs false
set_option linter.unnecessarySimpa false
namespace Go.Sg
def refB (x : Int × Int) : List Int := leB x.1.toNat 4 ++ leB x.2.toNat 8
def loadM (l : List (Int × Int)) : List Int := l.flatMap refB
theorem refB_len (x : Int × Int) : (refB x).length = 12 := by simp [refB, leB_length]
theorem loadM_len (l : List (Int × Int)) : (loadM l).length = 12 * l.length := by
  induction l with
  | nil => rfl
  | cons x l ih => simp only [loadM, List.flatMap_cons, List.length_append, List.length_cons] at ih ⊢; rw [refB_len, ih]; omega
def rightR (x : Int × Int) : Prop := 0 ≤ x.1 ∧ x.1 ≤ 2147483647 ∧ 0 ≤ x.2 ∧ x.2 < 9223372036854775808
structure RowR (w : World) (a : Option Addr) (l : List (Int × Int)) : Prop where
  at_ : ∀ (i : Nat) (x : Int × Int), l[i]? = some x → ∃ b off, a = some ⟨b, off, none⟩ ∧ b < w.heap.size ∧ w.cell? ⟨b, off + i * 2, none⟩ = some (.int .i64 x.1) ∧ w.cell? ⟨b, off + i * 2 + 1, none⟩ = some (.int .i64 x.2)
theorem RowR.fr {S : Nat → Prop} {w w' : World} {a : Option Addr} {l : List (Int × Int)} (h : RowR w a l) (F : Fr S w w') (hS : ∀ b off, a = some ⟨b, off, none⟩ → b < w.heap.size → l ≠ [] → ¬ S b) : RowR w' a l :=
  ⟨fun i x hx => by
    obtain ⟨b, off, e, hb, h1, h2⟩ := h.at_ i x hx
    have hn : l ≠ [] := by rintro rfl; simp at hx
    exact ⟨b, off, e, Nat.lt_of_lt_of_le hb F.size, (F.cell (p := ⟨b, off + i * 2, none⟩) hb (hS b off e hb hn)).trans h1, (F.cell (p := ⟨b, off + i * 2 + 1, none⟩) hb (hS b off e hb hn)).trans h2⟩⟩
theorem RowR.fr0 {w w' : World} {a : Option Addr} {l : List (Int × Int)} (h : RowR w a l) (F : Fr (fun _ => False) w w') : RowR w' a l := h.fr F (fun _ _ _ _ _ h => h)
end Go.Sg
namespace Go.Proofs.YtgdhaaokolfdoaaGreatDoor
open Go.RowKit Go.Sg CP SF
def LoadP (l : List (Int × Int)) (w : World) (e : Ending) (w' : World) : Prop := ∃ a c, e = .returned (.slice a (12 * l.length) c) ∧ ByV w' a (12 * l.length) c (loadM l) ∧ Fr (fun _ => False) w w'
def WNumP (base r limit : Nat) (bs : List Int) (n k : Nat) (w : World) (e : Ending) (w' : World) : Prop := e = .returned (.tuple #[]) ∧ WtAt w' base r (bs ++ Sg.leB n k) limit ∧ Fr (WtS w base r) w w'
def NewWtP (limit : Nat) (w : World) (e : Ending) (w' : World) : Prop := e = .returned (.pointer (some ⟨w.heap.size, 0, none⟩)) ∧ WtAt w' w.heap.size w.heap.size [] limit ∧ Fr (fun _ => False) w w'
def WBytP (bs : List Int) (w : World) (e : Ending) (w' : World) : Prop := ∃ a c, e = .returned (.slice a bs.length c) ∧ (ByV w' a bs.length c bs ∧ bs.length ≤ c) ∧ Fr (fun _ => False) w w'
theorem wnum_p {w : World} {base r limit : Nat} {bs : List Int} (h : WtAt w base r bs limit) (hbase : base ≤ w.heap.size) (n k : Nat) (kz : Int) (hkz : kz = k) (hk : k = 1 ∨ k = 2 ∨ k = 4 ∨ k = 8) (hn : n < 18446744073709551616) (hroom : bs.length + k ≤ limit) :
    Calls Tryz.prog 179 #[.pointer (some ⟨r, 0, none⟩), .int .u64 n, .int .i64 kz] w (WNumP base r limit bs n k w) := by
  subst hkz; exact wnum_ok2 h hbase n k hk hn hroom
theorem newwt_p (limit : Nat) (z : Int) (hz : z = limit) (hl : limit ≤ 65536) (w : World) : Calls Tryz.prog 178 #[.int .i64 z] w (NewWtP limit w) := by
  subst hz; exact newwriter_ok limit hl w
theorem wbytes_p {w : World} {base r limit : Nat} {bs : List Int} (h : WtAt w base r bs limit) : Calls Tryz.prog 180 #[.pointer (some ⟨r, 0, none⟩)] w (WBytP bs w) := wbytes_ok h
set_option maxHeartbeats 4000000 in
set_option maxRecDepth 100000 in
theorem load_ok {w : World} {a : Option Addr} {c n : Nat} {l : List (Int × Int)} (h : RowR w a l) (hr : ∀ x ∈ l, rightR x) (hn : l.length = n) (hn1 : n ≤ 64) :
    Calls Tryz.prog 119 #[.slice a n c] w (LoadP l w) := by
  have H := hid h
  have HR := hid (And.intro hr hn)
  have HNW := hid (newwt_p (12 * n) (12 * (n : Int)) (by simp) (by omega) w)
  clear h hr hn
  go_enter Tryz.func119, Tryz.ntmps119
  go_wp2_with (go_at_call 178; refine HNW.out.mono ?_)
  rintro e w1 ⟨rfl, hW, F1⟩
  have HW1 := hid (And.intro hW F1)
  clear hW F1
  go_wp2_with fail
  go_loopw [12] (fun i wr => ∃ k : Nat, k ≤ n ∧ i = .int .i64 k ∧ WtAt wr w.heap.size w.heap.size (loadM (l.take k)) (12 * n) ∧ Fr (fun _ => False) w wr) (fun i _ => n - (intOf i).toNat)
  case atStart => exact ⟨0, Nat.zero_le _, rfl, HW1.out.1, HW1.out.2⟩
  case round =>
    obtain ⟨k, hk, rfl, hW, F⟩ := hrel
    have HW := hid (And.intro hW F)
    by_cases hlt : k < n
    · have hx : l[k]? = some (l[k]'(by rw [HR.out.2]; exact hlt)) := List.getElem?_eq_getElem _
      generalize l[k]'(by rw [HR.out.2]; exact hlt) = x at hx
      have hrx := HR.out.1 x (List.mem_of_getElem? hx)
      obtain ⟨z1, z2⟩ := x
      obtain ⟨p, rfl⟩ := Int.eq_ofNat_of_zero_le hrx.1
      obtain ⟨q, rfl⟩ := Int.eq_ofNat_of_zero_le hrx.2.2.1
      have hp1 : p ≤ 2147483647 := by have := hrx.2.1; simp only at this; omega
      have hq1 : q < 9223372036854775808 := by have := hrx.2.2.2; simp only at this; omega
      obtain ⟨b, off, rfl, hb, h0, h1⟩ := (H.out.fr0 F).at_ k _ hx
      simp only at h0 h1
      have hd : decide ((k : Int) < (n : Int)) = true := by simp; omega
      have hu1 : IntKind.u64.wrap (p : Int) = (p : Int) := by simp [IntKind.wrap, IntKind.signed, IntKind.bits]; omega
      have hu2 : IntKind.u64.wrap (q : Int) = (q : Int) := by simp [IntKind.wrap, IntKind.signed, IntKind.bits]; omega
      have hll : (loadM (l.take k)).length = 12 * k := by rw [loadM_len, List.length_take, HR.out.2]; omega
      have HN1 := hid (fun W (F : Fr (fun _ => False) wr W) => wnum_p (hW.fr F (fun _ _ _ h => h)) (Nat.le_trans HW.out.2.size F.size) p 4 4 (by simp) (by omega) (by omega) (by rw [hll]; omega))
      have HX := hid (And.intro hx hll)
      have hsz : w.heap.size < wr.heap.size := by obtain ⟨⟨v, hr, _⟩, _⟩ := HW.out.1; exact lt_of_heap hr
      clear hx hrx hll hW F
      go_upto_region 5 with fail
      obtain ⟨W2, hW2⟩ : ∃ W2, wr.alloc (.cells #[.int .i64 p, .int .i64 q] 35) = W2 := ⟨_, rfl⟩
      rw [hW2]
      have F2 : Fr (fun _ => False) wr W2 := by rw [← hW2]; exact (Fr.refl _ _).alloc _
      have j9 : W2.heap[wr.heap.size]? = some (.cells #[.int .i64 p, .int .i64 q] 35) := by rw [← hW2]; exact heap_alloc_new _ _
      have H2 := hid (And.intro F2 j9)
      obtain ⟨e0, e1, ez, el⟩ := cells2 j9
      have HC := hid (HN1.out W2 F2)
      clear h0 h1 F2 j9 hW2 HN1
      go_wp2_with (go_at_call 179; refine HC.out.mono ?_)
      rintro e W3 ⟨rfl, hW3, F3⟩
      have j9 := F3.heap H2.out.2 (fun h => by
        rcases h.2 with h | ⟨c, h⟩
        · omega
        · rw [H2.out.2] at h; cases h)
      obtain ⟨e0, e1, ez, el⟩ := cells2 j9
      have F03 : Fr (fun _ => False) w W3 := ((HW.out.2.trans H2.out.1 (fun _ _ h => h))).trans F3 (fun b hb h => by have := h.1; omega)
      have HC2 := hid (wnum_p hW3 F03.size q 8 8 (by simp) (by omega) (by omega) (by rw [List.length_append, HX.out.2, leB_length]; omega))
      have H3 := hid F03
      clear F3 hW3 F03 j9 HC
      go_wp2_with (go_at_call 179; refine HC2.out.mono ?_)
      rintro e W4 ⟨rfl, hW4, F4⟩
      have H4 := hid (And.intro hW4 (H3.out.trans F4 (fun b hb h => by have := h.1; omega)))
      clear F4 hW4
      go_wp2_with fail
      go_roundw
      case rel =>
        refine ⟨k + 1, hlt, by go_num, ?_, H4.out.2⟩
        have e1 : loadM (l.take (k + 1)) = loadM (l.take k) ++ Sg.leB p 4 ++ Sg.leB q 8 := by
          rw [List.take_add_one, HX.out.1]; simp [loadM, refB]
        rw [e1]; exact H4.out.1
      case measure => simp [intOf]; omega
    · obtain rfl : k = n := by omega
      have hd : decide ((k : Int) < (k : Int)) = false := by simp
      have HB := hid (wbytes_p hW)
      clear hW F
      go_wp2_with (go_at_call 180; refine HB.out.mono ?_)
      rintro e W2 ⟨a2, c2, rfl, ⟨hb2, -⟩, F2⟩
      have H2 := hid (And.intro hb2 F2)
      clear hb2 F2
      go_wp2_with fail
      refine bodyPost_ret (v := .slice a2 (loadM (l.take k)).length c2) (by simp [results, go_sem]) rfl ?_
      have e1 : l.take k = l := List.take_of_length_le (by rw [HR.out.2]; exact Nat.le_refl _)
      have hb := H2.out.1
      rw [e1, loadM_len] at hb
      rw [e1, loadM_len]
      exact ⟨a2, c2, rfl, hb, HW.out.2.trans H2.out.2 (fun _ _ h => h)⟩
end Go.Proofs.YtgdhaaokolfdoaaGreatDoor

namespace Go.Proofs.YtgdhaaokolfdoaaGreatDoor
open Go.RowKit Go.Sg Go.Sg.Bits Go.Sg.Clk CP SF
end Go.Proofs.YtgdhaaokolfdoaaGreatDoor
