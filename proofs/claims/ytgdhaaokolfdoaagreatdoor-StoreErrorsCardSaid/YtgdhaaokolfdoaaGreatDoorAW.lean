/- The example of chapter 13: what it needs of plans, devices, worlds. Conditions: none. -/
import Derived.Test.YtgdhaaokolfdoaaGreatDoorRM
import Derived.Test.YtgdhaaokolfdoaaGreatDoorSO
import Derived.Test.YtgdhaaokolfdoaaGreatDoorSR
import Derived.Test.YtgdhaaokolfdoaaGreatDoorPB
import Derived.Laws.BytesArg
namespace Go.Proofs.YtgdhaaokolfdoaaGreatDoor
open Go.RowKit Go.Sg Go.Sg.Bits Go.Sg.Clk CP SF
theorem dev_fresh {w w' : World} {s z : Nat} (hs : 1 ≤ s ∧ s ≤ 16384) (hz : 96 ≤ z ∧ z ≤ 512) (h1 : w'.heap[w.heap.size]? = some (.map #[] 0)) (h2 : w'.heap[w.heap.size + 1]? = some (.map #[] 0))
    (h3 : w'.heap[w.heap.size + 1 + 1]? = some (.cells #[.int .i64 s, .int .i64 z, .map (some w.heap.size), .slice none 0 0, .map (some (w.heap.size + 1)), .int .i64 0, .int .i64 0, .bool false] 151)) :
    DevAt w' w.heap.size (w.heap.size + 2) w.heap.size (w.heap.size + 1) (Dev.fresh s z) := by
  refine ⟨⟨_, h3, [], World.ownsRow_nil _ _ _ _, rfl, fun i x y hx _ => by simp at hx⟩, ⟨[], 0, h1, by simp [keys], fun k => trivial⟩, ⟨[], 0, h2, by simp [keys], fun e he => by cases he⟩, by omega, by omega, hs, hz⟩
theorem flashnew_ok (s z : Nat) (hs : 1 ≤ s ∧ s ≤ 16384) (hz : 96 ≤ z ∧ z ≤ 512) (w : World) :
    Calls Tryz.prog 20 #[.int .i64 s, .int .i64 z] w fun e w' => e = .returned (.pointer (some ⟨w.heap.size + 2, 0, none⟩)) ∧ DevAt w' w.heap.size (w.heap.size + 2) w.heap.size (w.heap.size + 1) (Dev.fresh s z) ∧ Fr (fun _ => False) w w' :=
  (newdev_ok s z (by omega) (by omega) (by omega) (by omega) w).mono fun e w' ⟨he, h1, h2, h3, hF⟩ => ⟨he, dev_fresh hs hz h1 h2 h3, hF⟩
def small13 : Plan8 := ⟨60, 96, 3, 2, 4, 2, 8, 0⟩
theorem small13_ok (w : World) : Calls Tryz.prog 21 #[] w fun e w' => e = .returned small13.val ∧ Fr (fun _ => False) w w' := by
  go_enter Tryz.func21, Tryz.ntmps21
  go_wp2
  refine bodyPost_ret (v := .agg #[.int .i64 60, .int .i64 96, .int .i64 3, .int .i64 2, .int .i64 4, .int .i64 2, .int .i64 8, .int .u64 0]) (by simp [results, go_sem, *]) rfl ⟨rfl, (Fr.refl _ _).alloc _⟩
theorem format_ok {w : World} {base d bf bq : Nat} {D : Dev} (h : DevAt w base d bf bq D) (hb : base ≤ w.heap.size) (c dd f dp hh s : Int) (hfit : fitsM ⟨D.sectors, D.size, c, dd, f, dp, hh, s⟩ = true) :
    Calls Tryz.prog 19 #[.pointer (some ⟨d, 0, none⟩), (Plan8.mk D.sectors D.size c dd f dp hh s).val] w (OpenPost base d bf bq ⟨D.sectors, D.size, c, dd, f, dp, hh, s⟩ 0 D w) := by
  obtain ⟨w1, hw1⟩ : ∃ w1, w.alloc (.cells #[.int .i64 D.sectors, .int .i64 D.size, .int .i64 c, .int .i64 dd, .int .i64 f, .int .i64 dp, .int .i64 hh, .int .u64 s] 31) = w1 := ⟨_, rfl⟩
  have F1 : Fr (fun _ => False) w w1 := by rw [← hw1]; exact (Fr.refl _ _).alloc _
  have H := hid (open_ok (h.fr F1 (fun h => h) (fun h => h) (fun h => h) (fun _ _ _ _ _ h => h)) (Nat.le_trans hb F1.size) c dd f dp hh s 0 (by omega) hfit)
  have HW := hid hw1
  have HF1 := hid F1
  clear h hw1 F1 hfit
  go_enter Tryz.func19, Tryz.ntmps19
  go_wp2_with fail
  rw [HW.out]
  refine H.out.mono ?_
  rintro e w2 ⟨B, hB, rfl, hS, F2⟩
  have HS := hid (And.intro hB (And.intro hS F2))
  clear hB hS F2
  go_wp2
  go_ret2
  exact ⟨B, HS.out.1, rfl, HS.out.2.1, HF1.out.trans HS.out.2.2 (fun _ _ h => h)⟩
theorem format_nil (p : Plan8) (w : World) : Calls Tryz.prog 19 #[.pointer none, p.val] w fun e w' => e = .returned (.tuple #[.pointer none, .int .i64 1]) ∧ Fr (fun _ => False) w w' := by
  have H := hid (fun W => open_nil p 0 W)
  obtain ⟨a, b, c, d, f, dp, hh, s⟩ := p
  go_enter Tryz.func19, Tryz.ntmps19
  go_wp2_with fail
  refine (H.out _).mono ?_
  rintro e w2 ⟨rfl, F2⟩
  have HF2 := hid F2
  clear F2
  go_wp2
  go_ret2
  exact ⟨rfl, ((Fr.refl _ _).alloc _).trans HF2.out (fun _ _ h => h)⟩
theorem small13_fits : fitsM ⟨(60 : Nat), (96 : Nat), 3, 2, 4, 2, 8, 0⟩ = true := by decide +kernel
theorem str_at {w : World} {a : Option Addr} {n c : Nat} {bs : List Int} (h : SlB w a n c bs) (dst : TypeId) (hd : Tryz.prog.underlying dst = some .string) :
    (convert 22 dst (.slice a n c)).run Tryz.prog w = .ok (.string (strOfNums bs)) w := by
  have hl := h.by_.len
  rcases h.at_ with ⟨rfl, rfl, rfl⟩ | ⟨b, off, rfl⟩
  · have : bs = [] := List.eq_nil_of_length_eq_zero hl
    rw [this]
    exact run_convert_bytes_nil w 22 5 Tryz.underlying22 Tryz.underlying5 0 0 dst hd
  · refine run_convert_bytes_arg w 22 5 Tryz.underlying22 Tryz.underlying5 b off n c bs hl (fun i hi => ?_) dst hd
    have hx : bs[i]? = some bs[i] := List.getElem?_eq_getElem (by omega)
    obtain ⟨b', off', e, _, hc⟩ := h.by_.at_ i _ hx
    cases e
    rw [hc]; simp [List.getD, hx]
end Go.Proofs.YtgdhaaokolfdoaaGreatDoor
