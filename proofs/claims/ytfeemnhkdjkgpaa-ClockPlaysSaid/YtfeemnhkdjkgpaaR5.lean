/- The reference's clock: what Put computes. Conditions: the places lie in the world as RSl says. -/
import Derived.Test.YtfeemnhkdjkgpaaR4
namespace Go.Proofs.Ytfeemnhkdjkgpaa
open Go.RowKit Go.Sg Go.Sg.Clk
def goneP (f m : Bool) (g : Option Pl) : Value := .agg #[.bool f, .bool m, .int .i64 (CI.goneK g), CI.goneV (.int .i64 0) g]
def RPutPost (pl : List Pl) (hand : Nat) (key x : Int) (w : World) (e : Ending) (w' : World) : Prop :=
  ∃ v f m, e = .returned (.tuple #[v, goneP f m (putM pl hand key (.int .i64 x)).gone, .bool (putM pl hand key (.int .i64 x)).gone.isSome]) ∧
    RClk w' v (putM pl hand key (.int .i64 x)).pl (putM pl hand key (.int .i64 x)).hand ∧ Fr (fun _ => False) w w'

set_option maxHeartbeats 2000000 in
theorem rput_there {w : World} {b cap hand : Nat} {pl : List Pl} (h : RS w b cap pl) (hn : pl.length ≤ 4096) (hc : pl.length ≤ cap) (hv : ∀ p ∈ pl, ∃ y, p.v = .int .i64 y) (key x : Int) {i : Nat} (hf : find pl key = some i) :
    Calls Try.prog 22 #[.agg #[.slice (some ⟨b, 0, none⟩) pl.length cap, .int .i64 hand], .int .i64 key, .int .i64 x] w (RPutPost pl hand key x w) := by
  have hb := h.lt
  have HA := hid (fun W (F : Fr (fun _ => False) w W) => h.fr F (fun h => h))
  have HV := hid hv
  obtain ⟨p, hp, hful, hkey⟩ := find_some hf
  have hi : i < pl.length := (List.getElem?_eq_some_iff.1 hp).1
  have HF := hid hf
  have HE : Hid (putM pl hand key (.int .i64 x) = ⟨pl.set i ⟨key, .int .i64 x, true, true⟩, hand, none⟩) := hid (by simp [putM, hf])
  clear h hv hp hful hkey hf
  go_enter Try.func22, Try.ntmps22
  go_wp2_with fail
  refine (rfind_at (HA.out _ ((((Fr.refl _ _).alloc _).alloc _).alloc _)) hn hc key).mono ?_
  rintro e w4 ⟨rfl, hw⟩
  obtain ⟨b0, b1, b2, -, F4⟩ := heap_four hw
  obtain ⟨c00, c01, z0, l0⟩ := cells2 b0
  rw [findI_some HF.out]
  have B1 := hid b1
  have B2 := hid b2
  clear hw b0 b1 b2
  go_wp2_with fail
  refine (rwith_at (HA.out _ F4) hn hc HV.out i hi ⟨key, .int .i64 x, true, true⟩ x rfl).mono ?_
  rintro e w5 ⟨g, cap', rfl, hR, hcap, hg, F5⟩
  have l5 := F5.size
  obtain ⟨d10, d11, dz, l1⟩ := cells2 (F5.heap B1.out (fun h => h))
  obtain ⟨d20, d21, d22, d23, dz2, l2⟩ := cells4 (F5.heap B2.out (fun h => h))
  have l2' := lt_of_heap B2.out
  have HR := hid hR
  clear hR
  go_wp2
  try simp only [Exit.inBlock, Exit.then]
  refine bodyPost_ret (v := .tuple #[.agg #[.slice (some ⟨g, 0, none⟩) pl.length cap', .int .i64 hand], goneP false false none, .bool false]) (by simp [results, go_sem, goneP, CI.goneK, CI.goneV, *]) rfl ?_
  have F := F4.trans F5 (fun _ _ h => h)
  refine ⟨.agg #[.slice (some ⟨g, 0, none⟩) pl.length cap', .int .i64 hand], false, false, by rw [HE.out]; rfl, ⟨g, cap', by rw [HE.out]; simp, ?_, by rw [HE.out]; simpa using hcap⟩, ?_⟩
  · rw [HE.out]
    refine HR.out.fr (S := fun b => b = w.heap.size + 1 ∨ b = w.heap.size + 1 + 1) ?_ (by omega)
    repeat (with_reducible refine Fr.setCell ?_ (fun _ => by simp) _)
    exact Fr.refl _ _
  · repeat (with_reducible refine Fr.setNew ?_ (by omega) _)
    exact F

theorem empty_full {pl : List Pl} {i j : Nat} {p : Pl} (h : empty pl = some i) (hj : j < i) (hp : pl[j]? = some p) : p.full = true := by
  rw [empty, List.findIdx?_eq_some_iff_getElem] at h
  obtain ⟨hi, _, h2⟩ := h
  have := h2 j hj
  obtain ⟨hj', rfl⟩ := List.getElem?_eq_some_iff.1 hp
  simpa using this
theorem empty_at_some {pl : List Pl} {i : Nat} (h : empty pl = some i) : ∃ p, pl[i]? = some p ∧ p.full = false := by
  rw [empty, List.findIdx?_eq_some_iff_getElem] at h
  obtain ⟨hi, h1, _⟩ := h
  exact ⟨pl[i], by simp, by simpa using h1⟩

set_option maxHeartbeats 2000000 in
theorem rput_free {w : World} {b cap hand : Nat} {pl : List Pl} (h : RS w b cap pl) (hn : pl.length ≤ 4096) (hc : pl.length ≤ cap) (hv : ∀ p ∈ pl, ∃ y, p.v = .int .i64 y) (key x : Int) {i : Nat} (hf : find pl key = none) (he : empty pl = some i) :
    Calls Try.prog 22 #[.agg #[.slice (some ⟨b, 0, none⟩) pl.length cap, .int .i64 hand], .int .i64 key, .int .i64 x] w (RPutPost pl hand key x w) := by
  have hb := h.lt
  have HA := hid (fun W (F : Fr (fun _ => False) w W) => h.fr F (fun h => h))
  have HV := hid hv
  obtain ⟨p, hp, hful⟩ := empty_at_some he
  have hi : i < pl.length := (List.getElem?_eq_some_iff.1 hp).1
  have HF := hid hf
  have HO := hid he
  have HP := hid (And.intro hp hful)
  have HE : Hid (putM pl hand key (.int .i64 x) = ⟨pl.set i ⟨key, .int .i64 x, true, true⟩, hand, none⟩) := hid (by simp [putM, hf, he])
  clear h hv hp hful hf he
  go_enter Try.func22, Try.ntmps22
  go_wp2_with fail
  refine (rfind_at (HA.out _ ((((Fr.refl _ _).alloc _).alloc _).alloc _)) hn hc key).mono ?_
  rintro e w4 ⟨rfl, hw⟩
  obtain ⟨b0, b1, b2, -, F4⟩ := heap_four hw
  obtain ⟨c00, c01, z0, l0⟩ := cells2 b0
  rw [findI_none HF.out]
  have B1 := hid b1
  have B2 := hid b2
  have HS := hid (HA.out _ F4)
  clear hw b0 b1 b2
  go_wp2
  go_loop [10] (fun i' => ∃ k : Nat, k ≤ i ∧ i' = .int .i64 k) (fun i' => i - (intOf i').toNat)
  case atStart => exact ⟨0, Nat.zero_le _, rfl⟩
  case round =>
    obtain ⟨k, hk, rfl⟩ := hrel
    by_cases hlt : k < i
    · obtain ⟨q, hq⟩ : ∃ q, pl[k]? = some q := ⟨_, List.getElem?_eq_getElem (by omega)⟩
      have k0 := HS.out.k0 hq
      rw [empty_full HO.out hlt hq] at k0
      clear hq
      go_wp2
      go_round
      case rel => exact ⟨k + 1, by omega, by simp⟩
      case measure => simp [intOf]; omega
    · obtain rfl : k = i := by omega
      have k0 := HS.out.k0 HP.out.1
      rw [HP.out.2] at k0
      go_wp2_with fail
      refine (rwith_at HS.out hn hc HV.out k hi ⟨key, .int .i64 x, true, true⟩ x rfl).mono ?_
      rintro e w5 ⟨g, cap', rfl, hR, hcap, hg, F5⟩
      have l5 := F5.size
      obtain ⟨d10, d11, dz, l1⟩ := cells2 (F5.heap B1.out (fun h => h))
      obtain ⟨d20, d21, d22, d23, dz2, l2⟩ := cells4 (F5.heap B2.out (fun h => h))
      have l2' := lt_of_heap B2.out
      have HR := hid hR
      clear hR
      go_wp2
      try rw [Exit.noGoto_ret]
      try simp only [Exit.inBlock, Exit.then]
      refine bodyPost_ret (v := .tuple #[.agg #[.slice (some ⟨g, 0, none⟩) pl.length cap', .int .i64 hand], goneP false false none, .bool false]) (by simp [results, go_sem, goneP, CI.goneK, CI.goneV, *]) rfl ?_
      have F := F4.trans F5 (fun _ _ h => h)
      refine ⟨.agg #[.slice (some ⟨g, 0, none⟩) pl.length cap', .int .i64 hand], false, false, by rw [HE.out]; rfl, ⟨g, cap', by rw [HE.out]; simp, ?_, by rw [HE.out]; simpa using hcap⟩, ?_⟩
      · rw [HE.out]
        refine HR.out.fr (S := fun b => b = w.heap.size + 1 ∨ b = w.heap.size + 1 + 1) ?_ (by omega)
        repeat (with_reducible refine Fr.setCell ?_ (fun _ => by simp) _)
        exact Fr.refl _ _
      · repeat (with_reducible refine Fr.setNew ?_ (by omega) _)
        exact F
end Go.Proofs.Ytfeemnhkdjkgpaa
