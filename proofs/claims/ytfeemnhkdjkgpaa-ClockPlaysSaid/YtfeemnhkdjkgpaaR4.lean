/- The reference's clock: what Drop computes. Conditions: the places lie in the world as RSl says. -/
import Derived.Test.YtfeemnhkdjkgpaaR3
namespace Go.Proofs.Ytfeemnhkdjkgpaa
open Go.RowKit Go.Sg Go.Sg.Clk
def RDropPost (pl : List Pl) (hand : Nat) (key : Int) (w : World) (e : Ending) (w' : World) : Prop :=
  ∃ v, e = .returned (.tuple #[v, CI.got (.int .i64 0) pl key, .bool (find pl key).isSome]) ∧ RClk w' v (dropM (.int .i64 0) pl key) hand ∧ Fr (fun _ => False) w w'

set_option maxHeartbeats 2000000 in
theorem rdrop_at {w : World} {b cap hand : Nat} {pl : List Pl} (h : RS w b cap pl) (hn : pl.length ≤ 4096) (hc : pl.length ≤ cap) (hv : ∀ p ∈ pl, ∃ y, p.v = .int .i64 y) (key : Int) :
    Calls Try.prog 21 #[.agg #[.slice (some ⟨b, 0, none⟩) pl.length cap, .int .i64 hand], .int .i64 key] w (RDropPost pl hand key w) := by
  have hb := h.lt
  have HA := hid (fun W (F : Fr (fun _ => False) w W) => h.fr F (fun h => h))
  have HV := hid hv
  clear h hv
  cases hf : find pl key with
  | none =>
    have HF := hid hf
    clear hf
    go_enter Try.func21, Try.ntmps21
    go_wp2_with fail
    refine (rfind_at (HA.out _ (((Fr.refl _ _).alloc _).alloc _)) hn hc key).mono ?_
    rintro e w3 ⟨rfl, hw⟩
    obtain ⟨b0, b1, -, F3⟩ := heap_three hw
    obtain ⟨c00, c01, z0, l0⟩ := cells2 b0
    obtain ⟨c10, c11, z1, l1⟩ := cells2 b1
    rw [findI_none HF.out]
    clear hw
    go_wp2
    try simp only [Exit.inBlock, Exit.then]
    refine bodyPost_ret (v := .tuple #[.agg #[.slice (some ⟨b, 0, none⟩) pl.length cap, .int .i64 hand], .int .i64 0, .bool false]) (by simp [results, go_sem, *]) rfl ?_
    have e1 : dropM (.int .i64 0) pl key = pl := by simp [dropM, HF.out]
    refine ⟨.agg #[.slice (some ⟨b, 0, none⟩) pl.length cap, .int .i64 hand], by simp [CI.got, HF.out], ⟨b, cap, by rw [e1], ?_, by rw [e1]; exact hc⟩, ?_⟩
    · rw [e1]
      exact HA.out _ ((F3.setNew (by omega) _).setNew (by omega) _)
    · exact (F3.setNew (by omega) _).setNew (by omega) _
  | some i =>
    obtain ⟨p, hp, hful, hkey⟩ := find_some hf
    obtain ⟨y, hy⟩ := HV.out p (List.mem_of_getElem? hp)
    have hi : i < pl.length := (List.getElem?_eq_some_iff.1 hp).1
    have HF := hid hf
    have HY := hid hy
    have HP := hid hp
    have HE : Hid (dropM (.int .i64 0) pl key = pl.set i (Pl.none (.int .i64 0))) := hid (by simp [dropM, hf])
    clear hf hp hful hkey hy
    go_enter Try.func21, Try.ntmps21
    go_wp2_with fail
    refine (rfind_at (HA.out _ (((Fr.refl _ _).alloc _).alloc _)) hn hc key).mono ?_
    rintro e w3 ⟨rfl, hw⟩
    obtain ⟨b0, b1, -, F3⟩ := heap_three hw
    obtain ⟨c00, c01, z0, l0⟩ := cells2 b0
    rw [findI_some HF.out]
    have k3 := (HA.out _ F3).k3 HP.out
    rw [HY.out] at k3
    have B1 := hid b1
    clear hw b0 b1
    go_wp2_with fail
    refine (rwith_at (HA.out _ F3) hn hc HV.out i hi (Pl.none (.int .i64 0)) 0 rfl).mono ?_
    rintro e w5 ⟨g, cap', rfl, hR, hcap, hg, F5⟩
    have l5 := F5.size
    obtain ⟨d10, d11, dz, l1⟩ := cells2 (F5.heap B1.out (fun h => h))
    have l1' := lt_of_heap B1.out
    have HR := hid hR
    clear hR
    go_wp2
    refine bodyPost_ret (v := .tuple #[.agg #[.slice (some ⟨g, 0, none⟩) pl.length cap', .int .i64 hand], .int .i64 y, .bool true]) (by simp [results, go_sem, *]) rfl ?_
    have F := F3.trans F5 (fun _ _ h => h)
    refine ⟨.agg #[.slice (some ⟨g, 0, none⟩) pl.length cap', .int .i64 hand], by simp [CI.got, HF.out, HP.out, HY.out], ⟨g, cap', by rw [HE.out]; simp, ?_, by rw [HE.out]; simpa using hcap⟩, ?_⟩
    · rw [HE.out]
      exact HR.out.fr (((Fr.refl (fun b => b = w.heap.size + 1) _).setCell (fun _ => rfl) _).setCell (fun _ => rfl) _) (by omega)
    · exact (F.setNew (by omega) _).setNew (by omega) _
end Go.Proofs.Ytfeemnhkdjkgpaa
