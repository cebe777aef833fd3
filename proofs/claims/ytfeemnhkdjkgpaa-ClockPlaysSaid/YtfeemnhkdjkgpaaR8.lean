/- The law's same on two slices that read alike. Conditions: both read as ks. -/
import Derived.Test.YtfeemnhkdjkgpaaR7
namespace Go.Proofs.Ytfeemnhkdjkgpaa
open Go.RowKit Go.Sg Go.Sg.Clk

set_option maxHeartbeats 2000000 in
theorem same_ok {w : World} {u v : Value} {ks : List Int} (hu : Ints w u ks) (hv : Ints w v ks) (hn : ks.length ≤ 4096) :
    Calls Try.prog 25 #[u, v] w fun e w' => e = .returned (.bool true) ∧ Fr (fun _ => False) w w' := by
  obtain ⟨a, ca, rfl, ha⟩ := hu
  obtain ⟨b, cb, rfl, hb⟩ := hv
  have HA := hid ha
  have HB := hid hb
  clear ha hb
  have hd : ((ks.length : Int) != (ks.length : Int)) = false := by simp
  go_enter Try.func25, Try.ntmps25
  go_wp2
  go_loopw [5] (fun i wr => ∃ k : Nat, k ≤ ks.length ∧ i = .int .i64 k ∧ Fr (fun _ => False) w wr) (fun i _ => ks.length - (intOf i).toNat)
  case atStart => exact ⟨0, Nat.zero_le _, rfl, Fr.refl _ _⟩
  case round =>
    obtain ⟨k, hk, rfl, hF⟩ := hrel
    by_cases hlt : k < ks.length
    · obtain ⟨x, hx⟩ : ∃ x, ks[k]? = some x := ⟨_, List.getElem?_eq_getElem hlt⟩
      obtain ⟨g, rfl, hg, hc⟩ := HA.out k x hx
      obtain ⟨g', rfl, hg', hc'⟩ := HB.out k x hx
      have c0 := (hF.cell (p := ⟨g, k, none⟩) hg (fun h => h)).trans hc
      have c1 := (hF.cell (p := ⟨g', k, none⟩) hg' (fun h => h)).trans hc'
      have hx1 : (x != x) = false := by simp
      clear hx hc hc'
      go_wp2
      go_quiet (fail)
      go_wp2
      go_roundw
      case rel => exact ⟨k + 1, by omega, by simp, hF.drewN _⟩
      case measure => simp [intOf]; omega
    · obtain rfl : k = ks.length := by omega
      go_wp2
      go_ret
      exact ⟨rfl, hF⟩
end Go.Proofs.Ytfeemnhkdjkgpaa
