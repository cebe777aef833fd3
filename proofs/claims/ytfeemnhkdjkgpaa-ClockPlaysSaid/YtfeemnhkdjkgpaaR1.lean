/- The reference's clock: what find and with compute. Conditions: the places lie in the world as RSl says. -/
import Derived.Test.YtfeemnhkdjkgpaaC7
import Derived.Test.YtfeemnhkdjkgpaaRef
namespace Go.Proofs.Ytfeemnhkdjkgpaa
open Go.RowKit Go.Sg Go.Sg.Clk

abbrev RS := RSl 49
def findI (pl : List Pl) (key : Int) : Int := match find pl key with
  | some i => i
  | none => -1

theorem findI_some {pl : List Pl} {key : Int} {i : Nat} (h : find pl key = some i) : findI pl key = i := by rw [findI, h]
theorem findI_none {pl : List Pl} {key : Int} (h : find pl key = none) : findI pl key = -1 := by rw [findI, h]
def before (pl : List Pl) (key : Int) (k : Nat) : Prop := ∀ (i : Nat) (p : Pl), i < k → pl[i]? = some p → ¬ (p.full = true ∧ p.key = key)
theorem find_at_first {pl : List Pl} {key : Int} {k : Nat} {p : Pl} (hb : before pl key k) (hp : pl[k]? = some p) (hf : p.full = true) (hk : p.key = key) : find pl key = some k := by
  rw [find, List.findIdx?_eq_some_iff_getElem]
  obtain ⟨hi, rfl⟩ := List.getElem?_eq_some_iff.1 hp
  refine ⟨hi, by simp [hf, hk], fun j hj => ?_⟩
  have := hb j pl[j] hj (List.getElem?_eq_getElem (by omega))
  simpa using this
theorem find_no {pl : List Pl} {key : Int} (hb : before pl key pl.length) : find pl key = none := by
  rw [find, List.findIdx?_eq_none_iff]
  intro p hp
  obtain ⟨i, hi, rfl⟩ := List.getElem_of_mem hp
  have := hb i pl[i] hi (List.getElem?_eq_getElem hi)
  simpa using this

set_option maxHeartbeats 1000000 in
theorem rfind_at {w : World} {b cap hand : Nat} {pl : List Pl} (h : RS w b cap pl) (hn : pl.length ≤ 4096) (hc : pl.length ≤ cap) (key : Int) :
    Calls Try.prog 33 #[.agg #[.slice (some ⟨b, 0, none⟩) pl.length cap, .int .i64 hand], .int .i64 key] w fun e w' => e = .returned (.int .i64 (findI pl key)) ∧ w.alloc (.cells #[.slice (some ⟨b, 0, none⟩) pl.length cap, .int .i64 hand] 43) = w' := by
  have hb := h.lt
  have H := hid (h.fr ((Fr.refl (fun _ => False) w).alloc (.cells #[.slice (some ⟨b, 0, none⟩) pl.length cap, .int .i64 hand] 43)) (fun h => h))
  clear h
  go_enter Try.func33, Try.ntmps33
  go_wp2
  go_loop [5] (fun i => ∃ k : Nat, k ≤ pl.length ∧ i = .int .i64 k ∧ before pl key k) (fun i => pl.length - (intOf i).toNat)
  case atStart => exact ⟨0, Nat.zero_le _, rfl, fun i p hi => by omega⟩
  case round =>
    obtain ⟨k, hk, rfl, hbf⟩ := hrel
    have HB := hid hbf
    clear hbf
    by_cases hlt : k < pl.length
    · obtain ⟨p, hp⟩ : ∃ p, pl[k]? = some p := ⟨_, List.getElem?_eq_getElem hlt⟩
      have k0 := H.out.k0 hp
      have k2 := H.out.k2 hp
      have HP := hid hp
      clear hp
      cases hf : p.full with
      | false =>
        rw [hf] at k0
        have HF := hid hf
        clear hf
        go_wp2
        go_round
        case rel => exact ⟨k + 1, by omega, by simp, fun i q hi hq => by
          rcases Nat.lt_or_ge i k with h' | h'
          · exact HB.out i q h' hq
          · obtain rfl : i = k := by omega
            rw [HP.out] at hq; cases hq; rw [HF.out]; rintro ⟨h1, _⟩; cases h1⟩
        case measure => simp [intOf]; omega
      | true =>
        rw [hf] at k0
        have HF := hid hf
        clear hf
        by_cases hkey : p.key = key
        · have hd : (p.key == key) = true := by simpa using hkey
          have HK := hid hkey
          clear hkey
          go_wp2
          go_ret
          exact ⟨by rw [findI_some (find_at_first HB.out HP.out HF.out HK.out)]; rfl, rfl⟩
        · have hd : (p.key == key) = false := by simpa using hkey
          have HK := hid hkey
          clear hkey
          go_wp2
          go_round
          case rel => exact ⟨k + 1, by omega, by simp, fun i q hi hq => by
            rcases Nat.lt_or_ge i k with h' | h'
            · exact HB.out i q h' hq
            · obtain rfl : i = k := by omega
              rw [HP.out] at hq; cases hq; exact fun h => HK.out h.2⟩
          case measure => simp [intOf]; omega
    · obtain rfl : k = pl.length := by omega
      go_wp2
      go_ret
      exact ⟨by rw [findI_none (find_no HB.out)]; rfl, rfl⟩
end Go.Proofs.Ytfeemnhkdjkgpaa
