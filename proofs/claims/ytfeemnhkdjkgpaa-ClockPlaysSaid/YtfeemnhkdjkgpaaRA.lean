/- Small facts for ClockPlays. Conditions: as each says. -/
import Derived.Test.YtfeemnhkdjkgpaaR9
namespace Go.Sg.Clk
open Go.RowKit
theorem fullAt_count (pl : List Pl) : ∀ k, k ≤ pl.length → (fullAt k pl).length = (pl.take k).countP (·.full)
  | 0, _ => by simp [fullAt]
  | k + 1, h => by
    obtain ⟨p, hp⟩ : ∃ p, pl[k]? = some p := ⟨_, List.getElem?_eq_getElem (by omega)⟩
    have ht : pl.take (k + 1) = pl.take k ++ [p] := by rw [List.take_add_one, hp]; rfl
    rw [fullAt_succ k pl p hp, ht, List.countP_append, ← fullAt_count pl k (by omega)]
    cases hf : p.full <;> simp [hf]
theorem gone_v {pl : List Pl} {hand : Nat} {key : Int} {v : Value} {ok : Value → Prop} (hv : ∀ p ∈ pl, ok p.v) {g : Pl} (h : (putM pl hand key v).gone = some g) : ok g.v := by
  unfold putM at h
  split at h
  · cases h
  · split at h
    · cases h
    · simp only at h
      have hs := spin_get (f := pl.length) (pl := pl) (h := hand) (spin pl.length pl hand).2
      rw [h] at hs
      cases hq : pl[(spin pl.length pl hand).2]? with
      | none => rw [hq] at hs; cases hs
      | some q =>
        rw [hq] at hs
        simp only [Option.map_some, Option.some.injEq, Pl.unmark, Pl.mk.injEq] at hs
        rw [hs.2.1]
        exact hv q (List.mem_of_getElem? hq)
end Go.Sg.Clk
namespace Go.Proofs.Ytfeemnhkdjkgpaa
open Go.RowKit Go.Sg Go.Sg.Clk
theorem keysOf_count (pl : List Pl) : (keysOf pl.length pl).length = pl.countP (·.full) := by
  rw [keysOf, List.length_map, fullAt_count pl _ (Nat.le_refl _), List.take_length]
theorem got_int {pl : List Pl} (hv : ∀ p ∈ pl, ∃ y : Int, p.v = .int .i64 y) (key : Int) : ∃ y : Int, CI.got (.int .i64 0) pl key = .int .i64 y := by
  unfold CI.got
  cases hf : find pl key with
  | none => exact ⟨0, rfl⟩
  | some i =>
    obtain ⟨p, hp, _⟩ := find_some hf
    obtain ⟨y, hy⟩ := hv p (List.mem_of_getElem? hp)
    exact ⟨y, by simp [hp, hy]⟩
theorem goneV_int {pl : List Pl} {hand : Nat} {key : Int} {v : Value} (hv : ∀ p ∈ pl, ∃ y : Int, p.v = .int .i64 y) : ∃ y : Int, CI.goneV (.int .i64 0) (putM pl hand key v).gone = .int .i64 y := by
  cases hg : (putM pl hand key v).gone with
  | none => exact ⟨0, rfl⟩
  | some g =>
    obtain ⟨y, hy⟩ := gone_v (ok := CI.isV) hv hg
    exact ⟨y, by simp [CI.goneV, hy]⟩
theorem newclock_nil (x : Int) (h : x < 1 ∨ 4096 < x) (w : World) : Calls Try.prog 13 #[.int .i64 x] w fun e w' => e = .returned (.pointer none) ∧ w = w' := by
  rcases h with h | h
  all_goals
    go_enter Try.func13, Try.ntmps13
    go_wp2
    go_ret
    exact ⟨rfl, rfl⟩
end Go.Proofs.Ytfeemnhkdjkgpaa
