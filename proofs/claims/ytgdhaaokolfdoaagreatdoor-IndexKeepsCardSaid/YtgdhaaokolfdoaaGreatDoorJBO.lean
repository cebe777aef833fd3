/- A pack of texts: HA, SYN, SYC, APX. Conditions: those that each text names. -/
import Derived.Test.YtgdhaaokolfdoaaGreatDoorJAZ
import Derived.Test.YtgdhaaokolfdoaaGreatDoorJBA
import Derived.Test.YtgdhaaokolfdoaaGreatDoorJBH
import Derived.Deep.RegionLaw
set_option linter.unusedVariables false
set_option linter.unusedSimpArgs false
set_option linter.unnecessarySimpa false
namespace Go.Sg
open Go.RowKit
structure CrashOf (D D' : Dev) : Prop where
  sectors : D'.sectors = D.sectors
  size : D'.size = D.size
  acts : D'.acts = D.acts
  loose : D'.loose = []
  armed : D'.armed = 0
  down : D'.down = false
  fast : ∀ k, (∀ y ∈ D.loose, y.1 ≠ k) → D'.fast k = D.fast k
  byt : ((∀ y ∈ D.loose, ∀ x ∈ y.2, 0 ≤ x ∧ x < 256) ∧ ∀ k bs, D.fast k = some bs → ∀ x ∈ bs, 0 ≤ x ∧ x < 256) → ∀ k bs, D'.fast k = some bs → ∀ x ∈ bs, 0 ≤ x ∧ x < 256
end Go.Sg
namespace Go.Proofs.YtgdhaaokolfdoaaGreatDoor
open Go.RowKit Go.Sg Go.Sg.Bits Go.Sg.Clk CP SF
end Go.Proofs.YtgdhaaokolfdoaaGreatDoor

namespace Go.Proofs.YtgdhaaokolfdoaaGreatDoor
open Go.RowKit Go.Sg
end Go.Proofs.YtgdhaaokolfdoaaGreatDoor

namespace Go.Proofs.YtgdhaaokolfdoaaGreatDoor
open Go.RowKit Go.Sg Go.Sg.Bits Go.Sg.Clk CP SF
end Go.Proofs.YtgdhaaokolfdoaaGreatDoor

namespace Go.Proofs.YtgdhaaokolfdoaaGreatDoor
open Go.RowKit Go.Sg
theorem own_mono {w : World} {b b' e size n : Nat} {v : Value} {xs : List Value} (h : w.ownsRow b e size v n xs) (hb : b' ≤ b) : w.ownsRow b' e size v n xs := by
  obtain ⟨hl, h0 | ⟨g, cap, cur, hv, hg, r⟩⟩ := h
  · exact ⟨hl, .inl h0⟩
  · exact ⟨hl, .inr ⟨g, cap, cur, hv, Nat.le_trans hb hg, r⟩⟩
theorem sli_of_own {w : World} {b n c : Nat} {a : Option Addr} {l : List Int} (h : w.ownsRow b 3 1 (.slice a n c) n (l.map (Value.int .i64))) (hl : l.length = n) : SlI w a n c l := by
  subst hl
  obtain ⟨a', c', e, -, -, hnil, -⟩ := own_slice h
  cases e
  refine ⟨rfl, fun i k hk => ?_, hnil⟩
  obtain ⟨g, e', hg, h1⟩ := own_cell h (j := i) (u := .int .i64 k) (by rw [List.getElem?_map, hk]; rfl)
  exact ⟨g, 0, e', hg, by rw [Nat.zero_add]; exact h1⟩
end Go.Proofs.YtgdhaaokolfdoaaGreatDoor
