/- A pack of texts: DJ, DK, DL. Conditions: those that each text names. -/
import Derived.Test.YtgdhaaokolfdoaaGreatDoorWBF
set_option linter.unusedVariables false
set_option linter.unusedSimpArgs false
set_option linter.unnecessarySimpa false
/- Chapter 15's directory: chunks, over slices.Chunk. Conditions: the row is not empty, the pieces are of at least one. -/
namespace Go.Proofs.YtgdhaaokolfdoaaGreatDoor
open Go.RowKit Go.Sg Go.Shelf
attribute [local go_sem] Oper.semAt_some
end Go.Proofs.YtgdhaaokolfdoaaGreatDoor

/- Chapter 15's directory: its pages while they are written. The plain side. Conditions: none. -/
namespace Go.Proofs.YtgdhaaokolfdoaaGreatDoor
open Go.RowKit Go.Sg Go.Sg.Bits Go.Sg.Clk CP SF
end Go.Proofs.YtgdhaaokolfdoaaGreatDoor

/- Chapter 15's directory: which blocks its functions turn besides the store's; a reference set in a row of one's own. Conditions: none. -/
namespace Go.Proofs.YtgdhaaokolfdoaaGreatDoor
open Go.RowKit Go.Sg Go.Sg.Bits Go.Sg.Clk CP SF
theorem flat_set (l : List Rf) : ∀ (k : Nat) (p s : Int), k < l.length → (l.set k (p, s)).flatMap refC = ((l.flatMap refC).set (k * 2) (.int .i64 p)).set (k * 2 + 1) (.int .i64 s) := by
  induction l with
  | nil => intro k p s h; simp at h
  | cons y l ih =>
    intro k p s h
    cases k with
    | zero => simp [refC]
    | succ k =>
      have e : (k + 1) * 2 = k * 2 + 1 + 1 := by omega
      have h' : k < l.length := by simpa using h
      rw [e]
      simp only [List.set_cons_succ, List.flatMap_cons, refC, List.cons_append, List.nil_append]
      rw [ih k p s h']
end Go.Proofs.YtgdhaaokolfdoaaGreatDoor
