/- A pack of texts: EJ. Conditions: those that each text names. -/
import Derived.Test.YtgdhaaokolfdoaaGreatDoorWBD
set_option linter.unusedVariables false
set_option linter.unusedSimpArgs false
set_option linter.unnecessarySimpa false
/- StoreParts: what the law computes. Conditions: the table of the bits lies in the world. -/
namespace Go.Proofs.YtgdhaaokolfdoaaGreatDoor
open Go.RowKit Go.Sg Go.Sg.Bits Go.Sg.Clk CP SF
theorem frT_pre {base : Nat} {w w1 w2 : World} (h : Fr (fun _ => False) w w1) (k : FrT base w1 w2) : FrT base w w2 :=
  Fr.trans (h.mono fun _ _ h => h.elim) k fun b hb hs => ⟨hs.1, fun c t f hc => hs.2 c t f (h.heap hc (fun h => h))⟩
theorem fr_frT {base : Nat} {w0 w w' : World} (hb : w0.heap.size ≤ base) (F : Fr (fun _ => False) w0 w) (k : FrT base w w') : Fr (fun _ => False) w0 w' := F.trans k fun b hb' hs => by omega
theorem box7_set {W6 : World} {b : Nat} {x0 x1 x2 x3 x4 x5 x6 : Value} {c : Array Value} (q9 : W6.heap[b]? = some (.cells c 64)) (hc : c.size = 7) :
    ((((((((W6.setCell ⟨b, 0, none⟩ x0).setCell ⟨b, 1, none⟩ x1).setCell ⟨b, 2, none⟩ x2).setCell ⟨b, 3, none⟩ x3).setCell ⟨b, 4, none⟩ x4).setCell ⟨b, 5, none⟩ x5).setCell ⟨b, 6, none⟩ x6)).heap[b]? = some (.cells #[x0, x1, x2, x3, x4, x5, x6] 64) := by
  rw [heap_setCell_cells _ _ _ _ (heap_setCell_cells _ _ _ _ (heap_setCell_cells _ _ _ _ (heap_setCell_cells _ _ _ _ (heap_setCell_cells _ _ _ _ (heap_setCell_cells _ _ _ _ (heap_setCell_cells _ _ _ _ q9))))))]
  obtain ⟨l⟩ := c
  match l, hc with
  | [_, _, _, _, _, _, _], _ => rfl
end Go.Proofs.YtgdhaaokolfdoaaGreatDoor
