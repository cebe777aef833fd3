/- A pack of texts: DI. Conditions: those that each text names. -/
import Derived.Test.YtgdhaaokolfdoaaGreatDoorJAX
import Derived.Test.YtgdhaaokolfdoaaGreatDoorJAJ
set_option linter.unusedVariables false
set_option linter.unusedSimpArgs false
set_option linter.unnecessarySimpa false
namespace Go.Proofs.YtgdhaaokolfdoaaGreatDoor
open Go.RowKit Go.Sg Go.Sg.Clk Go.Shelf CP
attribute [local go_sem] Oper.semAt_some
theorem abides_fr {β : Type} {Bn : Nat} {J : β → World → Prop} (hJ : AbidesFrom Bn J) {s : β} {W W' : World} (h : J s W) (F : Fr (fun _ => False) W W') : J s W' :=
  hJ s W W' none h ⟨F.os, F.tape, F.output, F.size, fun b hb _ => F.block b hb (fun h => h)⟩ (fun r e => by cases e)
end Go.Proofs.YtgdhaaokolfdoaaGreatDoor
