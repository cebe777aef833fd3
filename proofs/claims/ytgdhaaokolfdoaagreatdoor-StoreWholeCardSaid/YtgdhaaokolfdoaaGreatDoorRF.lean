/- Closed facts on the program that each row of this seat asks, one theorem each. -/
import Derived.Test.YtgdhaaokolfdoaaGreatDoorRW
set_option linter.unusedVariables false
set_option linter.unusedSimpArgs false
set_option linter.unnecessarySimpa false
namespace Go.Proofs.YtgdhaaokolfdoaaGreatDoor
open Go.ChangeShapes Go.WideShapes Go.ChangeAt Go.RowKit Go.Sg
theorem pf_maps : mapsRowed Tryz.prog = true := by kernel_rfl
theorem pf_stops : (Tryz.prog.stops == []) = true := by kernel_rfl
theorem pf_knobs : (Tryz.prog.stopKnobs == []) = true := by kernel_rfl
theorem pf_keys : (Rows.storeNilRow.plainKeys == Tryz.prog.plainKeys) = true := by kernel_rfl
theorem pf_heard : Tryz.prog.stopsHeard = true := by kernel_rfl
theorem pf_enter : Tryz.prog.mayEnter = true := by kernel_rfl
theorem pf_lifted : (Rows.storeNilRow.lifted == Tryz.prog.liftsFinal) = true := by kernel_rfl
theorem pf_make : (Tryz.prog.make == some Rows.storeNilRow.make) = true := by kernel_rfl
theorem pf_looks : false = Tryz.prog.looks [] := by kernel_rfl
theorem pf_goes : false = Rows.storeNilRow.goesBy Tryz.prog := by kernel_rfl
theorem pf_main : Tryz.prog.mainIs = some (true, "e398d9c22f2f7fd5244c9c4088e24dc147c9b492cf57d8d70d9d24d47e8ca071".toList) := by kernel_rfl
theorem pf_want3 : ([3].all fun u => !Tryz.prog.wantsStandIn u) = true := by kernel_rfl
end Go.Proofs.YtgdhaaokolfdoaaGreatDoor
