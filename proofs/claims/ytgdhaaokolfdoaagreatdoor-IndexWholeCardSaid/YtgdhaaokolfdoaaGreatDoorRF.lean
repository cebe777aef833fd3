/- Closed facts on the program that each row of this seat asks, one theorem each. -/
import Derived.Test.YtgdhaaokolfdoaaGreatDoorRW
set_option linter.all false
namespace Go.Proofs.YtgdhaaokolfdoaaGreatDoor
open Go.ChangeShapes Go.WideShapes Go.ChangeAt Go.RowKit Go.Sg
theorem zS0:mapsRowed Tryz.prog=true:=by kernel_rfl
theorem wU0:(Tryz.prog.stops == [])=true:=by kernel_rfl
theorem wW0:(Tryz.prog.stopKnobs == [])=true:=by kernel_rfl
theorem zW0:(Rows.storeNilRow.plainKeys == Tryz.prog.plainKeys)=true:=by kernel_rfl
theorem wX0:Tryz.prog.stopsHeard=true:=by kernel_rfl
theorem wY0:Tryz.prog.mayEnter=true:=by kernel_rfl
theorem tI0:(Rows.storeNilRow.lifted == Tryz.prog.liftsFinal)=true:=by kernel_rfl
theorem zT0:(Tryz.prog.make == some Rows.storeNilRow.make)=true:=by kernel_rfl
theorem wV0:false=Tryz.prog.looks []:=by kernel_rfl
theorem Dj0:false=Rows.storeNilRow.goesBy Tryz.prog:=by kernel_rfl
theorem zU0 : Tryz.prog.mainIs = some (true, "e398d9c22f2f7fd5244c9c4088e24dc147c9b492cf57d8d70d9d24d47e8ca071".toList) := by kernel_rfl
theorem Ck0:([3].all fun u=>!Tryz.prog.wantsStandIn u)=true:=by kernel_rfl
