/-
Closed facts of the row.
Conditions: none.
-/
import Derived.Test.YtefdgihgbhbibaaGreatDoorRowJ
set_option linter.unusedVariables false
set_option linter.unusedSimpArgs false
set_option maxRecDepth 100000
namespace Go.Proofs.YtefdgihgbhbibaaGreatDoor
open Go.ChangeShapes Go.WideShapes Go.ChangeAt Go.RowKit
noncomputable def aTK:Bool×String:=(true,"aa779e694f7817b5fead04b4f16e04ec51d09646bab693ea3c869bea164c9fec")
theorem aQj:Tryz.pinned.checked.prog.mainIs=some (aTK.1,aTK.2.toList):=by kernel_rfl
theorem aM0:true=Tryz.pinned.checked.prog.looks []:=by kernel_rfl
theorem aWW:Rows.consoleComposesRow.wfByText (OpenSpec.ofChange Rows.consoleComposesSpec)=true:=by kernel_rfl
theorem aQl:([25,26,5].all fun u=>!Tryz.prog.wantsStandIn u)=true:=by kernel_rfl
end Go.Proofs.YtefdgihgbhbibaaGreatDoor
