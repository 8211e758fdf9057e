/-
ConsoleComposes: the row fits the program: maps, words of the program.
Conditions: none.
-/
import Derived.Test.YtefdgihgbhbibaaGreatDoorRowJ
set_option linter.unusedVariables false
set_option linter.unusedSimpArgs false
set_option maxRecDepth 100000
namespace Go.Proofs.YtefdgihgbhbibaaGreatDoor
open Go.ChangeShapes Go.WideShapes Go.ChangeAt Go.RowKit
theorem j3:(J3 Tryz.pinned.checked.prog 3 Tryz.f3 Rows.consoleComposesSpec Rows.consoleComposesRow).1.2=true:=by kernel_rfl
theorem j23:(J23 Tryz.pinned.checked.prog 3 Tryz.f3 Rows.consoleComposesSpec Rows.consoleComposesRow).1.2=true:=by kernel_rfl
theorem j25:(J25 Tryz.pinned.checked.prog 3 Tryz.f3 Rows.consoleComposesSpec Rows.consoleComposesRow).1.2=true:=by kernel_rfl
theorem j26:(J26 Tryz.pinned.checked.prog 3 Tryz.f3 Rows.consoleComposesSpec Rows.consoleComposesRow).1.2=true:=by kernel_rfl
end Go.Proofs.YtefdgihgbhbibaaGreatDoor
