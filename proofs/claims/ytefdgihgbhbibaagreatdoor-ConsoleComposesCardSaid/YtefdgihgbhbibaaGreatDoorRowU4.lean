/-
ConsoleComposes: the row fits the program: recursion, what is named.
Conditions: none.
-/
import Derived.Test.YtefdgihgbhbibaaGreatDoorRowJ
set_option linter.unusedVariables false
set_option linter.unusedSimpArgs false
set_option maxRecDepth 100000
namespace Go.Proofs.YtefdgihgbhbibaaGreatDoor
open Go.ChangeShapes Go.WideShapes Go.ChangeAt Go.RowKit
theorem j12:(J12 Tryz.pinned.checked.prog 3 Tryz.f3 Rows.consoleComposesSpec Rows.consoleComposesRow).1.2=true:=by kernel_rfl
theorem j13:(J13 Tryz.pinned.checked.prog 3 Tryz.f3 Rows.consoleComposesSpec Rows.consoleComposesRow).1.2=true:=by kernel_rfl
end Go.Proofs.YtefdgihgbhbibaaGreatDoor
