/-
ConsoleComposes: the row fits the program: what is called in place, what is not followed.
Conditions: none.
-/
import Derived.Test.YtefdgihgbhbibaaGreatDoorRowJ
set_option linter.unusedVariables false
set_option linter.unusedSimpArgs false
set_option maxRecDepth 100000
namespace Go.Proofs.YtefdgihgbhbibaaGreatDoor
open Go.ChangeShapes Go.WideShapes Go.ChangeAt Go.RowKit
theorem j10:(J10 Tryz.pinned.checked.prog 3 Tryz.f3 Rows.consoleComposesSpec Rows.consoleComposesRow).1.2=true:=by kernel_rfl
theorem j11:(J11 Tryz.pinned.checked.prog 3 Tryz.f3 Rows.consoleComposesSpec Rows.consoleComposesRow).1.2=true:=by kernel_rfl
end Go.Proofs.YtefdgihgbhbibaaGreatDoor
