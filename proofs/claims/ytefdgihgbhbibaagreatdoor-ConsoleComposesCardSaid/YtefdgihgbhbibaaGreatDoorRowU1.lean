/-
ConsoleComposes: the row fits the program: small parts.
Conditions: none.
-/
import Derived.Test.YtefdgihgbhbibaaGreatDoorRowJ
set_option linter.unusedVariables false
set_option linter.unusedSimpArgs false
set_option maxRecDepth 100000
namespace Go.Proofs.YtefdgihgbhbibaaGreatDoor
open Go.ChangeShapes Go.WideShapes Go.ChangeAt Go.RowKit
theorem j1:(J2 Tryz.pinned.checked.prog 3 Tryz.f3 Rows.consoleComposesSpec Rows.consoleComposesRow).1.1=true:=by kernel_rfl
theorem j4:(J4 Tryz.pinned.checked.prog 3 Tryz.f3 Rows.consoleComposesSpec Rows.consoleComposesRow).1.2=true:=by kernel_rfl
theorem j5:(J5 Tryz.pinned.checked.prog 3 Tryz.f3 Rows.consoleComposesSpec Rows.consoleComposesRow).1.2=true:=by kernel_rfl
theorem j6:(J6 Tryz.pinned.checked.prog 3 Tryz.f3 Rows.consoleComposesSpec Rows.consoleComposesRow).1.2=true:=by kernel_rfl
theorem j7:(J7 Tryz.pinned.checked.prog 3 Tryz.f3 Rows.consoleComposesSpec Rows.consoleComposesRow).1.2=true:=by kernel_rfl
theorem j8:(J8 Tryz.pinned.checked.prog 3 Tryz.f3 Rows.consoleComposesSpec Rows.consoleComposesRow).1.2=true:=by kernel_rfl
theorem j9:(J9 Tryz.pinned.checked.prog 3 Tryz.f3 Rows.consoleComposesSpec Rows.consoleComposesRow).1.2=true:=by kernel_rfl
theorem j14:(J14 Tryz.pinned.checked.prog 3 Tryz.f3 Rows.consoleComposesSpec Rows.consoleComposesRow).1.2=true:=by kernel_rfl
theorem j15:(J15 Tryz.pinned.checked.prog 3 Tryz.f3 Rows.consoleComposesSpec Rows.consoleComposesRow).1.2=true:=by kernel_rfl
theorem j16:(J16 Tryz.pinned.checked.prog 3 Tryz.f3 Rows.consoleComposesSpec Rows.consoleComposesRow).1.2=true:=by kernel_rfl
theorem j17:(J17 Tryz.pinned.checked.prog 3 Tryz.f3 Rows.consoleComposesSpec Rows.consoleComposesRow).1.2=true:=by kernel_rfl
theorem j18:(J18 Tryz.pinned.checked.prog 3 Tryz.f3 Rows.consoleComposesSpec Rows.consoleComposesRow).1.2=true:=by kernel_rfl
theorem j19:(J19 Tryz.pinned.checked.prog 3 Tryz.f3 Rows.consoleComposesSpec Rows.consoleComposesRow).1.2=true:=by kernel_rfl
theorem j20:(J20 Tryz.pinned.checked.prog 3 Tryz.f3 Rows.consoleComposesSpec Rows.consoleComposesRow).1.2=true:=by kernel_rfl
theorem j21:(J21 Tryz.pinned.checked.prog 3 Tryz.f3 Rows.consoleComposesSpec Rows.consoleComposesRow).1.2=true:=by kernel_rfl
theorem j22:(J22 Tryz.pinned.checked.prog 3 Tryz.f3 Rows.consoleComposesSpec Rows.consoleComposesRow).1.2=true:=by kernel_rfl
theorem j24:(J24 Tryz.pinned.checked.prog 3 Tryz.f3 Rows.consoleComposesSpec Rows.consoleComposesRow).1.2=true:=by kernel_rfl
theorem j27:(J27 Tryz.pinned.checked.prog 3 Tryz.f3 Rows.consoleComposesSpec Rows.consoleComposesRow).1.2=true:=by kernel_rfl
theorem j28:(J28 Tryz.pinned.checked.prog 3 Tryz.f3 Rows.consoleComposesSpec Rows.consoleComposesRow).1.2=true:=by kernel_rfl
theorem j29:(J29 Tryz.pinned.checked.prog 3 Tryz.f3 Rows.consoleComposesSpec Rows.consoleComposesRow).1.2=true:=by kernel_rfl
theorem j30:(J30 Tryz.pinned.checked.prog 3 Tryz.f3 Rows.consoleComposesSpec Rows.consoleComposesRow).1.2=true:=by kernel_rfl
theorem j31:(J31 Tryz.pinned.checked.prog 3 Tryz.f3 Rows.consoleComposesSpec Rows.consoleComposesRow).1.2=true:=by kernel_rfl
theorem j32:(J32 Tryz.pinned.checked.prog 3 Tryz.f3 Rows.consoleComposesSpec Rows.consoleComposesRow).1.2=true:=by kernel_rfl
end Go.Proofs.YtefdgihgbhbibaaGreatDoor
