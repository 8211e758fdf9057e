/-
Closed facts of the row.
Conditions: none.
-/
import Derived.Test.YtkondgccabcabaaGreatDoorHashS0
set_option linter.unusedVariables false
set_option linter.unusedSimpArgs false
/- ConsoleHashes: the main function of the program's text. -/
set_option maxRecDepth 100000
namespace Go.Proofs.YtkondgccabcabaaGreatDoor
open Go.ChangeShapes Go.WideShapes Go.ChangeAt Go.RowKit
noncomputable def harn : Bool × String := (true, "558d8f25546736c65cf1f18abe886272c5b9f1a2e82540657d2a0776918688bb")
theorem main_is : Tryz.pinned.checked.prog.mainIs = some (harn.1, harn.2.toList) := by kernel_rfl
end Go.Proofs.YtkondgccabcabaaGreatDoor
/- ConsoleHashes: the looks of the program. -/
set_option maxRecDepth 100000
namespace Go.Proofs.YtkondgccabcabaaGreatDoor
open Go.ChangeShapes Go.WideShapes Go.ChangeAt Go.RowKit
theorem looks_is : true = Tryz.pinned.checked.prog.looks [] := by kernel_rfl
end Go.Proofs.YtkondgccabcabaaGreatDoor
/- ConsoleHashes: the row is well formed by its text. -/
set_option maxRecDepth 100000
namespace Go.Proofs.YtkondgccabcabaaGreatDoor
open Go.ChangeShapes Go.WideShapes Go.ChangeAt Go.RowKit
theorem wf_is : Rows.consoleHashesRow.wfByText (OpenSpec.ofChange Rows.consoleHashesSpec) = true := by kernel_rfl
theorem wants22 : ([22].all fun u => !Tryz.prog.wantsStandIn u) = true := by kernel_rfl
end Go.Proofs.YtkondgccabcabaaGreatDoor
