/-
ConsoleHashes: closed facts of the program.
Conditions: none.
-/
import Derived.Test.YtkondgccabcabaaGreatDoorHashS0
set_option linter.unusedVariables false
set_option linter.unusedSimpArgs false
set_option maxRecDepth 100000
namespace Go.Proofs.YtkondgccabcabaaGreatDoor
open Go.ChangeShapes Go.WideShapes Go.ChangeAt Go.RowKit
theorem Tryz.own : ownKnob Tryz.prog.godebug = none := by kernel_rfl
theorem Tryz.noInit : Tryz.checked.prog.inits.idxOf? 3 = none := by kernel_rfl
theorem Tryz.plain10 : (Rows.consoleHashesRow.laid.all fun x => x.2.handleName?.isNone) = true := by kernel_rfl
theorem Tryz.named3 : Tryz.pinned.checked.prog.funcNamed Rows.consoleHashesRow.func = some 3 := by kernel_rfl
theorem Tryz.shut4 : Tryz.prog.underlying 4 = some .bool := by kernel_rfl
end Go.Proofs.YtkondgccabcabaaGreatDoor
