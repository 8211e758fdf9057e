/-
The tie, fact by fact: the list, its kinds, the words of the program.
Conditions: none.
-/
import Derived.Test.YtkondgccabcabaaGreatDoorRows
import Derived.LaidByTextLater
import Derived.SevenTiedAt
set_option linter.unusedVariables false
set_option linter.unusedSimpArgs false
namespace Go.Proofs.YtkondgccabcabaaGreatDoor
open Go
def ownKinds : List LaidKind := [.sentinel, .data, .data, .pinned, .data, .sentinel, .sentinel, .data, .data, .data]
noncomputable def ownLaid : List (String × DataW Unit) := (((Rows.consoleHashesRow.laid.zip ownKinds).filter (·.2 != .pinned)).map (·.1))
def ownKinds' : List LaidKind := [.sentinel, .data, .data, .data, .sentinel, .sentinel, .data, .data, .data]
theorem own1 : Tryz.prog.worded (varsWordLater true) = true := by kernel_rfl
theorem own2 : Tryz.prog.worded (varsWordLater !true) = false := by kernel_rfl
theorem own3 : Tryz.prog.worded rootWordLater = true := by kernel_rfl
theorem own4 : ownLaid.map (fun x => Tryz.prog.kindOfLater x.1) = ownKinds'.map some := by kernel_rfl
theorem own5 : (Tryz.prog.funcNamed "gosem.cut.vars").isSome = true := by kernel_rfl
theorem own10 : (ownLaid.all fun x => x.2.handleName?.isNone) = true := by kernel_rfl
end Go.Proofs.YtkondgccabcabaaGreatDoor
