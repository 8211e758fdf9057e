/-
The tie, fact by fact: the list, its kinds, the words of the program.
Conditions: none.
-/
import Derived.Test.YtefdgihgbhbibaaGreatDoorRows
import Derived.LaidByTextLater
import Derived.SevenTiedAt
set_option linter.unusedVariables false
set_option linter.unusedSimpArgs false
namespace Go.Proofs.YtefdgihgbhbibaaGreatDoor
open Go
def Fa:List LaidKind:=[.sentinel,.data,.data,.pinned,.data,.sentinel,.sentinel,.data,.data,.data]
noncomputable def xE:List (String×DataW Unit):=(((Rows.consoleComposesRow.laid.zip Fa).filter (·.2 != .pinned)).map (·.1))
def Qs:List LaidKind:=[.sentinel,.data,.data,.data,.sentinel,.sentinel,.data,.data,.data]
theorem aAP:Tryz.prog.worded (varsWordLater true)=true:=by kernel_rfl
theorem aZj:Tryz.prog.worded (varsWordLater !true)=false:=by kernel_rfl
theorem aZk:Tryz.prog.worded rootWordLater=true:=by kernel_rfl
theorem aZl:xE.map (fun x=>Tryz.prog.kindOfLater x.1)=Qs.map some:=by kernel_rfl
theorem aZm:(Tryz.prog.funcNamed "gosem.cut.vars").isSome=true:=by kernel_rfl
theorem aWX:(xE.all fun x=>x.2.handleName?.isNone)=true:=by kernel_rfl
end Go.Proofs.YtefdgihgbhbibaaGreatDoor
