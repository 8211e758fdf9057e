/-
The tie, fact by fact: the door of the variables.
Conditions: none.
-/
import Derived.Test.YtefdgihgbhbibaaGreatDoorOwnTieA
set_option linter.unusedVariables false
set_option linter.unusedSimpArgs false
namespace Go.Proofs.YtefdgihgbhbibaaGreatDoor
open Go
theorem aZn:varsNamedLaterB Tryz.prog (varsId Tryz.prog) xE=true:=by kernel_rfl
open Go
theorem aZo:∀ os tape,varsDone Tryz.prog 400 (varsId Tryz.prog) os tape=true:=fun _ _=>by kernel_rfl
end Go.Proofs.YtefdgihgbhbibaaGreatDoor
