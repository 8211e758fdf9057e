/-
The tie, fact by fact: the door of the variables.
Conditions: none.
-/
import Derived.Test.YtkondgccabcabaaGreatDoorOwnTieA
set_option linter.unusedVariables false
set_option linter.unusedSimpArgs false
/-  -/
namespace Go.Proofs.YtkondgccabcabaaGreatDoor
open Go
theorem own6 : varsNamedLaterB Tryz.prog (varsId Tryz.prog) ownLaid = true := by kernel_rfl
end Go.Proofs.YtkondgccabcabaaGreatDoor
/-  -/
namespace Go.Proofs.YtkondgccabcabaaGreatDoor
open Go
theorem own7 : ∀ os tape, varsDone Tryz.prog 400 (varsId Tryz.prog) os tape = true := fun _ _ => by kernel_rfl
end Go.Proofs.YtkondgccabcabaaGreatDoor
