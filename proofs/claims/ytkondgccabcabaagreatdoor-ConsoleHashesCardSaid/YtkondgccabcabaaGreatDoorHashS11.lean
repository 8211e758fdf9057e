/-
ConsoleHashes: the function is no instance and no wrapper.
Conditions: none.
-/
import Derived.Test.YtkondgccabcabaaGreatDoorHashS0
set_option linter.unusedVariables false
set_option linter.unusedSimpArgs false
set_option maxRecDepth 100000
namespace Go.Proofs.YtkondgccabcabaaGreatDoor
open Go.ChangeShapes Go.WideShapes Go.ChangeAt Go.RowKit
theorem inst3 : Tryz.f3.isInstance Tryz.pinned.checked.prog Rows.consoleHashesRow.origin Rows.consoleHashesRow.targs := of_decide_eq_true (by kernel_rfl)
theorem wrap3 : Tryz.f3.isWrapper Tryz.pinned.checked.prog Rows.consoleHashesRow.wrapper Rows.consoleHashesRow.mainSum := by
  unfold Func.isWrapper; first | (rw [if_pos (by decide +kernel)]; kernel_rfl) | (rw [if_neg (by decide +kernel)]; exact ⟨rfl, rfl⟩)
end Go.Proofs.YtkondgccabcabaaGreatDoor
