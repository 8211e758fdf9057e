/-
The tie of the row of ConsoleHashes: what the row lists is what the program's text lays.
Conditions: none.
-/
import Derived.LaidSub
import Derived.LaidOnce
import Derived.Test.YtkondgccabcabaaGreatDoorOwnTieB
import Derived.Test.YtkondgccabcabaaGreatDoorOwnTieC
set_option linter.unusedVariables false
set_option linter.unusedSimpArgs false
set_option maxRecDepth 100000
namespace Go.Proofs.YtkondgccabcabaaGreatDoor
open Go
theorem ownTie : Tryz.prog.laidByTextLater ownLaid ownKinds' true :=
  Program.laidByTextLater_by_run 400 8 own1 own2 own3 own4 own5 own6 own7 own8 own9 own10
theorem ownPlain : Tryz.pinned.checked.prog.headLifts.contains "ownunsafe" = false := by kernel_rfl
theorem ownFits : Tryz.pinned.checked.prog.listedFits Rows.consoleHashesRow.laid = true := by
  unfold Program.listedFits
  rw [ownPlain]
  kernel_rfl
theorem own_row_tie : Rows.consoleHashesRow.laidByTextAt .later Tryz.pinned ownKinds true :=
  OpenClaim.laidByTextAt_pinned rfl rfl ownTie rfl rfl rfl rfl (fun y hy _e => by
    simp only [Rows.consoleHashesRow, ownKinds, List.zip_cons_cons, List.zip_nil_right, List.mem_cons, List.mem_nil_iff, or_false] at hy
    rcases hy with rfl | rfl | rfl | rfl | rfl | rfl | rfl | rfl | rfl | rfl
    · cases _e
    · cases _e
    · cases _e
    · exact ⟨by kernel_rfl, by kernel_rfl⟩
    · cases _e
    · cases _e
    · cases _e
    · cases _e
    · cases _e
    · cases _e) ownFits
end Go.Proofs.YtkondgccabcabaaGreatDoor
