/-
The tie of the row of ConsoleComposes: what the row lists is what the program's text lays.
Conditions: none.
-/
import Derived.LaidSub
import Derived.LaidOnce
import Derived.Test.YtefdgihgbhbibaaGreatDoorOwnTieB
import Derived.Test.YtefdgihgbhbibaaGreatDoorOwnTieC
set_option linter.unusedVariables false
set_option linter.unusedSimpArgs false
set_option maxRecDepth 100000
namespace Go.Proofs.YtefdgihgbhbibaaGreatDoor
open Go
theorem aTM:Tryz.prog.laidByTextLater xE Qs true :=
 Program.laidByTextLater_by_run 400 8 aAP aZj aZk aZl aZm aZn aZo aZp aZq aWX
theorem aM1:Tryz.pinned.checked.prog.headLifts.contains "ownunsafe" = false:=by kernel_rfl
theorem aQm:Tryz.pinned.checked.prog.listedFits Rows.consoleComposesRow.laid=true:=by
 unfold Program.listedFits
 rw [aM1]
 kernel_rfl
theorem aAt:Rows.consoleComposesRow.laidByTextAt .later Tryz.pinned Fa true :=
 OpenClaim.laidByTextAt_pinned rfl rfl aTM rfl rfl rfl rfl (fun y hy _e=>by
  simp only [Rows.consoleComposesRow,Fa,List.zip_cons_cons,List.zip_nil_right,List.mem_cons,List.mem_nil_iff,or_false] at hy
  rcases hy with rfl|rfl|rfl|rfl|rfl|rfl|rfl|rfl|rfl|rfl
  · cases _e
  · cases _e
  · cases _e
  · exact ⟨by kernel_rfl,by kernel_rfl⟩
  · cases _e
  · cases _e
  · cases _e
  · cases _e
  · cases _e
  · cases _e) aQm
end Go.Proofs.YtefdgihgbhbibaaGreatDoor
