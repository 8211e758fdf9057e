/-
The tie, fact by fact: what the door lays.
Conditions: none.
-/
import Derived.Test.YtefdgihgbhbibaaGreatDoorOwnTieA
set_option linter.unusedVariables false
set_option linter.unusedSimpArgs false
namespace Go.Proofs.YtefdgihgbhbibaaGreatDoor
open Go
theorem aZp:∀ os tape,(DataW.laidRun Tryz.prog (varsWorld Tryz.prog 400 (varsId Tryz.prog) os tape).memory 8 (xE.map (·.1))).map (·.1)=some xE:=fun _ _=>by kernel_rfl
open Go
theorem aZq:∀ os tape,(DataW.laidRun Tryz.prog (varsWorld Tryz.prog 400 (varsId Tryz.prog) os tape).memory 8 (xE.map (·.1))).map (fun x=>decide x.2.Nodup && laidRowsB Tryz.prog (varsWorld Tryz.prog 400 (varsId Tryz.prog) os tape).memory x.2)=some true:=fun _ _=>by kernel_rfl
end Go.Proofs.YtefdgihgbhbibaaGreatDoor
