/-
The functions that are written out are the program's.
Conditions: none.
-/
import Derived.Test.YtkondgccabcabaaGreatDoorRunLit
import Derived.Test.YtkondgccabcabaaGreatDoorEvalX
set_option linter.unusedVariables false
set_option linter.unusedSimpArgs false
set_option maxRecDepth 100000
namespace Go
namespace Abs
theorem cfE25 : cF Proofs.Tryz.prog cx35 25 = cf25 := by kernel_rfl
theorem cfE13 : cF Proofs.Tryz.prog cx35 13 = cf13 := by kernel_rfl
theorem cfE6 : cF Proofs.Tryz.prog cx35 6 = cf6 := by kernel_rfl
theorem cfE14 : cF Proofs.Tryz.prog cx35 14 = cf14 := by kernel_rfl
theorem cfE113 : cF Proofs.Tryz.prog cx35 113 = cf113 := by kernel_rfl
theorem cfE7 : cF Proofs.Tryz.prog cx35 7 = cf7 := by kernel_rfl
theorem cfE5 : cF Proofs.Tryz.prog cx35 5 = cf5 := by kernel_rfl
theorem cfE12 : cF Proofs.Tryz.prog cx35 12 = cf12 := by kernel_rfl
theorem cfE23 : cF Proofs.Tryz.prog cx35 23 = cf23 := by kernel_rfl
theorem cfE24 : cF Proofs.Tryz.prog cx35 24 = cf24 := by kernel_rfl
theorem cfE59 : cF Proofs.Tryz.prog cx35 59 = cf59 := by kernel_rfl
theorem cfE3 : cF Proofs.Tryz.prog cx35 3 = cf3 := by kernel_rfl
end Abs
end Go
