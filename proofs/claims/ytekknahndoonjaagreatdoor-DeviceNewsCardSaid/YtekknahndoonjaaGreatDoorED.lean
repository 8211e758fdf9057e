/-
Devices: the entry D holds.
Conditions: none.
-/
import Derived.KernelRfl
import Derived.Test.YtekknahndoonjaaGreatDoorRun06
import Derived.Test.YtekknahndoonjaaGreatDoorRange
import Derived.Test.YtekknahndoonjaaGreatDoorHsCx
set_option linter.all false
set_option maxRecDepth 100000
noncomputable section
namespace Go
namespace Abs
def AOD:A9B.runs (JW Proofs.Tryz.prog Ap (AXl [tQ,A1x,ACf]) [] 100) ALI=true:=by kernel_rfl
end Abs
end Go
end
