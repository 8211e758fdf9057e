/-
Devices: the entry C holds.
Conditions: none.
-/
import Derived.KernelRfl
import Derived.Test.YtekknahndoonjaaGreatDoorRun06
import Derived.Test.YtekknahndoonjaaGreatDoorHsCx
set_option linter.all false
set_option maxRecDepth 100000
noncomputable section
namespace Go
namespace Abs
def AP5:A9B.runs (JW Proofs.Tryz.prog Ap (ASW []) [] 100) tQ=true:=by kernel_rfl
def AQf:A9B.runs (JW Proofs.Tryz.prog Ap (ASW [tQ]) [] 100) A1x=true:=by kernel_rfl
def APq:A9B.runs (JW Proofs.Tryz.prog Ap (ASW [tQ,A1x]) [] 100) ACf=true:=by kernel_rfl
end Abs
end Go
end
