/-
Devices: the fixed examples hold: run by the kernel, behind the entries.
Conditions: none.
-/
import Derived.KernelRfl
import Derived.Test.YtekknahndoonjaaGreatDoorRun06
import Derived.Test.YtekknahndoonjaaGreatDoorRange
import Derived.Test.YtekknahndoonjaaGreatDoorHsCx
set_option linter.all false
set_option maxRecDepth 100000
noncomputable section
namespace Go
namespace Abs
def ARc(r:N3):Bool:=match r with
 | .val (.bool true) h=>(match h.log with | []=>true | _=>false)
 | _=>false
def AKc:ARc (JW Proofs.Tryz.prog Ap (AXl [tQ,A1x,ACf,ALI]) [] 100 4 [] AR2)=true:=by kernel_rfl
end Abs
end Go
end
