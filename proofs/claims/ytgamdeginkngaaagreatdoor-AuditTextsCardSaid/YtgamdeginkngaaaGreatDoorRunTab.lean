/-
AuditTexts: the functions on a name and a value of the table: run by the kernel.
Conditions: none.
-/
import Derived.Test.YtgamdeginkngaaaGreatDoorRunX
set_option linter.unusedVariables false
set_option linter.unusedSimpArgs false
set_option maxRecDepth 100000
namespace Go
namespace Abs
noncomputable def callL : Call := callN Proofs.Tryz.prog ⟨[], xs32⟩ 50
noncomputable def emp : Hp := ⟨.nil, 0, 0, []⟩
noncomputable def isT (r : Res) : Bool := match r with | .val (.bool true) _ => true | _ => false
noncomputable def isN (r : Res) : Bool := match r with | .val (.int .i64 (.negSucc 0)) _ => true | _ => false
theorem tab79 : ((List.range 8).all fun n => (List.range 4).all fun m => isT (callL 79 [.agg ⟨[.string (callS n), .string (valS m)]⟩] emp)) = true := by kernel_rfl
theorem tab74 : ((List.range 8).all fun n => (List.range 4).all fun m => isT (callL 74 [.agg ⟨[.string (callS n), .string (valS m)]⟩] emp)) = true := by kernel_rfl
theorem tab75 : ((List.range 8).all fun n => (List.range 4).all fun m => (List.range 8).all fun k => bif lLt (bl (callS n)) (bl (callS k)) then isN (callL 75 [.agg ⟨[.string (callS n), .string (valS m)]⟩, .string (callS k)] emp) else true) = true := by kernel_rfl
end Abs
end Go
