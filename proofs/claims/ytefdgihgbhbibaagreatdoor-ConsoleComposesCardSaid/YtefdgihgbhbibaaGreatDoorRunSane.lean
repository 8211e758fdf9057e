/-
ConsoleComposes: the fixed examples hold: run by the kernel.
Conditions: none.
-/
import Derived.Test.YtefdgihgbhbibaaGreatDoorRunGlob
import Derived.Test.YtefdgihgbhbibaaGreatDoorEvalX
set_option linter.unusedVariables false
set_option linter.unusedSimpArgs false
set_option maxRecDepth 100000
namespace Go
namespace cG
noncomputable def aWz (r:fV):Bool:=match r with
 | .val (.bool true) h=>(match h.log with | []=>true | _=>false)
 | _=>false
theorem aMC:aWz (Va Proofs.Tryz.prog dN 100 4 [] hpG)=true:=by kernel_rfl
theorem aMD:∃ h1,Va Proofs.Tryz.prog dN 100 4 [] hpG=.val (.bool true) h1∧h1.log=[]:=by
 have h:=aMC
 revert h
 cases Va Proofs.Tryz.prog dN 100 4 [] hpG with
 | none=>intro h;cases h
 | panic c h=>intro h;cases h
 | val v h1 =>
  intro h
  cases v<;>try cases h
  rename_i b
  cases b with
  | false=>cases h
  | true =>
   refine ⟨h1,rfl,?_⟩
   revert h
   show (match h1.log with|[]=>true|_=>false)=true→_
   cases h1.log with
   | nil=>intro _;rfl
   | cons x y=>intro h;cases h
end cG
end Go
