/-
ConsoleHashes: the fixed examples hold: run by the kernel.
Conditions: none.
-/
import Derived.Test.YtkondgccabcabaaGreatDoorHashLaw
import Derived.Test.YtkondgccabcabaaGreatDoorEvalX
set_option linter.unusedVariables false
set_option linter.unusedSimpArgs false
set_option maxRecDepth 100000
namespace Go
namespace Abs
noncomputable def saneC (r : Res) : Bool := match r with
  | .val (.bool true) h => (match h.log with | [] => true | _ => false)
  | _ => false
theorem saneC_ok : saneC (callN Proofs.Tryz.prog cx35 100 4 [] hpG) = true := by kernel_rfl
theorem sane_run : ∃ h1, callN Proofs.Tryz.prog cx35 100 4 [] hpG = .val (.bool true) h1 ∧ h1.log = [] := by
  have h := saneC_ok
  revert h
  cases callN Proofs.Tryz.prog cx35 100 4 [] hpG with
  | none => intro h; cases h
  | panic c h => intro h; cases h
  | val v h1 =>
    intro h
    cases v <;> try cases h
    rename_i b
    cases b with
    | false => cases h
    | true =>
      refine ⟨h1, rfl, ?_⟩
      revert h
      show (match h1.log with | [] => true | _ => false) = true → _
      cases h1.log with
      | nil => intro _; rfl
      | cons x y => intro h; cases h
end Abs
end Go
