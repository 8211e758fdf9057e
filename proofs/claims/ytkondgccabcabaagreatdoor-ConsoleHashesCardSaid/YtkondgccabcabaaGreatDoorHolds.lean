/-
The card of ConsoleHashes holds: the answer of AskHash is the hash of the bytes, as 32 bytes and as 64 hexadecimal digits, at every input, with what the row lists tied to the program's text.
Conditions: none beyond the card's own.
-/
import Derived.Test.YtkondgccabcabaaGreatDoorHashRowB
import Derived.Test.YtkondgccabcabaaGreatDoorRowParts
import Derived.Test.YtkondgccabcabaaGreatDoorHashX3
import Derived.Test.YtkondgccabcabaaGreatDoorOwnTie
set_option linter.unusedVariables false
set_option linter.unusedSimpArgs false
set_option maxRecDepth 100000
namespace Go.Proofs.YtkondgccabcabaaGreatDoor
theorem goes_is : false = Rows.consoleHashesRow.goesBy Tryz.pinned.checked.prog := goes_of (fun t => by rw [prog_same]; exact ng_all t) rfl
theorem wants_is (j : Nat) (t : TypeId) (ht : Tryz.f3.params[j]? = some t) : Tryz.pinned.checked.prog.wantsStandIn t = false := by
  rw [Tryz.params3] at ht
  have hm : t ∈ [22] := by simpa using Array.mem_of_getElem? ht
  rw [prog_same]
  have h := List.all_eq_true.1 wants22 t hm
  cases hq : Tryz.prog.wantsStandIn t with
  | false => rfl
  | true => rw [hq] at h; cases h
theorem func_is {f : FuncId} {fn : Func} (hf : Tryz.pinned.checked.prog.funcNamed Rows.consoleHashesRow.func = some f) (hfn : Tryz.pinned.checked.prog.funcs[f]? = some fn) : fn = Tryz.f3 := by
  have h3 := Tryz.named3.symm.trans hf
  cases h3
  rw [prog_same] at hfn
  exact Option.some.inj (hfn.symm.trans Tryz.func3)
theorem consoleHashes_card : Rows.ConsoleHashesCardSaid :=
  Claim7.holds_tied_plain_at .later [] ownKinds true harn true
    consoleHashes_holds (fun _ h => by cases h) wf_is (fun _ h => by cases h) own_row_tie rfl ⟨rfl, rfl⟩ main_is rfl
    (fun f fn hf hfn => ⟨looks_is, fun j t ht => wants_is j t (by rw [← func_is hf hfn]; exact ht)⟩)
    goes_is
#print axioms consoleHashes_card
end Go.Proofs.YtkondgccabcabaaGreatDoor
