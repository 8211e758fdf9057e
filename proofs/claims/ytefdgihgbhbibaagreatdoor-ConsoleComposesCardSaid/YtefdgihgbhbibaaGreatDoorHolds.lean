/-
The card of ConsoleComposes holds: the answer of AskHash is the hash of the bytes, as 32 bytes and as 64 hexadecimal digits, at every input, with what the row lists tied to the program's text.
Conditions: none beyond the card's own.
-/
import Derived.Test.YtefdgihgbhbibaaGreatDoorRowB
import Derived.Test.YtefdgihgbhbibaaGreatDoorRowParts
import Derived.Test.YtefdgihgbhbibaaGreatDoorRowX
import Derived.Test.YtefdgihgbhbibaaGreatDoorOwnTie
set_option linter.unusedVariables false
set_option linter.unusedSimpArgs false
set_option maxRecDepth 100000
namespace Go.Proofs.YtefdgihgbhbibaaGreatDoor
theorem aQn:false=Rows.consoleComposesRow.goesBy Tryz.pinned.checked.prog:=aQk (fun t=>by rw [Ab];exact aTL t) rfl
theorem aM2 (j:Nat) (t:TypeId) (ht:Tryz.f3.params[j]?=some t):Tryz.pinned.checked.prog.wantsStandIn t=false:=by
 rw [Tryz.params3] at ht
 have hm:t∈[25,26,5]:=by simpa using Array.mem_of_getElem? ht
 rw [Ab]
 have h:=List.all_eq_true.1 aQl t hm
 cases hq:Tryz.prog.wantsStandIn t with
 | false=>rfl
 | true=>rw [hq] at h;cases h
theorem aQo {f:FuncId} {fn:Func} (hf:Tryz.pinned.checked.prog.funcNamed Rows.consoleComposesRow.func=some f) (hfn:Tryz.pinned.checked.prog.funcs[f]?=some fn):fn=Tryz.f3:=by
 have h3:=Tryz.aHp.symm.trans hf
 cases h3
 rw [Ab] at hfn
 exact Option.some.inj (hfn.symm.trans Tryz.func3)
theorem consoleComposes_card:Rows.ConsoleComposesCardSaid :=
 Claim7.holds_tied_plain_at .later [] Fa true aTK true
  xR (fun _ h=>by cases h) aWW (fun _ h=>by cases h) aAt rfl ⟨rfl,rfl⟩ aQj rfl
  (fun f fn hf hfn=>⟨aM0,fun j t ht=>aM2 j t (by rw [← aQo hf hfn];exact ht)⟩)
  aQn
#print axioms consoleComposes_card
end Go.Proofs.YtefdgihgbhbibaaGreatDoor
