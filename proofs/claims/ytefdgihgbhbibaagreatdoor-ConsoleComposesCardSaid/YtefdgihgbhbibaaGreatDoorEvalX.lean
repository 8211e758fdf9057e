/-
The seat's program: its functions without a Go body, and the methods of interface values, as the evaluator takes them.
Conditions: none.
-/
import Derived.Test.YtefdgihgbhbibaaGreatDoorProg
import Derived.KernelRfl
import Derived.Test.YtefdgihgbhbibaaGreatDoorEvalD
set_option linter.unusedVariables false
set_option linter.unusedSimpArgs false
namespace Go
namespace cG
noncomputable def aWv:List (Nat×Nat):=[(458,0),(393,1),(388,2),(506,2),(484,3),(517,3),(432,4)]
theorem aCB {g k:Nat} {fn:Func} {e:Array Value→Sem Value} (h1:Proofs.Tryz.prog.funcs[g]?=some fn) (h2:(fn.name == "runtime.NumGoroutine")=false) (h3:fn.body.isNone=true) (h4:Extern.findNext fn=none) (h5:Extern.find fn=some e) (h6:xI fn k e) :
 ∃ fn e,Proofs.Tryz.prog.funcs[g]?=some fn∧(fn.name == "runtime.NumGoroutine")=false∧fn.body.isNone=true∧Extern.findNext fn=none∧Extern.find fn=some e∧xI fn k e:=⟨fn,e,h1,h2,h3,h4,h5,h6⟩
theorem aY1:∃ fn e,Proofs.Tryz.prog.funcs[458]?=some fn∧(fn.name == "runtime.NumGoroutine")=false∧fn.body.isNone=true∧Extern.findNext fn=none∧Extern.find fn=some e∧xI fn 0 e :=
 aCB Proofs.Tryz.func458 (by kernel_rfl) (by kernel_rfl) (by kernel_rfl) (e:=Extern.AbiNoEscape.same) (by kernel_rfl) rfl
theorem aY2:∃ fn e,Proofs.Tryz.prog.funcs[393]?=some fn∧(fn.name == "runtime.NumGoroutine")=false∧fn.body.isNone=true∧Extern.findNext fn=none∧Extern.find fn=some e∧xI fn 1 e :=
 aCB Proofs.Tryz.func393 (by kernel_rfl) (by kernel_rfl) (by kernel_rfl) (by kernel_rfl) rfl
theorem aY6:∃ fn e,Proofs.Tryz.prog.funcs[388]?=some fn∧(fn.name == "runtime.NumGoroutine")=false∧fn.body.isNone=true∧Extern.findNext fn=none∧Extern.find fn=some e∧xI fn 2 e :=
 aCB Proofs.Tryz.func388 (by kernel_rfl) (by kernel_rfl) (by kernel_rfl) (e:=Extern.BytealgCount.count) (by kernel_rfl) rfl
theorem aY7:∃ fn e,Proofs.Tryz.prog.funcs[506]?=some fn∧(fn.name == "runtime.NumGoroutine")=false∧fn.body.isNone=true∧Extern.findNext fn=none∧Extern.find fn=some e∧xI fn 2 e :=
 aCB Proofs.Tryz.func506 (by kernel_rfl) (by kernel_rfl) (by kernel_rfl) (e:=Extern.BytealgCount.count) (by kernel_rfl) rfl
theorem aY8:∃ fn e,Proofs.Tryz.prog.funcs[484]?=some fn∧(fn.name == "runtime.NumGoroutine")=false∧fn.body.isNone=true∧Extern.findNext fn=none∧Extern.find fn=some e∧xI fn 3 e :=
 aCB Proofs.Tryz.func484 (by kernel_rfl) (by kernel_rfl) (by kernel_rfl) (e:=Extern.BytealgIndexByte.indexByte) (by kernel_rfl) rfl
theorem aY9:∃ fn e,Proofs.Tryz.prog.funcs[517]?=some fn∧(fn.name == "runtime.NumGoroutine")=false∧fn.body.isNone=true∧Extern.findNext fn=none∧Extern.find fn=some e∧xI fn 3 e :=
 aCB Proofs.Tryz.func517 (by kernel_rfl) (by kernel_rfl) (by kernel_rfl) (e:=Extern.BytealgIndexByte.indexByte) (by kernel_rfl) rfl
theorem aZa:∃ fn e,Proofs.Tryz.prog.funcs[432]?=some fn∧(fn.name == "runtime.NumGoroutine")=false∧fn.body.isNone=true∧Extern.findNext fn=none∧Extern.find fn=some e∧xI fn 4 e :=
 aCB Proofs.Tryz.func432 (by kernel_rfl) (by kernel_rfl) (by kernel_rfl) (e:=Extern.BytealgCompare.compare) (by kernel_rfl) rfl
theorem xD {a b:Nat} {r:List (Nat×Nat)} {g k:Nat} (h:xk ((a,b)::r) g=some k):(g=a∧k=b)∨xk r g=some k:=by
 have h':(bif Nat.beq a g then some b else xk r g)=some k:=h
 cases hb:Nat.beq a g with
 | true =>
  rw [hb] at h'
  have:=Nat.eq_of_beq_eq_true hb
  cases h'
  exact .inl ⟨this.symm,rfl⟩
 | false=>rw [hb] at h';exact .inr h'
theorem aWw:XOk Proofs.Tryz.prog aWv:=by
 intro g k h
 rcases xD h with ⟨rfl,rfl⟩|h
 · exact aY1
 rcases xD h with ⟨rfl,rfl⟩|h
 · exact aY2
 rcases xD h with ⟨rfl,rfl⟩|h
 · exact aY6
 rcases xD h with ⟨rfl,rfl⟩|h
 · exact aY7
 rcases xD h with ⟨rfl,rfl⟩|h
 · exact aY8
 rcases xD h with ⟨rfl,rfl⟩|h
 · exact aY9
 rcases xD h with ⟨rfl,rfl⟩|h
 · exact aZa
 cases h
noncomputable def Zw (P:Program) (t:Nat):List (String×Nat×Nat):=match P.info? t with
 | some i=>i.methods.toList.filterMap fun m=>match m.func with | some (g,_)=>some (m.name,t,g) | none=>none
 | none=>[]
noncomputable def aTy (P:Program) (e:String×Nat×Nat):Bool:=match P.info? e.2.1,P.underlying e.2.1 with
 | some info,some d=>(match info.methods.find? (·.name == e.1) with
  | some m=>m.path.isEmpty && (match m.func with | some (g,ptr)=>Nat.beq g e.2.2 && (match d with | .pointer _=>ptr | _=>!ptr) | none=>false)
  | none=>false)
 | _,_=>false
theorem aPW {P:Program} {e:String×Nat×Nat} (h:aTy P e=true):∃ info m d ptr,P.info? e.2.1=some info∧info.methods.find? (·.name == e.1)=some m∧m.path=#[]∧m.func=some (e.2.2,ptr) ∧
 P.underlying e.2.1=some d∧(match d with|.pointer _=>ptr=true|_=>ptr=false):=by
 unfold aTy at h
 split at h
 · rename_i info d h1 h2
   split at h
   · rename_i m h3
     rw [Bool.and_eq_true] at h
     obtain ⟨h4,h5⟩:=h
     split at h5
     · rename_i g ptr h6
       rw [Bool.and_eq_true] at h5
       have e1:=Nat.eq_of_beq_eq_true h5.1
       subst e1
       refine ⟨info,m,d,ptr,h1,h3,by simpa using h4,h6,h2,?_⟩
       have h7:=h5.2
       split at h7
       · exact h7
       · simpa using h7
     · cases h5
   · cases h
 · cases h
theorem aPX {P:Program} {ms:List (String×Nat×Nat)} (h:ms.all (aTy P)=true):MOk P ms:=fun e he=>aPW (List.all_eq_true.1 h e he)
noncomputable def aWx:List (String×Nat×Nat):=Zw Proofs.Tryz.prog 137++Zw Proofs.Tryz.prog 138++Zw Proofs.Tryz.prog 139++Zw Proofs.Tryz.prog 140++Zw Proofs.Tryz.prog 141++Zw Proofs.Tryz.prog 328++Zw Proofs.Tryz.prog 334++Zw Proofs.Tryz.prog 337
theorem aWy:MOk Proofs.Tryz.prog aWx:=aPX (by kernel_rfl)
noncomputable def dN:Cx:=⟨[1,3],aWv,aWx⟩
theorem aCC:xO Proofs.Tryz.prog dN:=⟨aWw,aWy⟩
theorem aPY:Proofs.Tryz.prog.follows .mixedOrders=true:=by kernel_rfl
set_option maxRecDepth 100000 in
theorem aMB:tL Proofs.Tryz.prog dN:=aOk aCC aPY
end cG
end Go
