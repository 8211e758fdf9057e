/-
The seat's program: its functions without a Go body, and the methods of interface values, as the evaluator takes them.
Conditions: none.
-/
import Derived.Test.YtekknahndoonjaaGreatDoorProg
import Derived.KernelRfl
import Derived.Test.YtekknahndoonjaaGreatDoorEval03
set_option linter.all false
noncomputable section
namespace Go
namespace Abs
def AXo:List (Nat×Nat):=[(325,0),(194,1),(377,2),(382,2),(416,3),(408,3),(324,4)]
theorem AAt{g k:Nat}{fn:Func}{e:Array A0→Sem A0}(h1:Proofs.Tryz.prog.funcs[g]?=some fn)(h2:(fn.name == "runtime.NumGoroutine")=false)(h3:fn.body.isNone=true)(h4:Extern.findNext fn=none)(h5:Extern.find fn=some e)(h6:Qp fn k e):
 ∃fn e,Proofs.Tryz.prog.funcs[g]?=some fn∧(fn.name == "runtime.NumGoroutine")=false∧fn.body.isNone=true∧Extern.findNext fn=none∧Extern.find fn=some e∧Qp fn k e:=⟨fn,e,h1,h2,h3,h4,h5,h6⟩
theorem AZ1:∃fn e,Proofs.Tryz.prog.funcs[325]?=some fn∧(fn.name == "runtime.NumGoroutine")=false∧fn.body.isNone=true∧Extern.findNext fn=none∧Extern.find fn=some e∧Qp fn 0 e:=AAt Proofs.Tryz.func325 (by kernel_rfl) (by kernel_rfl) (by kernel_rfl) (e:=Extern.AbiNoEscape.same) (by kernel_rfl) rfl
theorem AZ5:∃fn e,Proofs.Tryz.prog.funcs[194]?=some fn∧(fn.name == "runtime.NumGoroutine")=false∧fn.body.isNone=true∧Extern.findNext fn=none∧Extern.find fn=some e∧Qp fn 1 e:=AAt Proofs.Tryz.func194 (by kernel_rfl) (by kernel_rfl) (by kernel_rfl) (by kernel_rfl) rfl
theorem AYg:∃fn e,Proofs.Tryz.prog.funcs[377]?=some fn∧(fn.name == "runtime.NumGoroutine")=false∧fn.body.isNone=true∧Extern.findNext fn=none∧Extern.find fn=some e∧Qp fn 2 e:=AAt Proofs.Tryz.func377 (by kernel_rfl) (by kernel_rfl) (by kernel_rfl) (e:=Extern.BytealgCount.count) (by kernel_rfl) rfl
theorem AYv:∃fn e,Proofs.Tryz.prog.funcs[382]?=some fn∧(fn.name == "runtime.NumGoroutine")=false∧fn.body.isNone=true∧Extern.findNext fn=none∧Extern.find fn=some e∧Qp fn 2 e:=AAt Proofs.Tryz.func382 (by kernel_rfl) (by kernel_rfl) (by kernel_rfl) (e:=Extern.BytealgCount.count) (by kernel_rfl) rfl
theorem AZl:∃fn e,Proofs.Tryz.prog.funcs[416]?=some fn∧(fn.name == "runtime.NumGoroutine")=false∧fn.body.isNone=true∧Extern.findNext fn=none∧Extern.find fn=some e∧Qp fn 3 e:=AAt Proofs.Tryz.func416 (by kernel_rfl) (by kernel_rfl) (by kernel_rfl) (e:=Extern.BytealgIndexByte.indexByte) (by kernel_rfl) rfl
theorem AXV:∃fn e,Proofs.Tryz.prog.funcs[408]?=some fn∧(fn.name == "runtime.NumGoroutine")=false∧fn.body.isNone=true∧Extern.findNext fn=none∧Extern.find fn=some e∧Qp fn 3 e:=AAt Proofs.Tryz.func408 (by kernel_rfl) (by kernel_rfl) (by kernel_rfl) (e:=Extern.BytealgIndexByte.indexByte) (by kernel_rfl) rfl
theorem AYP:∃fn e,Proofs.Tryz.prog.funcs[324]?=some fn∧(fn.name == "runtime.NumGoroutine")=false∧fn.body.isNone=true∧Extern.findNext fn=none∧Extern.find fn=some e∧Qp fn 4 e:=AAt Proofs.Tryz.func324 (by kernel_rfl) (by kernel_rfl) (by kernel_rfl) (e:=Extern.BytealgCompare.compare) (by kernel_rfl) rfl
theorem Qg{a b:Nat}{r:List (Nat×Nat)}{g k:Nat}(h:xk ((a,b)::r) g=some k):(g=a∧k=b)∨xk r g=some k:=by
 have h':(bif Nat.beq a g then some b else xk r g)=some k:=h;cases hb:Nat.beq a g with
 | true =>
  rw[hb] at h';have:=T9 hb;cases h';exact .inl ⟨this.symm,rfl⟩
 | false=>rw[hb] at h';exact .inr h'
theorem AXn:ANG Proofs.Tryz.prog AXo:=by
 intro g k h;rcases Qg h with⟨rfl,rfl⟩|h
 ·exact AZ1
 rcases Qg h with⟨rfl,rfl⟩|h
 ·exact AZ5
 rcases Qg h with⟨rfl,rfl⟩|h
 ·exact AYg
 rcases Qg h with⟨rfl,rfl⟩|h
 ·exact AYv
 rcases Qg h with⟨rfl,rfl⟩|h
 ·exact AZl
 rcases Qg h with⟨rfl,rfl⟩|h
 ·exact AXV
 rcases Qg h with⟨rfl,rfl⟩|h
 ·exact AYP
 cases h
def nk(P:Program)(t:Nat):List (String×Nat×Nat):=match P.info? t with
 | some i=>i.methods.toList.filterMap fun m=>match m.func with | some (g,_)=>some (m.name,t,g) | none=>none
 | none=>[]
def ARQ(P:Program)(e:String×Nat×Nat):Bool:=match P.info? e.2.1,P.underlying e.2.1 with
 | some info,some d=>(match info.methods.find? (·.name == e.1) with
  | some m=>m.path.isEmpty&&(match m.func with | some (g,ptr)=>Nat.beq g e.2.2&&(match d with | .pointer _=>ptr | _=>!ptr) | none=>false)
  | none=>false)
 | _,_=>false
theorem AQA{P:Program}{e:String×Nat×Nat}(h:ARQ P e=true):∃info m d ptr,P.info? e.2.1=some info∧info.methods.find? (·.name == e.1)=some m∧m.path=#[]∧m.func=some (e.2.2,ptr) ∧
 P.underlying e.2.1=some d∧(match d with|.pointer _=>ptr=true|_=>ptr=false):=by
 unfold ARQ at h;split at h
 · rename_i info d h1 h2;split at h
   · rename_i m h3;rw[U8] at h;obtain⟨h4,h5⟩:=h;split at h5
     · rename_i g ptr h6;rw[U8] at h5;have e1:=T9 h5.1;subst e1;refine⟨info,m,d,ptr,h1,h3,by simpa using h4,h6,h2,?_⟩;have h7:=h5.2;split at h7
       ·exact h7
       ·simpa using h7
     ·cases h5
   ·cases h
 ·cases h
theorem APK{P:Program}{ms:List (String×Nat×Nat)}(h:ms.all (ARQ P)=true):AVn P ms:=fun e he=>AQA (Cc.1 h e he)
def AV5:List (String×Nat×Nat):=nk Proofs.Tryz.prog 402++nk Proofs.Tryz.prog 403++nk Proofs.Tryz.prog 404++nk Proofs.Tryz.prog 405++nk Proofs.Tryz.prog 406++nk Proofs.Tryz.prog 434++nk Proofs.Tryz.prog 440++nk Proofs.Tryz.prog 443++nk Proofs.Tryz.prog 488++nk Proofs.Tryz.prog 489++nk Proofs.Tryz.prog 490
theorem AVR:AVn Proofs.Tryz.prog AV5:=APK (by kernel_rfl)
def Ap:Cx:=⟨[0,5],AXo,AV5⟩
theorem TB:SW Proofs.Tryz.prog Ap:=⟨AXn,AVR⟩
def AQ3:Proofs.Tryz.prog.follows .mixedOrders=true:=by kernel_rfl
set_option maxRecDepth 100000 in
theorem Xe:QL Proofs.Tryz.prog Ap:=AOC TB AQ3
noncomputable abbrev R1 (f:Nat):CF:=cF Proofs.Tryz.prog Ap f
end Abs
end Go
end
