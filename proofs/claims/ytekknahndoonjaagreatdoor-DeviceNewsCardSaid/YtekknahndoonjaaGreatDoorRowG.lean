/-
DeviceNews: no function of the program starts another run.
Conditions: none.
-/
import Derived.Test.YtekknahndoonjaaGreatDoorCards
import Derived.SevenTiedAt
import Derived.KernelRfl
import Derived.Test.YtekknahndoonjaaGreatDoorRowW
set_option linter.all false
set_option maxRecDepth 100000
noncomputable section
namespace Go.Proofs.YtekknahndoonjaaGreatDoor
open Go.ChangeShapes Go.WideShapes Go.ChangeAt Go.RowKit
def Tryz.own:ownKnob Tryz.prog.godebug=none:=by kernel_rfl
def Tryz.laidOut:laidOutB Tryz.prog=true:=by kernel_rfl
def Tryz.AT1:Tryz.checked.prog.inits.idxOf? 3=none:=by kernel_rfl
def Tryz.AMb:Tryz.pinned.checked.prog.funcNamed Rows.deviceNewsRow.func=some 3:=by kernel_rfl
def AUn:Tryz.prog.readableRec 33=true:=by kernel_rfl
def AZt:decide (33<Tryz.prog.types.size)=true:=by kernel_rfl
def AT8:Tryz.prog.readableRec 27=true:=by kernel_rfl
def AZ3:decide (27<Tryz.prog.types.size)=true:=by kernel_rfl
def AVo:Tryz.prog.readableRec 5=true:=by kernel_rfl
def AaF:decide (5<Tryz.prog.types.size)=true:=by kernel_rfl
def AWW:Tryz.prog.underlying 4=some .bool:=by kernel_rfl
theorem AWi:Tryz.f3.isInstance Tryz.pinned.checked.prog Rows.deviceNewsRow.origin Rows.deviceNewsRow.targs:=of_decide_eq_true (by kernel_rfl)
theorem AWC:Tryz.f3.isWrapper Tryz.pinned.checked.prog Rows.deviceNewsRow.wrapper Rows.deviceNewsRow.mainSum:=by unfold Func.isWrapper;first|(rw[if_pos (by decide +kernel)];kernel_rfl)|(rw[if_neg (by decide +kernel)];exact⟨rfl,rfl⟩)
def AUz:Bool×String:=(true,"323e93ef0a4ff5048d56b3c70efb26435510d8942fc1cdd09bbe0b844ec5c69b")
def AQc:Tryz.pinned.checked.prog.mainIs=some (AUz.1,AUz.2.toList):=by kernel_rfl
def AJW:true=Tryz.pinned.checked.prog.looks []:=by kernel_rfl
def AJ2:([33,27,5].all fun u=>!Tryz.prog.wantsStandIn u)=true:=by kernel_rfl
def AVV:Rows.deviceNewsRow.wfByText (OpenSpec.ofChange Rows.deviceNewsSpec)=true:=by kernel_rfl
def AaE:((List.range 100).all fun j=>!(Tryz.prog.funcs[j+0]?).any Func.goes)=true:=by kernel_rfl
def AUX:((List.range 100).all fun j=>!(Tryz.prog.funcs[j+100]?).any Func.goes)=true:=by kernel_rfl
def AWB:((List.range 100).all fun j=>!(Tryz.prog.funcs[j+200]?).any Func.goes)=true:=by kernel_rfl
def AUY:((List.range 100).all fun j=>!(Tryz.prog.funcs[j+300]?).any Func.goes)=true:=by kernel_rfl
def AWm:((List.range 99).all fun j=>!(Tryz.prog.funcs[j+400]?).any Func.goes)=true:=by kernel_rfl
theorem A56{P:Program}{a n t:Nat}(h:((List.range n).all fun j=>!(P.funcs[j+a]?).any Func.goes)=true)(h1:a≤t)(h2:t<a+n):(P.funcs[t]?).any Func.goes=false:=by have:=List.all_eq_true.1 h (t-a) (List.mem_range.2 (by omega));rw[Nat.sub_add_cancel h1] at this;simpa using this
def Aai:Tryz.prog.funcs.size=499:=by kernel_rfl
theorem AUE(t:Nat):(Tryz.prog.funcs[t]?).any Func.goes=false:=by
 rcases Nat.lt_or_ge t 100 with h0|h0
 ·exact A56 AaE (by omega) (by omega)
 rcases Nat.lt_or_ge t 200 with h100|h100
 ·exact A56 AUX (by omega) (by omega)
 rcases Nat.lt_or_ge t 300 with h200|h200
 ·exact A56 AWB (by omega) (by omega)
 rcases Nat.lt_or_ge t 400 with h300|h300
 ·exact A56 AUY (by omega) (by omega)
 rcases Nat.lt_or_ge t 499 with h400|h400
 ·exact A56 AWm (by omega) (by omega)
 rw[Array.getElem?_eq_none (by rw[Aai];omega)];rfl
theorem APw{P:Program}{c:OpenClaim}(h:∀t:Nat,(P.funcs[t]?).any Func.goes=false)(hs:c.start=.entering):false=c.goesBy P:=by
 have h1:P.funcs.any Func.goes=false:=by
  cases hq:P.funcs.any Func.goes with
  | false=>rfl
  | true =>
   rw[Array.any_eq_true] at hq;obtain⟨i,hi,h2⟩:=hq;have h3:=h i;rw[Array.getElem?_eq_getElem hi] at h3;rw[show(some P.funcs[i]).any Func.goes=Func.goes P.funcs[i] from rfl,h2] at h3;cases h3
 have h2:∀f,P.goes f=false:=fun f=>by unfold Program.goes;rw[h1,Bool.and_false,Bool.or_false];exact List.any_eq_false.2 fun g _=>by rw[h g];simp
 unfold OpenClaim.goesBy Program.goesAt Program.goesFrom;rw[hs];cases P.funcNamed c.func with
 | none=>rfl
 | some f=>show false=(P.goes f||false);rw[h2];rfl
theorem APW:false=Rows.deviceNewsRow.goesBy Tryz.pinned.checked.prog:=APw AUE rfl
end Go.Proofs.YtekknahndoonjaaGreatDoor
end
