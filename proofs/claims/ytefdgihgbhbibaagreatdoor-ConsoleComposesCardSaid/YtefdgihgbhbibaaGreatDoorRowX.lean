/-
ConsoleComposes: no function of the program starts another run.
Conditions: none.
-/
import Derived.Test.YtefdgihgbhbibaaGreatDoorRowJ
set_option linter.unusedVariables false
set_option linter.unusedSimpArgs false
set_option maxRecDepth 100000
namespace Go.Proofs.YtefdgihgbhbibaaGreatDoor
open Go.ChangeShapes Go.WideShapes Go.ChangeAt Go.RowKit
theorem ng0:((List.range 60).all fun j=>!(Tryz.prog.funcs[j+0]?).any Func.goes)=true:=by kernel_rfl
theorem aZi:((List.range 60).all fun j=>!(Tryz.prog.funcs[j+60]?).any Func.goes)=true:=by kernel_rfl
theorem aWN:((List.range 60).all fun j=>!(Tryz.prog.funcs[j+120]?).any Func.goes)=true:=by kernel_rfl
theorem aWO:((List.range 60).all fun j=>!(Tryz.prog.funcs[j+180]?).any Func.goes)=true:=by kernel_rfl
theorem aWP:((List.range 60).all fun j=>!(Tryz.prog.funcs[j+240]?).any Func.goes)=true:=by kernel_rfl
theorem aWQ:((List.range 60).all fun j=>!(Tryz.prog.funcs[j+300]?).any Func.goes)=true:=by kernel_rfl
theorem aWR:((List.range 60).all fun j=>!(Tryz.prog.funcs[j+360]?).any Func.goes)=true:=by kernel_rfl
theorem aWS:((List.range 60).all fun j=>!(Tryz.prog.funcs[j+420]?).any Func.goes)=true:=by kernel_rfl
theorem aWT:((List.range 60).all fun j=>!(Tryz.prog.funcs[j+480]?).any Func.goes)=true:=by kernel_rfl
theorem aWU:((List.range 60).all fun j=>!(Tryz.prog.funcs[j+540]?).any Func.goes)=true:=by kernel_rfl
theorem aWV:((List.range 3).all fun j=>!(Tryz.prog.funcs[j+600]?).any Func.goes)=true:=by kernel_rfl
theorem zE {P:Program} {a n t:Nat} (h:((List.range n).all fun j=>!(P.funcs[j+a]?).any Func.goes)=true) (h1:a≤t) (h2:t<a+n):(P.funcs[t]?).any Func.goes=false:=by
 have:=List.all_eq_true.1 h (t - a) (List.mem_range.2 (by omega))
 rw [Nat.sub_add_cancel h1] at this
 simpa using this
theorem fsz:Tryz.prog.funcs.size=603:=by kernel_rfl
theorem aTL (t:Nat):(Tryz.prog.funcs[t]?).any Func.goes=false:=by
 rcases Nat.lt_or_ge t 60 with h0|h0
 · exact zE ng0 (by omega) (by omega)
 rcases Nat.lt_or_ge t 120 with h60|h60
 · exact zE aZi (by omega) (by omega)
 rcases Nat.lt_or_ge t 180 with h120|h120
 · exact zE aWN (by omega) (by omega)
 rcases Nat.lt_or_ge t 240 with h180|h180
 · exact zE aWO (by omega) (by omega)
 rcases Nat.lt_or_ge t 300 with h240|h240
 · exact zE aWP (by omega) (by omega)
 rcases Nat.lt_or_ge t 360 with h300|h300
 · exact zE aWQ (by omega) (by omega)
 rcases Nat.lt_or_ge t 420 with h360|h360
 · exact zE aWR (by omega) (by omega)
 rcases Nat.lt_or_ge t 480 with h420|h420
 · exact zE aWS (by omega) (by omega)
 rcases Nat.lt_or_ge t 540 with h480|h480
 · exact zE aWT (by omega) (by omega)
 rcases Nat.lt_or_ge t 600 with h540|h540
 · exact zE aWU (by omega) (by omega)
 rcases Nat.lt_or_ge t 603 with h600|h600
 · exact zE aWV (by omega) (by omega)
 rw [Array.getElem?_eq_none (by rw [fsz];omega)]
 rfl
theorem aQk {P:Program} {c:OpenClaim} (h:∀ t:Nat,(P.funcs[t]?).any Func.goes=false) (hs:c.start=.entering):false=c.goesBy P:=by
 have h1:P.funcs.any Func.goes=false:=by
  cases hq:P.funcs.any Func.goes with
  | false=>rfl
  | true =>
   rw [Array.any_eq_true] at hq
   obtain ⟨i,hi,h2⟩:=hq
   have h3:=h i
   rw [Array.getElem?_eq_getElem hi] at h3
   rw [show (some P.funcs[i]).any Func.goes=Func.goes P.funcs[i] from rfl,h2] at h3
   cases h3
 have h2:∀ f,P.goes f=false:=fun f=>by
  unfold Program.goes
  rw [h1,Bool.and_false,Bool.or_false]
  exact List.any_eq_false.2 fun g _=>by rw [h g];simp
 unfold OpenClaim.goesBy Program.goesAt Program.goesFrom
 rw [hs]
 cases P.funcNamed c.func with
 | none=>rfl
 | some f=>show false=(P.goes f || false);rw [h2];rfl
end Go.Proofs.YtefdgihgbhbibaaGreatDoor
