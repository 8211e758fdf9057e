/-
The row: the world of the statement.
Conditions: none.
-/
import Derived.Test.YtefdgihgbhbibaaGreatDoorRowJ
set_option linter.unusedVariables false
set_option linter.unusedSimpArgs false
set_option maxRecDepth 100000
namespace Go.Proofs.YtefdgihgbhbibaaGreatDoor
open Go.ChangeShapes Go.WideShapes Go.ChangeAt Go.RowKit
theorem rf0:((List.range 40).all fun j=>rowFine Tryz.prog (j+0))=true:=by kernel_rfl
theorem aXT:((List.range 40).all fun j=>rowFine Tryz.prog (j+40))=true:=by kernel_rfl
theorem aXU:((List.range 40).all fun j=>rowFine Tryz.prog (j+80))=true:=by kernel_rfl
theorem aT6:((List.range 40).all fun j=>rowFine Tryz.prog (j+120))=true:=by kernel_rfl
theorem aT7:((List.range 40).all fun j=>rowFine Tryz.prog (j+160))=true:=by kernel_rfl
theorem aT8:((List.range 40).all fun j=>rowFine Tryz.prog (j+200))=true:=by kernel_rfl
theorem aT9:((List.range 40).all fun j=>rowFine Tryz.prog (j+240))=true:=by kernel_rfl
theorem aUa:((List.range 40).all fun j=>rowFine Tryz.prog (j+280))=true:=by kernel_rfl
theorem aUb:((List.range 40).all fun j=>rowFine Tryz.prog (j+320))=true:=by kernel_rfl
theorem aUc:((List.range 40).all fun j=>rowFine Tryz.prog (j+360))=true:=by kernel_rfl
theorem aUd:((List.range 40).all fun j=>rowFine Tryz.prog (j+400))=true:=by kernel_rfl
theorem aUe:((List.range 40).all fun j=>rowFine Tryz.prog (j+440))=true:=by kernel_rfl
theorem aUf:((List.range 40).all fun j=>rowFine Tryz.prog (j+480))=true:=by kernel_rfl
theorem aUg:((List.range 40).all fun j=>rowFine Tryz.prog (j+520))=true:=by kernel_rfl
theorem aUh:((List.range 40).all fun j=>rowFine Tryz.prog (j+560))=true:=by kernel_rfl
theorem aUi:((List.range 40).all fun j=>rowFine Tryz.prog (j+600))=true:=by kernel_rfl
theorem aUj:((List.range 40).all fun j=>rowFine Tryz.prog (j+640))=true:=by kernel_rfl
theorem aUk:((List.range 40).all fun j=>rowFine Tryz.prog (j+680))=true:=by kernel_rfl
theorem aUl:((List.range 40).all fun j=>rowFine Tryz.prog (j+720))=true:=by kernel_rfl
theorem aUm:((List.range 21).all fun j=>rowFine Tryz.prog (j+760))=true:=by kernel_rfl
theorem mH {P:Program} {a n t:Nat} (h:((List.range n).all fun j=>rowFine P (j+a))=true) (h1:a≤t) (h2:t<a+n):rowFine P t=true:=by
 have:=List.all_eq_true.1 h (t - a) (List.mem_range.2 (by omega))
 rwa [Nat.sub_add_cancel h1] at this
theorem tsz:Tryz.prog.types.size=781:=by kernel_rfl
theorem gl:Tryz.prog.globals.all (fun g=>decide (g.type<781))=true:=by kernel_rfl
theorem fl:Tryz.prog.funcs.all (fun f=>f.params.all fun t=>decide (t<781))=true:=by kernel_rfl
theorem aAF {P:Program} {n:Nat} (hn:P.types.size=n) (h1:∀ t,t<n→rowFine P t=true) (h2:P.globals.all (fun g=>decide (g.type<n))=true) (h3:P.funcs.all (fun f=>f.params.all fun t=>decide (t<n))=true):laidOutB P=true:=by
 subst hn
 unfold laidOutB
 rw [h2,h3,List.all_eq_true.2 fun t ht=>h1 t (List.mem_range.1 ht)]
 rfl
theorem Tryz.laidOut:laidOutB Tryz.prog=true:=by
 refine aAF tsz (fun t ht=>?_) gl fl
 rcases Nat.lt_or_ge t 40 with h0|h0
 · exact mH rf0 (by omega) (by omega)
 rcases Nat.lt_or_ge t 80 with h40|h40
 · exact mH aXT (by omega) (by omega)
 rcases Nat.lt_or_ge t 120 with h80|h80
 · exact mH aXU (by omega) (by omega)
 rcases Nat.lt_or_ge t 160 with h120|h120
 · exact mH aT6 (by omega) (by omega)
 rcases Nat.lt_or_ge t 200 with h160|h160
 · exact mH aT7 (by omega) (by omega)
 rcases Nat.lt_or_ge t 240 with h200|h200
 · exact mH aT8 (by omega) (by omega)
 rcases Nat.lt_or_ge t 280 with h240|h240
 · exact mH aT9 (by omega) (by omega)
 rcases Nat.lt_or_ge t 320 with h280|h280
 · exact mH aUa (by omega) (by omega)
 rcases Nat.lt_or_ge t 360 with h320|h320
 · exact mH aUb (by omega) (by omega)
 rcases Nat.lt_or_ge t 400 with h360|h360
 · exact mH aUc (by omega) (by omega)
 rcases Nat.lt_or_ge t 440 with h400|h400
 · exact mH aUd (by omega) (by omega)
 rcases Nat.lt_or_ge t 480 with h440|h440
 · exact mH aUe (by omega) (by omega)
 rcases Nat.lt_or_ge t 520 with h480|h480
 · exact mH aUf (by omega) (by omega)
 rcases Nat.lt_or_ge t 560 with h520|h520
 · exact mH aUg (by omega) (by omega)
 rcases Nat.lt_or_ge t 600 with h560|h560
 · exact mH aUh (by omega) (by omega)
 rcases Nat.lt_or_ge t 640 with h600|h600
 · exact mH aUi (by omega) (by omega)
 rcases Nat.lt_or_ge t 680 with h640|h640
 · exact mH aUj (by omega) (by omega)
 rcases Nat.lt_or_ge t 720 with h680|h680
 · exact mH aUk (by omega) (by omega)
 rcases Nat.lt_or_ge t 760 with h720|h720
 · exact mH aUl (by omega) (by omega)
 rcases Nat.lt_or_ge t 781 with h760|h760
 · exact mH aUm (by omega) (by omega)
 omega
theorem Tryz.own:ownKnob Tryz.prog.godebug=none:=by kernel_rfl
theorem Tryz.aRi:Tryz.checked.prog.inits.idxOf? 3=none:=by kernel_rfl
theorem Tryz.aDa:(Rows.consoleComposesRow.laid.all fun x=>x.2.handleName?.isNone)=true:=by kernel_rfl
theorem Tryz.aHp:Tryz.pinned.checked.prog.funcNamed Rows.consoleComposesRow.func=some 3:=by kernel_rfl
theorem Tryz.aUn:Tryz.prog.underlying 4=some .bool:=by kernel_rfl
theorem inst3:Tryz.f3.isInstance Tryz.pinned.checked.prog Rows.consoleComposesRow.origin Rows.consoleComposesRow.targs:=of_decide_eq_true (by kernel_rfl)
theorem aWL:Tryz.f3.isWrapper Tryz.pinned.checked.prog Rows.consoleComposesRow.wrapper Rows.consoleComposesRow.mainSum:=by
 unfold Func.isWrapper;first|(rw [if_pos (by decide +kernel)];kernel_rfl)|(rw [if_neg (by decide +kernel)];exact ⟨rfl,rfl⟩)
end Go.Proofs.YtefdgihgbhbibaaGreatDoor
