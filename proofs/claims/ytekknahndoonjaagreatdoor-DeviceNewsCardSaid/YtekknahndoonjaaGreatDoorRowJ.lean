/-
DeviceNews: the row fits the program.
Conditions: none.
-/
import Derived.Test.YtekknahndoonjaaGreatDoorRowW
set_option linter.all false
set_option maxRecDepth 100000
noncomputable section
namespace Go.Proofs.YtekknahndoonjaaGreatDoor
open Go.ChangeShapes Go.WideShapes Go.ChangeAt Go.RowKit
def ATH:Bool→List Bool→Bool
 | a,[]=>a
 | a,b::l=>ATH (a&&b) l
def parts(P:Program)(f:FuncId)(fn:Func)(s:ChangeSpec)(c:OpenClaim):{x:Bool×List Bool // joinedFacts P f fn s c=ATH x.1 x.2}:=⟨(_,[_,_,_,_,_,_,_,_,_,_,_,_,_,_,_,_,_,_,_,_,_,_,_,_,_,_,_,_,_,_,_]),rfl⟩
def zU:List Bool:=(parts Tryz.pinned.checked.prog 3 Tryz.f3 Rows.deviceNewsSpec Rows.deviceNewsRow).1.2
def p0:(parts Tryz.pinned.checked.prog 3 Tryz.f3 Rows.deviceNewsSpec Rows.deviceNewsRow).1.1=true:=by kernel_rfl
def p1:((zU.drop 0).take 8).all id=true:=by kernel_rfl
def p2:((zU.drop 8).take 2).all id=true:=by kernel_rfl
def p3:((zU.drop 10).take 2).all id=true:=by kernel_rfl
def p4:((zU.drop 12).take 9).all id=true:=by kernel_rfl
def p5:((zU.drop 21).take 4).all id=true:=by kernel_rfl
def p6:(zU.drop 25).all id=true:=by kernel_rfl
theorem xe:∀ {a:Bool} {l:List Bool},a=true→l.all id=true→ATH a l=true
 | _,[],h,_=>h
 | a,b::l,h,k=>by rw[List.all_cons,Bool.and_eq_true] at k;have hb:b=true:=k.1;subst h;subst hb;exact xe (l:=l) rfl k.2
theorem Sk{l:List Bool}{a n:Nat}(h:((l.drop a).take n).all id=true)(k:(l.drop (a+n)).all id=true):(l.drop a).all id=true:=by rw[←List.take_append_drop n (l.drop a),List.all_append,h,List.drop_drop,k];rfl
theorem AOh:joinedFacts Tryz.pinned.checked.prog 3 Tryz.f3 Rows.deviceNewsSpec Rows.deviceNewsRow=true:=(parts _ _ _ _ _).2.trans (xe p0 (Sk p1 (Sk p2 (Sk p3 (Sk p4 (Sk p5 p6))))))
end Go.Proofs.YtekknahndoonjaaGreatDoor
end
