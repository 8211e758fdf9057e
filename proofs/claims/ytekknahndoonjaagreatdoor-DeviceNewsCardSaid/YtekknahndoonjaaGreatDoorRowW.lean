/-
DeviceNews: more closed facts of that world.
Conditions: none.
-/
import Derived.Test.YtekknahndoonjaaGreatDoorCards
import Derived.Lay
import Derived.LaidMore
import Derived.LaidOnce
import Derived.LaidSub
import Derived.SevenTiedAt
import Derived.Stop.Joined
import Derived.ProofKit
set_option linter.all false
set_option maxRecDepth 100000
noncomputable section
namespace Go.Proofs.YtekknahndoonjaaGreatDoor
open Go.ChangeShapes Go.WideShapes Go.ChangeAt Go.RowKit
def Lh:List (String×DataW Unit):=Rows.deviceNewsRow.laid.filter fun x=>x.2.handleName?.isNone
def wD(os:Os):World:=World.doorLaid Tryz.prog 77 os
def wA(os:Os):World:=(wD os).layVars Tryz.prog Lh
def iz:Array Value:=#[.agg #[.slice none 0 0,.int .u8 0,.int .u8 0,.int .u8 0,.int .u8 0,.slice none 0 0,.int .u16 0,.slice none 0 0,.slice none 0 0,.slice none 0 0],.int .u16 0,.int .u8 0]
def wB(os:Os):World:=((wA os).forCall (fun _ _=>0) ⟨#[],iz,[]⟩).memory
theorem AW4(os:Os):(wA os).os=os:=(World.layVars_os _ _ _).trans rfl
def AOr(os:Os):(wD os).layFits Tryz.prog Lh []=true:=by kernel_rfl
def AGn(os:Os):(wD os).layIfaces Tryz.prog Lh (wA os)=true:=by kernel_rfl
def AIW(os:Os):funcsRun Tryz.prog (wB os) 8 ((funcsListed Rows.deviceNewsRow.laid).map (·.1))=some ((funcsListed Rows.deviceNewsRow.laid).map (·.2.funcsOut)):=by kernel_rfl
def A9U(os:Os):(Rows.deviceNewsRow.laid.filter fun x=>x.2.handleName?.isSome&&x.2.funcsIn?.isNone).all (handleAtB Tryz.prog (wB os))=true:=by kernel_rfl
def AQt(os:Os):((wA os).forCall (fun _ _=>0) ⟨#[],iz,[]⟩).variablesZipB Tryz.checked.prog=true:=by kernel_rfl
theorem AQx(os:Os):((((wA os).forCall (fun _ _=>0) ⟨#[],iz,[]⟩).heap.toList.drop Tryz.checked.prog.globals.size).take ((begin Tryz.checked.prog (fun _ _=>0) default).world.heap.size-Tryz.checked.prog.globals.size) =
 (begin Tryz.checked.prog (fun _ _=>0) default).world.heap.toList.drop Tryz.checked.prog.globals.size):=by kernel_rfl
def AV0(os:Os):Input.okWideB Tryz.checked.prog ((wA os).forCall (fun _ _=>0) ⟨#[],iz,[]⟩) 3 ⟨#[],iz,[]⟩=true:=by kernel_rfl
def AST{H:Type}(enc:TypeId×Value→H)(os:Os):Rows.deviceNewsSpec.preB enc Tryz.checked.prog Tryz.f3 [] false (wB os) iz 8=true:=by kernel_rfl
def AMH{H:Type}(enc:TypeId×Value→H)(os:Os):Rows.deviceNewsSpec.sizedB enc Tryz.checked.prog Tryz.f3 false (wB os) iz 8=true:=by kernel_rfl
end Go.Proofs.YtekknahndoonjaaGreatDoor
end
