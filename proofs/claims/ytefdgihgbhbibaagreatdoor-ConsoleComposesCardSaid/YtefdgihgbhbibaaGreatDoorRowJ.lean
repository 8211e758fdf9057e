/-
The row: its facts, joined.
Conditions: none.
-/
import Derived.Test.YtefdgihgbhbibaaGreatDoorCards
import Derived.Lay
import Derived.LaidOnce
import Derived.SevenTiedAt
import Derived.Stop.Joined
import Derived.Clock
set_option linter.unusedVariables false
set_option linter.unusedSimpArgs false
set_option maxRecDepth 100000
namespace Go.Proofs.YtefdgihgbhbibaaGreatDoor
open Go.ChangeShapes Go.WideShapes Go.ChangeAt Go.RowKit
section
variable (P:Program) (f:FuncId) (fn:Func) (s:ChangeSpec) (c:OpenClaim)
noncomputable def J32:{ab:Bool×Bool // joinedFacts P f fn s c=(ab.1 && ab.2)}:=⟨(_,_),rfl⟩
noncomputable def J31:{ab:Bool×Bool // (J32 P f fn s c).1.1=(ab.1 && ab.2)}:=⟨(_,_),rfl⟩
noncomputable def J30:{ab:Bool×Bool // (J31 P f fn s c).1.1=(ab.1 && ab.2)}:=⟨(_,_),rfl⟩
noncomputable def J29:{ab:Bool×Bool // (J30 P f fn s c).1.1=(ab.1 && ab.2)}:=⟨(_,_),rfl⟩
noncomputable def J28:{ab:Bool×Bool // (J29 P f fn s c).1.1=(ab.1 && ab.2)}:=⟨(_,_),rfl⟩
noncomputable def J27:{ab:Bool×Bool // (J28 P f fn s c).1.1=(ab.1 && ab.2)}:=⟨(_,_),rfl⟩
noncomputable def J26:{ab:Bool×Bool // (J27 P f fn s c).1.1=(ab.1 && ab.2)}:=⟨(_,_),rfl⟩
noncomputable def J25:{ab:Bool×Bool // (J26 P f fn s c).1.1=(ab.1 && ab.2)}:=⟨(_,_),rfl⟩
noncomputable def J24:{ab:Bool×Bool // (J25 P f fn s c).1.1=(ab.1 && ab.2)}:=⟨(_,_),rfl⟩
noncomputable def J23:{ab:Bool×Bool // (J24 P f fn s c).1.1=(ab.1 && ab.2)}:=⟨(_,_),rfl⟩
noncomputable def J22:{ab:Bool×Bool // (J23 P f fn s c).1.1=(ab.1 && ab.2)}:=⟨(_,_),rfl⟩
noncomputable def J21:{ab:Bool×Bool // (J22 P f fn s c).1.1=(ab.1 && ab.2)}:=⟨(_,_),rfl⟩
noncomputable def J20:{ab:Bool×Bool // (J21 P f fn s c).1.1=(ab.1 && ab.2)}:=⟨(_,_),rfl⟩
noncomputable def J19:{ab:Bool×Bool // (J20 P f fn s c).1.1=(ab.1 && ab.2)}:=⟨(_,_),rfl⟩
noncomputable def J18:{ab:Bool×Bool // (J19 P f fn s c).1.1=(ab.1 && ab.2)}:=⟨(_,_),rfl⟩
noncomputable def J17:{ab:Bool×Bool // (J18 P f fn s c).1.1=(ab.1 && ab.2)}:=⟨(_,_),rfl⟩
noncomputable def J16:{ab:Bool×Bool // (J17 P f fn s c).1.1=(ab.1 && ab.2)}:=⟨(_,_),rfl⟩
noncomputable def J15:{ab:Bool×Bool // (J16 P f fn s c).1.1=(ab.1 && ab.2)}:=⟨(_,_),rfl⟩
noncomputable def J14:{ab:Bool×Bool // (J15 P f fn s c).1.1=(ab.1 && ab.2)}:=⟨(_,_),rfl⟩
noncomputable def J13:{ab:Bool×Bool // (J14 P f fn s c).1.1=(ab.1 && ab.2)}:=⟨(_,_),rfl⟩
noncomputable def J12:{ab:Bool×Bool // (J13 P f fn s c).1.1=(ab.1 && ab.2)}:=⟨(_,_),rfl⟩
noncomputable def J11:{ab:Bool×Bool // (J12 P f fn s c).1.1=(ab.1 && ab.2)}:=⟨(_,_),rfl⟩
noncomputable def J10:{ab:Bool×Bool // (J11 P f fn s c).1.1=(ab.1 && ab.2)}:=⟨(_,_),rfl⟩
noncomputable def J9:{ab:Bool×Bool // (J10 P f fn s c).1.1=(ab.1 && ab.2)}:=⟨(_,_),rfl⟩
noncomputable def J8:{ab:Bool×Bool // (J9 P f fn s c).1.1=(ab.1 && ab.2)}:=⟨(_,_),rfl⟩
noncomputable def J7:{ab:Bool×Bool // (J8 P f fn s c).1.1=(ab.1 && ab.2)}:=⟨(_,_),rfl⟩
noncomputable def J6:{ab:Bool×Bool // (J7 P f fn s c).1.1=(ab.1 && ab.2)}:=⟨(_,_),rfl⟩
noncomputable def J5:{ab:Bool×Bool // (J6 P f fn s c).1.1=(ab.1 && ab.2)}:=⟨(_,_),rfl⟩
noncomputable def J4:{ab:Bool×Bool // (J5 P f fn s c).1.1=(ab.1 && ab.2)}:=⟨(_,_),rfl⟩
noncomputable def J3:{ab:Bool×Bool // (J4 P f fn s c).1.1=(ab.1 && ab.2)}:=⟨(_,_),rfl⟩
noncomputable def J2:{ab:Bool×Bool // (J3 P f fn s c).1.1=(ab.1 && ab.2)}:=⟨(_,_),rfl⟩
end
end Go.Proofs.YtefdgihgbhbibaaGreatDoor
