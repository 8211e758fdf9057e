/-
ConsoleComposes: the row fits the program; the tables that the hash reads.
Conditions: none.
-/
import Derived.Test.YtefdgihgbhbibaaGreatDoorRowWorld
import Derived.Test.YtefdgihgbhbibaaGreatDoorRowU1
import Derived.Test.YtefdgihgbhbibaaGreatDoorRowU2
import Derived.Test.YtefdgihgbhbibaaGreatDoorRowU3
import Derived.Test.YtefdgihgbhbibaaGreatDoorRowU4
import Derived.Test.YtefdgihgbhbibaaGreatDoorRowV
import Derived.Test.YtefdgihgbhbibaaGreatDoorRowA
set_option linter.unusedVariables false
set_option linter.unusedSimpArgs false
set_option maxRecDepth 100000
namespace Go.Proofs.YtefdgihgbhbibaaGreatDoor
open Go.ChangeShapes Go.WideShapes Go.ChangeAt Go.RowKit
theorem Ab:Tryz.pinned.checked.prog=Tryz.prog:=by kernel_rfl
theorem iJ {x a b:Bool} (h:x=(a && b)) (ha:a=true) (hb:b=true):x=true:=by rw [h,ha,hb];rfl
theorem aWH (P:Program) (f:FuncId) (fn:Func) (s:ChangeSpec) (c:OpenClaim) (h:laidOutB P=true):(J2 P f fn s c).1.2=true:=h
theorem aMY:laidOutB Tryz.pinned.checked.prog=true:=by rw [Ab];exact Tryz.laidOut
theorem j2:(J2 Tryz.pinned.checked.prog 3 Tryz.f3 Rows.consoleComposesSpec Rows.consoleComposesRow).1.2=true:=aWH _ _ _ _ _ aMY
theorem aC9 (P:Program) (f:FuncId) (fn:Func) (s:ChangeSpec) (c:OpenClaim) (h1:(J2 P f fn s c).1.1=true) (h2:(J2 P f fn s c).1.2=true) (h3:(J3 P f fn s c).1.2=true) (h4:(J4 P f fn s c).1.2=true) (h5:(J5 P f fn s c).1.2=true) (h6:(J6 P f fn s c).1.2=true) (h7:(J7 P f fn s c).1.2=true) (h8:(J8 P f fn s c).1.2=true) (h9:(J9 P f fn s c).1.2=true) (h10:(J10 P f fn s c).1.2=true) (h11:(J11 P f fn s c).1.2=true) (h12:(J12 P f fn s c).1.2=true) (h13:(J13 P f fn s c).1.2=true) (h14:(J14 P f fn s c).1.2=true) (h15:(J15 P f fn s c).1.2=true) (h16:(J16 P f fn s c).1.2=true) (h17:(J17 P f fn s c).1.2=true) (h18:(J18 P f fn s c).1.2=true) (h19:(J19 P f fn s c).1.2=true) (h20:(J20 P f fn s c).1.2=true) (h21:(J21 P f fn s c).1.2=true) (h22:(J22 P f fn s c).1.2=true) (h23:(J23 P f fn s c).1.2=true) (h24:(J24 P f fn s c).1.2=true) (h25:(J25 P f fn s c).1.2=true) (h26:(J26 P f fn s c).1.2=true) (h27:(J27 P f fn s c).1.2=true) (h28:(J28 P f fn s c).1.2=true) (h29:(J29 P f fn s c).1.2=true) (h30:(J30 P f fn s c).1.2=true) (h31:(J31 P f fn s c).1.2=true) (h32:(J32 P f fn s c).1.2=true):joinedFacts P f fn s c=true :=
 (iJ (J32 P f fn s c).2 (iJ (J31 P f fn s c).2 (iJ (J30 P f fn s c).2 (iJ (J29 P f fn s c).2 (iJ (J28 P f fn s c).2 (iJ (J27 P f fn s c).2 (iJ (J26 P f fn s c).2 (iJ (J25 P f fn s c).2 (iJ (J24 P f fn s c).2 (iJ (J23 P f fn s c).2 (iJ (J22 P f fn s c).2 (iJ (J21 P f fn s c).2 (iJ (J20 P f fn s c).2 (iJ (J19 P f fn s c).2 (iJ (J18 P f fn s c).2 (iJ (J17 P f fn s c).2 (iJ (J16 P f fn s c).2 (iJ (J15 P f fn s c).2 (iJ (J14 P f fn s c).2 (iJ (J13 P f fn s c).2 (iJ (J12 P f fn s c).2 (iJ (J11 P f fn s c).2 (iJ (J10 P f fn s c).2 (iJ (J9 P f fn s c).2 (iJ (J8 P f fn s c).2 (iJ (J7 P f fn s c).2 (iJ (J6 P f fn s c).2 (iJ (J5 P f fn s c).2 (iJ (J4 P f fn s c).2 (iJ (J3 P f fn s c).2 (iJ (J2 P f fn s c).2 h1 h2) h3) h4) h5) h6) h7) h8) h9) h10) h11) h12) h13) h14) h15) h16) h17) h18) h19) h20) h21) h22) h23) h24) h25) h26) h27) h28) h29) h30) h31) h32)
theorem aQh:joinedFacts Tryz.pinned.checked.prog 3 Tryz.f3 Rows.consoleComposesSpec Rows.consoleComposesRow=true :=
 aC9 _ _ _ _ _ j1 j2 j3 j4 j5 j6 j7 j8 j9 j10 j11 j12 j13 j14 j15 j16 j17 j18 j19 j20 j21 j22 j23 j24 j25 j26 j27 j28 j29 j30 j31 j32
theorem d1:(lK 1).2=Lib.tabData .u32 (cG.Ik.map Int.ofNat):=by kernel_rfl
theorem d2:(lK 2).2=Lib.tabData .u32 (cG.tC.map Int.ofNat):=by kernel_rfl
theorem aZc:Tryz.prog.underlying 425=some (.array 8 424):=by kernel_rfl
theorem aZd:Tryz.prog.underlying 520=some (.array 64 424):=by kernel_rfl
theorem aWI:Tryz.prog.underlying 424=some (.int .u32):=by kernel_rfl
theorem aWJ:Tryz.prog.cellsOf 424=1:=by kernel_rfl
theorem aZe:Tryz.prog.cellsOf 425=8:=by kernel_rfl
theorem aZf:Tryz.prog.cellsOf 520=64:=by kernel_rfl
theorem aWK {W:World} (hL:laidMet Tryz.prog Rows.consoleComposesRow.laid W):cG.aMV W:=by
 rw [aHl] at hL
 have r0:Lib.VarReads Tryz.prog W (lK 1).1 (lK 1).2:=Lib.laidMet.reads hL (.tail _ (.head _))
 have r1:Lib.VarReads Tryz.prog W (lK 2).1 (lK 2).2:=Lib.laidMet.reads hL (.tail _ (.tail _ (.head _)))
 rw [d1] at r0
 rw [d2] at r1
 obtain ⟨e0,z0,g0⟩:=cG.aMX r0 dg1 dt1 aZc aWI aWJ aZe
 obtain ⟨e1,z1,g1⟩:=cG.aMX r1 dg2 dt2 aZd aWI aWJ aZf
 have t0:((cG.Ik.map Int.ofNat).map fun z=>Value.int .u32 z)=cG.Ey cG.Ik:=by rw [List.map_map];rfl
 have t1:((cG.tC.map Int.ofNat).map fun z=>Value.int .u32 z)=cG.Ey cG.tC:=by rw [List.map_map];rfl
 rw [t0] at g0
 rw [t1] at g1
 exact ⟨⟨e0,z0,g0⟩,⟨e1,z1,g1⟩⟩
end Go.Proofs.YtefdgihgbhbibaaGreatDoor
