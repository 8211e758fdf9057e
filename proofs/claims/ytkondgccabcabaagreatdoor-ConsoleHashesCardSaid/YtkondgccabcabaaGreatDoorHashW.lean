/-
ConsoleHashes: the row fits the program; the tables that the hash reads.
Conditions: none.
-/
import Derived.Test.YtkondgccabcabaaGreatDoorRowWorld
import Derived.Test.YtkondgccabcabaaGreatDoorHashU1
import Derived.Test.YtkondgccabcabaaGreatDoorHashU2
import Derived.Test.YtkondgccabcabaaGreatDoorHashU3
import Derived.Test.YtkondgccabcabaaGreatDoorHashU4
import Derived.Test.YtkondgccabcabaaGreatDoorHashV
import Derived.Test.YtkondgccabcabaaGreatDoorHashS1
set_option linter.unusedVariables false
set_option linter.unusedSimpArgs false
set_option maxRecDepth 100000
namespace Go.Proofs.YtkondgccabcabaaGreatDoor
open Go.ChangeShapes Go.WideShapes Go.ChangeAt Go.RowKit
theorem prog_same : Tryz.pinned.checked.prog = Tryz.prog := by kernel_rfl
theorem and_t {x a b : Bool} (h : x = (a && b)) (ha : a = true) (hb : b = true) : x = true := by rw [h, ha, hb]; rfl
theorem j2_of (P : Program) (f : FuncId) (fn : Func) (s : ChangeSpec) (c : OpenClaim) (h : laidOutB P = true) : (J2 P f fn s c).1.2 = true := h
theorem laidOutP : laidOutB Tryz.pinned.checked.prog = true := by rw [prog_same]; exact Tryz.laidOut
theorem j2 : (J2 Tryz.pinned.checked.prog 3 Tryz.f3 Rows.consoleHashesSpec Rows.consoleHashesRow).1.2 = true := j2_of _ _ _ _ _ laidOutP
theorem joined_all (P : Program) (f : FuncId) (fn : Func) (s : ChangeSpec) (c : OpenClaim) (h1 : (J2 P f fn s c).1.1 = true) (h2 : (J2 P f fn s c).1.2 = true) (h3 : (J3 P f fn s c).1.2 = true) (h4 : (J4 P f fn s c).1.2 = true) (h5 : (J5 P f fn s c).1.2 = true) (h6 : (J6 P f fn s c).1.2 = true) (h7 : (J7 P f fn s c).1.2 = true) (h8 : (J8 P f fn s c).1.2 = true) (h9 : (J9 P f fn s c).1.2 = true) (h10 : (J10 P f fn s c).1.2 = true) (h11 : (J11 P f fn s c).1.2 = true) (h12 : (J12 P f fn s c).1.2 = true) (h13 : (J13 P f fn s c).1.2 = true) (h14 : (J14 P f fn s c).1.2 = true) (h15 : (J15 P f fn s c).1.2 = true) (h16 : (J16 P f fn s c).1.2 = true) (h17 : (J17 P f fn s c).1.2 = true) (h18 : (J18 P f fn s c).1.2 = true) (h19 : (J19 P f fn s c).1.2 = true) (h20 : (J20 P f fn s c).1.2 = true) (h21 : (J21 P f fn s c).1.2 = true) (h22 : (J22 P f fn s c).1.2 = true) (h23 : (J23 P f fn s c).1.2 = true) (h24 : (J24 P f fn s c).1.2 = true) (h25 : (J25 P f fn s c).1.2 = true) (h26 : (J26 P f fn s c).1.2 = true) (h27 : (J27 P f fn s c).1.2 = true) (h28 : (J28 P f fn s c).1.2 = true) (h29 : (J29 P f fn s c).1.2 = true) (h30 : (J30 P f fn s c).1.2 = true) (h31 : (J31 P f fn s c).1.2 = true) (h32 : (J32 P f fn s c).1.2 = true) : joinedFacts P f fn s c = true :=
  (and_t (J32 P f fn s c).2 (and_t (J31 P f fn s c).2 (and_t (J30 P f fn s c).2 (and_t (J29 P f fn s c).2 (and_t (J28 P f fn s c).2 (and_t (J27 P f fn s c).2 (and_t (J26 P f fn s c).2 (and_t (J25 P f fn s c).2 (and_t (J24 P f fn s c).2 (and_t (J23 P f fn s c).2 (and_t (J22 P f fn s c).2 (and_t (J21 P f fn s c).2 (and_t (J20 P f fn s c).2 (and_t (J19 P f fn s c).2 (and_t (J18 P f fn s c).2 (and_t (J17 P f fn s c).2 (and_t (J16 P f fn s c).2 (and_t (J15 P f fn s c).2 (and_t (J14 P f fn s c).2 (and_t (J13 P f fn s c).2 (and_t (J12 P f fn s c).2 (and_t (J11 P f fn s c).2 (and_t (J10 P f fn s c).2 (and_t (J9 P f fn s c).2 (and_t (J8 P f fn s c).2 (and_t (J7 P f fn s c).2 (and_t (J6 P f fn s c).2 (and_t (J5 P f fn s c).2 (and_t (J4 P f fn s c).2 (and_t (J3 P f fn s c).2 (and_t (J2 P f fn s c).2 h1 h2) h3) h4) h5) h6) h7) h8) h9) h10) h11) h12) h13) h14) h15) h16) h17) h18) h19) h20) h21) h22) h23) h24) h25) h26) h27) h28) h29) h30) h31) h32)
theorem joined3 : joinedFacts Tryz.pinned.checked.prog 3 Tryz.f3 Rows.consoleHashesSpec Rows.consoleHashesRow = true :=
  joined_all _ _ _ _ _ j1 j2 j3 j4 j5 j6 j7 j8 j9 j10 j11 j12 j13 j14 j15 j16 j17 j18 j19 j20 j21 j22 j23 j24 j25 j26 j27 j28 j29 j30 j31 j32
theorem d1 : (dat 1).2 = Lib.tabData .u32 (Abs.initG.map Int.ofNat) := by kernel_rfl
theorem d2 : (dat 2).2 = Lib.tabData .u32 (Abs.roundsG.map Int.ofNat) := by kernel_rfl
theorem u62 : Tryz.prog.underlying 62 = some (.array 8 61) := by kernel_rfl
theorem u87 : Tryz.prog.underlying 87 = some (.array 64 61) := by kernel_rfl
theorem u61 : Tryz.prog.underlying 61 = some (.int .u32) := by kernel_rfl
theorem c61 : Tryz.prog.cellsOf 61 = 1 := by kernel_rfl
theorem c62 : Tryz.prog.cellsOf 62 = 8 := by kernel_rfl
theorem c87 : Tryz.prog.cellsOf 87 = 64 := by kernel_rfl
theorem globW {W : World} (hL : laidMet Tryz.prog Rows.consoleHashesRow.laid W) : Abs.GlobW W := by
  rw [list10] at hL
  have r0 : Lib.VarReads Tryz.prog W (dat 1).1 (dat 1).2 := Lib.laidMet.reads hL (.tail _ (.head _))
  have r1 : Lib.VarReads Tryz.prog W (dat 2).1 (dat 2).2 := Lib.laidMet.reads hL (.tail _ (.tail _ (.head _)))
  rw [d1] at r0
  rw [d2] at r1
  obtain ⟨e0, z0, g0⟩ := Abs.tab_of r0 dg1 dt1 u62 u61 c61 c62
  obtain ⟨e1, z1, g1⟩ := Abs.tab_of r1 dg2 dt2 u87 u61 c61 c87
  have t0 : ((Abs.initG.map Int.ofNat).map fun z => Value.int .u32 z) = Abs.u32G Abs.initG := by rw [List.map_map]; rfl
  have t1 : ((Abs.roundsG.map Int.ofNat).map fun z => Value.int .u32 z) = Abs.u32G Abs.roundsG := by rw [List.map_map]; rfl
  rw [t0] at g0
  rw [t1] at g1
  exact ⟨⟨e0, z0, g0⟩, ⟨e1, z1, g1⟩⟩
end Go.Proofs.YtkondgccabcabaaGreatDoor
