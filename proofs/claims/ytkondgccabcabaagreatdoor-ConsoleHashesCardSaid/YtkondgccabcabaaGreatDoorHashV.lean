/-
ConsoleHashes: the program is laid out.
Conditions: none.
-/
import Derived.Test.YtkondgccabcabaaGreatDoorHashS0
set_option linter.unusedVariables false
set_option linter.unusedSimpArgs false
set_option maxRecDepth 100000
namespace Go.Proofs.YtkondgccabcabaaGreatDoor
open Go.ChangeShapes Go.WideShapes Go.ChangeAt Go.RowKit
theorem rf0 : ((List.range 40).all fun j => rowFine Tryz.prog (j + 0)) = true := by kernel_rfl
theorem rf40 : ((List.range 40).all fun j => rowFine Tryz.prog (j + 40)) = true := by kernel_rfl
theorem rf80 : ((List.range 40).all fun j => rowFine Tryz.prog (j + 80)) = true := by kernel_rfl
theorem rf120 : ((List.range 40).all fun j => rowFine Tryz.prog (j + 120)) = true := by kernel_rfl
theorem rf160 : ((List.range 40).all fun j => rowFine Tryz.prog (j + 160)) = true := by kernel_rfl
theorem rf200 : ((List.range 40).all fun j => rowFine Tryz.prog (j + 200)) = true := by kernel_rfl
theorem rf240 : ((List.range 40).all fun j => rowFine Tryz.prog (j + 240)) = true := by kernel_rfl
theorem rf280 : ((List.range 40).all fun j => rowFine Tryz.prog (j + 280)) = true := by kernel_rfl
theorem rf320 : ((List.range 40).all fun j => rowFine Tryz.prog (j + 320)) = true := by kernel_rfl
theorem rf360 : ((List.range 40).all fun j => rowFine Tryz.prog (j + 360)) = true := by kernel_rfl
theorem rf400 : ((List.range 40).all fun j => rowFine Tryz.prog (j + 400)) = true := by kernel_rfl
theorem rf440 : ((List.range 40).all fun j => rowFine Tryz.prog (j + 440)) = true := by kernel_rfl
theorem rf480 : ((List.range 40).all fun j => rowFine Tryz.prog (j + 480)) = true := by kernel_rfl
theorem rf520 : ((List.range 40).all fun j => rowFine Tryz.prog (j + 520)) = true := by kernel_rfl
theorem rf560 : ((List.range 40).all fun j => rowFine Tryz.prog (j + 560)) = true := by kernel_rfl
theorem rf600 : ((List.range 40).all fun j => rowFine Tryz.prog (j + 600)) = true := by kernel_rfl
theorem rf640 : ((List.range 40).all fun j => rowFine Tryz.prog (j + 640)) = true := by kernel_rfl
theorem rf680 : ((List.range 40).all fun j => rowFine Tryz.prog (j + 680)) = true := by kernel_rfl
theorem rf720 : ((List.range 33).all fun j => rowFine Tryz.prog (j + 720)) = true := by kernel_rfl
theorem rf_at {P : Program} {a n t : Nat} (h : ((List.range n).all fun j => rowFine P (j + a)) = true) (h1 : a ≤ t) (h2 : t < a + n) : rowFine P t = true := by
  have := List.all_eq_true.1 h (t - a) (List.mem_range.2 (by omega))
  rwa [Nat.sub_add_cancel h1] at this
theorem tsz : Tryz.prog.types.size = 753 := by kernel_rfl
theorem gl : Tryz.prog.globals.all (fun g => decide (g.type < 753)) = true := by kernel_rfl
theorem fl : Tryz.prog.funcs.all (fun f => f.params.all fun t => decide (t < 753)) = true := by kernel_rfl
theorem laidOut_of {P : Program} {n : Nat} (hn : P.types.size = n) (h1 : ∀ t, t < n → rowFine P t = true) (h2 : P.globals.all (fun g => decide (g.type < n)) = true) (h3 : P.funcs.all (fun f => f.params.all fun t => decide (t < n)) = true) : laidOutB P = true := by
  subst hn
  unfold laidOutB
  rw [h2, h3, List.all_eq_true.2 fun t ht => h1 t (List.mem_range.1 ht)]
  rfl
theorem Tryz.laidOut : laidOutB Tryz.prog = true := by
  refine laidOut_of tsz (fun t ht => ?_) gl fl
  rcases Nat.lt_or_ge t 40 with h0 | h0
  · exact rf_at rf0 (by omega) (by omega)
  rcases Nat.lt_or_ge t 80 with h40 | h40
  · exact rf_at rf40 (by omega) (by omega)
  rcases Nat.lt_or_ge t 120 with h80 | h80
  · exact rf_at rf80 (by omega) (by omega)
  rcases Nat.lt_or_ge t 160 with h120 | h120
  · exact rf_at rf120 (by omega) (by omega)
  rcases Nat.lt_or_ge t 200 with h160 | h160
  · exact rf_at rf160 (by omega) (by omega)
  rcases Nat.lt_or_ge t 240 with h200 | h200
  · exact rf_at rf200 (by omega) (by omega)
  rcases Nat.lt_or_ge t 280 with h240 | h240
  · exact rf_at rf240 (by omega) (by omega)
  rcases Nat.lt_or_ge t 320 with h280 | h280
  · exact rf_at rf280 (by omega) (by omega)
  rcases Nat.lt_or_ge t 360 with h320 | h320
  · exact rf_at rf320 (by omega) (by omega)
  rcases Nat.lt_or_ge t 400 with h360 | h360
  · exact rf_at rf360 (by omega) (by omega)
  rcases Nat.lt_or_ge t 440 with h400 | h400
  · exact rf_at rf400 (by omega) (by omega)
  rcases Nat.lt_or_ge t 480 with h440 | h440
  · exact rf_at rf440 (by omega) (by omega)
  rcases Nat.lt_or_ge t 520 with h480 | h480
  · exact rf_at rf480 (by omega) (by omega)
  rcases Nat.lt_or_ge t 560 with h520 | h520
  · exact rf_at rf520 (by omega) (by omega)
  rcases Nat.lt_or_ge t 600 with h560 | h560
  · exact rf_at rf560 (by omega) (by omega)
  rcases Nat.lt_or_ge t 640 with h600 | h600
  · exact rf_at rf600 (by omega) (by omega)
  rcases Nat.lt_or_ge t 680 with h640 | h640
  · exact rf_at rf640 (by omega) (by omega)
  rcases Nat.lt_or_ge t 720 with h680 | h680
  · exact rf_at rf680 (by omega) (by omega)
  rcases Nat.lt_or_ge t 753 with h720 | h720
  · exact rf_at rf720 (by omega) (by omega)
  omega
end Go.Proofs.YtkondgccabcabaaGreatDoor
