/-
ConsoleHashes: no function of the program starts another run.
Conditions: none.
-/
import Derived.Test.YtkondgccabcabaaGreatDoorHashS0
set_option linter.unusedVariables false
set_option linter.unusedSimpArgs false
set_option maxRecDepth 100000
namespace Go.Proofs.YtkondgccabcabaaGreatDoor
open Go.ChangeShapes Go.WideShapes Go.ChangeAt Go.RowKit
theorem ng0 : ((List.range 60).all fun j => !(Tryz.prog.funcs[j + 0]?).any Func.goes) = true := by kernel_rfl
theorem ng60 : ((List.range 60).all fun j => !(Tryz.prog.funcs[j + 60]?).any Func.goes) = true := by kernel_rfl
theorem ng120 : ((List.range 60).all fun j => !(Tryz.prog.funcs[j + 120]?).any Func.goes) = true := by kernel_rfl
theorem ng180 : ((List.range 60).all fun j => !(Tryz.prog.funcs[j + 180]?).any Func.goes) = true := by kernel_rfl
theorem ng240 : ((List.range 60).all fun j => !(Tryz.prog.funcs[j + 240]?).any Func.goes) = true := by kernel_rfl
theorem ng300 : ((List.range 60).all fun j => !(Tryz.prog.funcs[j + 300]?).any Func.goes) = true := by kernel_rfl
theorem ng360 : ((List.range 60).all fun j => !(Tryz.prog.funcs[j + 360]?).any Func.goes) = true := by kernel_rfl
theorem ng420 : ((List.range 60).all fun j => !(Tryz.prog.funcs[j + 420]?).any Func.goes) = true := by kernel_rfl
theorem ng480 : ((List.range 60).all fun j => !(Tryz.prog.funcs[j + 480]?).any Func.goes) = true := by kernel_rfl
theorem ng540 : ((List.range 40).all fun j => !(Tryz.prog.funcs[j + 540]?).any Func.goes) = true := by kernel_rfl
theorem ng_at {P : Program} {a n t : Nat} (h : ((List.range n).all fun j => !(P.funcs[j + a]?).any Func.goes) = true) (h1 : a ≤ t) (h2 : t < a + n) : (P.funcs[t]?).any Func.goes = false := by
  have := List.all_eq_true.1 h (t - a) (List.mem_range.2 (by omega))
  rw [Nat.sub_add_cancel h1] at this
  simpa using this
theorem fsz : Tryz.prog.funcs.size = 580 := by kernel_rfl
theorem ng_all (t : Nat) : (Tryz.prog.funcs[t]?).any Func.goes = false := by
  rcases Nat.lt_or_ge t 60 with h0 | h0
  · exact ng_at ng0 (by omega) (by omega)
  rcases Nat.lt_or_ge t 120 with h60 | h60
  · exact ng_at ng60 (by omega) (by omega)
  rcases Nat.lt_or_ge t 180 with h120 | h120
  · exact ng_at ng120 (by omega) (by omega)
  rcases Nat.lt_or_ge t 240 with h180 | h180
  · exact ng_at ng180 (by omega) (by omega)
  rcases Nat.lt_or_ge t 300 with h240 | h240
  · exact ng_at ng240 (by omega) (by omega)
  rcases Nat.lt_or_ge t 360 with h300 | h300
  · exact ng_at ng300 (by omega) (by omega)
  rcases Nat.lt_or_ge t 420 with h360 | h360
  · exact ng_at ng360 (by omega) (by omega)
  rcases Nat.lt_or_ge t 480 with h420 | h420
  · exact ng_at ng420 (by omega) (by omega)
  rcases Nat.lt_or_ge t 540 with h480 | h480
  · exact ng_at ng480 (by omega) (by omega)
  rcases Nat.lt_or_ge t 580 with h540 | h540
  · exact ng_at ng540 (by omega) (by omega)
  rw [Array.getElem?_eq_none (by rw [fsz]; omega)]
  rfl
theorem goes_of {P : Program} {c : OpenClaim} (h : ∀ t : Nat, (P.funcs[t]?).any Func.goes = false) (hs : c.start = .entering) : false = c.goesBy P := by
  have h1 : P.funcs.any Func.goes = false := by
    cases hq : P.funcs.any Func.goes with
    | false => rfl
    | true =>
      rw [Array.any_eq_true] at hq
      obtain ⟨i, hi, h2⟩ := hq
      have h3 := h i
      rw [Array.getElem?_eq_getElem hi] at h3
      rw [show (some P.funcs[i]).any Func.goes = Func.goes P.funcs[i] from rfl, h2] at h3
      cases h3
  have h2 : ∀ f, P.goes f = false := fun f => by
    unfold Program.goes
    rw [h1, Bool.and_false, Bool.or_false]
    exact List.any_eq_false.2 fun g _ => by rw [h g]; simp
  unfold OpenClaim.goesBy Program.goesAt Program.goesFrom
  rw [hs]
  cases P.funcNamed c.func with
  | none => rfl
  | some f => show false = (P.goes f || false); rw [h2]; rfl
end Go.Proofs.YtkondgccabcabaaGreatDoor
