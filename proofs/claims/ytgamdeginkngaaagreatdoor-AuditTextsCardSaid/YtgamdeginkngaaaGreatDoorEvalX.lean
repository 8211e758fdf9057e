/-
The seat's program: its functions without a Go body, as the evaluator takes them.
Conditions: none.
-/
import Derived.Test.YtgamdeginkngaaaGreatDoorProg
import Derived.KernelRfl
import Derived.Test.YtgamdeginkngaaaGreatDoorEvalD
set_option linter.unusedVariables false
set_option linter.unusedSimpArgs false
namespace Go
namespace Abs

noncomputable def xs32 : List (Nat × Nat) := [(112, 0), (105, 1), (99, 2), (187, 2), (167, 3), (200, 3), (184, 4)]
theorem xok1 {g k : Nat} {fn : Func} {e : Array Value → Sem Value} (h1 : Proofs.Tryz.prog.funcs[g]? = some fn) (h2 : (fn.name == "runtime.NumGoroutine") = false) (h3 : fn.body.isNone = true) (h4 : Extern.findNext fn = none) (h5 : Extern.find fn = some e) (h6 : xKind fn k e) :
    ∃ fn e, Proofs.Tryz.prog.funcs[g]? = some fn ∧ (fn.name == "runtime.NumGoroutine") = false ∧ fn.body.isNone = true ∧ Extern.findNext fn = none ∧ Extern.find fn = some e ∧ xKind fn k e := ⟨fn, e, h1, h2, h3, h4, h5, h6⟩
theorem x112 : ∃ fn e, Proofs.Tryz.prog.funcs[112]? = some fn ∧ (fn.name == "runtime.NumGoroutine") = false ∧ fn.body.isNone = true ∧ Extern.findNext fn = none ∧ Extern.find fn = some e ∧ xKind fn 0 e :=
  xok1 Proofs.Tryz.func112 (by kernel_rfl) (by kernel_rfl) (by kernel_rfl) (e := Extern.AbiNoEscape.same) (by kernel_rfl) rfl
theorem x105 : ∃ fn e, Proofs.Tryz.prog.funcs[105]? = some fn ∧ (fn.name == "runtime.NumGoroutine") = false ∧ fn.body.isNone = true ∧ Extern.findNext fn = none ∧ Extern.find fn = some e ∧ xKind fn 1 e :=
  xok1 Proofs.Tryz.func105 (by kernel_rfl) (by kernel_rfl) (by kernel_rfl) (by kernel_rfl) rfl
theorem x99 : ∃ fn e, Proofs.Tryz.prog.funcs[99]? = some fn ∧ (fn.name == "runtime.NumGoroutine") = false ∧ fn.body.isNone = true ∧ Extern.findNext fn = none ∧ Extern.find fn = some e ∧ xKind fn 2 e :=
  xok1 Proofs.Tryz.func99 (by kernel_rfl) (by kernel_rfl) (by kernel_rfl) (e := Extern.BytealgCount.count) (by kernel_rfl) rfl
theorem x187 : ∃ fn e, Proofs.Tryz.prog.funcs[187]? = some fn ∧ (fn.name == "runtime.NumGoroutine") = false ∧ fn.body.isNone = true ∧ Extern.findNext fn = none ∧ Extern.find fn = some e ∧ xKind fn 2 e :=
  xok1 Proofs.Tryz.func187 (by kernel_rfl) (by kernel_rfl) (by kernel_rfl) (e := Extern.BytealgCount.count) (by kernel_rfl) rfl
theorem x167 : ∃ fn e, Proofs.Tryz.prog.funcs[167]? = some fn ∧ (fn.name == "runtime.NumGoroutine") = false ∧ fn.body.isNone = true ∧ Extern.findNext fn = none ∧ Extern.find fn = some e ∧ xKind fn 3 e :=
  xok1 Proofs.Tryz.func167 (by kernel_rfl) (by kernel_rfl) (by kernel_rfl) (e := Extern.BytealgIndexByte.indexByte) (by kernel_rfl) rfl
theorem x200 : ∃ fn e, Proofs.Tryz.prog.funcs[200]? = some fn ∧ (fn.name == "runtime.NumGoroutine") = false ∧ fn.body.isNone = true ∧ Extern.findNext fn = none ∧ Extern.find fn = some e ∧ xKind fn 3 e :=
  xok1 Proofs.Tryz.func200 (by kernel_rfl) (by kernel_rfl) (by kernel_rfl) (e := Extern.BytealgIndexByte.indexByte) (by kernel_rfl) rfl
theorem x184 : ∃ fn e, Proofs.Tryz.prog.funcs[184]? = some fn ∧ (fn.name == "runtime.NumGoroutine") = false ∧ fn.body.isNone = true ∧ Extern.findNext fn = none ∧ Extern.find fn = some e ∧ xKind fn 4 e :=
  xok1 Proofs.Tryz.func184 (by kernel_rfl) (by kernel_rfl) (by kernel_rfl) (e := Extern.BytealgCompare.compare) (by kernel_rfl) rfl
theorem xk_cons {a b : Nat} {r : List (Nat × Nat)} {g k : Nat} (h : xk ((a, b) :: r) g = some k) : (g = a ∧ k = b) ∨ xk r g = some k := by
  have h' : (bif Nat.beq a g then some b else xk r g) = some k := h
  cases hb : Nat.beq a g with
  | true =>
    rw [hb] at h'
    have := Nat.eq_of_beq_eq_true hb
    cases h'
    exact .inl ⟨this.symm, rfl⟩
  | false => rw [hb] at h'; exact .inr h'
theorem xok32 : XOk Proofs.Tryz.prog xs32 := by
  intro g k h
  rcases xk_cons h with ⟨rfl, rfl⟩ | h
  · exact x112
  rcases xk_cons h with ⟨rfl, rfl⟩ | h
  · exact x105
  rcases xk_cons h with ⟨rfl, rfl⟩ | h
  · exact x99
  rcases xk_cons h with ⟨rfl, rfl⟩ | h
  · exact x187
  rcases xk_cons h with ⟨rfl, rfl⟩ | h
  · exact x167
  rcases xk_cons h with ⟨rfl, rfl⟩ | h
  · exact x200
  rcases xk_cons h with ⟨rfl, rfl⟩ | h
  · exact x184
  cases h
theorem mixed32 : Proofs.Tryz.prog.follows .mixedOrders = true := by kernel_rfl
end Abs
end Go
