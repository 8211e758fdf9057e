/-
The seat's program: its functions without a Go body, and the methods of interface values, as the evaluator takes them.
Conditions: none.
-/
import Derived.Test.YtkondgccabcabaaGreatDoorProg
import Derived.KernelRfl
import Derived.Test.YtkondgccabcabaaGreatDoorEvalD
set_option linter.unusedVariables false
set_option linter.unusedSimpArgs false
namespace Go
namespace Abs
noncomputable def xs35 : List (Nat × Nat) := [(418, 0), (330, 1), (325, 2), (483, 2), (459, 3), (494, 3), (381, 4)]
theorem xok1 {g k : Nat} {fn : Func} {e : Array Value → Sem Value} (h1 : Proofs.Tryz.prog.funcs[g]? = some fn) (h2 : (fn.name == "runtime.NumGoroutine") = false) (h3 : fn.body.isNone = true) (h4 : Extern.findNext fn = none) (h5 : Extern.find fn = some e) (h6 : xKind fn k e) :
    ∃ fn e, Proofs.Tryz.prog.funcs[g]? = some fn ∧ (fn.name == "runtime.NumGoroutine") = false ∧ fn.body.isNone = true ∧ Extern.findNext fn = none ∧ Extern.find fn = some e ∧ xKind fn k e := ⟨fn, e, h1, h2, h3, h4, h5, h6⟩
theorem x418 : ∃ fn e, Proofs.Tryz.prog.funcs[418]? = some fn ∧ (fn.name == "runtime.NumGoroutine") = false ∧ fn.body.isNone = true ∧ Extern.findNext fn = none ∧ Extern.find fn = some e ∧ xKind fn 0 e :=
  xok1 Proofs.Tryz.func418 (by kernel_rfl) (by kernel_rfl) (by kernel_rfl) (e := Extern.AbiNoEscape.same) (by kernel_rfl) rfl
theorem x330 : ∃ fn e, Proofs.Tryz.prog.funcs[330]? = some fn ∧ (fn.name == "runtime.NumGoroutine") = false ∧ fn.body.isNone = true ∧ Extern.findNext fn = none ∧ Extern.find fn = some e ∧ xKind fn 1 e :=
  xok1 Proofs.Tryz.func330 (by kernel_rfl) (by kernel_rfl) (by kernel_rfl) (by kernel_rfl) rfl
theorem x325 : ∃ fn e, Proofs.Tryz.prog.funcs[325]? = some fn ∧ (fn.name == "runtime.NumGoroutine") = false ∧ fn.body.isNone = true ∧ Extern.findNext fn = none ∧ Extern.find fn = some e ∧ xKind fn 2 e :=
  xok1 Proofs.Tryz.func325 (by kernel_rfl) (by kernel_rfl) (by kernel_rfl) (e := Extern.BytealgCount.count) (by kernel_rfl) rfl
theorem x483 : ∃ fn e, Proofs.Tryz.prog.funcs[483]? = some fn ∧ (fn.name == "runtime.NumGoroutine") = false ∧ fn.body.isNone = true ∧ Extern.findNext fn = none ∧ Extern.find fn = some e ∧ xKind fn 2 e :=
  xok1 Proofs.Tryz.func483 (by kernel_rfl) (by kernel_rfl) (by kernel_rfl) (e := Extern.BytealgCount.count) (by kernel_rfl) rfl
theorem x459 : ∃ fn e, Proofs.Tryz.prog.funcs[459]? = some fn ∧ (fn.name == "runtime.NumGoroutine") = false ∧ fn.body.isNone = true ∧ Extern.findNext fn = none ∧ Extern.find fn = some e ∧ xKind fn 3 e :=
  xok1 Proofs.Tryz.func459 (by kernel_rfl) (by kernel_rfl) (by kernel_rfl) (e := Extern.BytealgIndexByte.indexByte) (by kernel_rfl) rfl
theorem x494 : ∃ fn e, Proofs.Tryz.prog.funcs[494]? = some fn ∧ (fn.name == "runtime.NumGoroutine") = false ∧ fn.body.isNone = true ∧ Extern.findNext fn = none ∧ Extern.find fn = some e ∧ xKind fn 3 e :=
  xok1 Proofs.Tryz.func494 (by kernel_rfl) (by kernel_rfl) (by kernel_rfl) (e := Extern.BytealgIndexByte.indexByte) (by kernel_rfl) rfl
theorem x381 : ∃ fn e, Proofs.Tryz.prog.funcs[381]? = some fn ∧ (fn.name == "runtime.NumGoroutine") = false ∧ fn.body.isNone = true ∧ Extern.findNext fn = none ∧ Extern.find fn = some e ∧ xKind fn 4 e :=
  xok1 Proofs.Tryz.func381 (by kernel_rfl) (by kernel_rfl) (by kernel_rfl) (e := Extern.BytealgCompare.compare) (by kernel_rfl) rfl
theorem xk_cons {a b : Nat} {r : List (Nat × Nat)} {g k : Nat} (h : xk ((a, b) :: r) g = some k) : (g = a ∧ k = b) ∨ xk r g = some k := by
  have h' : (bif Nat.beq a g then some b else xk r g) = some k := h
  cases hb : Nat.beq a g with
  | true =>
    rw [hb] at h'
    have := Nat.eq_of_beq_eq_true hb
    cases h'
    exact .inl ⟨this.symm, rfl⟩
  | false => rw [hb] at h'; exact .inr h'
theorem xok35 : XOk Proofs.Tryz.prog xs35 := by
  intro g k h
  rcases xk_cons h with ⟨rfl, rfl⟩ | h
  · exact x418
  rcases xk_cons h with ⟨rfl, rfl⟩ | h
  · exact x330
  rcases xk_cons h with ⟨rfl, rfl⟩ | h
  · exact x325
  rcases xk_cons h with ⟨rfl, rfl⟩ | h
  · exact x483
  rcases xk_cons h with ⟨rfl, rfl⟩ | h
  · exact x459
  rcases xk_cons h with ⟨rfl, rfl⟩ | h
  · exact x494
  rcases xk_cons h with ⟨rfl, rfl⟩ | h
  · exact x381
  cases h
/-- the methods of a type, as the program tells them -/
noncomputable def mtab (P : Program) (t : Nat) : List (String × Nat × Nat) := match P.info? t with
  | some i => i.methods.toList.filterMap fun m => match m.func with | some (g, _) => some (m.name, t, g) | none => none
  | none => []
noncomputable def mok1 (P : Program) (e : String × Nat × Nat) : Bool := match P.info? e.2.1, P.underlying e.2.1 with
  | some info, some d => (match info.methods.find? (·.name == e.1) with
    | some m => m.path.isEmpty && (match m.func with | some (g, ptr) => Nat.beq g e.2.2 && (match d with | .pointer _ => ptr | _ => !ptr) | none => false)
    | none => false)
  | _, _ => false
theorem mok1_ok {P : Program} {e : String × Nat × Nat} (h : mok1 P e = true) : ∃ info m d ptr, P.info? e.2.1 = some info ∧ info.methods.find? (·.name == e.1) = some m ∧ m.path = #[] ∧ m.func = some (e.2.2, ptr) ∧
    P.underlying e.2.1 = some d ∧ (match d with | .pointer _ => ptr = true | _ => ptr = false) := by
  unfold mok1 at h
  split at h
  · rename_i info d h1 h2
    split at h
    · rename_i m h3
      rw [Bool.and_eq_true] at h
      obtain ⟨h4, h5⟩ := h
      split at h5
      · rename_i g ptr h6
        rw [Bool.and_eq_true] at h5
        have e1 := Nat.eq_of_beq_eq_true h5.1
        subst e1
        refine ⟨info, m, d, ptr, h1, h3, by simpa using h4, h6, h2, ?_⟩
        have h7 := h5.2
        split at h7
        · exact h7
        · simpa using h7
      · cases h5
    · cases h
  · cases h
theorem mok_all {P : Program} {ms : List (String × Nat × Nat)} (h : ms.all (mok1 P) = true) : MOk P ms := fun e he => mok1_ok (List.all_eq_true.1 h e he)
noncomputable def ms35 : List (String × Nat × Nat) := mtab Proofs.Tryz.prog 248 ++ mtab Proofs.Tryz.prog 249 ++ mtab Proofs.Tryz.prog 250 ++ mtab Proofs.Tryz.prog 251 ++ mtab Proofs.Tryz.prog 252 ++ mtab Proofs.Tryz.prog 253 ++ mtab Proofs.Tryz.prog 259 ++ mtab Proofs.Tryz.prog 262
theorem mok35 : MOk Proofs.Tryz.prog ms35 := mok_all (by kernel_rfl)
noncomputable def cx35 : Cx := ⟨[0, 1], xs35, ms35⟩
theorem cxok35 : CxOk Proofs.Tryz.prog cx35 := ⟨xok35, mok35⟩
theorem mixed35 : Proofs.Tryz.prog.follows .mixedOrders = true := by kernel_rfl
set_option maxRecDepth 100000 in
theorem draw35 : DrawOk Proofs.Tryz.prog cx35 := draw_ok cxok35 mixed35
end Abs
end Go
