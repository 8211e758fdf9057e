/-
Symbolic runs: Find, sameVals, Same.
Conditions: none.
-/
import Derived.Test.YtgamdeginkngaaaGreatDoorRunC
import Derived.Test.YtgamdeginkngaaaGreatDoorRunLit
set_option linter.unusedVariables false
set_option linter.unusedSimpArgs false
namespace Go
namespace Abs
/-- a slice of pairs of strings -/
def SlP (h : Hp) (v : Value) (l : List (ByteArray × ByteArray)) : Prop := (v = .slice none 0 0 ∧ l = []) ∨ ∃ b c, v = slV b 0 l.length c ∧ Pairs h b l
theorem SlP.len {h : Hp} {v : Value} {l : List (ByteArray × ByteArray)} (hv : SlP h v l) : vSl v (fun _ _ l _ => some (Value.int .i64 (.ofNat l))) (fun l _ => some (Value.int .i64 (.ofNat l))) none = some (.int .i64 (.ofNat l.length)) := by
  rcases hv with ⟨rfl, rfl⟩ | ⟨b, c, rfl, _⟩ <;> rfl
theorem SlP.pos {h : Hp} {v : Value} {l : List (ByteArray × ByteArray)} (hv : SlP h v l) {i : Nat} (hi : i < l.length) : ∃ b c, v = slV b 0 l.length c ∧ Pairs h b l := by
  rcases hv with ⟨_, rfl⟩ | h
  · simp at hi
  · exact h
theorem drop_at {α : Type} {l : List α} {i : Nat} (hi : i < l.length) : ∃ x, l[i]? = some x ∧ l.drop i = x :: l.drop (i + 1) := ⟨l[i], by simp [hi], List.drop_eq_getElem_cons hi⟩
/- ===== Find ===== -/
/-- the place of a name, from i on -/
noncomputable def findAt (name : ByteArray) : List (ByteArray × ByteArray) → Nat → Int
  | [], _ => -1
  | x :: r, i => if lEq (bl x.1) (bl name) = true then (i : Int) else findAt name r (i + 1)
theorem findAt_cons (name : ByteArray) (x : ByteArray × ByteArray) (r : List (ByteArray × ByteArray)) (i : Nat) : findAt name (x :: r) i = if lEq (bl x.1) (bl name) = true then (i : Int) else findAt name r (i + 1) := rfl
def FindI (l : List (ByteArray × ByteArray)) (name : ByteArray) (v : Value) (h : Hp) (i : Nat) (tm : T Value) (df : Df) (h' : Hp) : Prop :=
  h' = h ∧ df = [] ∧ tm.get [] = some v ∧ tm.get [true] = some (.string name) ∧ tm.get [true, false] = some (.int .i64 (.ofNat i)) ∧ findAt name l 0 = findAt name (l.drop i) i
def FindE (l : List (ByteArray × ByteArray)) (name : ByteArray) (h : Hp) (e : Ex) (tm : T Value) (df : Df) (h' : Hp) : Prop :=
  h' = h ∧ df = [] ∧ ((e = .exit 0 ∧ findAt name l 0 = -1) ∨ (e = .ret ∧ tm.get [false, true] = some (.int .i64 (findAt name l 0))))
def FindE2 (l : List (ByteArray × ByteArray)) (name : ByteArray) (h : Hp) (e : Ex) (tm : T Value) (df : Df) (h' : Hp) : Prop :=
  h' = h ∧ df = [] ∧ ((e = .normal ∧ findAt name l 0 = -1) ∨ (e = .ret ∧ tm.get [false, true] = some (.int .i64 (findAt name l 0))))
def FindR (l : List (ByteArray × ByteArray)) (name : ByteArray) (h : Hp) (v : Value) (h' : Hp) : Prop := v = .int .i64 (findAt name l 0) ∧ h' = h
theorem find_run {call : Call} {cd : CallD} {h : Hp} {v : Value} {l : List (ByteArray × ByteArray)} {name : ByteArray} (hv : SlP h v l) (hn : l.length < 1000) :
    Yields (runF cf16 call cd [v, .string name] h) (FindR l name h) := by
  refine runF_yields rfl ?_
  have hlen := hv.len
  simp only [↓evD, evD, evU, evF, reduceCtorEq, evB]
  refine After.exK (φ := FindE2 l name h) (After.exK (φ := FindE l name h) ?_ ?_) ?_
  · refine loop_for (n := l.length) (by omega) (FindI l name v h) ?_ ?_ ?_
    · intro i tm df h' hi ⟨e1, e2, h0, h1, h5, hf⟩
      subst e1; subst e2
      obtain ⟨x, hx, hd⟩ := drop_at hi
      obtain ⟨b, c, rfl, cc, m, e, cl, ro, hat, hm, hc⟩ := hv.pos hi
      obtain ⟨hc0, hc1⟩ := hc i x hx
      have e1 := z_blt hi
      have e2 : Nat.blt (0 + i * 2 + 0) m = true := z_blt (by omega)
      have e3 : fwrap .i64 (.ofNat (i + 1)) = .ofNat (i + 1) := z_wrapN (by omega)
      have e4 : cc.get (path (0 + i * 2 + 0)) = some (.string x.1) := by rw [← hc0]; congr 2; omega
      rw [hd, findAt_cons] at hf
      cases hq : lEq (bl x.1) (bl name) with
      | true =>
        rw [hq, if_pos rfl] at hf
        simp only [↓evD, evD, evU, evF, reduceCtorEq, evB, cf16_l0, h0, h5, h1, hat, e1, e2, e3, e4, hq]
        exact .ret ⟨rfl, rfl, .inr ⟨rfl, by rw [hf]; simp [T.get_set]⟩⟩
      | false =>
        rw [hq, if_neg (by simp)] at hf
        simp only [↓evD, evD, evU, evF, reduceCtorEq, evB, cf16_l0, h0, h5, h1, hat, e1, e2, e3, e4, hq]
        exact .go ⟨rfl, rfl, by simp [T.get_set, h0], by simp [T.get_set, h1], by simp [T.get_set], hf⟩
    · intro tm df h' ⟨e1, e2, h0, h1, h5, hf⟩
      subst e1; subst e2
      have e1 := z_bltF (Nat.le_refl l.length)
      simp only [↓evD, evD, evU, evF, reduceCtorEq, evB, cf16_l0, h0, h5, h1, hlen, e1]
      exact .ex ⟨rfl, rfl, .inl ⟨rfl, by rw [hf]; simp [findAt]⟩⟩
    · exact ⟨rfl, rfl, rfl, rfl, by simp [T.get_set], by simp⟩
  · rintro e tm df h' ⟨rfl, rfl, ⟨rfl, hf⟩ | ⟨rfl, hf⟩⟩
    · exact ⟨rfl, rfl, .inl ⟨rfl, hf⟩⟩
    · exact ⟨rfl, rfl, .inr ⟨rfl, hf⟩⟩
  · rintro e tm df h' ⟨rfl, rfl, ⟨rfl, hf⟩ | ⟨rfl, hf⟩⟩
    · simp only [↓evD, evD, evU, evF, reduceCtorEq, evB]
      refine .ret ?_
      simp only [↓evD, evD, evU, evF, reduceCtorEq, evB]
      exact ⟨by rw [hf]; rfl, rfl⟩
    · simp only [↓evD, evD, evU, evF, reduceCtorEq, evB]
      refine .ret ?_
      simp only [hf, ↓evD, evD, evU, evF, reduceCtorEq, evB]
      exact ⟨rfl, rfl⟩
/- ===== sameVals ===== -/
noncomputable def sameL : List (ByteArray × ByteArray) → List (ByteArray × ByteArray) → Bool
  | [], [] => true
  | x :: r, y :: s => (lEq (bl x.1) (bl y.1) && lEq (bl x.2) (bl y.2)) && sameL r s
  | _, _ => false
def SameI (l m : List (ByteArray × ByteArray)) (v u : Value) (h : Hp) (i : Nat) (tm : T Value) (df : Df) (h' : Hp) : Prop :=
  h' = h ∧ df = [] ∧ tm.get [] = some v ∧ tm.get [true] = some u ∧ tm.get [true, false] = some (.int .i64 (.ofNat i)) ∧ sameL l m = sameL (l.drop i) (m.drop i)
def SameE (l m : List (ByteArray × ByteArray)) (h : Hp) (e : Ex) (tm : T Value) (df : Df) (h' : Hp) : Prop :=
  h' = h ∧ df = [] ∧ ((e = .exit 0 ∧ sameL l m = true) ∨ (e = .ret ∧ sameL l m = false ∧ tm.get [false, true] = some (.bool false)))
def SameE2 (l m : List (ByteArray × ByteArray)) (h : Hp) (e : Ex) (tm : T Value) (df : Df) (h' : Hp) : Prop :=
  h' = h ∧ df = [] ∧ ((e = .normal ∧ sameL l m = true) ∨ (e = .ret ∧ sameL l m = false ∧ tm.get [false, true] = some (.bool false)))
def SameR (l m : List (ByteArray × ByteArray)) (h : Hp) (v : Value) (h' : Hp) : Prop := v = .bool (sameL l m) ∧ h' = h
theorem sameL_len {l m : List (ByteArray × ByteArray)} (h : l.length ≠ m.length) : sameL l m = false := by
  induction l generalizing m with
  | nil => cases m with
    | nil => simp at h
    | cons y s => rfl
  | cons x r ih => cases m with
    | nil => rfl
    | cons y s =>
      show (_ && sameL r s) = false
      rw [ih (by simpa using h), Bool.and_false]
theorem sameVals_run {call : Call} {cd : CallD} {h : Hp} {v u : Value} {l m : List (ByteArray × ByteArray)} (hv : SlP h v l) (hu : SlP h u m) (hn : l.length < 1000) (hn2 : m.length < 1000) :
    Yields (runF cf46 call cd [v, u] h) (SameR l m h) := by
  refine runF_yields rfl ?_
  have hlen := hv.len
  have hlen2 := hu.len
  by_cases hlm : l.length = m.length
  · have e0 : Nat.beq l.length m.length = true := by rw [hlm]; exact Nat.beq_refl _
    simp only [↓evD, evD, evU, evF, reduceCtorEq, evB, hlen, hlen2, e0]
    refine After.exK (φ := SameE2 l m h) (After.exK (φ := SameE l m h) ?_ ?_) ?_
    · refine loop_for (n := l.length) (by omega) (SameI l m v u h) ?_ ?_ ?_
      · intro i tm df h' hi ⟨e1, e2, h0, h1, h5, hf⟩
        subst e1; subst e2
        obtain ⟨x, hx, hd⟩ := drop_at hi
        obtain ⟨y, hy, hd2⟩ := drop_at (l := m) (i := i) (by omega)
        obtain ⟨b, c, rfl, cc, mm, e, cl, ro, hat, hm, hc⟩ := hv.pos hi
        obtain ⟨b2, c2, rfl, cc2, mm2, e', cl2, ro2, hat2, hm2, hc2⟩ := hu.pos (i := i) (by omega)
        obtain ⟨hc0, hc1⟩ := hc i x hx
        obtain ⟨hd0, hd1⟩ := hc2 i y hy
        have e1 := z_blt hi
        have e1' : Nat.blt i m.length = true := z_blt (by omega)
        have e2 : Nat.ble (0 + i * 2 + 2) mm = true := z_ble (by omega)
        have e2' : Nat.ble (0 + i * 2 + 2) mm2 = true := z_ble (by omega)
        have e3 : fwrap .i64 (.ofNat (i + 1)) = .ofNat (i + 1) := z_wrapN (by omega)
        have e4 : cc.get (path (0 + i * 2 + 0)) = some (.string x.1) := by rw [← hc0]; congr 2; omega
        have e5 : cc.get (path (0 + i * 2 + 1)) = some (.string x.2) := by rw [← hc1]; congr 2; omega
        have e6 : cc2.get (path (0 + i * 2 + 0)) = some (.string y.1) := by rw [← hd0]; congr 2; omega
        have e7 : cc2.get (path (0 + i * 2 + 1)) = some (.string y.2) := by rw [← hd1]; congr 2; omega
        rw [hd, hd2] at hf
        change sameL l m = ((lEq (bl x.1) (bl y.1) && lEq (bl x.2) (bl y.2)) && sameL (l.drop (i + 1)) (m.drop (i + 1))) at hf
        cases hq : (lEq (bl x.1) (bl y.1) && lEq (bl x.2) (bl y.2)) with
        | true =>
          rw [hq, Bool.true_and] at hf
          simp only [↓evD, evD, evU, evF, reduceCtorEq, evB, cf46_l0, h0, h5, h1, hat, hat2, e1, e1', e2, e2', e3, e4, e5, e6, e7, hq]
          exact .go ⟨rfl, rfl, by simp [T.get_set, h0], by simp [T.get_set, h1], by simp [T.get_set], hf⟩
        | false =>
          rw [hq, Bool.false_and] at hf
          simp only [↓evD, evD, evU, evF, reduceCtorEq, evB, cf46_l0, h0, h5, h1, hat, hat2, e1, e1', e2, e2', e3, e4, e5, e6, e7, hq]
          exact .ret ⟨rfl, rfl, .inr ⟨rfl, hf, by simp [T.get_set]⟩⟩
      · intro tm df h' ⟨e1, e2, h0, h1, h5, hf⟩
        subst e1; subst e2
        have e1 := z_bltF (Nat.le_refl l.length)
        simp only [↓evD, evD, evU, evF, reduceCtorEq, evB, cf46_l0, h0, h5, h1, hlen, e1]
        exact .ex ⟨rfl, rfl, .inl ⟨rfl, by rw [hf, List.drop_of_length_le (Nat.le_refl _), List.drop_of_length_le (by omega)]; rfl⟩⟩
      · exact ⟨rfl, rfl, by simp [T.get_set, z_st20], by simp [T.get_set, z_st21], by simp [T.get_set], by simp⟩
    · rintro e tm df h' ⟨rfl, rfl, ⟨rfl, hf⟩ | ⟨rfl, hf⟩⟩
      · exact ⟨rfl, rfl, .inl ⟨rfl, hf⟩⟩
      · exact ⟨rfl, rfl, .inr ⟨rfl, hf⟩⟩
    · rintro e tm df h' ⟨rfl, rfl, ⟨rfl, hf⟩ | ⟨rfl, hf, hg⟩⟩
      · simp only [↓evD, evD, evU, evF, reduceCtorEq, evB]
        refine .ret ?_
        simp only [↓evD, evD, evU, evF, reduceCtorEq, evB]
        exact ⟨by rw [hf], rfl⟩
      · simp only [↓evD, evD, evU, evF, reduceCtorEq, evB]
        refine .ret ?_
        simp only [hg, ↓evD, evD, evU, evF, reduceCtorEq, evB]
        exact ⟨by rw [hf], rfl⟩
  · have e0 : Nat.beq l.length m.length = false := by
      cases e : Nat.beq l.length m.length with
      | false => rfl
      | true => exact absurd (Nat.eq_of_beq_eq_true e) hlm
    simp only [↓evD, evD, evU, evF, reduceCtorEq, evB, hlen, hlen2, e0]
    refine .ret ?_
    simp only [↓evD, evD, evU, evF, reduceCtorEq, evB]
    exact ⟨by rw [sameL_len hlm], rfl⟩
end Abs
end Go
