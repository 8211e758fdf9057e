/-
Symbolic runs: Decimal, fields, Hex of the reference.
Conditions: none.
-/
import Derived.IntWalk
import Derived.Test.YtgamdeginkngaaaGreatDoorRunI
set_option linter.unusedVariables false
set_option linter.unusedSimpArgs false
namespace Go
namespace Abs
def SameR' (X : Value) (h : Hp) (v : Value) (H : Hp) : Prop := v = X ∧ H = h
theorem z_remZ (kd : IntKind) (x : Int) : gRem kd x (.ofNat 10) = some (.int kd (itmod x 10)) := kInt_eq _ _
theorem z_quoZ (kd : IntKind) (x : Int) : gQuo kd x (.ofNat 10) = some (.int kd (fwrap kd (itdiv x 10))) := kInt_eq _ _
theorem wrap64 {x : Int} (h0 : -9223372036854775808 ≤ x) (h1 : x ≤ 9223372036854775807) : fwrap .i64 x = x := by
  cases x with
  | ofNat a => exact z_wrapN (by have : ((a : Nat) : Int) ≤ 9223372036854775807 := h1; omega)
  | negSucc a =>
    rw [fwrap_eq]
    exact IntWalk.i64_in _ (by omega)
theorem digit_at (k : Nat) (hk : k < 10) : takeL (k + 1 - k) (dropL k [48, 49, 50, 51, 52, 53, 54, 55, 56, 57]) = [UInt8.ofNat (48 + k)] := by
  match k with
  | 0 => rfl | 1 => rfl | 2 => rfl | 3 => rfl | 4 => rfl | 5 => rfl | 6 => rfl | 7 => rfl | 8 => rfl | 9 => rfl
  | k + 10 => omega
theorem itoa_pos (m : Nat) : Lib.itoa (.ofNat m) = Lib.decDigits m := by
  unfold Lib.itoa
  rw [if_neg (by show ¬ ((m : Int) < 0); omega)]; rfl
theorem itoa_neg (m : Nat) : Lib.itoa (.negSucc m) = 45 :: Lib.decDigits (m + 1) := by
  unfold Lib.itoa
  rw [if_pos (Int.negSucc_lt_zero m)]; rfl
theorem dec_small {u : Nat} (h : u < 10) : Lib.decDigits u = [UInt8.ofNat (48 + u)] := by rw [Lib.decDigits, dif_pos h]
theorem dec_big {u : Nat} (h : ¬ u < 10) : Lib.decDigits u = Lib.decDigits (u / 10) ++ [UInt8.ofNat (48 + u % 10)] := by rw [Lib.decDigits, dif_neg h]
theorem decimal_run {call : Call} {cd : CallD} {h : Hp} {n : Int} (h0 : -9223372036854775808 ≤ n) (h1 : n ≤ 9223372036854775807)
    (hrec : itdiv n 10 ≠ 0 → call 47 [.int .i64 (itdiv n 10)] h = .val (.string (mkS (Lib.itoa (itdiv n 10)))) h) :
    Yields (runF cf47 call cd [.int .i64 n] h) (SameR' (.string (mkS (Lib.itoa n))) h) := by
  refine runF_yields rfl ?_
  cases n with
  | ofNat m =>
    have hm : m ≤ 9223372036854775807 := by have : ((m : Nat) : Int) ≤ 9223372036854775807 := h1; omega
    have q1 : itmod (.ofNat m) 10 = .ofNat (m % 10) := rfl
    have q2 : itdiv (.ofNat m) 10 = .ofNat (m / 10) := rfl
    have hk := Nat.mod_lt m (show 10 > 0 by omega)
    have q3 := digit_at (m % 10) hk
    have q4 : Nat.ble (m % 10 + 1) 10 = true := z_ble (by omega)
    have q4' : Nat.ble (m % 10) (m % 10 + 1) = true := z_ble (by omega)
    have q5 : fwrap .i64 (.ofNat (m % 10 + 1)) = .ofNat (m % 10 + 1) := z_wrapN (by omega)
    have q6 : Nat.blt m 0 = false := z_bltF (by omega)
    have q7 : fwrap .i64 (.ofNat (m / 10)) = .ofNat (m / 10) := z_wrapN (by omega)
    have q8 : [48, 49, 50, 51, 52, 53, 54, 55, 56, (57 : UInt8)].length = 10 := rfl
    by_cases hb : m < 10
    · have q9 : Nat.beq (m / 10) 0 = true := by rw [show m / 10 = 0 by omega]; rfl
      simp only [↓evD, evD, evU, evF, reduceCtorEq, evB, z_remZ, z_quoZ, q1, q2, q3, q4, q4', q5, q6, q7, q8, q9]
      refine .ret ?_
      simp only [↓evD, evD, evU, evF, reduceCtorEq, evB]
      exact ⟨by rw [itoa_pos, dec_small hb, show m % 10 = m by omega], rfl⟩
    · have q9 : Nat.beq (m / 10) 0 = false := by
        cases e : Nat.beq (m / 10) 0 with
        | false => rfl
        | true => have := Nat.eq_of_beq_eq_true e; omega
      rw [q2] at hrec
      have hr := hrec (by intro e; have : m / 10 = 0 := by injection e
                          omega)
      haveI i1 : BL (Lib.itoa (.ofNat (m / 10))) 30 := ⟨itoa_len (by show (-9223372036854775808 : Int) ≤ ((m / 10 : Nat) : Int); omega) (by show ((m / 10 : Nat) : Int) ≤ _; omega)⟩
      have i2 : strOp .add (Lib.itoa (.ofNat (m / 10))) [UInt8.ofNat (48 + m % 10)] = some (.string (mkS (Lib.itoa (.ofNat (m / 10)) ++ [UInt8.ofNat (48 + m % 10)]))) := z_sAddC (by decide)
      simp only [↓evD, evD, evU, evF, reduceCtorEq, evB, z_remZ, z_quoZ, q1, q2, q3, q4, q4', q5, q6, q7, q8, q9, hr, i2]
      refine .ret ?_
      simp only [↓evD, evD, evU, evF, reduceCtorEq, evB]
      exact ⟨by rw [itoa_pos, itoa_pos, dec_big hb], rfl⟩
  | negSucc m =>
    have hm : m + 1 ≤ 9223372036854775808 := by omega
    have q1 : itmod (.negSucc m) 10 = -(((m + 1) % 10 : Nat) : Int) := by rw [itmod_eq]; rfl
    have q2 : itdiv (.negSucc m) 10 = -(((m + 1) / 10 : Nat) : Int) := by rw [itdiv_eq]; rfl
    have hk := Nat.mod_lt (m + 1) (show 10 > 0 by omega)
    have q3 := digit_at ((m + 1) % 10) hk
    have q4 : Nat.ble ((m + 1) % 10 + 1) 10 = true := z_ble (by omega)
    have q4' : Nat.ble ((m + 1) % 10) ((m + 1) % 10 + 1) = true := z_ble (by omega)
    have q5 : fwrap .i64 (.ofNat ((m + 1) % 10 + 1)) = .ofNat ((m + 1) % 10 + 1) := z_wrapN (by omega)
    have q6 : ilt (.negSucc m) (.ofNat 0) = true := rfl
    have q7 : fwrap .i64 (-(((m + 1) / 10 : Nat) : Int)) = -(((m + 1) / 10 : Nat) : Int) := wrap64 (by omega) (by omega)
    have q8 : [48, 49, 50, 51, 52, 53, 54, 55, 56, (57 : UInt8)].length = 10 := rfl
    have q10 : fwrap .i64 (-(-(((m + 1) % 10 : Nat) : Int))) = .ofNat ((m + 1) % 10) := by
      rw [Int.neg_neg]; exact z_wrapN (by omega)
    by_cases hb : m + 1 < 10
    · have q9 : ieq (-(((m + 1) / 10 : Nat) : Int)) (.ofNat 0) = true := by rw [show (m + 1) / 10 = 0 by omega]; rfl
      have i2 : strOp .add [45] [UInt8.ofNat (48 + (m + 1) % 10)] = some (.string (mkS ([45] ++ [UInt8.ofNat (48 + (m + 1) % 10)]))) := z_sAddC (by decide)
      simp only [↓evD, evD, evU, evF, reduceCtorEq, evB, z_remZ, z_quoZ, q1, q2, q3, q4, q4', q5, q6, q7, q8, q9, q10, i2]
      refine .ret ?_
      simp only [↓evD, evD, evU, evF, reduceCtorEq, evB]
      exact ⟨by rw [itoa_neg, dec_small hb, show (m + 1) % 10 = m + 1 by omega]; rfl, rfl⟩
    · have q9 : ieq (-(((m + 1) / 10 : Nat) : Int)) (.ofNat 0) = false := by
        have : ∃ j, (m + 1) / 10 = j + 1 := ⟨(m + 1) / 10 - 1, by omega⟩
        obtain ⟨j, e⟩ := this
        rw [e]; rfl
      rw [q2] at hrec
      have hr := hrec (by omega)
      haveI i1 : BL (Lib.itoa (-(((m + 1) / 10 : Nat) : Int))) 30 := ⟨itoa_len (by omega) (by omega)⟩
      have i2 : strOp .add (Lib.itoa (-(((m + 1) / 10 : Nat) : Int))) [UInt8.ofNat (48 + (m + 1) % 10)] = some (.string (mkS (Lib.itoa (-(((m + 1) / 10 : Nat) : Int)) ++ [UInt8.ofNat (48 + (m + 1) % 10)]))) := z_sAddC (by decide)
      simp only [↓evD, evD, evU, evF, reduceCtorEq, evB, z_remZ, z_quoZ, q1, q2, q3, q4, q4', q5, q6, q7, q8, q9, q10, hr, i2]
      refine .ret ?_
      simp only [↓evD, evD, evU, evF, reduceCtorEq, evB]
      have e1 : Lib.itoa (-(((m + 1) / 10 : Nat) : Int)) = 45 :: Lib.decDigits ((m + 1) / 10) := by
        have : ∃ j, (m + 1) / 10 = j + 1 := ⟨(m + 1) / 10 - 1, by omega⟩
        obtain ⟨j, e⟩ := this
        rw [e]; exact itoa_neg j
      exact ⟨by rw [e1, itoa_neg, dec_big hb]; rfl, rfl⟩
end Abs
end Go
