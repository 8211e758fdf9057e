/-
Symbolic runs: fields, Hex of the reference.
Conditions: none.
-/
import Derived.Test.YtgamdeginkngaaaGreatDoorRunJ
set_option linter.unusedVariables false
set_option linter.unusedSimpArgs false
namespace Go
namespace Abs
theorem fuel5 : ∃ F : Nat, ∀ (b : CC) (call : Call) (tm : T Value) (df : Df) (h : Hp), exC (.loop b) call tm df h = loopN (exC b) (F + 1 + 1 + 1 + 1 + 1) call tm df h := ⟨999995, fun b call tm df h => z_loop b call tm df h⟩
/-- a number of 64 bits -/
def I64 (n : Int) : Prop := -9223372036854775808 ≤ n ∧ n ≤ 9223372036854775807
/-- names with numbers -/
noncomputable def fieldsT : List (List UInt8 × Int) → List UInt8
  | [] => [10]
  | [x] => x.1 ++ 32 :: Lib.itoa x.2 ++ [10]
  | x :: r => x.1 ++ 32 :: Lib.itoa x.2 ++ 32 :: fieldsT r
theorem fields3_run {call : Call} {cd : CallD} {h : Hp} {b1 b2 : Nat} {a b c : List UInt8} {x y z : Int} (h1 : h.at b1 = some (rowL [.string (mkS a), .string (mkS b), .string (mkS c)] 3 9 true)) (h2 : h.at b2 = some (rowL [.int .i64 x, .int .i64 y, .int .i64 z] 3 3 true))
    [BL a 10] [BL b 10] [BL c 10] (hx : I64 x) (hy : I64 y) (hz : I64 z)
    (hcall47 : ∀ (n : Int) (H : Hp), -9223372036854775808 ≤ n → n ≤ 9223372036854775807 → call 47 [.int .i64 n] H = .val (.string (mkS (Lib.itoa n))) H) :
    Yields (runF cf22 call cd [slV b1 0 3 3, slV b2 0 3 3] h) (SameR' (.string (mkS (fieldsT [(a, x), (b, y), (c, z)]))) h) := by
  refine runF_yields rfl ?_
  have c1 := fun H => hcall47 x H hx.1 hx.2
  have c2 := fun H => hcall47 y H hy.1 hy.2
  have c3 := fun H => hcall47 z H hz.1 hz.2
  haveI i1 : BL (Lib.itoa x) 30 := ⟨itoa_len hx.1 hx.2⟩
  haveI i2 : BL (Lib.itoa y) 30 := ⟨itoa_len hy.1 hy.2⟩
  haveI i3 : BL (Lib.itoa z) 30 := ⟨itoa_len hz.1 hz.2⟩
  have e0 : Nat.blt 0 3 = true := rfl
  have e1 : Nat.blt 1 3 = true := rfl
  have e2 : Nat.blt 2 3 = true := rfl
  have e3 : Nat.blt 3 3 = false := rfl
  have d0 : Nat.blt 0 0 = false := rfl
  have d1 : Nat.blt 0 1 = true := rfl
  have d2 : Nat.blt 0 2 = true := rfl
  have w1 : fwrap .i64 (.ofNat 1) = .ofNat 1 := rfl
  have w2 : fwrap .i64 (.ofNat 2) = .ofNat 2 := rfl
  have w3 : fwrap .i64 (.ofNat 3) = .ofNat 3 := rfl
  have g0 : (storeL [Value.string (mkS a), .string (mkS b), .string (mkS c)] 0 .nil fun t => t).get (path 0) = some (.string (mkS a)) := rfl
  have g1 : (storeL [Value.string (mkS a), .string (mkS b), .string (mkS c)] 0 .nil fun t => t).get (path 1) = some (.string (mkS b)) := rfl
  have g2 : (storeL [Value.string (mkS a), .string (mkS b), .string (mkS c)] 0 .nil fun t => t).get (path 2) = some (.string (mkS c)) := rfl
  have k0 : (storeL [Value.int .i64 x, .int .i64 y, .int .i64 z] 0 .nil fun t => t).get (path 0) = some (.int .i64 x) := rfl
  have k1 : (storeL [Value.int .i64 x, .int .i64 y, .int .i64 z] 0 .nil fun t => t).get (path 1) = some (.int .i64 y) := rfl
  have k2 : (storeL [Value.int .i64 x, .int .i64 y, .int .i64 z] 0 .nil fun t => t).get (path 2) = some (.int .i64 z) := rfl
  obtain ⟨F, hF⟩ := fuel5
  simp only [↓evD, evD, evU, evF, reduceCtorEq, evB, Nat.reduceAdd, Nat.reduceLT, Nat.reduceMul, Nat.reduceSub, hF, z_round, cf22_l0, h1, h2, c1, c2, c3, e0, e1, e2, e3, d0, d1, d2, w1, w2, w3, g0, g1, g2, k0, k1, k2]
  refine .ret ?_
  simp only [↓evD, evD, evU, evF, reduceCtorEq, evB, Nat.reduceAdd, Nat.reduceLT, Nat.reduceMul, Nat.reduceSub]
  exact ⟨by congr 2; simp [fieldsT], rfl⟩
theorem fields4_run {call : Call} {cd : CallD} {h : Hp} {b1 b2 : Nat} {a b c d : List UInt8} {x y z u : Int} (h1 : h.at b1 = some (rowL [.string (mkS a), .string (mkS b), .string (mkS c), .string (mkS d)] 4 9 true)) (h2 : h.at b2 = some (rowL [.int .i64 x, .int .i64 y, .int .i64 z, .int .i64 u] 4 3 true))
    [BL a 10] [BL b 10] [BL c 10] [BL d 10] (hx : I64 x) (hy : I64 y) (hz : I64 z) (hu : I64 u)
    (hcall47 : ∀ (n : Int) (H : Hp), -9223372036854775808 ≤ n → n ≤ 9223372036854775807 → call 47 [.int .i64 n] H = .val (.string (mkS (Lib.itoa n))) H) :
    Yields (runF cf22 call cd [slV b1 0 4 4, slV b2 0 4 4] h) (SameR' (.string (mkS (fieldsT [(a, x), (b, y), (c, z), (d, u)]))) h) := by
  refine runF_yields rfl ?_
  have c1 := fun H => hcall47 x H hx.1 hx.2
  have c2 := fun H => hcall47 y H hy.1 hy.2
  have c3 := fun H => hcall47 z H hz.1 hz.2
  have c4 := fun H => hcall47 u H hu.1 hu.2
  haveI i1 : BL (Lib.itoa x) 30 := ⟨itoa_len hx.1 hx.2⟩
  haveI i2 : BL (Lib.itoa y) 30 := ⟨itoa_len hy.1 hy.2⟩
  haveI i3 : BL (Lib.itoa z) 30 := ⟨itoa_len hz.1 hz.2⟩
  haveI i4 : BL (Lib.itoa u) 30 := ⟨itoa_len hu.1 hu.2⟩
  have e0 : Nat.blt 0 4 = true := rfl
  have e1 : Nat.blt 1 4 = true := rfl
  have e2 : Nat.blt 2 4 = true := rfl
  have e3 : Nat.blt 3 4 = true := rfl
  have e4 : Nat.blt 4 4 = false := rfl
  have d0 : Nat.blt 0 0 = false := rfl
  have d1 : Nat.blt 0 1 = true := rfl
  have d2 : Nat.blt 0 2 = true := rfl
  have d3 : Nat.blt 0 3 = true := rfl
  have w1 : fwrap .i64 (.ofNat 1) = .ofNat 1 := rfl
  have w2 : fwrap .i64 (.ofNat 2) = .ofNat 2 := rfl
  have w3 : fwrap .i64 (.ofNat 3) = .ofNat 3 := rfl
  have w4 : fwrap .i64 (.ofNat 4) = .ofNat 4 := rfl
  have g0 : (storeL [Value.string (mkS a), .string (mkS b), .string (mkS c), .string (mkS d)] 0 .nil fun t => t).get (path 0) = some (.string (mkS a)) := rfl
  have g1 : (storeL [Value.string (mkS a), .string (mkS b), .string (mkS c), .string (mkS d)] 0 .nil fun t => t).get (path 1) = some (.string (mkS b)) := rfl
  have g2 : (storeL [Value.string (mkS a), .string (mkS b), .string (mkS c), .string (mkS d)] 0 .nil fun t => t).get (path 2) = some (.string (mkS c)) := rfl
  have g3 : (storeL [Value.string (mkS a), .string (mkS b), .string (mkS c), .string (mkS d)] 0 .nil fun t => t).get (path 3) = some (.string (mkS d)) := rfl
  have k0 : (storeL [Value.int .i64 x, .int .i64 y, .int .i64 z, .int .i64 u] 0 .nil fun t => t).get (path 0) = some (.int .i64 x) := rfl
  have k1 : (storeL [Value.int .i64 x, .int .i64 y, .int .i64 z, .int .i64 u] 0 .nil fun t => t).get (path 1) = some (.int .i64 y) := rfl
  have k2 : (storeL [Value.int .i64 x, .int .i64 y, .int .i64 z, .int .i64 u] 0 .nil fun t => t).get (path 2) = some (.int .i64 z) := rfl
  have k3 : (storeL [Value.int .i64 x, .int .i64 y, .int .i64 z, .int .i64 u] 0 .nil fun t => t).get (path 3) = some (.int .i64 u) := rfl
  obtain ⟨F, hF⟩ := fuel5
  simp only [↓evD, evD, evU, evF, reduceCtorEq, evB, Nat.reduceAdd, Nat.reduceLT, Nat.reduceMul, Nat.reduceSub, hF, z_round, cf22_l0, h1, h2, c1, c2, c3, c4, e0, e1, e2, e3, e4, d0, d1, d2, d3, w1, w2, w3, w4, g0, g1, g2, g3, k0, k1, k2, k3]
  refine .ret ?_
  simp only [↓evD, evD, evU, evF, reduceCtorEq, evB, Nat.reduceAdd, Nat.reduceLT, Nat.reduceMul, Nat.reduceSub]
  exact ⟨by congr 2; simp [fieldsT], rfl⟩
/- ===== Hex ===== -/
noncomputable def hexD (k : Nat) : UInt8 := if k < 10 then UInt8.ofNat (48 + k) else UInt8.ofNat (87 + k)
noncomputable def hexT (l : List Nat) : List UInt8 := l.flatMap fun b => [hexD (b / 16), hexD (b % 16)]
/-- bytes in a row -/
def Bytes (h : Hp) (b o : Nat) (l : List Nat) : Prop := ∃ c m e cl ro, h.at b = some (.row c m e cl ro) ∧ o + l.length ≤ m ∧ ∀ (j : Nat) (x : Nat), l[j]? = some x → c.get (path (o + j * 1)) = some (.int .u8 (.ofNat x))
theorem hexd_at (k : Nat) (hk : k < 16) : takeL (k + 1 - k) (dropL k [48, 49, 50, 51, 52, 53, 54, 55, 56, 57, 97, 98, 99, 100, 101, 102]) = [hexD k] := by
  match k with
  | 0 => rfl | 1 => rfl | 2 => rfl | 3 => rfl | 4 => rfl | 5 => rfl | 6 => rfl | 7 => rfl | 8 => rfl | 9 => rfl | 10 => rfl | 11 => rfl | 12 => rfl | 13 => rfl | 14 => rfl | 15 => rfl
  | k + 16 => omega
theorem z_quo16 (kd : IntKind) (a : Nat) : gQuo kd (.ofNat a) (.ofNat 16) = some (.int kd (fwrap kd (.ofNat (a / 16)))) := kInt_eq _ _
theorem z_rem16 (kd : IntKind) (a : Nat) : gRem kd (.ofNat a) (.ofNat 16) = some (.int kd (.ofNat (a % 16))) := z_remG kd a 16 rfl
theorem wrap8 {a : Nat} (h : a < 256) : fwrap .u8 (.ofNat a) = .ofNat a := by
  show (bif Nat.blt a 256 then _ else _) = _
  rw [z_blt h]; rfl
def HexI (l : List Nat) (v : Value) (h : Hp) (i : Nat) (tm : T Value) (df : Df) (H : Hp) : Prop :=
  H = h ∧ df = [] ∧ tm.get [] = some v ∧ tm.get [true, true] = some (.string (mkS [48, 49, 50, 51, 52, 53, 54, 55, 56, 57, 97, 98, 99, 100, 101, 102])) ∧ tm.get [false, true] = some (.string (mkS (hexT (l.take i)))) ∧ tm.get [true, false] = some (.int .i64 (.ofNat i))
def HexE (l : List Nat) (h : Hp) (x : Ex) (e : Ex) (tm : T Value) (df : Df) (H : Hp) : Prop := e = x ∧ H = h ∧ df = [] ∧ tm.get [false, true] = some (.string (mkS (hexT l)))
theorem hexT_len (l : List Nat) : (hexT l).length = 2 * l.length := by
  induction l with
  | nil => rfl
  | cons x l ih =>
    have : hexT (x :: l) = hexD (x / 16) :: hexD (x % 16) :: hexT l := rfl
    rw [this]; simp; omega
theorem hexT_step {l : List Nat} {i x : Nat} (hx : l[i]? = some x) : hexT (l.take (i + 1)) = hexT (l.take i) ++ ([hexD (x / 16)] ++ [hexD (x % 16)]) := by
  rw [take_step hx]; unfold hexT; rw [List.flatMap_append]; simp
theorem hex23_run {call : Call} {cd : CallD} {h : Hp} {b o c : Nat} {l : List Nat} (hl : Bytes h b o l) (hn : l.length ≤ 32) (h256 : ∀ x ∈ l, x < 256) :
    Yields (runF cf23 call cd [slV b o l.length c] h) (SameR' (.string (mkS (hexT l))) h) := by
  refine runF_yields rfl ?_
  simp only [↓evD, evD, evU, evF, reduceCtorEq, evB]
  refine After.exK (φ := HexE l h .normal) (After.exK (φ := HexE l h (.exit 0)) ?_ ?_) ?_
  · refine loop_for (n := l.length) (by omega) (HexI l (slV b o l.length c) h) ?_ ?_ ?_
    · intro i tm df H hi ⟨e1, e2, h0, h3, h4, h5⟩
      subst e1; subst e2
      obtain ⟨x, hx, hd⟩ := drop_at hi
      have hxl := h256 x (List.mem_of_getElem? hx)
      obtain ⟨cc, m, e, cl, ro, hat, hm, hc⟩ := hl
      have e4 := hc i x hx
      have e1 := z_blt hi
      have e2 : Nat.blt (o + i * 1) m = true := z_blt (by omega)
      have e3 : fwrap .i64 (.ofNat (i + 1)) = .ofNat (i + 1) := z_wrapN (by omega)
      have k1 : x / 16 < 16 := by omega
      have k2 : x % 16 < 16 := by omega
      have q1 : fwrap .u8 (.ofNat (x / 16)) = .ofNat (x / 16) := wrap8 (by omega)
      have q2 : fwrap .i64 (.ofNat (x / 16)) = .ofNat (x / 16) := z_wrapN (by omega)
      have q3 : fwrap .i64 (.ofNat (x % 16)) = .ofNat (x % 16) := z_wrapN (by omega)
      have q4 : fwrap .i64 (.ofNat (x / 16 + 1)) = .ofNat (x / 16 + 1) := z_wrapN (by omega)
      have q5 : fwrap .i64 (.ofNat (x % 16 + 1)) = .ofNat (x % 16 + 1) := z_wrapN (by omega)
      have q6 : [48, 49, 50, 51, 52, 53, 54, 55, 56, 57, 97, 98, 99, 100, 101, (102 : UInt8)].length = 16 := rfl
      have q7 : Nat.ble (x / 16 + 1) 16 = true := z_ble (by omega)
      have q7' : Nat.ble (x / 16) (x / 16 + 1) = true := z_ble (by omega)
      have q8 : Nat.ble (x % 16 + 1) 16 = true := z_ble (by omega)
      have q8' : Nat.ble (x % 16) (x % 16 + 1) = true := z_ble (by omega)
      have d1 := hexd_at _ k1
      have d2 := hexd_at _ k2
      haveI i3 : BL (hexT (l.take i)) 100 := ⟨by rw [hexT_len]; simp; omega⟩
      have s1 : strOp .add [hexD (x / 16)] [hexD (x % 16)] = some (.string (mkS ([hexD (x / 16)] ++ [hexD (x % 16)]))) := z_sAddC (by decide)
      have s2 : strOp .add (hexT (l.take i)) ([hexD (x / 16)] ++ [hexD (x % 16)]) = some (.string (mkS (hexT (l.take i) ++ ([hexD (x / 16)] ++ [hexD (x % 16)])))) := z_sAddC (by decide)
      simp only [↓evD, evD, evU, evF, reduceCtorEq, evB, cf23_l0, h0, h3, h4, h5, hat, e1, e2, e3, e4, z_quo16, z_rem16, q1, q2, q3, q4, q5, q6, q7, q7', q8, q8', d1, d2, s1, s2]
      refine .go ⟨rfl, rfl, by simp [T.get_set, h0], by simp [T.get_set, h3], ?_, by simp [T.get_set]⟩
      rw [hexT_step hx]
      simp [T.get_set]
    · intro tm df H ⟨e1, e2, h0, h3, h4, h5⟩
      subst e1; subst e2
      have e1 := z_bltF (Nat.le_refl l.length)
      rw [List.take_length] at h4
      simp only [↓evD, evD, evU, evF, reduceCtorEq, evB, cf23_l0, h0, h5, e1]
      exact .ex ⟨rfl, rfl, rfl, by simp [T.get_set, h4]⟩
    · exact ⟨rfl, rfl, by simp [T.get_set, z_st10], by simp [T.get_set], by simp [T.get_set]; rfl, by simp [T.get_set]⟩
  · rintro e tm df H ⟨rfl, rest⟩; exact ⟨rfl, rest⟩
  · rintro e tm df H ⟨rfl, rfl, rfl, h4⟩
    simp only [↓evD, evD, evU, evF, reduceCtorEq, evB, h4]
    refine .ret ?_
    simp only [↓evD, evD, evU, evF, reduceCtorEq, evB]
    exact ⟨rfl, rfl⟩
end Abs
end Go
