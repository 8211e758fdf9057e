/-
Symbolic runs: words, and the function that adds a block to a sum.
Conditions: none.
-/
import Derived.Test.YtkondgccabcabaaGreatDoorRunC
import Derived.Test.YtkondgccabcabaaGreatDoorRunLit
set_option linter.unusedVariables false
set_option linter.unusedSimpArgs false
/- Symbolic runs: words of 32 bits. -/
namespace Go
namespace Abs
theorem z_shift (g : G) (x y : OD) (lo : List Value) (tm : T Value) : oShift g x y lo tm = vInt (rdO x lo tm) (fun kd a => vInt (rdO y lo tm) (fun _ b => g kd a b) none) none := rfl
theorem z_wrapU {k : IntKind} {m : Nat} (hm : modu k = m) (hh : half k = m) (h0 : 0 < m) (a : Nat) : fwrap k (.ofNat a) = .ofNat (a % m) := by
  show (bif Nat.blt a (half k) then Int.ofNat a else fin (modu k) (half k) (Nat.mod a (modu k))) = _
  rw [hm, hh]
  cases h : Nat.blt a m with
  | true => rw [cond_true, Nat.mod_eq_of_lt (Nat.blt_eq.mp h)]
  | false =>
    rw [cond_false]
    unfold fin
    rw [show Nat.blt (Nat.mod a m) m = true from Nat.blt_eq.mpr (Nat.mod_lt a h0), cond_true]
    rfl
theorem z_wrap32 (a : Nat) : fwrap .u32 (.ofNat a) = .ofNat (a % 4294967296) := z_wrapU (m := 4294967296) rfl rfl (by decide) a
theorem z_wrap8 (a : Nat) : fwrap .u8 (.ofNat a) = .ofNat (a % 256) := z_wrapU (m := 256) rfl rfl (by decide) a
theorem z_wrap64 (a : Nat) : fwrap .u64 (.ofNat a) = .ofNat (a % 18446744073709551616) := z_wrapU (m := 18446744073709551616) rfl rfl (by decide) a
theorem z_add32 (a b : Nat) : gAdd .u32 (.ofNat a) (.ofNat b) = some (.int .u32 (.ofNat ((a + b) % 4294967296))) := by rw [z_add, z_iaddN, z_wrap32]
theorem z_nn {f : Nat → Nat → Nat} {k : IntKind} {a b : Nat} (h : f a b < half k) : nn f k (.ofNat a) (.ofNat b) = some (.int k (.ofNat (f a b))) := by
  show (forceNat (f a b) fun c => bif Nat.blt c (half k) then some (Value.int k (.ofNat c)) else none) = _
  rw [forceNat_eq, z_blt h]; rfl
theorem lor32 {a b : Nat} (ha : a < 4294967296) (hb : b < 4294967296) : Nat.lor a b < 4294967296 := Nat.or_lt_two_pow (n := 32) ha hb
theorem lxor32 {a b : Nat} (ha : a < 4294967296) (hb : b < 4294967296) : Nat.xor a b < 4294967296 := Nat.xor_lt_two_pow (n := 32) ha hb
theorem land32 {a b : Nat} (ha : a < 4294967296) : Nat.land a b < 4294967296 := Nat.lt_of_le_of_lt Nat.and_le_left ha
theorem z_or32 {a b : Nat} (ha : a < 4294967296) (hb : b < 4294967296) : nn Nat.lor .u32 (.ofNat a) (.ofNat b) = some (.int .u32 (.ofNat (Nat.lor a b))) := z_nn (lor32 ha hb)
theorem z_xor32 {a b : Nat} (ha : a < 4294967296) (hb : b < 4294967296) : nn Nat.xor .u32 (.ofNat a) (.ofNat b) = some (.int .u32 (.ofNat (Nat.xor a b))) := z_nn (lxor32 ha hb)
theorem z_and32 {a b : Nat} (ha : a < 4294967296) : nn Nat.land .u32 (.ofNat a) (.ofNat b) = some (.int .u32 (.ofNat (Nat.land a b))) := z_nn (land32 ha)
theorem z_shl32 (a k : Nat) : gShl .u32 (.ofNat a) (.ofNat k) = some (.int .u32 (.ofNat (a * 2 ^ nmin k 32 % 4294967296))) := by
  show kInt .u32 (fwrap .u32 (ishl (.ofNat a) (nmin k 32))) = _
  rw [kInt_eq, show ishl (.ofNat a) (nmin k 32) = .ofNat (a * 2 ^ nmin k 32) from rfl, z_wrap32]
theorem z_shr32 (a k : Nat) : gShr .u32 (.ofNat a) (.ofNat k) = some (.int .u32 (.ofNat (a / 2 ^ nmin k 32))) := by
  show kInt .u32 (ishr (.ofNat a) (nmin k 32)) = _
  rw [kInt_eq]; rfl
theorem mod32 (a : Nat) : a % 4294967296 < 4294967296 := Nat.mod_lt _ (by omega)
theorem shr32 {a k : Nat} (ha : a < 4294967296) : a / k < 4294967296 := Nat.lt_of_le_of_lt (Nat.div_le_self _ _) ha
theorem not32 {a : Nat} : 4294967295 - a < 4294967296 := by omega
theorem z_not32 (x : OD) (lo : List Value) (tm : T Value) : oXor x lo tm = vInt (rdO x lo tm) (fun kd a => bif isSigned kd then none else natI a (fun a => bif Nat.blt a (modu kd) then some (.int kd (.ofNat (modu kd - 1 - a))) else none) none) none := by
  unfold oXor
  simp only [kNat_eq]
  rfl
theorem z_subN {a b : Nat} (h : b ≤ a) (ha : a < 9223372036854775808) : gSub .i64 (.ofNat a) (.ofNat b) = some (.int .i64 (.ofNat (a - b))) := by
  rw [z_sub]
  have e : (Int.ofNat a - Int.ofNat b : Int) = Int.ofNat (a - b) := by
    show (a : Int) - (b : Int) = ((a - b : Nat) : Int)
    omega
  rw [e, z_wrapN (by omega)]
/-- a word, turned -/
def rorM (x n : Nat) : Nat := Nat.lor (x / 2 ^ nmin n 32) (x * 2 ^ nmin (32 - n) 32 % 4294967296)
theorem ror32 {x n : Nat} (hx : x < 4294967296) : rorM x n < 4294967296 := lor32 (shr32 hx) (mod32 _)
end Abs
end Go
/- Symbolic runs: a word is turned. -/
namespace Go
namespace Abs
theorem ror_run {call : Call} {cd : CallD} {h : Hp} {x n : Nat} (hx : x < 4294967296) (hn : n ≤ 32) :
    runF cf25 call cd [.int .u32 (.ofNat x), .int .i64 (.ofNat n)] h = .val (.int .u32 (.ofNat (rorM x n))) h := by
  have key : Yields (runF cf25 call cd [.int .u32 (.ofNat x), .int .i64 (.ofNat n)] h) (fun v H => v = .int .u32 (.ofNat (rorM x n)) ∧ H = h) := by
    refine runF_yields rfl ?_
    simp only [↓evD, evD, evU, evF, reduceCtorEq, evB, z_shift, z_shr32, z_shl32, z_subN hn (by decide : 32 < 9223372036854775808), z_or32 (shr32 hx) (mod32 _)]
    refine .ret ?_
    simp only [↓evD, evD, evU, evF, reduceCtorEq, evB]
    rfl
  obtain ⟨v, H, e, rfl, rfl⟩ := key.get
  exact e
theorem sb_put {h : Hp} {b : Nat} {o : Option AObj} (hb : h.base ≤ b) : setBase (h.put b o) h.base h.log = h.put b o := by
  have h1 := z_put_log (o := o) hb
  have h2 := z_put_base h b o
  calc setBase (h.put b o) h.base h.log = setBase (h.put b o) (h.put b o).base (h.put b o).log := by rw [h1, h2]
    _ = h.put b o := z_sb_self _
theorem z_logs {n b : Nat} (h : b < n) : logs n [] b = [b] := by
  unfold logs; rw [z_blt h]; rfl
theorem z_bel1 {n b : Nat} (h : n ≤ b) (l : List Nat) : below n [b] l = l := by
  show (bif Nat.blt b n then b :: l else l) = l
  rw [z_bltF h]; rfl
theorem z_beqF {a b : Nat} (h : a ≠ b) : Nat.beq a b = false := by
  cases e : Nat.beq a b with
  | false => rfl
  | true => exact absurd (Nat.eq_of_beq_eq_true e) h
/- ===== typed cells ===== -/
/-- a row of words -/
def RowT (m : Nat) (e : TypeId) (o : Option AObj) : Prop := ∃ c cl, o = some (.row c m e cl false) ∧ ∀ k, k < m → ∃ n, n < 4294967296 ∧ c.get (path k) = some (.int .u32 (.ofNat n))
/-- bytes from a place on -/
def ByT (h : Hp) (b o n : Nat) : Prop := ∃ c m e cl ro, h.at b = some (.row c m e cl ro) ∧ o + n ≤ m ∧ ∀ k, k < n → ∃ x, x < 256 ∧ c.get (path (o + k)) = some (.int .u8 (.ofNat x))
/-- all but one block stands as it stood -/
structure Else (b : Nat) (h H : Hp) : Prop where
  base : H.base = h.base
  log : H.log = h.log
  next : H.next = h.next
  at_ : ∀ c, c ≠ b → H.at c = h.at c
theorem Else.refl (b : Nat) (h : Hp) : Else b h h := ⟨rfl, rfl, rfl, fun _ _ => rfl⟩
theorem Else.put {b : Nat} {h H : Hp} (hE : Else b h H) (hb : h.base ≤ b) (o : Option AObj) : Else b h (H.put b o) :=
  ⟨(z_put_base _ _ _).trans hE.base, (z_put_log (by rw [hE.base]; exact hb)).trans hE.log, (z_put_next _ _ _).trans hE.next, fun c hc => by rw [z_at_put, if_neg (fun e => hc e.symm)]; exact hE.at_ c hc⟩
theorem RowT.set {m : Nat} {e : TypeId} {o : Option AObj} (h : RowT m e o) {k n : Nat} (hk : k < m) (hn : n < 4294967296) : ∃ c cl, o = some (.row c m e cl false) ∧ (∀ k, k < m → ∃ n, n < 4294967296 ∧ c.get (path k) = some (.int .u32 (.ofNat n))) ∧
    RowT m e (some (.row (storeL [.int .u32 (.ofNat n)] k c fun t => t) m e cl false)) := by
  obtain ⟨c, cl, h1, h2⟩ := h
  refine ⟨c, cl, h1, h2, _, cl, rfl, fun j hj => ?_⟩
  rw [z_stget]
  by_cases e : k = j
  · subst e
    exact ⟨n, hn, by rw [if_pos ⟨Nat.le_refl _, by simp⟩, Nat.sub_self]; rfl⟩
  · rw [if_neg (by simp; omega)]
    exact h2 j hj
/-- the first words -/
structure B3 (bs bb o l cp b4 : Nat) (h : Hp) (i : Nat) (tm : T Value) (df : Df) (H : Hp) : Prop where
  df : df = []
  t0 : tm.get [] = some (ptrV bs 0)
  t1 : tm.get [true] = some (slV bb o l cp)
  t4 : tm.get [false, true] = some (ptrV b4 0)
  t25 : tm.get [true, false, true, false] = some (.int .i64 (.ofNat i))
  els : Else b4 h H
  row : RowT 64 87 (H.at b4)
theorem block_l3 {call : Call} {h h0 : Hp} {bs bb o l cp b4 : Nat} (hl : 64 ≤ l) (hb : ByT h bb o 64) (hne : bb ≠ b4) (hb4 : h.base ≤ b4) (hn4 : b4 < h.next) {tm : T Value} {df : Df} {H : Hp} (h0 : B3 bs bb o l cp b4 h 0 tm df H) :
    After (exC (.loop cf13_l3) call tm df H) (fun e tm df H => e = .exit 0 ∧ B3 bs bb o l cp b4 h 16 tm df H) := by
  obtain ⟨cb, mb, eb, clb, rob, hat, hm, hc⟩ := hb
  refine loop_for (n := 16) (by decide) (B3 bs bb o l cp b4 h) (fun i tm df H hi hI => ?_) (fun tm df H hI => ?_) h0
  · obtain ⟨hdf, h0, h1, h4, h25, hels, hrow⟩ := hI
    subst hdf
    obtain ⟨x0, hx0, c0⟩ := hc (4 * i) (by omega)
    obtain ⟨x1, hx1, c1⟩ := hc (4 * i + 1) (by omega)
    obtain ⟨x2, hx2, c2⟩ := hc (4 * i + 2) (by omega)
    obtain ⟨x3, hx3, c3⟩ := hc (4 * i + 3) (by omega)
    have hatb : H.at bb = some (.row cb mb eb clb rob) := by rw [hels.at_ bb hne]; exact hat
    have e1 : Nat.blt i 16 = true := z_blt hi
    have m0 : gMul .i64 (.ofNat 4) (.ofNat i) = some (.int .i64 (.ofNat (4 * i))) := by
      unfold gMul
      rw [kInt_eq, show imul (.ofNat 4) (.ofNat i) = .ofNat (4 * i) from rfl, z_wrapN (by omega)]
    have w1 : fwrap .i64 (.ofNat (4 * i + 1)) = .ofNat (4 * i + 1) := z_wrapN (by omega)
    have w2 : fwrap .i64 (.ofNat (4 * i + 2)) = .ofNat (4 * i + 2) := z_wrapN (by omega)
    have w3 : fwrap .i64 (.ofNat (4 * i + 3)) = .ofNat (4 * i + 3) := z_wrapN (by omega)
    have w4 : fwrap .i64 (.ofNat (i + 1)) = .ofNat (i + 1) := z_wrapN (by omega)
    have l0 : Nat.blt (4 * i) l = true := z_blt (by omega)
    have l1 : Nat.blt (4 * i + 1) l = true := z_blt (by omega)
    have l2 : Nat.blt (4 * i + 2) l = true := z_blt (by omega)
    have l3 : Nat.blt (4 * i + 3) l = true := z_blt (by omega)
    have b0 : Nat.blt (o + 4 * i) mb = true := z_blt (by omega)
    have b1 : Nat.blt (o + (4 * i + 1)) mb = true := z_blt (by omega)
    have b2 : Nat.blt (o + (4 * i + 2)) mb = true := z_blt (by omega)
    have b3 : Nat.blt (o + (4 * i + 3)) mb = true := z_blt (by omega)
    have f0 : fwrap .u32 (.ofNat x0) = .ofNat x0 := by rw [z_wrap32, Nat.mod_eq_of_lt (by omega)]
    have f1 : fwrap .u32 (.ofNat x1) = .ofNat x1 := by rw [z_wrap32, Nat.mod_eq_of_lt (by omega)]
    have f2 : fwrap .u32 (.ofNat x2) = .ofNat x2 := by rw [z_wrap32, Nat.mod_eq_of_lt (by omega)]
    have f3 : fwrap .u32 (.ofNat x3) = .ofNat x3 := by rw [z_wrap32, Nat.mod_eq_of_lt (by omega)]
    have g3 : x3 < 4294967296 := by omega
    have hlog : logs H.next [] b4 = [b4] := z_logs (by rw [hels.next]; exact hn4)
    have hbq : Nat.beq bb b4 = false := z_beqF hne
    have hbl : ∀ l, below H.base [b4] l = l := z_bel1 (by rw [hels.base]; exact hb4)
    have i64 : Nat.blt i 64 = true := z_blt (by omega)
    have i65 : Nat.ble (i + 1) 64 = true := z_ble (by omega)
    have hlt : Nat.lor (Nat.lor (Nat.lor (x0 * 2 ^ nmin 24 32 % 4294967296) (x1 * 2 ^ nmin 16 32 % 4294967296)) (x2 * 2 ^ nmin 8 32 % 4294967296)) x3 < 4294967296 := lor32 (lor32 (lor32 (mod32 _) (mod32 _)) (mod32 _)) g3
    obtain ⟨c, cl, hr, hk, hset⟩ := hrow.set (k := i) (by omega) hlt
    have o1 := z_or32 (mod32 (x0 * 2 ^ nmin 24 32)) (mod32 (x1 * 2 ^ nmin 16 32))
    have o2 := z_or32 (lor32 (mod32 (x0 * 2 ^ nmin 24 32)) (mod32 (x1 * 2 ^ nmin 16 32))) (mod32 (x2 * 2 ^ nmin 8 32))
    have o3 := z_or32 (lor32 (lor32 (mod32 (x0 * 2 ^ nmin 24 32)) (mod32 (x1 * 2 ^ nmin 16 32))) (mod32 (x2 * 2 ^ nmin 8 32))) g3
    simp only [↓evD, evD, evU, evF, reduceCtorEq, evB, cf13_l3, h0, h1, h4, h25, e1, hatb, hr, z_shift, m0, w1, w2, w3, w4, l0, l1, l2, l3, b0, b1, b2, b3, Nat.mul_one, Nat.zero_add, c0, c1, c2, c3, f0, f1, f2, f3, z_shl32, o1, o2, o3, i64, i65, hlog, hbq, hbl]
    rw [sb_put (by rw [hels.base]; exact hb4)]
    exact .go ⟨rfl, by simp [T.get_set, h0], by simp [T.get_set, h1], by simp [T.get_set, h4], by simp [T.get_set], hels.put hb4 _, by rw [z_at_put, if_pos rfl]; exact hset⟩
  · obtain ⟨hdf, h0, h1, h4, h25, hels, hrow⟩ := hI
    subst hdf
    have e1 : Nat.blt 16 16 = false := rfl
    simp only [↓evD, evD, evU, evF, reduceCtorEq, evB, cf13_l3, h25, e1]
    exact .ex ⟨rfl, ⟨rfl, by simp [T.get_set, h0], by simp [T.get_set, h1], by simp [T.get_set, h4], by simp [T.get_set, h25], hels, hrow⟩⟩
end Abs
end Go
/- Symbolic runs: the second loop of block. -/
namespace Go
namespace Abs
@[congr] theorem lz_vFn {R : Type} {v v' : Value} {k : FuncId → List Value → List Value → R} {z : R} (h : v = v') : vFn v k z = vFn v' k z := by rw [h]
theorem z_vFn {R : Type} (g : FuncId) (a c : List Value) (k : FuncId → List Value → List Value → R) (z : R) : vFn (.func (.func g) ⟨a⟩ ⟨c⟩) k z = k g a c := rfl
theorem z_callV (f : OD) (l : List OD) (call : Call) (lo : List Value) (tm : T Value) (h : Hp) : oCallV f l call lo tm h = vFn (rdO f lo tm) (fun g first cap => call g (first ++ (rdL l lo tm ++ cap)) h) .none := rfl
theorem z_mkF (g : FuncId) (a c : List OD) (lo : List Value) (tm : T Value) : oMkF g a c lo tm = some (.func (.func g) ⟨rdL a lo tm⟩ ⟨rdL c lo tm⟩) := rfl
theorem rowT_store {m : Nat} {e : TypeId} {c : T Value} {cl : Bool} (hk : ∀ k, k < m → ∃ n, n < 4294967296 ∧ c.get (path k) = some (.int .u32 (.ofNat n))) {k n : Nat} (hn : n < 4294967296) : RowT m e (some (.row (storeL [.int .u32 (.ofNat n)] k c fun t => t) m e cl false)) := by
  refine ⟨_, cl, rfl, fun j hj => ?_⟩
  rw [z_stget]
  by_cases e : k = j
  · subst e
    exact ⟨n, hn, by rw [if_pos ⟨Nat.le_refl _, by simp⟩, Nat.sub_self]; rfl⟩
  · rw [if_neg (by simp; omega)]
    exact hk j hj
/-- the other words -/
structure B2 (bs bb o l cp b4 : Nat) (h : Hp) (i : Nat) (tm : T Value) (df : Df) (H : Hp) : Prop where
  df : df = []
  t0 : tm.get [] = some (ptrV bs 0)
  t4 : tm.get [false, true] = some (ptrV b4 0)
  t6 : tm.get [false, false] = some (.int .i64 (.ofNat (16 + i)))
  els : Else b4 h H
  row : RowT 64 87 (H.at b4)
theorem block_l2 {call : Call} {h : Hp} {bs bb o l cp b4 : Nat} (hcall : ∀ x n H, x < 4294967296 → n ≤ 32 → call 25 [.int .u32 (.ofNat x), .int .i64 (.ofNat n)] H = .val (.int .u32 (.ofNat (rorM x n))) H)
    (hb4 : h.base ≤ b4) (hn4 : b4 < h.next) {tm : T Value} {df : Df} {H : Hp} (h0 : B2 bs bb o l cp b4 h 0 tm df H) :
    After (exC (.loop cf13_l2) call tm df H) (fun e tm df H => e = .exit 2 ∧ B2 bs bb o l cp b4 h 48 tm df H) := by
  refine loop_for (n := 48) (by decide) (B2 bs bb o l cp b4 h) (fun i tm df H hi hI => ?_) (fun tm df H hI => ?_) h0
  · obtain ⟨hdf, h0, h4, h6, hels, hrow⟩ := hI
    subst hdf
    obtain ⟨c, cl, hr, hk⟩ := hrow
    obtain ⟨n15, hn15, c15⟩ := hk (16 + i - 15) (by omega)
    obtain ⟨n2, hn2, c2⟩ := hk (16 + i - 2) (by omega)
    obtain ⟨n16, hn16, c16⟩ := hk (16 + i - 16) (by omega)
    obtain ⟨n7, hn7, c7⟩ := hk (16 + i - 7) (by omega)
    have e1 : Nat.blt (16 + i) 64 = true := z_blt (by omega)
    have e2 : Nat.ble (16 + i + 1) 64 = true := z_ble (by omega)
    have e15 : Nat.blt (16 + i - 15) 64 = true := z_blt (by omega)
    have e2' : Nat.blt (16 + i - 2) 64 = true := z_blt (by omega)
    have e16 : Nat.blt (16 + i - 16) 64 = true := z_blt (by omega)
    have e7 : Nat.blt (16 + i - 7) 64 = true := z_blt (by omega)
    have s15 : gSub .i64 (.ofNat (16 + i)) (.ofNat 15) = some (.int .i64 (.ofNat (16 + i - 15))) := z_subN (by omega) (by omega)
    have s2 : gSub .i64 (.ofNat (16 + i)) (.ofNat 2) = some (.int .i64 (.ofNat (16 + i - 2))) := z_subN (by omega) (by omega)
    have s16 : gSub .i64 (.ofNat (16 + i)) (.ofNat 16) = some (.int .i64 (.ofNat (16 + i - 16))) := z_subN (by omega) (by omega)
    have s7 : gSub .i64 (.ofNat (16 + i)) (.ofNat 7) = some (.int .i64 (.ofNat (16 + i - 7))) := z_subN (by omega) (by omega)
    have w4 : fwrap .i64 (.ofNat (16 + i + 1)) = .ofNat (16 + i + 1) := z_wrapN (by omega)
    have q7 := fun H => hcall n15 7 H hn15 (by decide)
    have q18 := fun H => hcall n15 18 H hn15 (by decide)
    have q17 := fun H => hcall n2 17 H hn2 (by decide)
    have q19 := fun H => hcall n2 19 H hn2 (by decide)
    have r7 : rorM n15 7 < 4294967296 := ror32 hn15
    have r18 : rorM n15 18 < 4294967296 := ror32 hn15
    have r17 : rorM n2 17 < 4294967296 := ror32 hn2
    have r19 : rorM n2 19 < 4294967296 := ror32 hn2
    have o1 := z_xor32 r7 r18
    have o2 := z_xor32 (lxor32 r7 r18) (shr32 (k := 2 ^ nmin 3 32) hn15)
    have o3 := z_xor32 r17 r19
    have o4 := z_xor32 (lxor32 r17 r19) (shr32 (k := 2 ^ nmin 10 32) hn2)
    have hlog : logs H.next [] b4 = [b4] := z_logs (by rw [hels.next]; exact hn4)
    have hbl : ∀ l, below H.base [b4] l = l := z_bel1 (by rw [hels.base]; exact hb4)
    have hnb : Nat.ble H.next b4 = false := z_bleF (by rw [hels.next]; exact hn4)
    have k1 : comp an13_2 30 35 = true := rfl
    have k2 : comp an13_2 20 35 = true := rfl
    have k3 : comp an13_2 13 35 = true := rfl
    have k4 : comp an13_2 4 35 = true := rfl
    have kb : Nat.beq b4 b4 = true := Nat.beq_refl b4
    simp only [↓evD, evD, evU, evF, reduceCtorEq, evB, hnb, k1, k2, k3, k4, kb, cf13_l2, h0, h4, h6, hr, e1, e2, e15, e2', e16, e7, s15, s2, s16, s7, c15, c2, c16, c7, z_mkF, z_callV, z_vFn, List.cons_append, List.nil_append, q7, q18, q17, q19, o1, o2, o3, o4, z_shift, z_shr32, z_wrap32, Nat.mul_one, Nat.zero_add, w4, hlog, hbl]
    rw [sb_put (by rw [hels.base]; exact hb4)]
    exact .go ⟨rfl, by simp [T.get_set, h0], by simp [T.get_set, h4], by simp [T.get_set, Nat.add_assoc], hels.put hb4 _, by rw [z_at_put, if_pos rfl]; exact rowT_store hk (mod32 _)⟩
  · obtain ⟨hdf, h0, h4, h6, hels, hrow⟩ := hI
    subst hdf
    have e1 : Nat.blt (16 + 48) 64 = false := rfl
    simp only [↓evD, evD, evU, evF, reduceCtorEq, evB, cf13_l2, h6, e1]
    exact .ex ⟨rfl, ⟨rfl, by simp [T.get_set, h0], by simp [T.get_set, h4], by simp [T.get_set, h6], hels, hrow⟩⟩
end Abs
end Go
/- Symbolic runs: the rounds of block. -/
namespace Go
namespace Abs
theorem z_ix1 (n : Nat) (x i : OD) (lo : List Value) (tm : T Value) : oIx1 n x i lo tm = vNat (rdO i lo tm) (fun i => vAgg (rdO x lo tm) (fun l => bif Nat.blt i n then part1 i l else none) none) none := rfl
/-- a list of words -/
def W32s (n : Nat) (l : List Value) : Prop := l.length = n ∧ ∀ k, k < n → ∃ x, x < 4294967296 ∧ l[k]? = some (.int .u32 (.ofNat x))
theorem W32s.part {n : Nat} {l : List Value} (h : W32s n l) {k : Nat} (hk : k < n) : ∃ x, x < 4294967296 ∧ part1 k l = some (.int .u32 (.ofNat x)) := by
  obtain ⟨x, hx, e⟩ := h.2 k hk
  refine ⟨x, hx, ?_⟩
  unfold part1
  rw [len_eq, h.1, z_blt hk, cond_true, nth_eq, e]
  rfl
/-- the rounds -/
structure BR (bs b4 : Nat) (kl : List Value) (H0 : Hp) (i : Nat) (tm : T Value) (df : Df) (H : Hp) : Prop where
  df : df = []
  hh : H = H0
  t0 : tm.get [] = some (ptrV bs 0)
  t4 : tm.get [false, true] = some (ptrV b4 0)
  t145 : tm.get [true, false, true, true, false, true, true] = some (.agg ⟨kl⟩)
  t146 : tm.get [false, false, true, true, false, true, true] = some (.int .i64 (.ofNat i))
  r9 : ∃ n, n < 4294967296 ∧ tm.get [true, false, true] = some (.int .u32 (.ofNat n))
  r10 : ∃ n, n < 4294967296 ∧ tm.get [false, false, true] = some (.int .u32 (.ofNat n))
  r11 : ∃ n, n < 4294967296 ∧ tm.get [true, true, false] = some (.int .u32 (.ofNat n))
  r12 : ∃ n, n < 4294967296 ∧ tm.get [false, true, false] = some (.int .u32 (.ofNat n))
  r13 : ∃ n, n < 4294967296 ∧ tm.get [true, false, false] = some (.int .u32 (.ofNat n))
  r14 : ∃ n, n < 4294967296 ∧ tm.get [false, false, false] = some (.int .u32 (.ofNat n))
  r15 : ∃ n, n < 4294967296 ∧ tm.get [true, true, true, true] = some (.int .u32 (.ofNat n))
  r16 : ∃ n, n < 4294967296 ∧ tm.get [false, true, true, true] = some (.int .u32 (.ofNat n))
theorem z_not32' {a : Nat} (h : a < 4294967296) : Nat.blt a (modu .u32) = true := z_blt h
theorem block_l1 {call : Call} {bs b4 : Nat} {kl : List Value} {H0 : Hp} (hcall : ∀ x n H, x < 4294967296 → n ≤ 32 → call 25 [.int .u32 (.ofNat x), .int .i64 (.ofNat n)] H = .val (.int .u32 (.ofNat (rorM x n))) H)
    (hkl : W32s 64 kl) (hrow : RowT 64 87 (H0.at b4)) {tm : T Value} {df : Df} {H : Hp} (hst : BR bs b4 kl H0 0 tm df H) :
    After (exC (.loop cf13_l1) call tm df H) (fun e tm df H => e = .exit 4 ∧ BR bs b4 kl H0 64 tm df H) := by
  refine loop_for (n := 64) (by decide) (BR bs b4 kl H0) (fun i tm df H hi hI => ?_) (fun tm df H hI => ?_) hst
  · obtain ⟨hdf, hh, h0, h4, h145, h146, ⟨n9, q9, g9⟩, ⟨n10, q10, g10⟩, ⟨n11, q11, g11⟩, ⟨n12, q12, g12⟩, ⟨n13, q13, g13⟩, ⟨n14, q14, g14⟩, ⟨n15, q15, g15⟩, ⟨n16, q16, g16⟩⟩ := hI
    subst hdf
    subst hh
    obtain ⟨c, cl, hr, hk⟩ := hrow
    obtain ⟨nw, hnw, cw⟩ := hk i hi
    obtain ⟨nk, hnk, ck⟩ := hkl.part hi
    have e1 : Nat.blt i 64 = true := z_blt hi
    have w4 : fwrap .i64 (.ofNat (i + 1)) = .ofNat (i + 1) := z_wrapN (by omega)
    have c6 := fun H => hcall n13 6 H q13 (by decide)
    have c11 := fun H => hcall n13 11 H q13 (by decide)
    have c25 := fun H => hcall n13 25 H q13 (by decide)
    have c2 := fun H => hcall n9 2 H q9 (by decide)
    have c13 := fun H => hcall n9 13 H q9 (by decide)
    have c22 := fun H => hcall n9 22 H q9 (by decide)
    have r6 : rorM n13 6 < 4294967296 := ror32 q13
    have r11 : rorM n13 11 < 4294967296 := ror32 q13
    have r25 : rorM n13 25 < 4294967296 := ror32 q13
    have r2 : rorM n9 2 < 4294967296 := ror32 q9
    have r13 : rorM n9 13 < 4294967296 := ror32 q9
    have r22 : rorM n9 22 < 4294967296 := ror32 q9
    have o1 := z_xor32 r6 r11
    have o2 := z_xor32 (lxor32 r6 r11) r25
    have o3 := z_xor32 r2 r13
    have o4 := z_xor32 (lxor32 r2 r13) r22
    have a1 := z_and32 (b := n14) q13
    have u1 : Nat.blt n13 (modu .u32) = true := z_blt q13
    have a2 : nn Nat.land .u32 (.ofNat (modu .u32 - 1 - n13)) (.ofNat n15) = _ := z_and32 (a := modu .u32 - 1 - n13) (b := n15) (by show 4294967296 - 1 - n13 < 4294967296; omega)
    have a3 := z_xor32 (land32 (b := n14) q13) (land32 (a := modu .u32 - 1 - n13) (b := n15) (by show 4294967296 - 1 - n13 < 4294967296; omega))
    have a4 := z_and32 (b := n10) q9
    have a5 := z_and32 (b := n11) q9
    have a6 := z_and32 (b := n11) q10
    have a7 := z_xor32 (land32 (b := n10) q9) (land32 (b := n11) q9)
    have a8 := z_xor32 (lxor32 (land32 (b := n10) q9) (land32 (b := n11) q9)) (land32 (b := n11) q10)
    have us : isSigned .u32 = false := rfl
    simp only [↓evD, evD, evU, evF, reduceCtorEq, evB, cf13_l1, h0, h4, h145, h146, g9, g10, g11, g12, g13, g14, g15, g16, hr, e1, ck, cw, z_ix1, z_mkF, z_callV, z_vFn, List.cons_append, List.nil_append, c6, c11, c25, c2, c13, c22, o1, o2, o3, o4, a1, a2, a3, a4, a5, a6, a7, a8, u1, us, z_not32, natI, z_shift, z_wrap32, Nat.mul_one, Nat.zero_add, w4]
    exact .go ⟨rfl, rfl, by simp [T.get_set, h0], by simp [T.get_set, h4], by simp [T.get_set, h145], by simp [T.get_set], ⟨_, mod32 _, by simp [T.get_set]; rfl⟩, ⟨n9, q9, by simp [T.get_set]⟩, ⟨n10, q10, by simp [T.get_set]⟩, ⟨n11, q11, by simp [T.get_set]⟩, ⟨_, mod32 _, by simp [T.get_set]; rfl⟩, ⟨n13, q13, by simp [T.get_set]⟩, ⟨n14, q14, by simp [T.get_set]⟩, ⟨n15, q15, by simp [T.get_set]⟩⟩
  · obtain ⟨hdf, hh, h0, h4, h145, h146, r9, r10, r11, r12, r13, r14, r15, r16⟩ := hI
    subst hdf
    have e1 : Nat.blt 64 64 = false := rfl
    simp only [↓evD, evD, evU, evF, reduceCtorEq, evB, cf13_l1, h146, e1]
    exact .ex ⟨rfl, ⟨rfl, hh, by simp [T.get_set, h0], by simp [T.get_set, h4], by simp [T.get_set, h145], by simp [T.get_set, h146], by simpa [T.get_set] using r9, by simpa [T.get_set] using r10, by simpa [T.get_set] using r11, by simpa [T.get_set] using r12, by simpa [T.get_set] using r13, by simpa [T.get_set] using r14, by simpa [T.get_set] using r15, by simpa [T.get_set] using r16⟩⟩
end Abs
end Go
/- Symbolic runs: the end of block. -/
namespace Go
namespace Abs
theorem z_nilC (x : OD) (lo : List Value) (tm : T Value) : oNilChk x lo tm = nilChk (rdO x lo tm) := rfl
theorem z_nilV (b o : Nat) : nilChk (ptrV b o) = some (ptrV b o) := rfl
/-- the sums -/
structure B0 (bs : Nat) (e : TypeId) (xs : List Value) (h : Hp) (i : Nat) (tm : T Value) (df : Df) (H : Hp) : Prop where
  df : df = []
  t0 : tm.get [] = some (ptrV bs 0)
  t220 : tm.get [false, true, false, false, false, true, false] = some (.agg ⟨xs⟩)
  t221 : tm.get [true, false, false, false, false, true, false] = some (.int .i64 (.ofNat i))
  els : Else bs h H
  row : RowT 8 e (H.at bs)
theorem block_l0 {call : Call} {bs : Nat} {e : TypeId} {xs : List Value} {h : Hp} (hxs : W32s 8 xs) (hbs : h.base ≤ bs) (hns : bs < h.next) {tm : T Value} {df : Df} {H : Hp} (hst : B0 bs e xs h 0 tm df H) :
    After (exC (.loop cf13_l0) call tm df H) (fun ex tm df H => ex = .exit 6 ∧ df = [] ∧ Else bs h H ∧ RowT 8 e (H.at bs)) := by
  refine loop_for (n := 8) (by decide) (B0 bs e xs h) (fun i tm df H hi hI => ?_) (fun tm df H hI => ?_) hst
  · obtain ⟨hdf, h0, h220, h221, hels, ⟨c, cl, hr, hk⟩⟩ := hI
    subst hdf
    obtain ⟨n, hn, cn⟩ := hk i hi
    obtain ⟨x, hx, cx⟩ := hxs.part hi
    have e1 : Nat.blt i 8 = true := z_blt hi
    have e2 : Nat.ble (i + 1) 8 = true := z_ble hi
    have w4 : fwrap .i64 (.ofNat (i + 1)) = .ofNat (i + 1) := z_wrapN (by omega)
    have hlog : logs H.next [] bs = [bs] := z_logs (by rw [hels.next]; exact hns)
    have hbl : ∀ l, below H.base [bs] l = l := z_bel1 (by rw [hels.base]; exact hbs)
    have kb : Nat.beq bs bs = true := Nat.beq_refl bs
    have k1 : comp an13_5 4 9 = true := rfl
    simp only [↓evD, evD, evU, evF, reduceCtorEq, evB, cf13_l0, h0, h220, h221, hr, e1, e2, cn, cx, z_ix1, z_nilC, z_nilV, z_wrap32, Nat.mul_one, Nat.zero_add, w4, hlog, hbl, kb, k1]
    rw [sb_put (by rw [hels.base]; exact hbs)]
    exact .go ⟨rfl, by simp [T.get_set, h0], by simp [T.get_set, h220], by simp [T.get_set], hels.put hbs _, by rw [z_at_put, if_pos rfl]; exact rowT_store hk (mod32 _)⟩
  · obtain ⟨hdf, h0, h220, h221, hels, hrow⟩ := hI
    subst hdf
    have e1 : Nat.blt 8 8 = false := rfl
    simp only [↓evD, evD, evU, evF, reduceCtorEq, evB, cf13_l0, h221, e1]
    exact .ex ⟨rfl, rfl, hels, hrow⟩
end Abs
end Go
/- Symbolic runs: block. -/
set_option maxRecDepth 10000
namespace Go
namespace Abs
noncomputable def zeros64 : List Value := [.int .u32 (.ofNat 0), .int .u32 (.ofNat 0), .int .u32 (.ofNat 0), .int .u32 (.ofNat 0), .int .u32 (.ofNat 0), .int .u32 (.ofNat 0), .int .u32 (.ofNat 0), .int .u32 (.ofNat 0), .int .u32 (.ofNat 0), .int .u32 (.ofNat 0), .int .u32 (.ofNat 0), .int .u32 (.ofNat 0), .int .u32 (.ofNat 0), .int .u32 (.ofNat 0), .int .u32 (.ofNat 0), .int .u32 (.ofNat 0), .int .u32 (.ofNat 0), .int .u32 (.ofNat 0), .int .u32 (.ofNat 0), .int .u32 (.ofNat 0), .int .u32 (.ofNat 0), .int .u32 (.ofNat 0), .int .u32 (.ofNat 0), .int .u32 (.ofNat 0), .int .u32 (.ofNat 0), .int .u32 (.ofNat 0), .int .u32 (.ofNat 0), .int .u32 (.ofNat 0), .int .u32 (.ofNat 0), .int .u32 (.ofNat 0), .int .u32 (.ofNat 0), .int .u32 (.ofNat 0), .int .u32 (.ofNat 0), .int .u32 (.ofNat 0), .int .u32 (.ofNat 0), .int .u32 (.ofNat 0), .int .u32 (.ofNat 0), .int .u32 (.ofNat 0), .int .u32 (.ofNat 0), .int .u32 (.ofNat 0), .int .u32 (.ofNat 0), .int .u32 (.ofNat 0), .int .u32 (.ofNat 0), .int .u32 (.ofNat 0), .int .u32 (.ofNat 0), .int .u32 (.ofNat 0), .int .u32 (.ofNat 0), .int .u32 (.ofNat 0), .int .u32 (.ofNat 0), .int .u32 (.ofNat 0), .int .u32 (.ofNat 0), .int .u32 (.ofNat 0), .int .u32 (.ofNat 0), .int .u32 (.ofNat 0), .int .u32 (.ofNat 0), .int .u32 (.ofNat 0), .int .u32 (.ofNat 0), .int .u32 (.ofNat 0), .int .u32 (.ofNat 0), .int .u32 (.ofNat 0), .int .u32 (.ofNat 0), .int .u32 (.ofNat 0), .int .u32 (.ofNat 0), .int .u32 (.ofNat 0)]
theorem zeros_rowT : RowT 64 87 (some (rowL zeros64 64 87 true)) := by
  refine ⟨_, true, rfl, fun k hk => ⟨0, by decide, ?_⟩⟩
  rw [z_stget, if_pos ⟨Nat.zero_le _, by show k < 0 + 64; omega⟩, Nat.sub_zero]
  have h : ∀ k, k < 64 → zeros64[k]? = some (Value.int .u32 (.ofNat 0)) := by
    intro k hk
    have : zeros64 = List.replicate 64 (Value.int .u32 (.ofNat 0)) := rfl
    rw [this, List.getElem?_replicate, if_pos hk]
  exact h k hk
theorem block_run {call : Call} {cd : CallD} {h : Hp} {bs bb o l cp : Nat} {e : TypeId} {ck : T Value} {mk : Nat} {ek : TypeId} {clk rok : Bool} {kl : List Value}
    (hcall : ∀ x n H, x < 4294967296 → n ≤ 32 → call 25 [.int .u32 (.ofNat x), .int .i64 (.ofNat n)] H = .val (.int .u32 (.ofNat (rorM x n))) H)
    (hbase : h.base ≤ h.next) (hs : RowT 8 e (h.at bs)) (hb : ByT h bb o 64) (hl : 64 ≤ l) (hne : bb ≠ bs) (hbs : h.base ≤ bs) (hns : bs < h.next) (hnb : bb < h.next)
    (hg : h.at 1 = some (.row ck mk ek clk rok)) (hmk : 64 ≤ mk) (hld : loadN ck 0 64 [] = some kl) (hkl : W32s 64 kl) (h1 : 1 < h.next) (h1s : 1 ≠ bs) :
    Yields (runF cf13 call cd [ptrV bs 0, slV bb o l cp] h) (fun v H => v = .tuple ⟨[]⟩ ∧ H.next = h.next + 1 ∧ H.base = h.base ∧ H.log = h.log ∧ (∀ c, c ≠ bs → c ≠ h.next → H.at c = h.at c) ∧ RowT 8 e (H.at bs)) := by
  refine runF_yields rfl ?_
  have hz : zeros64.length = 64 := rfl
  have hz' := hz
  simp only [↓evD, evD, evU, evF, reduceCtorEq, evB]
  have hat' : (h.new (rowL zeros64 64 87 true)).at h.next = some (rowL zeros64 64 87 true) := by rw [z_at_new, if_pos rfl]
  have hb' : ByT (h.new (rowL zeros64 64 87 true)) bb o 64 := by
    obtain ⟨c, m, e, cl, ro, a1, a2⟩ := hb
    exact ⟨c, m, e, cl, ro, by rw [z_at_new, if_neg (by omega)]; exact a1, a2⟩
  refine After.exK (φ := fun e tm df H => e = .normal ∧ B3 bs bb o l cp h.next (h.new (rowL zeros64 64 87 true)) 16 tm df H) (After.exK (φ := fun e tm df H => e = .exit 0 ∧ B3 bs bb o l cp h.next (h.new (rowL zeros64 64 87 true)) 16 tm df H) ?_ ?_) ?_
  · refine block_l3 (h0 := h) hl hb' (by omega) hbase (by rw [z_new_next]; omega) ⟨rfl, by simp [T.get_set, z_st20], by simp [T.get_set, z_st21], by simp [T.get_set], by simp [T.get_set], Else.refl _ _, ?_⟩
    rw [z_at_new, if_pos rfl]; exact zeros_rowT
  · rintro e tm df H ⟨rfl, rest⟩; exact ⟨rfl, rest⟩
  rintro ex tm df H ⟨rfl, ⟨hdf, t0, t1, t4, t25, hels, hrow⟩⟩
  subst hdf
  simp only [↓evD, evD, evU, evF, reduceCtorEq, evB]
  refine After.exK (φ := fun e tm df H => e = .normal ∧ B2 bs bb o l cp h.next (h.new (rowL zeros64 64 87 true)) 48 tm df H) (After.exK (φ := fun e tm df H => e = .exit 2 ∧ B2 bs bb o l cp h.next (h.new (rowL zeros64 64 87 true)) 48 tm df H) ?_ ?_) ?_
  · exact block_l2 (h := h.new (rowL zeros64 64 87 true)) (bb := bb) (o := o) (l := l) (cp := cp) hcall hbase (by rw [z_new_next]; omega) ⟨rfl, by simp [T.get_set, t0], by simp [T.get_set, t4], by simp [T.get_set], hels, hrow⟩
  · rintro e tm df H ⟨rfl, rest⟩; exact ⟨rfl, rest⟩
  rintro ex tm df H ⟨rfl, ⟨hdf, t0, t4, t6, hels, hrow⟩⟩
  subst hdf
  have hss : RowT 8 e (H.at bs) := by rw [hels.at_ bs (by omega), z_at_new, if_neg (by omega)]; exact hs
  obtain ⟨cs, cls, hrs, hks⟩ := id hss
  obtain ⟨n0, q0, g0⟩ := hks 0 (by omega)
  obtain ⟨n1, q1, g1⟩ := hks 1 (by omega)
  obtain ⟨n2, q2, g2⟩ := hks 2 (by omega)
  obtain ⟨n3, q3, g3⟩ := hks 3 (by omega)
  obtain ⟨n4, q4, g4⟩ := hks 4 (by omega)
  obtain ⟨n5, q5, g5⟩ := hks 5 (by omega)
  obtain ⟨n6, q6, g6⟩ := hks 6 (by omega)
  obtain ⟨n7, q7, g7⟩ := hks 7 (by omega)
  have v0 : Nat.blt 0 8 = true := rfl
  have v1 : Nat.blt 1 8 = true := rfl
  have v2 : Nat.blt 2 8 = true := rfl
  have v3 : Nat.blt 3 8 = true := rfl
  have v4 : Nat.blt 4 8 = true := rfl
  have v5 : Nat.blt 5 8 = true := rfl
  have v6 : Nat.blt 6 8 = true := rfl
  have v7 : Nat.blt 7 8 = true := rfl
  have hg' : H.at 1 = some (.row ck mk ek clk rok) := by rw [hels.at_ 1 (by omega), z_at_new, if_neg (by omega)]; exact hg
  have hmk' : Nat.ble (0 + 64) mk = true := z_ble (by omega)
  have hmk2 : Nat.ble 64 mk = true := z_ble hmk
  simp only [↓evD, evD, evU, evF, reduceCtorEq, evB, t0, t4, hrs, g0, v0, g1, v1, g2, v2, g3, v3, g4, v4, g5, v5, g6, v6, g7, v7, Nat.zero_add, Nat.mul_one, z_nilC, z_nilV, z_vPtr', hg', hmk2, hld]
  refine After.exK (φ := fun e tm df H' => e = .normal ∧ BR bs h.next kl H 64 tm df H') (After.exK (φ := fun e tm df H' => e = .exit 4 ∧ BR bs h.next kl H 64 tm df H') ?_ ?_) ?_
  · exact block_l1 hcall hkl hrow ⟨rfl, rfl, by simp [T.get_set, t0], by simp [T.get_set, t4], by simp [T.get_set], by simp [T.get_set], ⟨n0, q0, by simp [T.get_set]⟩, ⟨n1, q1, by simp [T.get_set]⟩, ⟨n2, q2, by simp [T.get_set]⟩, ⟨n3, q3, by simp [T.get_set]⟩, ⟨n4, q4, by simp [T.get_set]⟩, ⟨n5, q5, by simp [T.get_set]⟩, ⟨n6, q6, by simp [T.get_set]⟩, ⟨n7, q7, by simp [T.get_set]⟩⟩
  · rintro e tm df H ⟨rfl, rest⟩; exact ⟨rfl, rest⟩
  rintro ex tm df H' ⟨rfl, ⟨hdf, hh, t0, t4, t145, t146, ⟨a9, p9, r9⟩, ⟨a10, p10, r10⟩, ⟨a11, p11, r11⟩, ⟨a12, p12, r12⟩, ⟨a13, p13, r13⟩, ⟨a14, p14, r14⟩, ⟨a15, p15, r15⟩, ⟨a16, p16, r16⟩⟩⟩
  subst hdf
  subst hh
  have hbd : oBuild [Value.int .u32 (.ofNat 0), Value.int .u32 (.ofNat 0), Value.int .u32 (.ofNat 0), Value.int .u32 (.ofNat 0), Value.int .u32 (.ofNat 0), Value.int .u32 (.ofNat 0), Value.int .u32 (.ofNat 0), Value.int .u32 (.ofNat 0)] [(0, (1, OD.loc 7)), (1, (1, OD.loc 6)), (2, (1, OD.loc 5)), (3, (1, OD.loc 4)), (4, (1, OD.loc 3)), (5, (1, OD.loc 2)), (6, (1, OD.loc 1)), (7, (1, OD.loc 0))] [Value.int .u32 (.ofNat a16), Value.int .u32 (.ofNat a15), Value.int .u32 (.ofNat a14), Value.int .u32 (.ofNat a13), Value.int .u32 (.ofNat a12), Value.int .u32 (.ofNat a11), Value.int .u32 (.ofNat a10), Value.int .u32 (.ofNat a9)] tm = some (.agg ⟨[Value.int .u32 (.ofNat a9), Value.int .u32 (.ofNat a10), Value.int .u32 (.ofNat a11), Value.int .u32 (.ofNat a12), Value.int .u32 (.ofNat a13), Value.int .u32 (.ofNat a14), Value.int .u32 (.ofNat a15), Value.int .u32 (.ofNat a16)]⟩) := rfl
  simp only [↓hbd, ↓evD, evD, evU, evF, reduceCtorEq, evB, t0, t4, r9, r10, r11, r12, r13, r14, r15, r16]
  have hxs : W32s 8 [Value.int .u32 (.ofNat a9), Value.int .u32 (.ofNat a10), Value.int .u32 (.ofNat a11), Value.int .u32 (.ofNat a12), Value.int .u32 (.ofNat a13), Value.int .u32 (.ofNat a14), Value.int .u32 (.ofNat a15), Value.int .u32 (.ofNat a16)] := ⟨rfl, fun k hk => by
      match k, hk with
      | 0, _ => exact ⟨a9, p9, rfl⟩
      | 1, _ => exact ⟨a10, p10, rfl⟩
      | 2, _ => exact ⟨a11, p11, rfl⟩
      | 3, _ => exact ⟨a12, p12, rfl⟩
      | 4, _ => exact ⟨a13, p13, rfl⟩
      | 5, _ => exact ⟨a14, p14, rfl⟩
      | 6, _ => exact ⟨a15, p15, rfl⟩
      | 7, _ => exact ⟨a16, p16, rfl⟩⟩
  refine After.exK (φ := fun ex tm df H'' => ex = .exit 6 ∧ df = [] ∧ Else bs H' H'' ∧ RowT 8 e (H''.at bs)) (block_l0 hxs (by rw [hels.base]; exact hbs) (by rw [hels.next, z_new_next]; omega) ⟨rfl, by simp [T.get_set, t0], by simp [T.get_set], by simp [T.get_set], Else.refl _ _, hss⟩) ?_
  rintro ex tm df H'' ⟨rfl, rfl, hE, hR⟩
  refine FEnd.end ?_
  exact ⟨rfl, by rw [hE.next, hels.next, z_new_next], by rw [hE.base, hels.base, z_new_base], by rw [hE.log, hels.log, z_new_log], fun c h2 h3 => by rw [hE.at_ c h2, hels.at_ c h3, z_at_new, if_neg (fun e => h3 e.symm)], hR⟩
end Abs
end Go
/- Symbolic runs: the last loop of hash.Sum. -/
namespace Go
namespace Abs
/-- a row of bytes -/
def RowB (m : Nat) (e : TypeId) (o : Option AObj) : Prop := ∃ c cl, o = some (.row c m e cl false) ∧ ∀ k, k < m → ∃ n, n < 256 ∧ c.get (path k) = some (.int .u8 (.ofNat n))
theorem rowB_store {m : Nat} {e : TypeId} {c : T Value} {cl : Bool} (hk : ∀ k, k < m → ∃ n, n < 256 ∧ c.get (path k) = some (.int .u8 (.ofNat n))) {k n : Nat} (hn : n < 256) : RowB m e (some (.row (storeL [.int .u8 (.ofNat n)] k c fun t => t) m e cl false)) := by
  refine ⟨_, cl, rfl, fun j hj => ?_⟩
  rw [z_stget]
  by_cases e : k = j
  · subst e
    exact ⟨n, hn, by rw [if_pos ⟨Nat.le_refl _, by simp⟩, Nat.sub_self]; rfl⟩
  · rw [if_neg (by simp; omega)]
    exact hk j hj
/-- the bytes of the sum -/
structure S0 (bs bo b2 : Nat) (h : Hp) (i : Nat) (tm : T Value) (df : Df) (H : Hp) : Prop where
  df : df = []
  t2 : tm.get [false] = some (ptrV b2 0)
  t3 : tm.get [true, true] = some (ptrV bs 0)
  t7 : tm.get [true, true, true] = some (ptrV bo 0)
  t50 : tm.get [false, false, true, true, false] = some (.int .i64 (.ofNat i))
  els : Else bo h H
  row : RowB 32 45 (H.at bo)
theorem sum_l0 {call : Call} {bs bo b2 : Nat} {h : Hp} {e : TypeId} (hs : RowT 8 e (h.at bs)) (hne : bs ≠ bo) (hbo : h.base ≤ bo) (hno : bo < h.next) {tm : T Value} {df : Df} {H : Hp} (hst : S0 bs bo b2 h 0 tm df H) :
    After (exC (.loop cf6_l0) call tm df H) (fun ex tm df H => ex = .exit 8 ∧ S0 bs bo b2 h 32 tm df H) := by
  refine loop_for (n := 32) (by decide) (S0 bs bo b2 h) (fun i tm df H hi hI => ?_) (fun tm df H hI => ?_) hst
  · obtain ⟨hdf, t2, t3, t7, t50, hels, ⟨co, clo, hro, hko⟩⟩ := hI
    subst hdf
    obtain ⟨cs, cls, hrs, hks⟩ := hs
    have hrs' : H.at bs = some (.row cs 8 e cls false) := by rw [hels.at_ bs hne]; exact hrs
    obtain ⟨x, hx, gx⟩ := hks (i / 4) (by omega)
    have e1 : Nat.blt i 32 = true := z_blt hi
    have e2 : Nat.ble (i + 1) 32 = true := z_ble hi
    have e3 : Nat.blt (i / 4) 8 = true := z_blt (by omega)
    have w4 : fwrap .i64 (.ofNat (i + 1)) = .ofNat (i + 1) := z_wrapN (by omega)
    have hq : gQuo .i64 (.ofNat i) (.ofNat 4) = some (.int .i64 (.ofNat (i / 4))) := by
      show (bif ieq (.ofNat 4) 0 then none else kInt .i64 (fwrap .i64 (itdiv (.ofNat i) (.ofNat 4)))) = _
      rw [show ieq (.ofNat 4) 0 = false from rfl, cond_false, kInt_eq, show itdiv (.ofNat i) (.ofNat 4) = .ofNat (i / 4) from rfl, z_wrapN (by omega)]
    have hr : gRem .i64 (.ofNat i) (.ofNat 4) = some (.int .i64 (.ofNat (i % 4))) := by
      show (bif ieq (.ofNat 4) 0 then none else kInt .i64 (itmod (.ofNat i) (.ofNat 4))) = _
      rw [show ieq (.ofNat 4) 0 = false from rfl, cond_false, kInt_eq]; rfl
    have hm : gMul .i64 (.ofNat 8) (.ofNat (i % 4)) = some (.int .i64 (.ofNat (8 * (i % 4)))) := by
      unfold gMul
      rw [kInt_eq, show imul (.ofNat 8) (.ofNat (i % 4)) = .ofNat (8 * (i % 4)) from rfl, z_wrapN (by omega)]
    have hsb : gSub .i64 (.ofNat 24) (.ofNat (8 * (i % 4))) = some (.int .i64 (.ofNat (24 - 8 * (i % 4)))) := z_subN (by omega) (by omega)
    simp only [↓evD, evD, evU, evF, reduceCtorEq, evB, cf6_l0, t3, t7, t50, hrs', hro, gx, e1, e2, e3, w4, hq, hr, hm, hsb, z_shift, z_shr32, z_wrap8, Nat.mul_one, Nat.zero_add]
    exact .go ⟨rfl, by simp [T.get_set, t2], by simp [T.get_set, t3], by simp [T.get_set, t7], by simp [T.get_set], hels.put hbo _, by rw [z_at_put, if_pos rfl]; exact rowB_store hko (Nat.mod_lt _ (by decide))⟩
  · obtain ⟨hdf, t2, t3, t7, t50, hels, hrow⟩ := hI
    subst hdf
    have e1 : Nat.blt 32 32 = false := rfl
    simp only [↓evD, evD, evU, evF, reduceCtorEq, evB, cf6_l0, t50, e1]
    exact .ex ⟨rfl, ⟨rfl, by simp [T.get_set, t2], by simp [T.get_set, t3], by simp [T.get_set, t7], by simp [T.get_set, t50], hels, hrow⟩⟩
end Abs
end Go
