/-
Symbolic runs: the digits, the question, and the law, given the sum.
Conditions: none.
-/
import Derived.Test.YtkondgccabcabaaGreatDoorHashSum
set_option linter.unusedVariables false
set_option linter.unusedSimpArgs false
/- Symbolic runs: Hex of the program. -/
namespace Go
namespace Abs
theorem z_ov20 (a b x : Value) : over [a, b] 0 [x] = [x, b] := rfl
theorem drop_at {α : Type} {l : List α} {i : Nat} (hi : i < l.length) : ∃ x, l[i]? = some x ∧ l.drop i = x :: l.drop (i + 1) := ⟨l[i], by simp [hi], List.drop_eq_getElem_cons hi⟩
theorem take_step {α : Type} {l : List α} {i : Nat} {x : α} (hx : l[i]? = some x) : l.take (i + 1) = l.take i ++ [x] := by
  rw [List.take_add_one, hx]; rfl
/-- a value, and nothing of what was there is touched -/
def QuietR (X : Value) (h : Hp) (v : Value) (H : Hp) : Prop := v = X ∧ H.log = h.log
theorem quiet_of {r : Res} {X : Value} {H : Hp} (hy : Yields r (QuietR X (setBase H H.next []))) (hp : plainA X = true) : quiet r H = .val X H := by
  obtain ⟨v, h1, rfl, rfl, hl⟩ := hy.get
  show (bif plainA v then (match h1.log with | [] => Res.val v H | _ => .none) else .none) = _
  have hl' : h1.log = [] := hl
  rw [hp, hl']; rfl
def SameR' (X : Value) (h : Hp) (v : Value) (H : Hp) : Prop := v = X ∧ H = h
noncomputable def hexD (k : Nat) : UInt8 := if k < 10 then UInt8.ofNat (48 + k) else UInt8.ofNat (87 + k)
noncomputable def hexT (l : List Nat) : List UInt8 := l.flatMap fun b => [hexD (b / 16), hexD (b % 16)]
/-- bytes in a row -/
def Bytes (h : Hp) (b o : Nat) (l : List Nat) : Prop := ∃ c m e cl ro, h.at b = some (.row c m e cl ro) ∧ o + l.length ≤ m ∧ ∀ (j : Nat) (x : Nat), l[j]? = some x → c.get (path (o + j * 1)) = some (.int .u8 (.ofNat x))
theorem hexT_len (l : List Nat) : (hexT l).length = 2 * l.length := by
  induction l with
  | nil => rfl
  | cons x l ih =>
    have : hexT (x :: l) = hexD (x / 16) :: hexD (x % 16) :: hexT l := rfl
    rw [this]; simp; omega
theorem hexT_step {l : List Nat} {i x : Nat} (hx : l[i]? = some x) : hexT (l.take (i + 1)) = hexT (l.take i) ++ ([hexD (x / 16)] ++ [hexD (x % 16)]) := by
  rw [take_step hx]; unfold hexT; rw [List.flatMap_append]; simp
theorem z_shr4 (x : Nat) : gShr .u8 (.ofNat x) (.ofNat 4) = some (.int .u8 (.ofNat (x / 16))) := by
  show kInt .u8 (ishr (.ofNat x) 4) = _
  rw [kInt_eq]
  rfl
theorem z_land15 (x : Nat) : nn Nat.land .u8 (.ofNat x) (.ofNat 15) = some (.int .u8 (.ofNat (x % 16))) := by
  show (forceNat (Nat.land x 15) fun c => bif Nat.blt c 256 then some (Value.int .u8 (.ofNat c)) else none) = _
  have e : Nat.land x 15 = x % 16 := Nat.and_two_pow_sub_one_eq_mod x 4
  rw [forceNat_eq, e, z_blt (by omega)]; rfl
theorem z_ixStr (x i : OD) (lo : List Value) (tm : T Value) : oIxStr x i lo tm = vNat (rdO i lo tm) (fun i => vStr (rdO x lo tm) (fun s => oEl (nthB (bl s) i) (fun b => some (.int .u8 (.ofNat b.toNat))) none) none) none := by
  unfold oIxStr; simp only [kNat_eq]; rfl
theorem z_nthH {k : Nat} (hk : k < 16) : nthB [48, 49, 50, 51, 52, 53, 54, 55, 56, 57, 97, 98, 99, 100, 101, 102] k = some (hexD k) := by
  match k with
  | 0 => rfl | 1 => rfl | 2 => rfl | 3 => rfl | 4 => rfl | 5 => rfl | 6 => rfl | 7 => rfl | 8 => rfl | 9 => rfl | 10 => rfl | 11 => rfl | 12 => rfl | 13 => rfl | 14 => rfl | 15 => rfl
  | k + 16 => omega
/-- append of a row of one cell each, within the capacity -/
theorem app_in {h : Hp} {b y l n : Nat} {c : T Value} {m : Nat} {e : TypeId} {cl : Bool} {new : List Value} {xo yo : OD} {lo : List Value} {tm : T Value} {call : Call} (hn : new.length = n) (hn0 : 0 < n) (hm : m < OPEN) (hl : l + n ≤ m) (hx : rdO xo lo tm = slV b 0 l m) (hy : rdO yo lo tm = slV y 0 n n)
    (hat : h.at y = some (rowL new n e true)) (hb : h.at b = some (.row c m e cl false)) (hone : allOne new = true) :
    oApp e 1 xo yo call lo tm h = .val (slV b 0 (l + n) m) (h.put b (some (.row (storeL new l c fun t => t) m e cl false))) := by
  have hc : cellsOf h y 0 (n * 1) = some new := cellsOf_rowL hat (by omega) (by omega)
  have h0 : Nat.beq n 0 = false := by cases n with | zero => omega | succ n => rfl
  have ho : isOpen m = false := z_bleF hm
  unfold oApp
  rw [hy]
  show (bif Nat.beq n 0 then vSl (rdO xo lo tm) (appS e 1 h 0 []) (appN e 1 h 0 []) .none else oEl (cellsOf h y 0 (n * 1)) (fun new => vSl (rdO xo lo tm) (appS e 1 h n new) (appN e 1 h n new) .none) .none) = _
  rw [hc, h0, cond_false]
  show vSl (rdO xo lo tm) (appS e 1 h n new) (appN e 1 h n new) .none = _
  rw [hx, z_vSlV]
  unfold appS sure
  rw [forceNat_eq, ho, cond_false]
  show (bif Nat.ble (l + n) m then (bif Nat.beq n 0 then _ else _) else _) = _
  rw [z_ble hl, cond_true, h0, cond_false]
  show writeK h b (0 + l * 1) new _ Res.none = _
  rw [z_writeK, hb]
  show (bif false then Res.none else bif allOne new then bif Nat.ble (0 + l * 1 + new.length) m then _ else Res.none else Res.none) = _
  rw [hone, z_ble (by omega : 0 + l * 1 + new.length ≤ m)]
  have : 0 + l * 1 = l := by omega
  rw [this]; rfl
theorem z_mkS64 (lo : List Value) (tm : T Value) (h : Hp) (call : Call) (x y : OD) : oMkS 5 [.int .u8 (.ofNat 0)] 1 x y call lo tm h = vNat (rdO x lo tm) (fun n => vNat (rdO y lo tm) (fun c => bif Nat.ble n c then bif Nat.ble (1 * c) 16777216 then bif Nat.ble c 16777216 then .val (slV h.next 0 n c) (h.new (rowL (repL c [.int .u8 (.ofNat 0)]) (repL c [.int .u8 (.ofNat 0)]).length 5 true)) else .none else .none else .none) .none) .none := by
  unfold oMkS
  simp only [newRowK_eq, forceNat_eq, len_eq]
  rfl
theorem repL_len (n : Nat) (v : Value) : (repL n [v]).length = n := by
  induction n with
  | zero => rfl
  | succ n ih => show ([v] ++ repL n [v]).length = _; rw [List.length_append, ih]; simp; omega
theorem bytesOf_map (l : List UInt8) : bytesOf (l.map byteV) = some l := by
  induction l with
  | nil => rfl
  | cons x l ih =>
    show (bif Nat.blt x.toNat 256 then oEl (bytesOf (l.map byteV)) (fun r => some (UInt8.ofNat x.toNat :: r)) none else none) = _
    rw [z_blt x.toNat_lt, ih]
    show some (UInt8.ofNat x.toNat :: l) = _
    rw [UInt8.ofNat_toNat]

/-- what stands while the digits are made -/
structure HX (l : List Nat) (v : Value) (h : Hp) (bb : Nat) (i : Nat) (tm : T Value) (df : Df) (H : Hp) : Prop where
  df : df = []
  t10 : tm.get [false, false, true] = some v
  t11 : tm.get [true, true, false] = some (.int .i64 (.ofNat 32))
  t12 : tm.get [false, true, false] = some (.int .i64 (.ofNat i))
  t3 : tm.get [true, true] = some (slV bb 0 (2 * i) 64)
  wf : Wf H
  kp : Keeps h.next h H
  hb : h.next ≤ bb
  own : ∃ c, H.at bb = some (.row c 64 5 true false) ∧ ∀ j x, (hexT (l.take i))[j]? = some x → c.get (path j) = some (byteV x)
def HXE (l : List Nat) (h : Hp) (bb : Nat) (x : Ex) (e : Ex) (tm : T Value) (df : Df) (H : Hp) : Prop :=
  e = x ∧ df = [] ∧ tm.get [true, true] = some (slV bb 0 64 64) ∧ H.log = h.log ∧ ∃ c, H.at bb = some (.row c 64 5 true false) ∧ ∀ j x, (hexT l)[j]? = some x → c.get (path j) = some (byteV x)
theorem hex113_run {call : Call} {cd : CallD} {h : Hp} {b o c : Nat} {l : List Nat} (hw : Wf h) (hl : Bytes h b o l) (hn : l.length = 32) (h256 : ∀ x ∈ l, x < 256) :
    Yields (runF cf113 call cd [slV b o 32 c] h) (QuietR (.string (mkS (hexT l))) h) := by
  refine runF_yields rfl ?_
  have m1 : gMul .i64 (.ofNat 2) (.ofNat 32) = some (.int .i64 (.ofNat 64)) := rfl
  have m2 : Nat.ble (1 * 64) 16777216 = true := rfl
  have m3 : Nat.ble 64 16777216 = true := rfl
  have m4 : Nat.ble 0 64 = true := rfl
  simp only [↓evD, evD, evU, evF, reduceCtorEq, evB, z_mkS64, m1, m2, m3, m4, repL_len]
  have hbb : b < h.next := by obtain ⟨c, m, e, cl, ro, h1, h2, h3⟩ := hl; exact hw.lt h1
  refine After.exK (φ := HXE l h h.next .normal) (After.exK (φ := HXE l h h.next (.exit 0)) ?_ ?_) ?_
  · refine loop_for (n := 32) (by omega) (HX l (slV b o 32 c) h h.next) ?_ ?_ ?_
    · intro i tm df H hi p
      obtain ⟨rfl, t10, t11, t12, t3, wf, kp, hb, cc, hat, hcc⟩ := p
      obtain ⟨x, hx, hd⟩ := drop_at (l := l) (i := i) (by omega)
      have hxl := h256 x (List.mem_of_getElem? hx)
      obtain ⟨c0, m, e, cl, ro, hat0, hm, hc⟩ := hl
      have hatH : H.at b = some (.row c0 m e cl ro) := by rw [kp.at_ b hbb]; exact hat0
      have e4 := hc i x hx
      have e1 := z_blt hi
      have e2 : Nat.blt (o + i * 1) m = true := z_blt (by omega)
      have e3 : fwrap .i64 (.ofNat (i + 1)) = .ofNat (i + 1) := z_wrapN (by omega)
      have d1 := z_nthH (k := x / 16) (by omega)
      have d2 := z_nthH (k := x % 16) (by omega)
      have lb := wf.lt hat
      have n1 : H.next ≠ h.next := by omega
      have q1 : Nat.ble H.next h.next = false := z_bleF (by omega)
      have q4 : logs (H.next + 1) [] h.next = [h.next] := z_logs1 (z_blt (by omega))
      have hbase : H.base ≤ h.next := by rw [kp.base]; exact hw.base
      have q5 : below H.base [h.next] H.log = H.log := z_be1 hbase
      generalize hR : rowL [Value.int .u8 (.ofNat (hexD (x / 16)).toNat), .int .u8 (.ofNat (hexD (x % 16)).toNat)] 2 5 true = R
      generalize hW : AObj.row (storeL [Value.int .u8 (.ofNat (hexD (x / 16)).toNat), .int .u8 (.ofNat (hexD (x % 16)).toNat)] (2 * i) cc fun t => t) 64 5 true false = W
      have q6 : setBase ((H.new R).put h.next (some W)) H.base H.log = (H.new R).put h.next (some W) := sb_put (h := H.new R) hbase
      have ap : ∀ (n : Nat) (g : List Nat) (v1 v2 v3 v4 v5 v6 : Value) (tm : T Value) (call : Call),
          oApp 5 1 (.loc 7) (.loc 0) call [slV H.next 0 2 2, v1, v2, v3, v4, v5, v6, slV h.next 0 (2 * i) 64] tm (setBase (H.new R) n g) = .val (slV h.next 0 (2 * i + 2) 64) (setBase ((H.new R).put h.next (some W)) n (logs n g h.next)) := fun n g v1 v2 v3 v4 v5 v6 tm call => by
        subst hR; subst hW
        exact app_in (n := 2) (c := cc) (y := H.next) rfl (by omega) (by unfold OPEN; omega) (by omega) rfl rfl (by rw [z_at_sb, z_at_new, if_pos rfl]) (by rw [z_at_sb, z_at_new, if_neg n1]; exact hat) rfl
      simp only [↓evD, evD, evU, evF, reduceCtorEq, evB, Nat.reduceAdd, Nat.reduceLT, Nat.reduceMul, Nat.reduceSub, cf113_l0, t10, t11, t12, t3, hatH, e1, e2, e3, e4, z_shift, z_shr4, z_land15, z_ixStr, d1, d2, n1, hR, ap, q1, q4, q5, q6]
      refine .go ⟨rfl, by simp [T.get_set, t10], by simp [T.get_set, t11], by simp [T.get_set], ?_, (wf.new _).put (by rw [z_new_next]; omega) _, ?_, by omega, _, by rw [z_at_put, if_pos rfl, ← hW], ?_⟩
      · simp [T.get_set]; rfl
      · exact kp.trans ((Keeps.new _ kp.next).trans (Keeps.put _ (Nat.le_refl _) hbase))
      · intro j y hy
        rw [hexT_step hx] at hy
        have hlen : (hexT (l.take i)).length = 2 * i := by rw [hexT_len, List.length_take]; omega
        rw [z_stget]
        by_cases hj : j < 2 * i
        · rw [if_neg (by omega)]
          rw [List.getElem?_append_left (by omega)] at hy
          exact hcc j y hy
        · rw [List.getElem?_append_right (by omega), hlen] at hy
          have hj2 : j - 2 * i < 2 := by have := (List.getElem?_eq_some_iff.1 hy).1; simpa using this
          rw [if_pos ⟨by omega, by simp; omega⟩]
          match hjj : j - 2 * i, hj2 with
          | 0, _ => rw [hjj] at hy; cases hy; rfl
          | 1, _ => rw [hjj] at hy; cases hy; rfl
    · intro tm df H p
      obtain ⟨rfl, t10, t11, t12, t3, wf, kp, hb, cc, hat, hcc⟩ := p
      rw [List.take_of_length_le (by omega)] at hcc
      have e1 := z_bltF (Nat.le_refl 32)
      simp only [↓evD, evD, evU, evF, reduceCtorEq, evB, cf113_l0, t10, t11, t12, e1]
      exact .ex ⟨rfl, rfl, by simp [T.get_set, t3], kp.log, cc, hat, hcc⟩
    · exact ⟨rfl, by simp [T.get_set], by simp [T.get_set], by simp [T.get_set], by simp [T.get_set], hw.new _, Keeps.new _ (Nat.le_refl _), Nat.le_refl _, _, by rw [z_at_new, if_pos rfl]; rfl, fun j x hx => by simp [hexT] at hx⟩
  · rintro e tm df H ⟨rfl, rest⟩; exact ⟨rfl, rest⟩
  · rintro e tm df H ⟨rfl, rfl, t3, hlog, cc, hat, hcc⟩
    have hlen : (hexT l).length = 64 := by rw [hexT_len]; omega
    have hcs : cellsOb (.row cc 64 5 true false) 0 64 = some ((hexT l).map byteV) := by
      show (bif Nat.ble (0 + 64) 64 then loadN cc 0 64 [] else none) = _
      rw [z_ble (by omega), cond_true, loadN_eq 64 ((hexT l).map byteV) [] (by rw [List.length_map]; exact hlen) (fun j hj => by
        have hj' : (hexT l)[j]? = some ((hexT l)[j]'(by omega)) := List.getElem?_eq_getElem (by omega)
        rw [Nat.zero_add, hcc j _ hj', List.getElem?_map, hj']; rfl), List.append_nil]
    have hbs : ∀ lo tm, tm.get [true, true] = some (slV h.next 0 64 64) → oBytesStr (.loc 0) (slV h.next 0 64 64 :: lo) tm = .read h.next (fun ob => oEl (cellsOb ob 0 64) (fun cs => oEl (bytesOf cs) kStr none) none) := fun _ _ _ => rfl
    simp only [↓evD, evD, evU, evF, reduceCtorEq, evB, t3, hbs, hat, hcs, bytesOf_map, kStr]
    refine .ret ?_
    simp only [↓evD, evD, evU, evF, reduceCtorEq, evB]
    exact ⟨rfl, hlog⟩
end Abs
end Go
/- Symbolic runs: Same of two lists of 32 bytes; maps; deferred calls. -/
namespace Go
namespace Abs
theorem z_DGg (k : Nat) (bar : Bool) (own : List (Nat × Bool)) (g : OD) (want : Bool) (f : DO) (r : CD) (cm : Nat → Nat → Bool) (call : Call) (d : Dn) (lo : List Value) (tm : T Value) (df : Df) (h : Hp) : exD (.guardG k bar own g want f r) cm call d lo tm df h = vGuard (rdO g lo tm) want (exD (.consG k bar own f r) cm call d lo tm df h) (exD r cm call d (undef :: lo) tm df h) .none := rfl
/-- bytes, as values -/
noncomputable def u8L (l : List Nat) : List Value := l.map fun x => .int .u8 (.ofNat x)
theorem u8_len (l : List Nat) : (u8L l).length = l.length := by simp [u8L]
theorem u8_get {l : List Nat} {k x : Nat} (h : l[k]? = some x) : (u8L l)[k]? = some (.int .u8 (.ofNat x)) := by simp [u8L, h]
theorem u8_b {l : List Nat} (h : ∀ x ∈ l, x < 256) : B8s (u8L l) := fun v hv => by
  obtain ⟨x, hx, rfl⟩ := List.mem_map.1 hv
  exact ⟨x, h x hx, rfl⟩
theorem b8_nat : ∀ {l : List Value}, B8s l → ∃ xs : List Nat, (∀ x ∈ xs, x < 256) ∧ l = u8L xs := by
  intro l
  induction l with
  | nil => intro _; exact ⟨[], fun x hx => by simp at hx, rfl⟩
  | cons v l ih =>
    intro h
    obtain ⟨n, hn, rfl⟩ := h v (by simp)
    obtain ⟨xs, h1, rfl⟩ := ih fun w hw => h w (by simp [hw])
    refine ⟨n :: xs, fun x hx => ?_, rfl⟩
    rcases List.mem_cons.1 hx with h2 | h2
    · rw [h2]; exact hn
    · exact h1 x h2
/-- a row that was stored whole holds the bytes -/
theorem bytes_row {h : Hp} {b : Nat} {l : List Nat} {c : T Value} {e : TypeId} {cl ro : Bool} (hl : l.length = 32) (hat : h.at b = some (.row (storeL (u8L l) 0 c fun t => t) 32 e cl ro)) : Bytes h b 0 l :=
  ⟨_, _, _, _, _, hat, by omega, fun j x hx => by
    have hj := (List.getElem?_eq_some_iff.1 hx).1
    rw [z_stget, if_pos ⟨by omega, by rw [u8_len]; omega⟩, show 0 + j * 1 - 0 = j by omega]
    exact u8_get hx⟩
theorem Bytes.keep {h H : Hp} {b o : Nat} {l : List Nat} (hb : Bytes h b o l) (e : H.at b = h.at b) : Bytes H b o l := by
  obtain ⟨c, m, e', cl, ro, h1, h2⟩ := hb
  exact ⟨c, m, e', cl, ro, by rw [e]; exact h1, h2⟩
/- ===== Same ===== -/
def SmI (v w : Value) (h : Hp) (i : Nat) (tm : T Value) (df : Df) (H : Hp) : Prop := H = h ∧ df = [] ∧ tm.get [] = some v ∧ tm.get [true] = some w ∧ tm.get [true, false] = some (.int .i64 (.ofNat i))
def SmE (h : Hp) (x : Ex) (e : Ex) (tm : T Value) (df : Df) (H : Hp) : Prop := e = x ∧ H = h ∧ df = []
theorem same7_run {call : Call} {cd : CallD} {h : Hp} {b1 b2 c1 c2 : Nat} {l : List Nat} (h1 : Bytes h b1 0 l) (h2 : Bytes h b2 0 l) (hn : l.length = 32) :
    Yields (runF cf7 call cd [slV b1 0 32 c1, slV b2 0 32 c2] h) (SameR' (.bool true) h) := by
  refine runF_yields rfl ?_
  obtain ⟨k1, m1, e1, cl1, ro1, a1, l1, g1⟩ := h1
  obtain ⟨k2, m2, e2, cl2, ro2, a2, l2, g2⟩ := h2
  simp only [↓evD, evD, evU, evF, reduceCtorEq, evB]
  refine After.exK (φ := SmE h .normal) (After.exK (φ := SmE h (.exit 0)) ?_ ?_) ?_
  · refine loop_for (n := 32) (by omega) (SmI (slV b1 0 32 c1) (slV b2 0 32 c2) h) ?_ ?_ ?_
    · rintro i tm df H hi ⟨rfl, rfl, t0, t1, t5⟩
      have hx : l[i]? = some (l[i]'(by omega)) := List.getElem?_eq_getElem (by omega)
      generalize l[i]'(by omega) = x at hx
      have f1 := g1 i x hx
      have f2 := g2 i x hx
      have q0 := z_blt hi
      have q1 : Nat.blt (0 + i * 1) m1 = true := z_blt (by omega)
      have q2 : Nat.blt (0 + i * 1) m2 = true := z_blt (by omega)
      have q3 : fwrap .i64 (.ofNat (i + 1)) = .ofNat (i + 1) := z_wrapN (by omega)
      simp only [↓evD, evD, evU, evF, reduceCtorEq, evB, cf7_l0, t0, t1, t5, a1, a2, f1, f2, q0, q1, q2, q3]
      exact .go ⟨rfl, rfl, by simp [T.get_set, t0], by simp [T.get_set, t1], by simp [T.get_set]⟩
    · rintro tm df H ⟨rfl, rfl, t0, t1, t5⟩
      have q0 : Nat.blt 32 32 = false := rfl
      simp only [↓evD, evD, evU, evF, reduceCtorEq, evB, cf7_l0, t0, t1, t5, q0]
      exact .ex ⟨rfl, rfl, rfl⟩
    · exact ⟨rfl, rfl, by simp [T.get_set, z_st20], by simp [T.get_set, z_st21], by simp [T.get_set]⟩
  · rintro e tm df H ⟨rfl, rest⟩; exact ⟨rfl, rest⟩
  · rintro e tm df H ⟨rfl, rfl, rfl⟩
    simp only [↓evD, evD, evU, evF, reduceCtorEq, evB]
    refine .ret ?_
    simp only [↓evD, evD, evU, evF, reduceCtorEq, evB]
    exact ⟨rfl, rfl⟩
/- ===== maps ===== -/
theorem z_mkM (call : Call) (lo : List Value) (tm : T Value) (h : Hp) : oMkM call lo tm h = .val (.map (some h.next)) (h.new (.mp [])) := Hp.newK_eq _ _ _
theorem z_vMap {R : Type} (b : Nat) (k : Nat → R) (kn z : R) : vMap (.map (some b)) k kn z = k b := rfl
theorem z_mapO {R : Type} (es : List (Value × Value)) (k : List (Value × Value) → R) (z : R) : mapO (.mp es) k z = k es := rfl
theorem z_putM (tag : Nat) (m k v : OD) (call : Call) (lo : List Value) (tm : T Value) (h : Hp) : oPutM tag m k v call lo tm h = vMap (rdO m lo tm) (fun b => oEl (h.at b) (fun ob => mapO ob (fun es =>
    bif Nat.beq (vTag (rdO k lo tm)) tag then oEl (putM tag (rdO k lo tm) (rdO v lo tm) es) (fun es => .val undef (h.put b (some (.mp es)))) .none else .none) .none) .none) .none .none := by
  unfold oPutM
  simp only [Hp.putK_eq]
  rfl
theorem z_look (tag : Nat) (z : Value) (ok : Bool) (x k : OD) (lo : List Value) (tm : T Value) : oLook tag z ok x k lo tm = vMap (rdO x lo tm)
  (fun b => .read b fun ob => mapO ob (fun es => findM tag (rdO k lo tm) es (fun v => lookR ok v true) (lookR ok z false) none) none) (toPR (lookR ok z false)) .none := rfl
/-- the questions, by their kinds -/
noncomputable def qsM : List (Value × Value) := [(.int .i64 (.ofNat 3), .func (.func 54) ⟨[]⟩ ⟨[]⟩), (.int .i64 (.ofNat 4), .func (.func 55) ⟨[]⟩ ⟨[]⟩), (.int .i64 (.ofNat 5), .func (.func 56) ⟨[]⟩ ⟨[]⟩), (.int .i64 (.ofNat 6), .func (.func 57) ⟨[]⟩ ⟨[]⟩), (.int .i64 (.ofNat 7), .func (.func 58) ⟨[]⟩ ⟨[]⟩), (.int .i64 (.ofNat 8), .func (.func 59) ⟨[]⟩ ⟨[]⟩)]
def QsR (h : Hp) (v : Value) (H : Hp) : Prop := v = .map (some h.next) ∧ H.next = h.next + 1 ∧ H.base = h.base ∧ H.log = h.log ∧ H.at h.next = some (.mp qsM) ∧ ∀ b, b ≠ h.next → H.at b = h.at b
theorem questions_run {call : Call} {cd : CallD} {h : Hp} (hb : h.base ≤ h.next) : Yields (runF cf23 call cd [] h) (QsR h) := by
  refine runF_yields rfl ?_
  have p1 : ∀ v, putM 2 (.int .i64 (.ofNat 3)) v [] = some [(.int .i64 (.ofNat 3), v)] := fun v => rfl
  have p2 : ∀ v v', putM 2 (.int .i64 (.ofNat 4)) v [(.int .i64 (.ofNat 3), v')] = some [(.int .i64 (.ofNat 3), v'), (.int .i64 (.ofNat 4), v)] := fun v v' => rfl
  have p3 : ∀ v v1 v2, putM 2 (.int .i64 (.ofNat 5)) v [(.int .i64 (.ofNat 3), v1), (.int .i64 (.ofNat 4), v2)] = some [(.int .i64 (.ofNat 3), v1), (.int .i64 (.ofNat 4), v2), (.int .i64 (.ofNat 5), v)] := fun v v1 v2 => rfl
  have p4 : ∀ v v1 v2 v3, putM 2 (.int .i64 (.ofNat 6)) v [(.int .i64 (.ofNat 3), v1), (.int .i64 (.ofNat 4), v2), (.int .i64 (.ofNat 5), v3)] = some [(.int .i64 (.ofNat 3), v1), (.int .i64 (.ofNat 4), v2), (.int .i64 (.ofNat 5), v3), (.int .i64 (.ofNat 6), v)] := fun v v1 v2 v3 => rfl
  have p5 : ∀ v v1 v2 v3 v4, putM 2 (.int .i64 (.ofNat 7)) v [(.int .i64 (.ofNat 3), v1), (.int .i64 (.ofNat 4), v2), (.int .i64 (.ofNat 5), v3), (.int .i64 (.ofNat 6), v4)] = some [(.int .i64 (.ofNat 3), v1), (.int .i64 (.ofNat 4), v2), (.int .i64 (.ofNat 5), v3), (.int .i64 (.ofNat 6), v4), (.int .i64 (.ofNat 7), v)] := fun v v1 v2 v3 v4 => rfl
  have p6 : ∀ v v1 v2 v3 v4 v5, putM 2 (.int .i64 (.ofNat 8)) v [(.int .i64 (.ofNat 3), v1), (.int .i64 (.ofNat 4), v2), (.int .i64 (.ofNat 5), v3), (.int .i64 (.ofNat 6), v4), (.int .i64 (.ofNat 7), v5)] = some [(.int .i64 (.ofNat 3), v1), (.int .i64 (.ofNat 4), v2), (.int .i64 (.ofNat 5), v3), (.int .i64 (.ofNat 6), v4), (.int .i64 (.ofNat 7), v5), (.int .i64 (.ofNat 8), v)] := fun v v1 v2 v3 v4 v5 => rfl
  have vt : ∀ n, Nat.beq (vTag (.int .i64 (.ofNat n))) 2 = true := fun n => rfl
  simp only [↓evD, evD, evU, evF, reduceCtorEq, evB, z_mkM, z_vMap, z_putM, z_mapO, vt, p1, p2, p3, p4, p5, p6]
  refine .ret ?_
  simp only [↓evD, evD, evU, evF, reduceCtorEq, evB]
  refine ⟨rfl, rfl, rfl, ?_, ?_, fun b hb' => ?_⟩
  · have hl : ∀ (H : Hp) (o : Option AObj), H.base = h.base → (H.put h.next o).log = H.log := fun H o e => z_put_log (by rw [e]; exact hb)
    rw [hl, hl, hl, hl, hl, hl] <;> rfl
  · rw [z_at_put, if_pos rfl]; rfl
  · simp only [z_at_put, z_at_new, if_neg (fun e => hb' e.symm : ¬ h.next = b)]
/- ===== a function with one deferred call ===== -/
def FEndD (cd : CallD) (rs : List CR) (g : FuncId) (a : List Value) (φ : Value → Hp → Prop) (e : Ex) (tm : T Value) (df : Df) (h : Hp) : Prop := (e = .normal ∨ e = .ret) ∧ df = [(g, a)] ∧ cd g a .ret h = .ok .ret h ∧ Yields (exR rs tm h) φ
theorem runF_yieldsD {nt na : Nat} {b : CC} {rs : List CR} {call : Call} {cd : CallD} {args : List Value} {h : Hp} {g : FuncId} {a : List Value} {φ : Value → Hp → Prop} (hn : (Nat.beq (len args) na && Nat.ble na nt) = true)
    (hb : After (exC b call (storeL args 0 .nil fun t => t) [] h) (FEndD cd rs g a φ)) : Yields (runF (.mk nt na b rs) call cd args h) φ := by
  show Yields (bif Nat.beq (len args) na && Nat.ble na nt then argsT args 0 .nil fun tm => ResC.rec (motive := fun _ => Res) .none (fun e tm df h => Ex.rec (motive := fun _ => Res) (leave cd rs df tm .ret h) (fun _ => .none) (leave cd rs df tm .ret h) (fun c => leave cd rs df tm (.pnc c) h) e) (exC b call tm [] h) else .none) φ
  rw [hn, cond_true, argsT_eq, storeL_eq]
  revert hb
  cases exC b call (storeL args 0 .nil fun t => t) [] h with
  | none => intro h; exact h.elim
  | ok e tm df h' =>
    intro hb
    obtain ⟨he, hdf, hc, hy⟩ := hb
    subst hdf
    have key : leave cd rs [(g, a)] tm .ret h' = exR rs tm h' := by
      show ResD.rec (motive := fun _ => Res) .none (fun m h => Md.rec (motive := fun _ => Res) (exR rs tm h) (fun c => .panic c h) m) (cd g a .ret h') = _
      rw [hc]
    rcases he with rfl | rfl
    · show Yields (leave cd rs [(g, a)] tm .ret h') φ
      rw [key]; exact hy
    · show Yields (leave cd rs [(g, a)] tm .ret h') φ
      rw [key]; exact hy
end Abs
end Go
/- ConsoleHashes: the globals that the program looks at, as the card lays them; calls that are run over a part of the memory. -/
namespace Go
namespace Abs
noncomputable def rowG (l : List Value) : AObj := .row (storeL l 0 .nil fun t => t) l.length UNK true true
noncomputable def u32G (l : List Nat) : List Value := l.map fun n => .int .u32 (.ofNat n)
noncomputable def initG : List Nat := [1779033703, 3144134277, 1013904242, 2773480762, 1359893119, 2600822924, 528734635, 1541459225]
noncomputable def roundsG : List Nat := [1116352408, 1899447441, 3049323471, 3921009573, 961987163, 1508970993, 2453635748, 2870763221, 3624381080, 310598401, 607225278, 1426881987, 1925078388, 2162078206, 2614888103, 3248222580, 3835390401, 4022224774, 264347078, 604807628, 770255983, 1249150122, 1555081692, 1996064986, 2554220882, 2821834349, 2952996808, 3210313671, 3336571891, 3584528711, 113926993, 338241895, 666307205, 773529912, 1294757372, 1396182291, 1695183700, 1986661051, 2177026350, 2456956037, 2730485921, 2820302411, 3259730800, 3345764771, 3516065817, 3600352804, 4094571909, 275423344, 430227734, 506948616, 659060556, 883997877, 958139571, 1322822218, 1537002063, 1747873779, 1955562222, 2024104815, 2227730452, 2361852424, 2428436474, 2756734187, 3204031479, 3329325298]
noncomputable def hpG : Hp := T.setK (path 0) .nil (some (rowG (u32G initG))) fun t => T.setK (path 1) t (some (rowG (u32G roundsG))) fun t => ⟨t, 16, 16, []⟩
/-- a memory whose first blocks are these -/
structure Base (h : Hp) : Prop where
  next : 16 ≤ h.next
  at_ : ∀ b, b < 16 → h.at b = hpG.at b
theorem hpG_at (b : Nat) : hpG.at b = if b = 1 then some (rowG (u32G roundsG)) else if b = 0 then some (rowG (u32G initG)) else none := by
  have e : hpG = ⟨T.set (path 1) (T.set (path 0) .nil (some (rowG (u32G initG)))) (some (rowG (u32G roundsG))), 16, 16, []⟩ := by
    unfold hpG
    rw [T.setK_eq, T.setK_eq]
  rw [e]
  have pi : ∀ i, (path i = path b) ↔ b = i := fun i => ⟨fun h => (path_inj h).symm, fun h => by rw [h]⟩
  unfold Hp.at
  simp only [T.get_set, pi]
  rfl
theorem u32_w {l : List Nat} (hl : ∀ x ∈ l, x < 4294967296) : W32s l.length (u32G l) := by
  refine ⟨by simp [u32G], fun k hk => ⟨l[k], hl _ (List.getElem_mem hk), ?_⟩⟩
  simp [u32G, List.getElem?_eq_getElem hk]
theorem row_ld (l : List Value) (acc : T Value) : loadN (storeL l 0 acc fun t => t) 0 l.length [] = some l := by
  have := loadN_eq (c := storeL l 0 acc fun t => t) (o := 0) l.length l [] rfl fun j hj => by rw [z_stget, if_pos ⟨by omega, by omega⟩]; congr 1; omega
  rw [List.append_nil] at this
  exact this
theorem Base.g0 {h : Hp} (hB : Base h) : h.at 0 = some (.row (storeL (u32G initG) 0 .nil fun t => t) 8 UNK true true) ∧ loadN (storeL (u32G initG) 0 .nil fun t => t) 0 8 [] = some (u32G initG) ∧ W32s 8 (u32G initG) := by
  refine ⟨by rw [hB.at_ 0 (by omega), hpG_at]; rfl, row_ld (u32G initG) .nil, ?_⟩
  exact u32_w (l := initG) (by unfold initG; decide)
theorem Base.g1 {h : Hp} (hB : Base h) : h.at 1 = some (.row (storeL (u32G roundsG) 0 .nil fun t => t) 64 UNK true true) ∧ loadN (storeL (u32G roundsG) 0 .nil fun t => t) 0 64 [] = some (u32G roundsG) ∧ W32s 64 (u32G roundsG) := by
  refine ⟨by rw [hB.at_ 1 (by omega), hpG_at]; rfl, row_ld (u32G roundsG) .nil, ?_⟩
  exact u32_w (l := roundsG) (by unfold roundsG; decide)
/- ===== a part of the memory ===== -/
variable {P : Program} {gs : List Nat}
/-- a value that looks at no block from 'N' on -/
def Low (N : Nat) (v : Value) : Prop := plainC v = true ∨ v = .chan (some 0) ∨ ∃ b o l c, v = slV b o l c ∧ b < N
def low (N : Nat) (f : Map) : Map := fun b => if b < N then f b else none
theorem low_pos {N : Nat} {f : Map} {b : Nat} (hb : b < N) : low N f b = f b := if_pos hb
theorem low_some {N : Nat} {f : Map} {b : Nat} {i : Img} (h : low N f b = some i) : b < N ∧ f b = some i := by
  unfold low at h
  split at h
  · exact ⟨by assumption, h⟩
  · cases h
theorem VRel.low {N : Nat} {f : Map} {v v' : Value} (hv : Low N v) (h : VRel f v v') : VRel (low N f) v v' := by
  rcases hv with hp | rfl | ⟨b, o, l, c, rfl, hb⟩
  · exact h.plain_inv hp
  · cases h with
    | top => exact .top _
  · cases h with
    | slice _ _ _ _ i hi hc hl => exact .slice _ _ _ _ i (by rw [low_pos hb]; exact hi) hc hl
    | sliceO _ _ _ _ lb i o' c' hi h1 h2 h3 h4 h5 h6 => exact .sliceO _ _ _ _ lb i o' c' (by rw [low_pos hb]; exact hi) h1 h2 h3 h4 h5 h6
/-- a row whose cells look at no block from 'N' on -/
def LowO (N : Nat) (o : AObj) : Prop := ∃ c m e cl ro, o = .row c m e cl ro ∧ ∀ (k : Nat) (v : Value), k < m → c.get (path k) = some v → Low N v
theorem LowO.rel {N : Nat} {f : Map} {i : Img} {o : AObj} {x : Obj} (hl : LowO N o) (h : ORel f i o x) : ORel (low N f) i o x := by
  obtain ⟨c, m, e, cl, ro, rfl, hl⟩ := hl
  cases h with
  | row cells n elem cl ro arr elem' fz he hs hn hcl hro hc =>
    refine .row _ _ _ _ _ arr elem' fz he hs hn hcl hro fun k v hk hv => ?_
    obtain ⟨v', h1, h2⟩ := hc k v hk hv
    exact ⟨v', h1, h2.low (hl k v hk hv)⟩
/-- a memory that holds such rows alone, all of it old -/
structure LowH (N : Nat) (h0 : Hp) : Prop where
  next : h0.next = N
  base : h0.base = N
  rows : ∀ (b : Nat) (o : AObj), h0.at b = some o → b < N ∧ LowO N o
theorem hrel_low {N : Nat} {f : Map} {h0 h : Hp} {w : World} (h0l : LowH N h0) (hr : HRel f h w) (hB : ∀ b, b < N → h.at b = h0.at b) : HRel (low N f) h0 w := by
  refine ⟨fun b o i hb ho => ?_, fun b c i j hb hc h1 h2 => ?_, fun b i hb => ⟨by rw [h0l.next]; exact (low_some hb).1, (hr.fresh b i (low_some hb).2).2⟩, fun b hb => ?_, by rw [h0l.base, h0l.next]; exact Nat.le_refl _⟩
  · obtain ⟨hN, hf⟩ := low_some hb
    obtain ⟨x, hx, hor⟩ := hr.obj b o i hf (by rw [hB b hN]; exact ho)
    exact ⟨x, hx, (h0l.rows b o ho).2.rel hor⟩
  · obtain ⟨hb', hfb⟩ := low_some hb
    obtain ⟨hc', hfc⟩ := low_some hc
    exact hr.inj b c i j hfb hfc (by rw [hB b hb']; exact h1) (by rw [hB c hc']; exact h2)
  · cases h : h0.at b with
    | none => rfl
    | some o => have := (h0l.rows b o h).1; rw [h0l.next] at hb; omega
/-- a call that is run over a part of the memory -/
theorem cut_at {N : Nat} {call0 : Call} (hgs : ∀ g ∈ gs, g < N) (H : CallOk P gs call0) {g : FuncId} {args : List Value} {h0 h h1 : Hp} {v : Value} (h0l : LowH N h0) (hp : ∀ a ∈ args, Low N a) (hrun : call0 g args h0 = .val v h1) (hlog : h1.log = []) (hpv : plainA v = true) (hB : ∀ b, b < N → h.at b = h0.at b) : CallAt P gs g args h (.val v h) := by
  intro args' f w hG hr hl
  have hl0 : LRel (low N f) args args' := ⟨hl.1, fun i v hv => by
    obtain ⟨v', h1, h2⟩ := hl.2 i v hv
    exact ⟨v', h1, h2.low (hp v (List.mem_of_getElem? hv))⟩⟩
  have hG0 : GRel gs (low N f) := fun g hg => by
    obtain ⟨i, h1, h2⟩ := hG g hg
    exact ⟨i, by rw [low_pos (hgs g hg)]; exact h1, h2⟩
  have h2 := H g args args' (low N f) h0 w hG0 (hrel_low h0l hr hB) hl0
  rw [hrun] at h2
  refine ⟨h2.1, h2.2.mono fun e w' he => ?_⟩
  cases e with
  | panicked c => exact he.elim
  | outgrown => exact he.elim
  | returned v' =>
    obtain ⟨f', hA, hC, hv⟩ := he
    have hk : ∀ c, c < w.heap.size → w'.heap[c]? = w.heap[c]? := fun c hc => hC.keep c hc fun b i hb _ _ => by
      refine ⟨?_, by rw [hlog]; simp⟩
      rw [h0l.base]
      exact (low_some hb).1
    refine ⟨f, AStep.refl h, ⟨hr, Map.le_refl f, ⟨fun b o i hb ho => ?_, hr.inj, fun b i hb => ⟨(hr.fresh b i hb).1, Nat.lt_of_lt_of_le (hr.fresh b i hb).2 hC.size⟩, hr.dead, hr.base⟩, hC.size, hC.tape, hC.os, hC.out, fun c hc _ => hk c hc, fun b i h1 h2 => by (rw [h1] at h2; cases h2)⟩, hv.plainA_inv hpv⟩
    obtain ⟨x, hx, hor⟩ := hr.obj b o i hb ho
    exact ⟨x, by rw [hk i.blk (hr.fresh b i hb).2]; exact hx, hor⟩
theorem plain_low {N : Nat} {v : Value} (h : plainC v = true) : Low N v := .inl h
theorem rowG_low {N : Nat} {l : List Value} (hl : ∀ v ∈ l, Low N v) : LowO N (rowG l) := by
  refine ⟨_, _, _, _, _, rfl, fun k v hk hv => ?_⟩
  rw [z_stget, if_pos ⟨by omega, by omega⟩] at hv
  exact hl v (List.mem_of_getElem? hv)
theorem u32_plain (l : List Nat) : ∀ v ∈ u32G l, plainC v = true := fun v hv => by
  obtain ⟨n, _, rfl⟩ := List.mem_map.1 hv
  rfl
theorem hpG_low : LowH 16 hpG := by
  refine ⟨rfl, rfl, fun b o h => ?_⟩
  rw [hpG_at] at h
  repeat' split at h
  · cases h; exact ⟨by omega, rowG_low fun v hv => .inl (u32_plain _ v hv)⟩
  · cases h; exact ⟨by omega, rowG_low fun v hv => .inl (u32_plain _ v hv)⟩
  · cases h
end Abs
end Go
/- Symbolic runs: askHash, answer, Do, ask. -/
set_option maxRecDepth 10000
namespace Go
namespace Abs
/-- what holds then, in a form that simp leaves as it is -/
structure Ho (φ : Ex → T Value → Df → Hp → Prop) (e : Ex) (tm : T Value) (df : Df) (H : Hp) : Prop where
  out : φ e tm df H
theorem z_dfr (f : OD) (l : List OD) (r : CL) (call : Call) (lo : List Value) (tm : T Value) (df : Df) (h : Hp) : exL (.dfr f l r) call lo tm df h = vFn (rdO f lo tm) (fun g first cap => exL r call (undef :: lo) tm ((g, first ++ (rdL l lo tm ++ cap)) :: df) h) .none := rfl
theorem z_ext (i : Nat) (x : OD) (lo : List Value) (tm : T Value) : oExt i x lo tm = vTup (rdO x lo tm) (part1 i) none := rfl
theorem z_p0 (a b : Value) : part1 0 [a, b] = some a := rfl
theorem z_p1 (a b : Value) : part1 1 [a, b] = some b := rfl
noncomputable def nil3 : List Value := [.slice none 0 0, .slice none 0 0, .slice none 0 0]
noncomputable def cmdL (v : Value) : List Value := [.int .i64 (.ofNat 8), .int .i64 (.ofNat 0), .int .i64 (.ofNat 0), .int .i64 (.ofNat 0), .int .i64 (.ofNat 0), .int .i64 (.ofNat 0), .int .u8 (.ofNat 0), .slice none 0 0, .slice none 0 0, .slice none 0 0, v, .slice none 0 0]
noncomputable def ansZ : List Value := [.int .i64 (.ofNat 0), .int .i64 (.ofNat 0), .string (mkS []), .slice none 0 0]
noncomputable def ansL (s : List UInt8) (b : Nat) : List Value := [.int .i64 (.ofNat 0), .int .i64 (.ofNat 0), .string (mkS s), slV b 0 32 32]
noncomputable def fn59 : Value := .func (.func 59) ⟨[]⟩ ⟨[]⟩
theorem nil3_len : nil3.length = 3 := rfl
theorem cmd_len (v : Value) : (cmdL v).length = 12 := rfl
theorem ans_len (s : List UInt8) (b : Nat) : (ansL s b).length = 4 := rfl
theorem nil3_one : allOne nil3 = true := rfl
theorem ans_one (s : List UInt8) (b : Nat) : allOne (ansL s b) = true := rfl
theorem nil3_ld (c : T Value) : loadN (storeL nil3 0 c fun t => t) 0 3 [] = some nil3 := row_ld nil3 c
theorem nil3_g0 : (storeL nil3 0 .nil fun t => t).get (path (0 + 0)) = some (.slice none 0 0) := rfl
theorem nil3_g1 : (storeL nil3 0 .nil fun t => t).get (path (0 + 1)) = some (.slice none 0 0) := rfl
theorem nil3_g2 : (storeL nil3 0 .nil fun t => t).get (path (0 + 2)) = some (.slice none 0 0) := rfl
theorem nil3_def : [Value.slice none 0 0, .slice none 0 0, .slice none 0 0] = nil3 := rfl
theorem cmd_ld (v : Value) (c : T Value) : loadN (storeL (cmdL v) 0 c fun t => t) 0 12 [] = some (cmdL v) := row_ld (cmdL v) c
theorem ans_ld (s : List UInt8) (b : Nat) (c : T Value) : loadN (storeL (ansL s b) 0 c fun t => t) 0 4 [] = some (ansL s b) := row_ld (ansL s b) c
/-- the answer of askHash -/
def AnsR (xs : List Nat) (h : Hp) (v : Value) (H : Hp) : Prop := ∃ b, v = .agg ⟨ansL (hexT xs) b⟩ ∧ Bytes H b 0 xs ∧ h.next ≤ b ∧ b < H.next ∧ Wf H ∧ Keeps h.next h H
/-- the memory in which the list lies -/
def Good (h0 H : Hp) : Prop := ∀ b, b < h0.next → H.at b = h0.at b
def Dead (H : Hp) : Prop := ∀ b, H.next ≤ b → H.at b = none
def SumC (call : Call) (h0 : Hp) (v : Value) (xs : List Nat) : Prop := ∀ H, Good h0 H → h0.next ≤ H.next → call 6 [v] H = .val (.agg ⟨u8L xs⟩) H
def HexC (call : Call) (xs : List Nat) : Prop := ∀ H b, Dead H → Bytes H b 0 xs → call 113 [slV b 0 32 32] H = .val (.string (mkS (hexT xs))) H
theorem Good.keep {h0 h H : Hp} (hg : Good h0 h) (hk : Keeps h.next h H) (hn : h0.next ≤ h.next) : Good h0 H := fun b hb => by rw [hk.at_ b (by omega), hg b hb]
theorem Good.sb {h0 h : Hp} (hg : Good h0 h) (n : Nat) (l : List Nat) : Good h0 (setBase h n l) := hg
theorem askHash_run {call : Call} {cd : CallD} {h0 h : Hp} {v : Value} {xs : List Nat} (hx : xs.length = 32) (h256 : ∀ x ∈ xs, x < 256) (hw : Wf h) (hg : Good h0 h) (hn0 : h0.next ≤ h.next) (hsum : SumC call h0 v xs) (hhex : HexC call xs) :
    Yields (runF cf59 call cd [.agg ⟨nil3⟩, .agg ⟨cmdL v⟩] h) (AnsR xs h) := by
  refine runF_yields rfl ?_
  rw [z_seq]
  refine After.exK (φ := Ho fun e tm df H => e = .normal ∧ df = [] ∧ tm.get [false, true] = some (ptrV (h.next + 1 + 1) 0) ∧ tm.get [true, true] = some (ptrV (h.next + 1) 0) ∧ H.next = h.next + 3 ∧ Wf H ∧ Keeps h.next h H ∧ H.at (h.next + 1) = some (rowL (cmdL v) 12 43 true) ∧ H.at (h.next + 1 + 1) = some (rowL ansZ 4 26 true)) ?_ ?_
  · simp only [↓evD, evD, evU, evF, reduceCtorEq, evB, cmd_len]
    refine ⟨?_⟩
    refine ⟨rfl, rfl, by simp [T.get_set], by simp [T.get_set], rfl, ((hw.new _).new _).new _, ((Keeps.new _ (Nat.le_refl _)).trans (Keeps.new _ (by rw [z_new_next]; omega))).trans (Keeps.new _ (by rw [z_new_next, z_new_next]; omega)), ?_, ?_⟩
    · simp only [z_at_new, z_new_next, z_ne1, if_false, if_true]
    · simp only [z_at_new, z_new_next, z_ne1, if_false, if_true]; rfl
  rintro e tm df H ⟨⟨rfl, rfl, t4, t3, hn, hw1, hk, a3, a4⟩⟩
  rw [z_kn, z_seq]
  have s6 := hsum H (hg.keep hk hn0) (by omega)
  have l32 : (u8L xs).length = 32 := by rw [u8_len, hx]
  have o32 := (u8_b h256).one
  have q10 : Nat.blt (0 + 10) 12 = true := rfl
  have q32 : Nat.ble (0 + 32) 32 = true := rfl
  have g10 : (storeL (cmdL v) 0 .nil fun t => t).get (path (0 + 10)) = some v := rfl
  refine After.exK (φ := Ho fun e tm df H => e = .normal ∧ df = [] ∧ tm.get [false, true] = some (ptrV (h.next + 1 + 1) 0) ∧ tm.get [true, false] = some (ptrV (h.next + 3) 0) ∧ H.next = h.next + 4 ∧ Wf H ∧ Keeps h.next h H ∧ H.at (h.next + 1 + 1) = some (rowL ansZ 4 26 true) ∧ Bytes H (h.next + 3) 0 xs) ?_ ?_
  · have hb := hw.base
    simp only [↓evD, evD, evU, evF, reduceCtorEq, evB, t3, a3, q10, g10, s6, l32, o32, q32, hn]
    refine ⟨?_⟩
    refine ⟨rfl, rfl, by simp [T.get_set, t4], by simp [T.get_set], ?_, ?_, ?_, ?_, ?_⟩
    · rw [z_put_next, z_new_next, hn]
    · exact (hw1.new _).put (by rw [z_new_next]; omega) _
    · exact (hk.trans (Keeps.new _ hk.next)).trans (Keeps.put _ (by omega) (by rw [z_new_base, hk.base]; omega))
    · rw [z_at_put, if_neg (by omega), z_at_new, if_neg (by omega)]; exact a4
    · exact bytes_row hx (by rw [z_at_put, if_pos rfl])
  clear t3 a3 hn hw1 hk a4 s6
  rintro e tm df H ⟨⟨rfl, rfl, t4, t5, hn, hw1, hk, a4, hby⟩⟩
  rw [z_kn]
  have hb := hw.base
  have s113 := hhex (setBase H H.next []) (h.next + 3) hw1.dead hby
  have hbd : ∀ (s : List UInt8) (b : Nat) (w : Value) (tm : T Value), oBuild [Value.int .i64 (.ofNat 0), Value.int .i64 (.ofNat 0), Value.string (mkS []), Value.slice none 0 0] [(2, (1, OD.loc 1)), (3, (1, OD.loc 0))] [slV b 0 32 32, Value.string (mkS s), w] tm = some (.agg ⟨ansL s b⟩) := fun s b w tm => rfl
  have hnb : Nat.ble H.next (h.next + 1 + 1) = false := z_bleF (by omega)
  have hlog : logs H.next [] (h.next + 1 + 1) = [h.next + 1 + 1] := z_logs (by omega)
  have hbl : ∀ l, below H.base [h.next + 1 + 1] l = l := z_bel1 (by rw [hk.base]; omega)
  have q4 : Nat.ble (0 + 4) 4 = true := rfl
  have hal := ans_len (hexT xs)
  have hao := ans_one (hexT xs)
  simp only [↓hbd, ↓evD, evD, evU, evF, reduceCtorEq, evB, t4, t5, s113, a4, hnb, hlog, hbl, hal, hao, q4]
  refine .ret ?_
  rw [exR_cell (b := h.next + 1 + 1) (l := ansL (hexT xs) (h.next + 3)) (by simp [T.get_set, t4]) (by rw [z_at_sb, z_at_put, if_pos rfl]) (Nat.le_refl _) (ans_ld _ _ _)]
  rw [sb_put (by rw [hk.base]; omega)]
  refine ⟨_, rfl, hby.keep (by rw [z_at_put, if_neg (by omega)]), by omega, by rw [z_put_next]; omega, hw1.put (by omega) _, hk.trans (Keeps.put _ (by omega) (by rw [hk.base]; omega))⟩
/-- answer, of askHash -/
theorem answer_run {call : Call} {cd : CallD} {h0 h : Hp} {v : Value} {xs : List Nat} (hw : Wf h) (hg : Good h0 h) (hn0 : h0.next ≤ h.next) (hcd : ∀ b H, cd 60 [ptrV b 0] .ret H = .ok .ret H)
    (h59 : ∀ H, Wf H → Good h0 H → h0.next ≤ H.next → Yields (call 59 [.agg ⟨nil3⟩, .agg ⟨cmdL v⟩] H) (AnsR xs H)) :
    Yields (runF cf24 call cd [.agg ⟨nil3⟩, .agg ⟨cmdL v⟩, fn59] h) (AnsR xs h) := by
  refine runF_yieldsD (g := 60) (a := [ptrV (h.next + 1 + 1) 0]) rfl ?_
  rw [z_seq]
  refine After.exK (φ := Ho fun e tm df H => e = .normal ∧ df = [] ∧ tm.get [false] = some fn59 ∧ tm.get [false, false] = some (ptrV (h.next + 1 + 1) 0) ∧ tm.get [false, true] = some (ptrV (h.next + 1) 0) ∧ tm.get [true, true] = some (ptrV h.next 0) ∧ H.next = h.next + 3 ∧ Wf H ∧ Keeps h.next h H ∧ H.at h.next = some (rowL nil3 3 34 true) ∧ H.at (h.next + 1) = some (rowL (cmdL v) 12 43 true) ∧ H.at (h.next + 1 + 1) = some (rowL ansZ 4 26 true)) ?_ ?_
  · simp only [↓evD, evD, evU, evF, reduceCtorEq, evB, cmd_len, nil3_len]
    refine ⟨?_⟩
    refine ⟨rfl, rfl, by simp [T.get_set, z_st32], by simp [T.get_set], by simp [T.get_set], by simp [T.get_set], rfl, ((hw.new _).new _).new _, ((Keeps.new _ (Nat.le_refl _)).trans (Keeps.new _ (by rw [z_new_next]; omega))).trans (Keeps.new _ (by rw [z_new_next, z_new_next]; omega)), ?_, ?_, ?_⟩
    · simp only [z_at_new, z_new_next, z_ne1, z_ne2, if_false, if_true]
    · simp only [z_at_new, z_new_next, z_ne1, if_false, if_true]
    · simp only [z_at_new, z_new_next, z_ne1, if_false, if_true]; rfl
  rintro e tm df H ⟨⟨rfl, rfl, t2, t6, t4, t3, hn, hw1, hk, a2, a3, a4⟩⟩
  rw [z_kn]
  obtain ⟨w, H', e59, b, rfl, hby, hbl, hbn, hw2, hk2⟩ := (h59 H hw1 (hg.keep hk hn0) (by omega)).get
  have hb := hw.base
  have u0 := nil3_g0
  have u1 := nil3_g1
  have u2 := nil3_g2
  have k3 := nil3_def
  have k12 := cmd_ld v .nil
  have q3 : Nat.ble (0 + 3) 3 = true := rfl
  have q12 : Nat.ble (0 + 12) 12 = true := rfl
  have q4 : Nat.ble (0 + 4) 4 = true := rfl
  have hal := ans_len (hexT xs)
  have hao := ans_one (hexT xs)
  have a5 : H'.at (h.next + 1 + 1) = some (rowL ansZ 4 26 true) := by rw [hk2.at_ _ (by omega)]; exact a4
  have hvf : ∀ {R : Type} (k : FuncId → List Value → List Value → R) (z : R), vFn fn59 k z = k 59 [] [] := fun k z => rfl
  simp only [↓evD, evD, evU, evF, reduceCtorEq, evB, z_dfr, z_mkF, z_vFn, hvf, t2, t6, t4, t3, a2, a3, u0, u1, u2, k3, ↓k12, q3, q12, z_callV, List.nil_append, List.append_nil, List.cons_append, e59, a5, hal, hao, q4]
  refine ⟨.inr rfl, rfl, hcd _ _, ?_⟩
  rw [exR_cell (b := h.next + 1 + 1) (l := ansL (hexT xs) b) (by simp [T.get_set, t6]) (by rw [z_at_put, if_pos rfl]) (Nat.le_refl _) (ans_ld _ _ _)]
  have hb2 : H'.base = h.base := hk2.base.trans hk.base
  refine ⟨_, rfl, hby.keep (by rw [z_at_put, if_neg (by omega)]), by omega, by rw [z_put_next]; omega, hw2.put (by have := hk2.next; omega) _, (hk.trans (hk2.less (by omega))).trans (Keeps.put _ (by omega) (by rw [hb2]; omega))⟩
end Abs
end Go
/- Symbolic runs: Do and ask, of AskHash. -/
set_option maxRecDepth 10000
namespace Go
namespace Abs
theorem exR_cell2 {n1 n2 b1 b2 : Nat} {p1 p2 : List Bool} {tm : T Value} {h : Hp} {c1 c2 : T Value} {m1 m2 : Nat} {e1 e2 : TypeId} {cl1 ro1 cl2 ro2 : Bool} {l1 l2 : List Value} (ht1 : tm.get p1 = some (ptrV b1 0)) (ht2 : tm.get p2 = some (ptrV b2 0))
    (hat1 : h.at b1 = some (.row c1 m1 e1 cl1 ro1)) (hat2 : h.at b2 = some (.row c2 m2 e2 cl2 ro2)) (hm1 : n1 ≤ m1) (hm2 : n2 ≤ m2) (hl1 : loadN c1 0 n1 [] = some l1) (hl2 : loadN c2 0 n2 [] = some l2) :
    exR [.cell true n1 p1, .cell true n2 p2] tm h = .val (.tuple ⟨[.agg ⟨l1⟩, .agg ⟨l2⟩]⟩) h := by
  have h2 : exRs [.cell true n1 p1, .cell true n2 p2] tm h = some [.agg ⟨l1⟩, .agg ⟨l2⟩] := by
    show oEl (exR1 (.cell true n1 p1) tm h) (fun v => oEl (oEl (exR1 (.cell true n2 p2) tm h) (fun v => oEl (some ([] : List Value)) (fun l => some (v :: l)) none) none) (fun l => some (v :: l)) none) none = _
    rw [exR1_cell ht1 hat1 hm1 hl1, exR1_cell ht2 hat2 hm2 hl2]; rfl
  unfold exR
  rw [h2]; rfl
/-- what Do answers to AskHash -/
def DoR (xs : List Nat) (h : Hp) (v : Value) (H : Hp) : Prop := ∃ b, v = .tuple ⟨[.agg ⟨nil3⟩, .agg ⟨ansL (hexT xs) b⟩]⟩ ∧ Bytes H b 0 xs ∧ h.next ≤ b ∧ b < H.next ∧ Wf H ∧ Keeps h.next h H
theorem do_run {call : Call} {cd : CallD} {h0 h : Hp} {v : Value} {xs : List Nat} (hw : Wf h) (hg : Good h0 h) (hn0 : h0.next ≤ h.next)
    (h23 : ∀ H, H.base ≤ H.next → Yields (call 23 [] H) (QsR H))
    (h24 : ∀ H, Wf H → Good h0 H → h0.next ≤ H.next → Yields (call 24 [.agg ⟨nil3⟩, .agg ⟨cmdL v⟩, fn59] H) (AnsR xs H)) :
    Yields (runF cf12 call cd [.agg ⟨nil3⟩, .agg ⟨cmdL v⟩] h) (DoR xs h) := by
  refine runF_yields rfl ?_
  have hb := hw.base
  have q3 : Nat.ble (0 + 3) 3 = true := rfl
  have q12 : Nat.ble (0 + 12) 12 = true := rfl
  have q4 : Nat.ble (0 + 4) 4 = true := rfl
  have q0 : Nat.blt (0 + 0) 12 = true := rfl
  have g0 : (storeL (cmdL v) 0 .nil fun t => t).get (path (0 + 0)) = some (.int .i64 (.ofNat 8)) := rfl
  have u0 := nil3_g0
  have u1 := nil3_g1
  have u2 := nil3_g2
  have k3 := nil3_def
  have k12 := cmd_ld v .nil
  rw [z_seq]
  refine After.exK (φ := Ho fun e tm df H => e = .normal ∧ df = [] ∧ tm.get [true, false] = some (ptrV (h.next + 3) 0) ∧ tm.get [false, true] = some (ptrV (h.next + 2) 0) ∧ tm.get [true, true] = some (ptrV (h.next + 1) 0) ∧ tm.get [false] = some (ptrV h.next 0) ∧ H.next = h.next + 4 ∧ Wf H ∧ Keeps h.next h H ∧
    H.at h.next = some (rowL nil3 3 36 true) ∧ H.at (h.next + 1) = some (rowL (cmdL v) 12 43 true) ∧ H.at (h.next + 2) = some (rowL nil3 3 36 true) ∧ H.at (h.next + 3) = some (rowL ansZ 4 26 true)) ?_ ?_
  · simp only [↓evD, evD, evU, evF, reduceCtorEq, evB, cmd_len, nil3_len]
    refine ⟨?_⟩
    refine ⟨rfl, rfl, by simp [T.get_set], by simp [T.get_set], by simp [T.get_set], by simp [T.get_set], rfl, (((hw.new _).new _).new _).new _, (((Keeps.new _ (Nat.le_refl _)).trans (Keeps.new _ (by rw [z_new_next]; omega))).trans (Keeps.new _ (by rw [z_new_next, z_new_next]; omega))).trans (Keeps.new _ (by rw [z_new_next, z_new_next, z_new_next]; omega)), ?_, ?_, ?_, ?_⟩
    · simp only [z_at_new, z_new_next, z_ne1, z_ne2, z_ne3, if_false, if_true]
    · rw [z_at_new, z_new_next, z_new_next, z_new_next, if_neg (by omega), z_at_new, z_new_next, z_new_next, if_neg (by omega), z_at_new, z_new_next, if_pos rfl]
    · rw [z_at_new, z_new_next, z_new_next, z_new_next, if_neg (by omega), z_at_new, z_new_next, z_new_next, if_pos rfl]; rfl
    · rw [z_at_new, z_new_next, z_new_next, z_new_next, if_pos rfl]; rfl
  rintro e tm df H ⟨⟨rfl, rfl, t5, t4, t3, t2, hn, hw1, hk, a2, a3, a4, a5⟩⟩
  rw [z_kn, z_seq]
  -- no event, no release
  have q81 : Nat.beq 8 1 = false := rfl
  have q82 : Nat.beq 8 2 = false := rfl
  refine After.exK (φ := Ho fun e tm' df H' => e = .normal ∧ df = [] ∧ H' = H ∧ tm'.get [true, false] = some (ptrV (h.next + 3) 0) ∧ tm'.get [false, true] = some (ptrV (h.next + 2) 0) ∧ tm'.get [true, true] = some (ptrV (h.next + 1) 0) ∧ tm'.get [false] = some (ptrV h.next 0)) ?_ ?_
  · simp only [↓evD, evD, evU, evF, reduceCtorEq, evB, t3, a3, q0, g0, q81, q82]
    refine ⟨?_⟩
    exact ⟨rfl, rfl, rfl, by simp [T.get_set, t5], by simp [T.get_set, t4], by simp [T.get_set, t3], by simp [T.get_set, t2]⟩
  clear t5 t4 t3 t2
  rintro e tm df H1 ⟨⟨rfl, rfl, rfl, t5, t4, t3, t2⟩⟩
  rw [z_kn, z_seq]
  -- the question is looked up
  obtain ⟨w, H2, e23, rfl, n2, b2, l2, m2, at2⟩ := (h23 (setBase H1 H1.next []) (Nat.le_refl _)).get
  rw [z_sb_next] at e23 n2 m2 at2
  rw [z_sb_base] at b2
  rw [z_sb_log] at l2
  have hk2 : Keeps H1.next H1 (setBase H2 H1.base H1.log) := ⟨rfl, rfl, by rw [z_sb_next, n2]; omega, fun b hb => by rw [z_at_sb, at2 b (by omega)]; rfl⟩
  have hw2 : Wf (setBase H2 H1.base H1.log) := ⟨fun b hb => by
    rw [z_sb_next, n2] at hb
    rw [z_at_sb, at2 b (by omega)]
    exact hw1.dead b (by omega), by rw [z_sb_base, z_sb_next, n2]; have := hw1.base; omega⟩
  have a3' : H2.at (h.next + 1) = some (rowL (cmdL v) 12 43 true) := by rw [at2 _ (by omega)]; exact a3
  have hf : findM 2 (.int .i64 (.ofNat 8)) qsM (fun v => lookR true v true) (lookR true .nilFunc false) none = some (.tuple ⟨[fn59, .bool true]⟩) := rfl
  refine After.exK (φ := Ho fun e tm' df H' => e = .normal ∧ df = [] ∧ H' = setBase H2 H1.base H1.log ∧ tm'.get [true, false] = some (ptrV (h.next + 3) 0) ∧ tm'.get [false, true] = some (ptrV (h.next + 2) 0) ∧ tm'.get [true, true] = some (ptrV (h.next + 1) 0) ∧ tm'.get [false] = some (ptrV h.next 0) ∧ tm'.get [true, true, false] = some (.bool true) ∧ tm'.get [false, false, true] = some fn59) ?_ ?_
  · simp only [↓evD, evD, evU, evF, reduceCtorEq, evB, t3, e23, l2, a3', q0, g0, z_look, z_vMap, m2, z_mapO, hf, z_ext, z_p0, z_p1]
    refine ⟨?_⟩
    exact ⟨rfl, rfl, rfl, by simp [T.get_set, t5], by simp [T.get_set, t4], by simp [T.get_set, t3], by simp [T.get_set, t2], by simp [T.get_set], by simp [T.get_set]⟩
  clear t5 t4 t3 t2
  rintro e tm df H3 ⟨⟨rfl, rfl, hH3, t5, t4, t3, t2, t10, t11⟩⟩
  rw [← hH3] at hk2 hw2
  have n3 : H3.next = h.next + 5 := by rw [hH3, z_sb_next, n2, hn]
  have hk3 : Keeps h.next h H3 := hk.trans (hk2.less (by omega))
  have b3 := hk2.at_
  rw [z_kn, z_seq]
  obtain ⟨w, H4, e24, b, rfl, hby, hbl, hbn, hw4, hk4⟩ := (h24 (setBase H3 H3.next []) (hw2.sb []) ((hg.keep hk3 hn0).sb _ _) (by rw [z_sb_next]; omega)).get
  rw [z_sb_next] at hbl hk4
  have l4 : H4.log = [] := hk4.log
  have n4 : h.next + 5 ≤ H4.next := by have := hk4.next; rw [z_sb_next] at this; omega
  have a23 : H3.at h.next = some (rowL nil3 3 36 true) := by rw [b3 _ (by omega)]; exact a2
  have a33 : H3.at (h.next + 1) = some (rowL (cmdL v) 12 43 true) := by rw [b3 _ (by omega)]; exact a3
  have a44 : H4.at (h.next + 2) = some (rowL nil3 3 36 true) := by rw [hk4.at_ _ (by omega), z_at_sb, b3 _ (by omega)]; exact a4
  have a54 : H4.at (h.next + 3) = some (rowL ansZ 4 26 true) := by rw [hk4.at_ _ (by omega), z_at_sb, b3 _ (by omega)]; exact a5
  have y1 : Nat.ble H3.next (h.next + 2) = false := z_bleF (by omega)
  have y2 : Nat.ble H3.next (h.next + 3) = false := z_bleF (by omega)
  have y3 : Nat.ble H4.next (h.next + 3) = false := z_bleF (by omega)
  have y4 : logs H4.next [] (h.next + 2) = [h.next + 2] := z_logs (by omega)
  have y5 : logs H4.next [] (h.next + 3) = [h.next + 3] := z_logs (by omega)
  have hb3 : H3.base ≤ h.next := by rw [hk3.base]; exact hb
  have y6 : ∀ l, below H3.base [h.next + 2] l = l := z_bel1 (by omega)
  have y7 : ∀ l, below H3.base [h.next + 3] l = l := z_bel1 (by omega)
  have x1 : Nat.beq (h.next + 1) (h.next + 2) = false := z_beqF (by omega)
  have x2 : Nat.beq h.next (h.next + 2) = false := z_beqF (by omega)
  have x3 : Nat.beq (h.next + 1) (h.next + 3) = false := z_beqF (by omega)
  have x4 : Nat.beq h.next (h.next + 3) = false := z_beqF (by omega)
  have x5 : Nat.beq (h.next + 2) (h.next + 3) = false := z_beqF (by omega)
  have x6 : (h.next + 2 = h.next + 3) = False := by simp
  have hal := ans_len (hexT xs) b
  have hao := ans_one (hexT xs) b
  simp only [↓evD, evD, evU, evF, reduceCtorEq, evB, t11, t5, t4, t3, t2, t10, a23, a33, q3, q12, u0, u1, u2, k3, ↓k12, e24, l4, a44, a54, y1, y2, y3, y4, y5, y6, y7, x1, x2, x3, x4, x5, x6, hal, hao, q4, nil3_len, nil3_one, Nat.add_zero]
  refine .ret ?_
  rw [exR_cell2 (l1 := nil3) (l2 := ansL (hexT xs) b) (b1 := h.next + 2) (b2 := h.next + 3) (by simp [T.get_set, t4]) (by simp [T.get_set, t5]) (by rw [z_at_sb, z_at_put, if_neg (by omega), z_at_put, if_pos rfl]) (by rw [z_at_sb, z_at_put, if_pos rfl]) (Nat.le_refl _) (Nat.le_refl _) (nil3_ld _) (ans_ld _ _ _)]
  have hwX := ((hw4.put (b := h.next + 2) (by omega) (some (.row (storeL nil3 0 (storeL nil3 0 .nil fun t => t) fun t => t) 3 36 true false))).put (b := h.next + 3) (by rw [z_put_next]; omega) (some (.row (storeL (ansL (hexT xs) b) 0 (storeL ansZ 0 .nil fun t => t) fun t => t) 4 26 true false)))
  refine ⟨b, rfl, hby.keep (by rw [z_at_sb, z_at_put, if_neg (by omega), z_at_put, if_neg (by omega)]), by omega, by rw [z_sb_next, z_put_next, z_put_next]; exact hbn, ⟨hwX.dead, ?_⟩, ⟨?_, ?_, ?_, fun c hc => ?_⟩⟩
  · rw [z_sb_base, z_sb_next, z_put_next, z_put_next]; omega
  · rw [z_sb_base]; exact hk3.base
  · rw [z_sb_log]; exact hk3.log
  · rw [z_sb_next, z_put_next, z_put_next]; omega
  · rw [z_at_sb, z_at_put, if_neg (by omega), z_at_put, if_neg (by omega), hk4.at_ c (by omega), z_at_sb]; exact hk3.at_ c hc
end Abs
end Go
/- Symbolic runs: the law. -/
set_option maxRecDepth 10000
namespace Go
namespace Abs
/-- ask -/
def AskR (xs : List Nat) (h : Hp) (v : Value) (H : Hp) : Prop := AnsR xs h v H
theorem ask_run {call : Call} {cd : CallD} {h0 h : Hp} {v : Value} {xs : List Nat} (hw : Wf h) (hg : Good h0 h) (hn0 : h0.next ≤ h.next)
    (h12 : ∀ H, Wf H → Good h0 H → h0.next ≤ H.next → Yields (call 12 [.agg ⟨nil3⟩, .agg ⟨cmdL v⟩] H) (DoR xs H)) :
    Yields (runF cf5 call cd [.agg ⟨nil3⟩, .agg ⟨cmdL v⟩] h) (AnsR xs h) := by
  refine runF_yields rfl ?_
  have hb := hw.base
  have q3 : Nat.ble (0 + 3) 3 = true := rfl
  have q12 : Nat.ble (0 + 12) 12 = true := rfl
  have q4 : Nat.ble (0 + 4) 4 = true := rfl
  have u0 := nil3_g0
  have u1 := nil3_g1
  have u2 := nil3_g2
  have k3 := nil3_def
  have k12 := cmd_ld v .nil
  rw [z_seq]
  refine After.exK (φ := Ho fun e tm df H => e = .normal ∧ df = [] ∧ tm.get [false, true] = some (ptrV (h.next + 2) 0) ∧ tm.get [true, true] = some (ptrV (h.next + 1) 0) ∧ tm.get [false] = some (ptrV h.next 0) ∧ H.next = h.next + 3 ∧ Wf H ∧ Keeps h.next h H ∧
    H.at h.next = some (rowL nil3 3 36 true) ∧ H.at (h.next + 1) = some (rowL (cmdL v) 12 43 true) ∧ H.at (h.next + 2) = some (rowL ansZ 4 26 true)) ?_ ?_
  · simp only [↓evD, evD, evU, evF, reduceCtorEq, evB, cmd_len, nil3_len]
    refine ⟨?_⟩
    refine ⟨rfl, rfl, by simp [T.get_set], by simp [T.get_set], by simp [T.get_set], rfl, ((hw.new _).new _).new _, ((Keeps.new _ (Nat.le_refl _)).trans (Keeps.new _ (by rw [z_new_next]; omega))).trans (Keeps.new _ (by rw [z_new_next, z_new_next]; omega)), ?_, ?_, ?_⟩
    · rw [z_at_new, z_new_next, z_new_next, if_neg (by omega), z_at_new, z_new_next, if_neg (by omega), z_at_new, if_pos rfl]
    · rw [z_at_new, z_new_next, z_new_next, if_neg (by omega), z_at_new, z_new_next, if_pos rfl]
    · rw [z_at_new, z_new_next, z_new_next, if_pos rfl]; rfl
  rintro e tm df H ⟨⟨rfl, rfl, t4, t3, t2, hn, hw1, hk, a2, a3, a4⟩⟩
  rw [z_kn, z_seq]
  obtain ⟨w, H4, e12, b, rfl, hby, hbl, hbn, hw4, hk4⟩ := (h12 H hw1 (hg.keep hk hn0) (by omega)).get
  have hal := ans_len (hexT xs) b
  have hao := ans_one (hexT xs) b
  have n4 := hk4.next
  have b4 : H4.base = h.base := hk4.base.trans hk.base
  refine After.exK (φ := Ho fun e tm df H => e = .normal ∧ df = [] ∧ tm.get [false, true] = some (ptrV (h.next + 2) 0) ∧ tm.get [false, false] = some (ptrV (H4.next + 1) 0) ∧ Wf H ∧ Keeps h.next h H ∧ H4.next + 2 = H.next ∧ Bytes H b 0 xs ∧
    H.at (h.next + 2) = some (rowL ansZ 4 26 true) ∧ H.at (H4.next + 1) = some (.row (storeL (ansL (hexT xs) b) 0 (storeL ansZ 0 .nil fun t => t) fun t => t) 4 26 true false)) ?_ ?_
  · simp only [↓evD, evD, evU, evF, reduceCtorEq, evB, t4, t3, t2, a2, a3, q3, q12, u0, u1, u2, k3, ↓k12, e12, z_ext, z_p0, z_p1, nil3_len, nil3_one, hal, hao, q4]
    refine ⟨?_⟩
    refine ⟨rfl, rfl, by simp [T.get_set, t4], by simp [T.get_set], ?_, ?_, ?_, ?_, ?_, ?_⟩
    · exact (((hw4.new _).new _).put (by rw [z_new_next, z_new_next]; omega) _).put (by rw [z_put_next, z_new_next, z_new_next]; omega) _
    · exact ((((hk.trans (hk4.less (by omega))).trans (Keeps.new _ (by omega))).trans (Keeps.new _ (by rw [z_new_next]; omega))).trans (Keeps.put _ (by omega) (by rw [z_new_base, z_new_base]; omega))).trans (Keeps.put _ (by omega) (by rw [z_put_base, z_new_base, z_new_base]; omega))
    · rfl
    · exact hby.keep (by rw [z_at_put, if_neg (by omega), z_at_put, if_neg (by omega), z_at_new, z_new_next, if_neg (by omega), z_at_new, if_neg (by omega)])
    · rw [z_at_put, if_neg (by omega), z_at_put, if_neg (by omega), z_at_new, z_new_next, if_neg (by omega), z_at_new, if_neg (by omega), hk4.at_ _ (by omega)]; exact a4
    · rw [z_at_put, if_pos rfl]; rfl
  clear t4 t3 t2
  rintro e tm df H5 ⟨⟨rfl, rfl, t4, t6, hw5, hk5, hn5, hby5, a45, a65⟩⟩
  rw [z_kn]
  have hld := ans_ld (hexT xs) b (storeL ansZ 0 .nil fun t => t)
  simp only [↓evD, evD, evU, evF, reduceCtorEq, evB, t4, t6, a65, a45, hld, q4, hal, hao]
  refine .ret ?_
  rw [exR_cell (b := h.next + 2) (l := ansL (hexT xs) b) (by simp [T.get_set, t4]) (by rw [z_at_put, if_pos rfl]) (Nat.le_refl _) (ans_ld _ _ _)]
  exact ⟨b, rfl, hby5.keep (by rw [z_at_put, if_neg (by omega)]), by omega, by rw [z_put_next]; omega, hw5.put (by omega) _, hk5.trans (Keeps.put _ (by omega) (by rw [hk5.base]; exact Nat.le_trans hb (by omega)))⟩
theorem z_quo16 (kd : IntKind) (a : Nat) : gQuo kd (.ofNat a) (.ofNat 16) = some (.int kd (fwrap kd (.ofNat (a / 16)))) := kInt_eq _ _
theorem z_rem16 (kd : IntKind) (a : Nat) : gRem kd (.ofNat a) (.ofNat 16) = some (.int kd (.ofNat (a % 16))) := z_remG kd a 16 rfl
theorem wrap8 {a : Nat} (h : a < 256) : fwrap .u8 (.ofNat a) = .ofNat a := by rw [z_wrap8, Nat.mod_eq_of_lt h]
theorem hexT_at {xs : List Nat} {i x : Nat} (hx : xs[i]? = some x) : nthB (hexT xs) (2 * i) = some (hexD (x / 16)) ∧ nthB (hexT xs) (2 * i + 1) = some (hexD (x % 16)) := by
  rw [nthB_eq, nthB_eq]
  have h1 := hexT_step hx
  have hi := (List.getElem?_eq_some_iff.1 hx).1
  have hl : (hexT (xs.take i)).length = 2 * i := by rw [hexT_len, List.length_take]; omega
  have h2 : hexT xs = hexT (xs.take (i + 1)) ++ hexT (xs.drop (i + 1)) := by
    unfold hexT
    rw [← List.flatMap_append, List.take_append_drop]
  rw [h2, h1]
  constructor
  · rw [List.append_assoc, List.getElem?_append_right (by omega), hl, Nat.sub_self]; rfl
  · rw [List.append_assoc, List.getElem?_append_right (by omega), hl, show 2 * i + 1 - 2 * i = 1 by omega]; rfl
/-- what stands while the digits are looked at -/
structure LW (b4 b5 : Nat) (h : Hp) (i : Nat) (tm : T Value) (df : Df) (H : Hp) : Prop where
  df : df = []
  hh : H = h
  t3 : tm.get [true, true] = some (.bool true)
  t4 : tm.get [false, true] = some (ptrV b4 0)
  t5 : tm.get [true, false] = some (ptrV b5 0)
  t6 : tm.get [false, false] = some (.int .i64 (.ofNat i))
theorem law_l0 {call : Call} {h : Hp} {b4 b5 : Nat} {xs : List Nat} {c : T Value} {e : TypeId} {cl ro : Bool} (hx : xs.length = 32) (h256 : ∀ x ∈ xs, x < 256) (a4 : h.at b4 = some (.row c 4 e cl ro)) (c2 : c.get (path (0 + 2)) = some (.string (mkS (hexT xs)))) (a5 : Bytes h b5 0 xs) {tm : T Value} {df : Df} {H : Hp} (hst : LW b4 b5 h 0 tm df H) :
    After (exC (.loop cf3_l0) call tm df H) (fun ex tm df H => ex = .exit 0 ∧ LW b4 b5 h 32 tm df H) := by
  obtain ⟨k5, m5, e5, cl5, ro5, at5, l5, g5⟩ := a5
  have q2 : Nat.blt (0 + 2) 4 = true := rfl
  refine loop_for (n := 32) (by omega) (LW b4 b5 h) (fun i tm df H hi hI => ?_) (fun tm df H hI => ?_) hst
  · obtain ⟨rfl, rfl, t3, t4, t5, t6⟩ := hI
    have hxi : xs[i]? = some (xs[i]'(by omega)) := List.getElem?_eq_getElem (by omega)
    generalize xs[i]'(by omega) = x at hxi
    have hx2 := h256 x (List.mem_of_getElem? hxi)
    obtain ⟨d1, d2⟩ := hexT_at hxi
    have d3 := z_nthH (k := x / 16) (by omega)
    have d4 := z_nthH (k := x % 16) (by omega)
    have g := g5 i x hxi
    have q0 : Nat.blt i 32 = true := z_blt hi
    have q1 : Nat.blt (0 + i * 1) m5 = true := z_blt (by omega)
    have w1 : fwrap .i64 (.ofNat (i + 1)) = .ofNat (i + 1) := z_wrapN (by omega)
    have w2 : fwrap .i64 (.ofNat (2 * i + 1)) = .ofNat (2 * i + 1) := z_wrapN (by omega)
    have w3 : gMul .i64 (.ofNat 2) (.ofNat i) = some (.int .i64 (.ofNat (2 * i))) := by
      unfold gMul
      rw [kInt_eq, show imul (.ofNat 2) (.ofNat i) = .ofNat (2 * i) from rfl, z_wrapN (by omega)]
    have w4 : fwrap .u8 (.ofNat (x / 16)) = .ofNat (x / 16) := wrap8 (by omega)
    simp only [↓evD, evD, evU, evF, reduceCtorEq, evB, z_DGg, cf3_l0, t3, t4, t5, t6, q0, q1, q2, a4, c2, at5, g, z_ixStr, d1, d2, d3, d4, z_quo16, z_rem16, w1, w2, w3, w4]
    exact .go ⟨rfl, rfl, by simp [T.get_set, t3], by simp [T.get_set, t4], by simp [T.get_set, t5], by simp [T.get_set]⟩
  · obtain ⟨rfl, rfl, t3, t4, t5, t6⟩ := hI
    have q0 : Nat.blt 32 32 = false := rfl
    simp only [↓evD, evD, evU, evF, reduceCtorEq, evB, cf3_l0, t6, q0]
    exact .ex ⟨rfl, rfl, rfl, by simp [T.get_set, t3], by simp [T.get_set, t4], by simp [T.get_set, t5], by simp [T.get_set, t6]⟩
def SaneC (call : Call) (h0 : Hp) : Prop := ∀ H, Good h0 H → h0.next ≤ H.next → call 4 [] H = .val (.bool true) H
def SameC (call : Call) (xs : List Nat) : Prop := ∀ H b1 b2 c1 c2, Bytes H b1 0 xs → Bytes H b2 0 xs → call 7 [slV b1 0 32 c1, slV b2 0 32 c2] H = .val (.bool true) H
/-- the law: more than 200 bytes -/
theorem law_long {call : Call} {cd : CallD} {h : Hp} {v : Value} {n : Nat} (hv : RestV h v n) (hn : 200 < n) (hsane : SaneC call h) : Yields (runF cf3 call cd [v] h) (fun r H => r = .bool true ∧ H.log = h.log) := by
  refine runF_yields rfl ?_
  have hlen := hv.len
  have s4 := hsane h (fun _ _ => rfl) (Nat.le_refl _)
  have q200 : Nat.blt 200 n = true := z_blt hn
  simp only [↓evD, evD, evU, evF, reduceCtorEq, evB, z_st10, s4, hlen, q200]
  refine .ret ?_
  simp only [↓evD, evD, evU, evF, reduceCtorEq, evB]
/-- the law: at most 200 bytes -/
theorem law_run {call : Call} {cd : CallD} {h : Hp} {v : Value} {n : Nat} {xs : List Nat} (hw : Wf h) (hv : RestV h v n) (hn : n ≤ 200) (hx : xs.length = 32) (h256 : ∀ x ∈ xs, x < 256) (hsane : SaneC call h) (hsum : SumC call h v xs) (hsame : SameC call xs)
    (h5 : ∀ H, Wf H → Good h H → h.next ≤ H.next → Yields (call 5 [.agg ⟨nil3⟩, .agg ⟨cmdL v⟩] H) (AnsR xs H)) :
    Yields (runF cf3 call cd [v] h) (fun r H => r = .bool true ∧ H.log = h.log) := by
  refine runF_yields rfl ?_
  have hb := hw.base
  have hg : Good h h := fun _ _ => rfl
  have hlen := hv.len
  have s4 := hsane h hg (Nat.le_refl _)
  have q200 : Nat.blt 200 n = false := z_bltF hn
  have hc : ∀ (lo : List Value) (tm : T Value), oBuild [Value.int .i64 (.ofNat 0), Value.int .i64 (.ofNat 0), Value.int .i64 (.ofNat 0), Value.int .i64 (.ofNat 0), Value.int .i64 (.ofNat 0), Value.int .i64 (.ofNat 0), Value.int .u8 (.ofNat 0), Value.slice none 0 0, Value.slice none 0 0, Value.slice none 0 0, Value.slice none 0 0, Value.slice none 0 0] [(0, (1, OD.val (.int .i64 (.ofNat 8)))), (10, (1, OD.loc 0))] (v :: lo) tm = some (.agg ⟨cmdL v⟩) := fun lo tm => by
    rcases hv with ⟨_, rfl⟩ | ⟨b, o, c, rfl, _⟩ <;> rfl
  have h3 : ∀ (lo : List Value) (tm : T Value), oBuild [Value.slice none 0 0, Value.slice none 0 0, Value.slice none 0 0] [] lo tm = some (.agg ⟨nil3⟩) := fun lo tm => rfl
  obtain ⟨w, H5, e5, b, rfl, hby, hbl, hbn, hw5, hk5⟩ := (h5 h hw hg (Nat.le_refl _)).get
  have n5 := hk5.next
  have s6 := hsum H5 (hg.keep hk5 (Nat.le_refl _)) n5
  have hal := ans_len (hexT xs) b
  have hao := ans_one (hexT xs) b
  have l32 : (u8L xs).length = 32 := by rw [u8_len, hx]
  have o32 := (u8_b h256).one
  have q32 : Nat.ble (0 + 32) 32 = true := rfl
  have q4 : Nat.ble (0 + 4) 4 = true := rfl
  have b5 : H5.base ≤ h.next := by rw [hk5.base]; exact hb
  rw [z_seq]
  refine After.exK (φ := Ho fun e tm df H => e = .normal ∧ df = [] ∧ H = h ∧ tm.get [] = some v) ?_ ?_
  · simp only [↓evD, evD, evU, evF, reduceCtorEq, evB]
    refine ⟨?_⟩
    exact ⟨rfl, rfl, rfl, by simp [T.get_set, z_st10]⟩
  rintro e tm df H ⟨⟨rfl, rfl, hH, t0⟩⟩
  rw [hH, z_kn, z_seq]
  refine After.exK (φ := Ho fun e tm df H => e = .normal ∧ df = [] ∧ H = h ∧ tm.get [] = some v ∧ tm.get [true, true] = some (.bool true)) ?_ ?_
  · simp only [↓evD, evD, evU, evF, reduceCtorEq, evB, s4]
    refine ⟨?_⟩
    exact ⟨rfl, rfl, rfl, by simp [T.get_set, t0], by simp [T.get_set]⟩
  clear t0 hH H
  rintro e tm df H ⟨⟨rfl, rfl, hH, t0, t3⟩⟩
  rw [hH, z_kn, z_seq]
  refine After.exK (φ := Ho fun e tm df H => e = .normal ∧ df = [] ∧ H = h ∧ tm.get [] = some v ∧ tm.get [true, true] = some (.bool true)) ?_ ?_
  · simp only [↓evD, evD, evU, evF, reduceCtorEq, evB, t0, hlen, q200]
    refine ⟨?_⟩
    exact ⟨rfl, rfl, rfl, by simp [T.get_set, t0], by simp [T.get_set, t3]⟩
  clear t0 t3 hH H
  rintro e tm df H ⟨⟨rfl, rfl, hH, t0, t3⟩⟩
  rw [hH, z_kn, z_seq]
  refine After.exK (φ := Ho fun e tm df H => e = .normal ∧ df = [] ∧ tm.get [true, true] = some (.bool true) ∧ tm.get [false, true] = some (ptrV H5.next 0) ∧ tm.get [true, false] = some (ptrV (H5.next + 1) 0) ∧ H.log = h.log ∧
    H.at H5.next = some (.row (storeL (ansL (hexT xs) b) 0 (storeL ansZ 0 .nil fun t => t) fun t => t) 4 26 true false) ∧ Bytes H (H5.next + 1) 0 xs ∧ Bytes H b 0 xs) ?_ ?_
  · simp only [↓hc, ↓h3, ↓evD, evD, evU, evF, reduceCtorEq, evB, t0, e5, s6, hal, hao, q4, l32, o32, q32]
    refine ⟨?_⟩
    refine ⟨rfl, rfl, by simp [T.get_set, t3], by simp [T.get_set], by simp [T.get_set], ?_, ?_, ?_, ?_⟩
    · rw [z_put_log (by rw [z_put_base, z_new_base, z_new_base]; omega), z_put_log (by rw [z_new_base, z_new_base]; omega), z_new_log, z_new_log]; exact hk5.log
    · rw [z_at_put, if_neg (by omega), z_at_put, if_pos rfl]; rfl
    · exact bytes_row hx (by rw [z_at_put, if_pos rfl])
    · exact hby.keep (by rw [z_at_put, if_neg (by omega), z_at_put, if_neg (by omega), z_at_new, z_new_next, if_neg (by omega), z_at_new, if_neg (by omega)])
  clear t0 t3 hH H
  rintro e tm df H ⟨⟨rfl, rfl, t3, t4, t5, hlg, a4, a5, a6⟩⟩
  rw [z_kn, z_seq]
  have s7 := hsame (setBase H H.next []) b (H5.next + 1) 32 32 a6 a5
  have g0 : (storeL (ansL (hexT xs) b) 0 (storeL ansZ 0 .nil fun t => t) fun t => t).get (path (0 + 0)) = some (.int .i64 (.ofNat 0)) := rfl
  have g1 : (storeL (ansL (hexT xs) b) 0 (storeL ansZ 0 .nil fun t => t) fun t => t).get (path (0 + 1)) = some (.int .i64 (.ofNat 0)) := rfl
  have g2 : (storeL (ansL (hexT xs) b) 0 (storeL ansZ 0 .nil fun t => t) fun t => t).get (path (0 + 2)) = some (.string (mkS (hexT xs))) := rfl
  have g3 : (storeL (ansL (hexT xs) b) 0 (storeL ansZ 0 .nil fun t => t) fun t => t).get (path (0 + 3)) = some (slV b 0 32 32) := rfl
  have p0 : Nat.blt (0 + 0) 4 = true := rfl
  have p1 : Nat.blt (0 + 1) 4 = true := rfl
  have p2 : Nat.blt (0 + 2) 4 = true := rfl
  have p3 : Nat.blt (0 + 3) 4 = true := rfl
  have h64 : (hexT xs).length = 64 := by rw [hexT_len, hx]
  refine After.exK (φ := Ho fun e tm df H' => e = .normal ∧ df = [] ∧ H' = H ∧ tm.get [true, true] = some (.bool true) ∧ tm.get [false, true] = some (ptrV H5.next 0) ∧ tm.get [true, false] = some (ptrV (H5.next + 1) 0)) ?_ ?_
  · simp only [↓evD, evD, evU, evF, reduceCtorEq, evB, z_DGg, t3, t4, t5, a4, g0, g1, g2, g3, p0, p1, p2, p3, s7, h64]
    refine ⟨?_⟩
    exact ⟨rfl, rfl, rfl, by simp [T.get_set, t3], by simp [T.get_set, t4], by simp [T.get_set, t5]⟩
  clear t3 t4 t5
  rintro e tm df H' ⟨⟨rfl, rfl, hH, t3, t4, t5⟩⟩
  rw [hH, z_kn, z_seq]
  refine After.exK (φ := fun e tm df H' => e = .normal ∧ LW H5.next (H5.next + 1) H 32 tm df H') ?_ ?_
  · simp only [↓evD, evD, evU, evF, reduceCtorEq, evB]
    refine After.exK (φ := fun ex tm df H' => ex = .exit 0 ∧ LW H5.next (H5.next + 1) H 32 tm df H') ?_ ?_
    · exact law_l0 hx h256 a4 g2 a5 ⟨rfl, rfl, by simp [T.get_set, t3], by simp [T.get_set, t4], by simp [T.get_set, t5], by simp [T.get_set]⟩
    · rintro e tm df H' ⟨rfl, rest⟩; exact ⟨rfl, rest⟩
  clear t3 t4 t5 hH H'
  rintro e tm df H' ⟨rfl, ⟨hdf, hH, t3, t4, t5, t6⟩⟩
  subst hdf
  rw [hH, z_kn]
  simp only [↓evD, evD, evU, evF, reduceCtorEq, evB, t3]
  refine .ret ?_
  simp only [↓evD, evD, evU, evF, reduceCtorEq, evB]
  exact hlg
end Abs
end Go
