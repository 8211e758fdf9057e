/-
Symbolic runs: Hex of the program.
Conditions: none.
-/
import Derived.Test.YtgamdeginkngaaaGreatDoorRunM
set_option linter.unusedVariables false
set_option linter.unusedSimpArgs false
namespace Go
namespace Abs
theorem z_shift (g : G) (x y : OD) (lo : List Value) (tm : T Value) : oShift g x y lo tm = vInt (rdO x lo tm) (fun kd a => vInt (rdO y lo tm) (fun _ b => g kd a b) none) none := rfl
theorem z_shr4 (x : Nat) : gShr .u8 (.ofNat x) (.ofNat 4) = some (.int .u8 (.ofNat (x / 16))) := by
  show kInt .u8 (ishr (.ofNat x) 4) = _
  rw [kInt_eq]
  rfl
theorem z_land15 (x : Nat) : nn Nat.land .u8 (.ofNat x) (.ofNat 15) = some (.int .u8 (.ofNat (x % 16))) := by
  show (forceNat (Nat.land x 15) fun c => bif Nat.blt c 256 then some (Value.int .u8 (.ofNat c)) else none) = _
  have e : Nat.land x 15 = x % 16 := Nat.and_two_pow_sub_one_eq_mod x 4
  rw [forceNat_eq, e, z_blt (by omega)]; rfl
theorem z_ixStr (x i : OD) (lo : List Value) (tm : T Value) : oIxStr x i lo tm = vNat (rdO i lo tm) (fun i => vStr (rdO x lo tm) (fun s => oEl (nthB (bl s) i) (fun b => some (.int .u8 (.ofNat b.toNat))) none) none) none := by
  unfold oIxStr; simp only [kNat_eq]; rfl
theorem z_nthH {k : Nat} (hk : k < 16) : nthB [48, 49, 50, 51, 52, 53, 54, 55, 56, 57, 97, 98, 99, 100, 101, 102] k = some (hexD k) := by
  match k with
  | 0 => rfl | 1 => rfl | 2 => rfl | 3 => rfl | 4 => rfl | 5 => rfl | 6 => rfl | 7 => rfl | 8 => rfl | 9 => rfl | 10 => rfl | 11 => rfl | 12 => rfl | 13 => rfl | 14 => rfl | 15 => rfl
  | k + 16 => omega
/-- append of a row of one cell each, within the capacity -/
theorem app_in {h : Hp} {b y l n : Nat} {c : T Value} {m : Nat} {e : TypeId} {cl : Bool} {new : List Value} {xo yo : OD} {lo : List Value} {tm : T Value} {call : Call} (hn : new.length = n) (hn0 : 0 < n) (hm : m < OPEN) (hl : l + n ≤ m) (hx : rdO xo lo tm = slV b 0 l m) (hy : rdO yo lo tm = slV y 0 n n)
    (hat : h.at y = some (rowL new n e true)) (hb : h.at b = some (.row c m e cl false)) (hone : allOne new = true) :
    oApp e 1 xo yo call lo tm h = .val (slV b 0 (l + n) m) (h.put b (some (.row (storeL new l c fun t => t) m e cl false))) := by
  have hc : cellsOf h y 0 (n * 1) = some new := cellsOf_rowL hat (by omega) (by omega)
  have h0 : Nat.beq n 0 = false := by cases n with | zero => omega | succ n => rfl
  have ho : isOpen m = false := z_bleF hm
  unfold oApp
  rw [hy]
  show (bif Nat.beq n 0 then vSl (rdO xo lo tm) (appS e 1 h 0 []) (appN e 1 h 0 []) .none else oEl (cellsOf h y 0 (n * 1)) (fun new => vSl (rdO xo lo tm) (appS e 1 h n new) (appN e 1 h n new) .none) .none) = _
  rw [hc, h0, cond_false]
  show vSl (rdO xo lo tm) (appS e 1 h n new) (appN e 1 h n new) .none = _
  rw [hx, z_vSlV]
  unfold appS sure
  rw [forceNat_eq, ho, cond_false]
  show (bif Nat.ble (l + n) m then (bif Nat.beq n 0 then _ else _) else _) = _
  rw [z_ble hl, cond_true, h0, cond_false]
  show writeK h b (0 + l * 1) new _ Res.none = _
  rw [z_writeK, hb]
  show (bif false then Res.none else bif allOne new then bif Nat.ble (0 + l * 1 + new.length) m then _ else Res.none else Res.none) = _
  rw [hone, z_ble (by omega : 0 + l * 1 + new.length ≤ m)]
  have : 0 + l * 1 = l := by omega
  rw [this]; rfl
theorem z_mkS64 (lo : List Value) (tm : T Value) (h : Hp) (call : Call) (x y : OD) : oMkS 5 [.int .u8 (.ofNat 0)] 1 x y call lo tm h = vNat (rdO x lo tm) (fun n => vNat (rdO y lo tm) (fun c => bif Nat.ble n c then bif Nat.ble (1 * c) 16777216 then bif Nat.ble c 16777216 then .val (slV h.next 0 n c) (h.new (rowL (repL c [.int .u8 (.ofNat 0)]) (repL c [.int .u8 (.ofNat 0)]).length 5 true)) else .none else .none else .none) .none) .none := by
  unfold oMkS
  simp only [newRowK_eq, forceNat_eq, len_eq]
  rfl
theorem repL_len (n : Nat) (v : Value) : (repL n [v]).length = n := by
  induction n with
  | zero => rfl
  | succ n ih => show ([v] ++ repL n [v]).length = _; rw [List.length_append, ih]; simp; omega
theorem bytesOf_map (l : List UInt8) : bytesOf (l.map byteV) = some l := by
  induction l with
  | nil => rfl
  | cons x l ih =>
    show (bif Nat.blt x.toNat 256 then oEl (bytesOf (l.map byteV)) (fun r => some (UInt8.ofNat x.toNat :: r)) none else none) = _
    rw [z_blt x.toNat_lt, ih]
    show some (UInt8.ofNat x.toNat :: l) = _
    rw [UInt8.ofNat_toNat]

theorem sb_put {h : Hp} {b : Nat} {o : Option AObj} (hb : h.base ≤ b) : setBase (h.put b o) h.base h.log = h.put b o := by
  have h1 := z_put_log (o := o) hb
  have h2 := z_put_base h b o
  calc setBase (h.put b o) h.base h.log = setBase (h.put b o) (h.put b o).base (h.put b o).log := by rw [h1, h2]
    _ = h.put b o := z_sb_self _
/-- what stands while the digits are made -/
structure HX (l : List Nat) (v : Value) (h : Hp) (bb : Nat) (i : Nat) (tm : T Value) (df : Df) (H : Hp) : Prop where
  df : df = []
  t10 : tm.get [false, false, true] = some v
  t11 : tm.get [true, true, false] = some (.int .i64 (.ofNat 32))
  t12 : tm.get [false, true, false] = some (.int .i64 (.ofNat i))
  t3 : tm.get [true, true] = some (slV bb 0 (2 * i) 64)
  wf : Wf H
  kp : Keeps h.next h H
  hb : h.next ≤ bb
  own : ∃ c, H.at bb = some (.row c 64 5 true false) ∧ ∀ j x, (hexT (l.take i))[j]? = some x → c.get (path j) = some (byteV x)
def HXE (l : List Nat) (h : Hp) (bb : Nat) (x : Ex) (e : Ex) (tm : T Value) (df : Df) (H : Hp) : Prop :=
  e = x ∧ df = [] ∧ tm.get [true, true] = some (slV bb 0 64 64) ∧ H.log = h.log ∧ ∃ c, H.at bb = some (.row c 64 5 true false) ∧ ∀ j x, (hexT l)[j]? = some x → c.get (path j) = some (byteV x)
theorem hex19_run {call : Call} {cd : CallD} {h : Hp} {b o c : Nat} {l : List Nat} (hw : Wf h) (hl : Bytes h b o l) (hn : l.length = 32) (h256 : ∀ x ∈ l, x < 256) :
    Yields (runF cf19 call cd [slV b o 32 c] h) (QuietR (.string (mkS (hexT l))) h) := by
  refine runF_yields rfl ?_
  have m1 : gMul .i64 (.ofNat 2) (.ofNat 32) = some (.int .i64 (.ofNat 64)) := rfl
  have m2 : Nat.ble (1 * 64) 16777216 = true := rfl
  have m3 : Nat.ble 64 16777216 = true := rfl
  have m4 : Nat.ble 0 64 = true := rfl
  simp only [↓evD, evD, evU, evF, reduceCtorEq, evB, z_mkS64, m1, m2, m3, m4, repL_len]
  have hbb : b < h.next := by obtain ⟨c, m, e, cl, ro, h1, h2, h3⟩ := hl; exact hw.lt h1
  refine After.exK (φ := HXE l h h.next .normal) (After.exK (φ := HXE l h h.next (.exit 0)) ?_ ?_) ?_
  · refine loop_for (n := 32) (by omega) (HX l (slV b o 32 c) h h.next) ?_ ?_ ?_
    · intro i tm df H hi p
      obtain ⟨rfl, t10, t11, t12, t3, wf, kp, hb, cc, hat, hcc⟩ := p
      obtain ⟨x, hx, hd⟩ := drop_at (l := l) (i := i) (by omega)
      have hxl := h256 x (List.mem_of_getElem? hx)
      obtain ⟨c0, m, e, cl, ro, hat0, hm, hc⟩ := hl
      have hatH : H.at b = some (.row c0 m e cl ro) := by rw [kp.at_ b hbb]; exact hat0
      have e4 := hc i x hx
      have e1 := z_blt hi
      have e2 : Nat.blt (o + i * 1) m = true := z_blt (by omega)
      have e3 : fwrap .i64 (.ofNat (i + 1)) = .ofNat (i + 1) := z_wrapN (by omega)
      have d1 := z_nthH (k := x / 16) (by omega)
      have d2 := z_nthH (k := x % 16) (by omega)
      have lb := wf.lt hat
      have n1 : H.next ≠ h.next := by omega
      have q1 : Nat.ble H.next h.next = false := z_bleF (by omega)
      have q4 : logs (H.next + 1) [] h.next = [h.next] := z_logs1 (z_blt (by omega))
      have hbase : H.base ≤ h.next := by rw [kp.base]; exact hw.base
      have q5 : below H.base [h.next] H.log = H.log := z_be1 hbase
      generalize hR : rowL [Value.int .u8 (.ofNat (hexD (x / 16)).toNat), .int .u8 (.ofNat (hexD (x % 16)).toNat)] 2 5 true = R
      generalize hW : AObj.row (storeL [Value.int .u8 (.ofNat (hexD (x / 16)).toNat), .int .u8 (.ofNat (hexD (x % 16)).toNat)] (2 * i) cc fun t => t) 64 5 true false = W
      have q6 : setBase ((H.new R).put h.next (some W)) H.base H.log = (H.new R).put h.next (some W) := sb_put (h := H.new R) hbase
      have ap : ∀ (n : Nat) (g : List Nat) (v1 v2 v3 v4 v5 v6 : Value) (tm : T Value) (call : Call),
          oApp 5 1 (.loc 7) (.loc 0) call [slV H.next 0 2 2, v1, v2, v3, v4, v5, v6, slV h.next 0 (2 * i) 64] tm (setBase (H.new R) n g) = .val (slV h.next 0 (2 * i + 2) 64) (setBase ((H.new R).put h.next (some W)) n (logs n g h.next)) := fun n g v1 v2 v3 v4 v5 v6 tm call => by
        subst hR; subst hW
        exact app_in (n := 2) (c := cc) (y := H.next) rfl (by omega) (by unfold OPEN; omega) (by omega) rfl rfl (by rw [z_at_sb, z_at_new, if_pos rfl]) (by rw [z_at_sb, z_at_new, if_neg n1]; exact hat) rfl
      simp only [↓evD, evD, evU, evF, reduceCtorEq, evB, Nat.reduceAdd, Nat.reduceLT, Nat.reduceMul, Nat.reduceSub, cf19_l0, t10, t11, t12, t3, hatH, e1, e2, e3, e4, z_shift, z_shr4, z_land15, z_ixStr, d1, d2, n1, hR, ap, q1, q4, q5, q6]
      refine .go ⟨rfl, by simp [T.get_set, t10], by simp [T.get_set, t11], by simp [T.get_set], ?_, (wf.new _).put1 (by rw [z_new_next]; omega) _, ?_, by omega, _, by rw [z_at_put, if_pos rfl, ← hW], ?_⟩
      · simp [T.get_set]; rfl
      · exact kp.trans ((Keeps.new _ kp.next).trans (Keeps.put _ (Nat.le_refl _) hbase))
      · intro j y hy
        rw [hexT_step hx] at hy
        have hlen : (hexT (l.take i)).length = 2 * i := by rw [hexT_len, List.length_take]; omega
        rw [z_stget]
        by_cases hj : j < 2 * i
        · rw [if_neg (by omega)]
          rw [List.getElem?_append_left (by omega)] at hy
          exact hcc j y hy
        · rw [List.getElem?_append_right (by omega), hlen] at hy
          have hj2 : j - 2 * i < 2 := by have := (List.getElem?_eq_some_iff.1 hy).1; simpa using this
          rw [if_pos ⟨by omega, by simp; omega⟩]
          match hjj : j - 2 * i, hj2 with
          | 0, _ => rw [hjj] at hy; cases hy; rfl
          | 1, _ => rw [hjj] at hy; cases hy; rfl
    · intro tm df H p
      obtain ⟨rfl, t10, t11, t12, t3, wf, kp, hb, cc, hat, hcc⟩ := p
      rw [List.take_of_length_le (by omega)] at hcc
      have e1 := z_bltF (Nat.le_refl 32)
      simp only [↓evD, evD, evU, evF, reduceCtorEq, evB, cf19_l0, t10, t11, t12, e1]
      exact .ex ⟨rfl, rfl, by simp [T.get_set, t3], kp.log, cc, hat, hcc⟩
    · exact ⟨rfl, by simp [T.get_set], by simp [T.get_set], by simp [T.get_set], by simp [T.get_set], hw.new _, Keeps.new _ (Nat.le_refl _), Nat.le_refl _, _, by rw [z_at_new, if_pos rfl]; rfl, fun j x hx => by simp [hexT] at hx⟩
  · rintro e tm df H ⟨rfl, rest⟩; exact ⟨rfl, rest⟩
  · rintro e tm df H ⟨rfl, rfl, t3, hlog, cc, hat, hcc⟩
    have hlen : (hexT l).length = 64 := by rw [hexT_len]; omega
    have hcs : cellsOb (.row cc 64 5 true false) 0 64 = some ((hexT l).map byteV) := by
      show (bif Nat.ble (0 + 64) 64 then loadN cc 0 64 [] else none) = _
      rw [z_ble (by omega), cond_true, loadN_eq 64 ((hexT l).map byteV) [] (by rw [List.length_map]; exact hlen) (fun j hj => by
        have hj' : (hexT l)[j]? = some ((hexT l)[j]'(by omega)) := List.getElem?_eq_getElem (by omega)
        rw [Nat.zero_add, hcc j _ hj', List.getElem?_map, hj']; rfl), List.append_nil]
    have hbs : ∀ lo tm, tm.get [true, true] = some (slV h.next 0 64 64) → oBytesStr (.loc 0) (slV h.next 0 64 64 :: lo) tm = .read h.next (fun ob => oEl (cellsOb ob 0 64) (fun cs => oEl (bytesOf cs) kStr none) none) := fun _ _ _ => rfl
    simp only [↓evD, evD, evU, evF, reduceCtorEq, evB, t3, hbs, hat, hcs, bytesOf_map, kStr]
    refine .ret ?_
    simp only [↓evD, evD, evU, evF, reduceCtorEq, evB]
    exact ⟨rfl, hlog⟩
end Abs
end Go
