/-
Symbolic runs: the strings.Builder of settings.Print.
Conditions: none.
-/
import Derived.Test.YtgamdeginkngaaaGreatDoorRunQ
set_option linter.unusedVariables false
set_option linter.unusedSimpArgs false
namespace Go
namespace Abs
theorem z_nilC (x : OD) (lo : List Value) (tm : T Value) : oNilChk x lo tm = nilChk (rdO x lo tm) := rfl
theorem z_nilC2 (b o : Nat) : nilChk (ptrV b o) = some (ptrV b o) := rfl
theorem z_eqNil (isn : Value → Option Bool) (neg : Bool) (x : OD) (lo : List Value) (tm : T Value) : oEqNil isn neg x lo tm = oEl (isn (rdO x lo tm)) (fun t => some (.bool (bEqB neg (!t)))) none := by
  unfold oEqNil; simp only [gB_eq]
theorem z_nilP1 (b o : Nat) : nilP (ptrV b o) = some false := rfl
theorem z_nilP0 : nilP (.pointer none) = some true := rfl
theorem z_toUP (x : OD) (lo : List Value) (tm : T Value) : oToUP x lo tm = toUP (rdO x lo tm) := rfl
theorem z_toUP2 (b o : Nat) : toUP (ptrV b o) = .read b fun ob => rowO ob (fun _ n _ _ _ => bif Nat.blt o n then some (ptrV b o) else none) none := rfl
theorem z_ofUP (u s : Nat) (x : OD) (lo : List Value) (tm : T Value) : oOfUP u s x lo tm = ofUP u s (rdO x lo tm) := rfl
theorem z_ofUP2 (b : Nat) : ofUP 102 2 (ptrV b 0) = .read b fun ob => rowO ob (fun _ n e cl _ => bif cl && Nat.beq e 102 && Nat.blt 0 n && Nat.beq (Nat.mod 0 2) 0 && Nat.ble (0 + 2) n then some (ptrV b 0) else none) none := rfl
theorem z_eqP (neg : Bool) (x y : OD) (lo : List Value) (tm : T Value) : oEqP neg x y lo tm = oEl (eqP (rdO x lo tm) (rdO y lo tm)) (fun t => some (.bool (bEqB neg (!t)))) none := by
  unfold oEqP; simp only [gB_eq]
theorem z_eqP2 (b : Nat) : eqP (ptrV b 0) (ptrV b 0) = some true := by
  show (bif Nat.beq b b then some (Nat.beq 0 0) else none) = _
  rw [Nat.beq_refl]; rfl
theorem z_exR0 (tm : T Value) (h : Hp) : exR [] tm h = .val (.tuple ⟨[]⟩) h := rfl
theorem z_exR2 (p q : List Bool) (tm : T Value) (h : Hp) : exR [.tmp p, .tmp q] tm h = .val (.tuple ⟨[oget (tm.get p), oget (tm.get q)]⟩) h := rfl
/-- what a builder holds -/
def BV (lim bB : Nat) (H : Hp) (v : Value) (acc : List UInt8) : Prop := (acc = [] ∧ v = .slice none 0 0) ∨ (0 < acc.length ∧ ∃ y, lim ≤ y ∧ y ≠ bB ∧ v = slV y 0 acc.length (openC 1 acc.length) ∧ H.at y = some (rowL (acc.map byteV) acc.length 5 false))
structure Bld (lim : Nat) (H : Hp) (bB : Nat) (p : Value) (acc : List UInt8) : Prop where
  cells : ∃ c v, H.at bB = some (.row c 2 102 true false) ∧ c.get (path 0) = some p ∧ c.get (path 1) = some v ∧ BV lim bB H v acc
theorem BV.one {lim bB : Nat} {H : Hp} {v : Value} {acc : List UInt8} (hv : BV lim bB H v acc) : allOne [v] = true := by
  rcases hv with ⟨_, rfl⟩ | ⟨_, y, _, _, rfl, _⟩ <;> rfl
theorem BV.put {lim bB : Nat} {H : Hp} {v : Value} {acc : List UInt8} {o : Option AObj} (hv : BV lim bB H v acc) : BV lim bB (H.put bB o) v acc := by
  rcases hv with hh | ⟨h0, y, h1, h2, h3, h4⟩
  · exact .inl hh
  · exact .inr ⟨h0, y, h1, h2, h3, by rw [z_at_put, if_neg (fun e => h2 e.symm)]; exact h4⟩
theorem cell1 (a : Value) (c : T Value) (o k : Nat) (h : k ≠ o) : (storeL [a] o c fun t => t).get (path k) = c.get (path k) := by
  rw [z_stget, if_neg (by simp; omega)]
theorem cell1' (a : Value) (c : T Value) (o : Nat) : (storeL [a] o c fun t => t).get (path o) = some a := by
  rw [z_stget, if_pos ⟨by omega, by simp⟩]; simp
variable {call : Call} {cd : CallD} {lim bB : Nat} {acc : List UInt8} {H : Hp}
def BldR (lim bB : Nat) (acc : List UInt8) (H : Hp) (v : Value) (H' : Hp) : Prop := Bld lim H' bB (ptrV bB 0) acc ∧ Wf H' ∧ Keeps lim H H'
theorem call78_run {p : Value} (hb : Bld lim H bB p acc) (hp : p = .pointer none ∨ p = ptrV bB 0) (hw : Wf H) (hl : lim ≤ bB) (hbase : H.base ≤ lim) : Yields (runF cf78 call cd [ptrV bB 0] H) (BldR lim bB acc H) := by
  obtain ⟨c, v, hat, g0, g1, hv⟩ := hb
  refine runF_yields rfl ?_
  have q0 : Nat.blt 0 2 = true := rfl
  have hbn := hw.lt hat
  rcases hp with rfl | rfl
  · have k : (true && Nat.beq 102 102 && true && Nat.beq (Nat.mod 0 2) 0 && Nat.ble (0 + 2) 2) = true := rfl
    have k' : Nat.ble 1 2 = true := rfl
    have k3 : Nat.beq (Nat.mod 0 2) 0 = true := rfl
    have k4 : Nat.ble 2 2 = true := rfl
    simp only [↓evD, evD, evU, evF, reduceCtorEq, evB, Nat.reduceAdd, Nat.reduceLT, Nat.reduceMul, Nat.reduceSub, z_nilC, z_nilC2, z_eqNil, z_nilP0, z_toUP, z_toUP2, z_ofUP, z_ofUP2, hat, q0, g0, g1, k', k3, k4, Bool.and_true, Bool.true_and]
    refine .end ?_
    simp only [z_exR0, ↓evD, evD, evU, evF, reduceCtorEq, evB]
    refine ⟨⟨_, v, by rw [z_at_put, if_pos rfl], cell1' _ _ _, by rw [cell1 _ _ _ _ (by omega)]; exact g1, hv.put⟩, hw.put1 hbn _, Keeps.put _ hl (by omega)⟩
  · simp only [↓evD, evD, evU, evF, reduceCtorEq, evB, Nat.reduceAdd, Nat.reduceLT, Nat.reduceMul, Nat.reduceSub, z_nilC, z_nilC2, z_eqNil, z_nilP1, z_eqP, z_eqP2, hat, q0, g0, g1]
    refine .end ?_
    simp only [z_exR0, ↓evD, evD, evU, evF, reduceCtorEq, evB]
    exact ⟨⟨c, v, hat, g0, g1, hv⟩, hw, Keeps.refl _ _⟩
theorem app_bytes {v : Value} {new : List UInt8} (hw : Wf H) (hv : BV lim bB H v acc) (hl : lim ≤ bB) (hbB : bB < H.next) (hbase : H.base ≤ lim) (h0 : 0 < new.length) (hn : acc.length + new.length ≤ 10000) :
    ∃ v' H', appV 5 1 v (.string (mkS new)) H = .val v' H' ∧ BV lim bB H' v' (acc ++ new) ∧ Wf H' ∧ Keeps lim H H' ∧ H'.at bB = H.at bB := by
  have hbq : Nat.beq new.length 0 = false := by cases e : Nat.beq new.length 0 with | false => rfl | true => have := Nat.eq_of_beq_eq_true e; omega
  have hne : H.next ≠ bB := by omega
  have hpos : 0 < (acc ++ new).length := by rw [List.length_append]; omega
  rcases hv with ⟨rfl, rfl⟩ | ⟨ha0, y, hy1, hy2, rfl, hat⟩
  · refine ⟨slV H.next 0 new.length (openC 1 new.length), H.new (rowL (new.map byteV) new.length 5 false), ?_, .inr ⟨hpos, H.next, by omega, hne, rfl, ?_⟩, hw.new _, Keeps.new _ (by omega), ?_⟩
    · show appN 5 1 H (len new) (mapB new) 0 0 = _
      unfold appN
      rw [len_eq, hbq, mapB_eq]
      show (bif Nat.ble new.length 16777216 then opened 5 1 (new.map byteV) new.length H else .none) = _
      rw [z_ble (by omega), cond_true]
      unfold opened
      rw [newRowK_eq, forceNat_eq, len_eq, List.length_map]; rfl
    · rw [z_at_new, if_pos rfl]; rfl
    · rw [z_at_new, if_neg hne]
  · have hyn := hw.lt hat
    have hold : cellsOf H y 0 (acc.length * 1) = some (acc.map byteV) := cellsOf_rowL hat (by simp) (by simp)
    obtain ⟨s1, s2, s3⟩ := z_openS 1 acc.length (by unfold OPEN; omega)
    refine ⟨slV H.next 0 (acc.length + new.length) (openC 1 (acc.length + new.length)), (H.put y none).new (rowL ((acc ++ new).map byteV) (acc.length + new.length) 5 false), ?_, .inr ⟨hpos, H.next, by omega, hne, by simp, ?_⟩, (hw.put1 hyn _).new _, ?_, ?_⟩
    · show appS 5 1 H (len new) (mapB new) y 0 acc.length (openC 1 acc.length) = _
      unfold appS
      rw [len_eq, forceNat_eq, mapB_eq]
      show (bif Nat.ble (acc.length + new.length) (sure (openC 1 acc.length)) then _ else _) = _
      rw [s1, z_bleF (by omega), cond_false, z_ble (by show acc.length + new.length ≤ 16777216; omega), cond_true]
      have hb0 : Nat.beq acc.length 0 = false := by cases e : Nat.beq acc.length 0 with | false => rfl | true => have := Nat.eq_of_beq_eq_true e; omega
      rw [hb0, cond_false]
      show oEl (cellsOf H y 0 (acc.length * 1)) _ Res.none = _
      rw [hold]
      show (bif isOpen (openC 1 acc.length) then _ else _) = _
      rw [s2, cond_true]
      unfold rowK
      show oEl (H.at y) _ Res.none = _
      rw [hat]
      have ho : allOne (new.map byteV) = true := by
        clear h0 hn hbq hpos
        induction new with
        | nil => rfl
        | cons x r ih => exact ih
      show (bif false then Res.none else bif Nat.beq 5 5 && Nat.beq (esz (openC 1 acc.length)) (Nat.succ 1) && allOne (new.map byteV) then _ else _) = _
      rw [s3, ho]
      show (H.putK y (Option.none : Option AObj) fun h => opened 5 1 (acc.map byteV ++ new.map byteV) (acc.length + new.length) h) = _
      rw [Hp.putK_eq]
      unfold opened
      rw [newRowK_eq, forceNat_eq, len_eq, List.length_append, List.length_map, List.length_map, List.map_append]; rfl
    · rw [z_at_new, z_put_next, if_pos rfl, List.length_append]
    · refine ⟨?_, ?_, ?_, fun c hc => ?_⟩
      · rw [z_new_base, z_put_base]
      · rw [z_new_log, z_put_log (by omega)]
      · rw [z_new_next, z_put_next]; omega
      · rw [z_at_new, z_put_next, if_neg (by omega), z_at_put, if_neg (by omega)]
    · rw [z_at_new, z_put_next, if_neg hne, z_at_put, if_neg hy2]

def H78 (call : Call) : Prop := ∀ (H : Hp) (lim bB : Nat) (p : Value) (acc : List UInt8), Bld lim H bB p acc → (p = .pointer none ∨ p = ptrV bB 0) → Wf H → lim ≤ bB → H.base ≤ lim → Yields (call 78 [ptrV bB 0] H) (BldR lim bB acc H)
theorem call44_run {p : Value} {new : List UInt8} (h78 : H78 call) (hb : Bld lim H bB p acc) (hp : p = .pointer none ∨ p = ptrV bB 0) (hw : Wf H) (hl : lim ≤ bB) (hbase : H.base ≤ lim) (h0 : 0 < new.length) (hn : acc.length + new.length ≤ 10000) :
    Yields (runF cf44 call cd [ptrV bB 0, .string (mkS new)] H) (BldR lim bB (acc ++ new) H) := by
  obtain ⟨v1, H1, e1, ⟨c, v, hat, g0, g1, hv⟩, wf1, kp1⟩ := (h78 H lim bB p acc hb hp hw hl hbase).get
  refine runF_yields rfl ?_
  have hbn := wf1.lt hat
  have hbase1 : H1.base ≤ lim := by rw [kp1.base]; exact hbase
  obtain ⟨v2, H2, e2, hv2, wf2, kp2, hat2⟩ := app_bytes wf1 hv hl hbn hbase1 h0 hn
  have hat2' : H2.at bB = some (.row c 2 102 true false) := by rw [hat2]; exact hat
  have q1 : Nat.blt 1 2 = true := rfl
  have q2 : Nat.ble (1 + 1) 2 = true := rfl
  have o1 := hv2.one
  have q2' : Nat.ble 2 2 = true := rfl
  simp only [↓evD, evD, evU, evF, reduceCtorEq, evB, Nat.reduceAdd, Nat.reduceLT, Nat.reduceMul, Nat.reduceSub, z_app, z_nilC, z_nilC2, e1, hat, q1, q2, q2', g1, e2, hat2', o1]
  refine .ret ?_
  simp only [z_exR2, ↓evD, evD, evU, evF, reduceCtorEq, evB]
  refine ⟨⟨_, v2, by rw [z_at_put, if_pos rfl], by rw [cell1 _ _ _ _ (by omega)]; exact g0, cell1' _ _ _, hv2.put⟩, wf2.put1 (wf2.lt hat2') _, kp1.trans (kp2.trans (Keeps.put _ hl (by rw [kp2.base]; omega)))⟩
def H44 (call : Call) : Prop := ∀ (H : Hp) (lim bB : Nat) (p : Value) (acc new : List UInt8), Bld lim H bB p acc → (p = .pointer none ∨ p = ptrV bB 0) → Wf H → lim ≤ bB → H.base ≤ lim → 0 < new.length → acc.length + new.length ≤ 10000 → Yields (call 44 [ptrV bB 0, .string (mkS new)] H) (BldR lim bB (acc ++ new) H)
theorem call43_run {p : Value} {b c : Nat} {ws : List (List UInt8)} (h41 : H41 call) (h44 : H44 call) (hb : Bld lim H bB p acc) (hp : p = .pointer none ∨ p = ptrV bB 0) (hw : Wf H) (hl : lim ≤ bB) (hbase : H.base ≤ lim) (hs : Strs H b ws) (hw0 : 0 < ws.length) (hw1 : ws.length ≤ 8) (hlen : ∀ x ∈ ws, x.length ≤ 100) (hn : acc.length ≤ 5000) :
    Yields (runF cf43 call cd [slV b 0 ws.length c, ptrV bB 0] H) (BldR lim bB (acc ++ (joinS ws ++ [10])) H) := by
  have c1 := h41 H b c ws hs hw0 (by omega) hlen
  have hjl := joinS_len hlen
  haveI : BL (joinS ws) 1000 := ⟨by omega⟩
  obtain ⟨v1, H1, e1, h1⟩ := (h44 H lim bB p acc (joinS ws ++ [10]) hb hp hw hl hbase (by simp) (by rw [List.length_append]; simp; omega)).get
  refine runF_yields rfl ?_
  simp only [↓evD, evD, evU, evF, reduceCtorEq, evB, Nat.reduceAdd, Nat.reduceLT, Nat.reduceMul, Nat.reduceSub, c1, e1]
  refine .end ?_
  simp only [z_exR0, ↓evD, evD, evU, evF, reduceCtorEq, evB]
  exact h1
def H43 (call : Call) : Prop := ∀ (H : Hp) (lim bB b c : Nat) (p : Value) (acc : List UInt8) (ws : List (List UInt8)), Bld lim H bB p acc → (p = .pointer none ∨ p = ptrV bB 0) → Wf H → lim ≤ bB → H.base ≤ lim → Strs H b ws → 0 < ws.length → ws.length ≤ 8 → (∀ x ∈ ws, x.length ≤ 100) → acc.length ≤ 5000 →
  Yields (call 43 [slV b 0 ws.length c, ptrV bB 0] H) (BldR lim bB (acc ++ (joinS ws ++ [10])) H)
theorem z_uData (x : OD) (lo : List Value) (tm : T Value) : oUData x lo tm = vSl (rdO x lo tm) (fun b o l c => bif Nat.beq l 0 then none else bif Nat.beq c 0 then none else some (ptrV b o)) (fun _ _ => some (.pointer none)) none := rfl
theorem uStr {e : TypeId} {x n : OD} {call : Call} {lo : List Value} {tm : T Value} {H : Hp} {y : Nat} {l : List UInt8} {cl : Bool} (hx : rdO x lo tm = ptrV y 0) (hn : rdO n lo tm = .int .i64 (.ofNat l.length)) (h0 : 0 < l.length) (hle : l.length ≤ 10000) (hat : H.at y = some (rowL (l.map byteV) l.length e cl)) :
    oUStr e x n call lo tm H = .val (.string (mkS l)) (H.put y (some (.row (storeL (l.map byteV) 0 .nil fun t => t) l.length e cl true))) := by
  have hb0 : Nat.beq l.length 0 = false := by cases e : Nat.beq l.length 0 with | false => rfl | true => have := Nat.eq_of_beq_eq_true e; omega
  have ld : loadN (storeL (l.map byteV) 0 .nil fun t => t) 0 l.length [] = some (l.map byteV) := by
    have := loadN_eq (c := storeL (l.map byteV) 0 .nil fun t => t) (o := 0) l.length (l.map byteV) [] (by simp) (fun j hj => by
      rw [Nat.zero_add, z_stget, if_pos ⟨by omega, by simp; omega⟩]; rfl)
    rw [this, List.append_nil]
  unfold oUStr
  rw [hn]
  show (bif Nat.beq l.length 0 || Nat.blt 16777216 l.length then Res.none else vPtr (rdO x lo tm) _ _) = _
  rw [hb0, z_bltF (by omega), hx]
  show rowK H y _ Res.none = _
  unfold rowK
  show oEl (H.at y) _ Res.none = _
  rw [hat]
  show (bif Nat.beq e e then bif Nat.ble (0 + l.length) l.length then oEl (loadN (storeL (l.map byteV) 0 .nil fun t => t) 0 l.length []) _ Res.none else Res.none else Res.none) = _
  rw [Nat.beq_refl, z_ble (by omega), ld]
  show oEl (bytesOf (l.map byteV)) _ Res.none = _
  rw [bytesOf_map]
  show (H.putK y (some (.row (storeL (l.map byteV) 0 .nil fun t => t) l.length e cl true)) fun h => vOf (kStr l) h) = _
  rw [Hp.putK_eq]; rfl
theorem call45_run {p : Value} (hb : Bld lim H bB p acc) (hw : Wf H) (hl : lim ≤ bB) (hbase : H.base ≤ lim) (h0 : 0 < acc.length) (hn : acc.length ≤ 10000) :
    Yields (runF cf45 call cd [ptrV bB 0] H) (fun v H' => v = .string (mkS acc) ∧ Wf H' ∧ Keeps lim H H') := by
  obtain ⟨c, v, hat, g0, g1, hv⟩ := hb
  rcases hv with ⟨rfl, _⟩ | ⟨_, y, hy1, hy2, rfl, haty⟩
  · simp at h0
  have hyn := hw.lt haty
  refine runF_yields rfl ?_
  have q1 : Nat.blt 1 2 = true := rfl
  have hb0 : Nat.beq acc.length 0 = false := by cases e : Nat.beq acc.length 0 with | false => rfl | true => have := Nat.eq_of_beq_eq_true e; omega
  have hc0 : Nat.beq (openC 1 acc.length) 0 = false := by
    cases e : Nat.beq (openC 1 acc.length) 0 with
    | false => rfl
    | true =>
      have := Nat.eq_of_beq_eq_true e
      have h2 : openC 1 acc.length = OPEN * 2 + acc.length := rfl
      omega
  obtain ⟨W, hW⟩ : ∃ W, AObj.row (storeL (acc.map byteV) 0 .nil fun t => t) acc.length 5 false true = W := ⟨_, rfl⟩
  have us : ∀ (n : Nat) (g : List Nat) (v1 v2 v3 v4 : Value) (lo : List Value) (tm : T Value) (call : Call), oUStr 5 (.loc 5) (.loc 0) call (.int .i64 (.ofNat acc.length) :: v1 :: v2 :: v3 :: v4 :: ptrV y 0 :: lo) tm (setBase H n g) = .val (.string (mkS acc)) ((setBase H n g).put y (some W)) := fun n g v1 v2 v3 v4 lo tm call => by
    rw [← hW]; exact uStr rfl rfl h0 hn haty
  have hby : Nat.beq bB y = false := by cases e : Nat.beq bB y with | false => rfl | true => have := Nat.eq_of_beq_eq_true e; omega
  have q4 : logs H.next [] y = [y] := z_logs1 (z_blt hyn)
  have q5 : below H.base [y] H.log = H.log := z_be1 (by omega)
  have q6 : setBase (H.put y (some W)) H.base H.log = H.put y (some W) := sb_put (by omega)
  simp only [↓evD, evD, evU, evF, reduceCtorEq, evB, Nat.reduceAdd, Nat.reduceLT, Nat.reduceMul, Nat.reduceSub, z_nilC, z_nilC2, z_uData, hat, q1, g1, hb0, hc0, us, hby, q4, q5, q6]
  refine .ret ?_
  simp only [↓evD, evD, evU, evF, reduceCtorEq, evB]
  exact ⟨hw.put1 hyn _, Keeps.put _ hy1 (by omega)⟩
end Abs
end Go
