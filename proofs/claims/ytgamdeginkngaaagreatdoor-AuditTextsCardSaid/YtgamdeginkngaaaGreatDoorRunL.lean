/-
Symbolic runs: R32.Print.
Conditions: none.
-/
import Derived.Test.YtgamdeginkngaaaGreatDoorRunK
set_option linter.unusedVariables false
set_option linter.unusedSimpArgs false
namespace Go
namespace Abs
/-- a report -/
structure Rep where
  st : List Int
  torn : Int
  img : List Nat
  ver : Nat
  s : List (ByteArray × ByteArray)
  k : List (ByteArray × ByteArray)
  sane : Bool
structure RepOk (r : Rep) : Prop where
  st : r.st.length = 9
  st64 : ∀ x ∈ r.st, I64 x
  torn : I64 r.torn
  img : r.img.length = 32
  img8 : ∀ x ∈ r.img, x < 256
  set : ValidS r.ver r.s r.k
/-- the cells of a report -/
def repC (r : Rep) (vo ko : Value) : List Value := r.st.map (fun x => Value.int .i64 x) ++ [.int .i64 r.torn] ++ r.img.map (fun x => Value.int .u8 (.ofNat x)) ++ [.int .i64 (.ofNat r.ver), vo, ko, .bool r.sane]
noncomputable def stG (r : Rep) (i : Nat) : Int := (r.st[i]?).getD 0
noncomputable def sanT (b : Bool) : List UInt8 := if b then [115, 97, 110, 101, 32, 121, 101, 115, 10] else [115, 97, 110, 101, 32, 110, 111, 10]
noncomputable def repT (r : Rep) : List UInt8 :=
  fieldsT [([112, 104, 97, 115, 101], stG r 0), ([115, 116, 101, 112], stG r 1), ([115, 117, 98], stG r 2)] ++
  fieldsT [([117, 110, 100, 111], stG r 3), ([116, 114, 105, 101, 115], stG r 4), ([115, 101, 116], stG r 5), ([115, 116, 97, 103, 101], stG r 6)] ++
  fieldsT [([118, 101, 114, 115, 105, 111, 110], stG r 7), ([108, 97, 115, 116], stG r 8), ([116, 111, 114, 110], r.torn)] ++
  ([105, 109, 97, 103, 101, 32] ++ hexT r.img ++ [10]) ++ sanT r.sane ++ text23 r.ver r.s r.k
theorem repC_len {r : Rep} (h : RepOk r) (vo ko : Value) : (repC r vo ko).length = 46 := by unfold repC; simp [h.st, h.img]
theorem repC_st {r : Rep} (h : RepOk r) (vo ko : Value) {i : Nat} (hi : i < 9) : (repC r vo ko)[i]? = some (.int .i64 (stG r i)) := by
  have := h.st
  unfold repC stG
  rw [List.append_assoc, List.append_assoc, List.getElem?_append_left (by simp; omega)]
  simp [List.getElem?_eq_getElem (show i < r.st.length by omega)]
theorem repC_torn {r : Rep} (h : RepOk r) (vo ko : Value) : (repC r vo ko)[9]? = some (.int .i64 r.torn) := by
  have := h.st
  unfold repC
  rw [List.append_assoc, List.append_assoc, List.getElem?_append_right (by simp; omega)]
  simp [this]
theorem repC_img {r : Rep} (h : RepOk r) (vo ko : Value) {j x : Nat} (hx : r.img[j]? = some x) : (repC r vo ko)[10 + j]? = some (.int .u8 (.ofNat x)) := by
  have h1 := h.st
  have h2 := h.img
  have hj := (List.getElem?_eq_some_iff.1 hx).1
  unfold repC
  rw [List.append_assoc, List.append_assoc, List.getElem?_append_right (by simp; omega)]
  have : 10 + j - (r.st.map fun x => Value.int .i64 x).length = j + 1 := by simp; omega
  rw [this]
  show ([Value.int .i64 r.torn] ++ _)[j + 1]? = _
  rw [List.singleton_append, List.getElem?_cons_succ, List.getElem?_append_left (by simp; omega)]
  simp [hx]
theorem repC_end {r : Rep} (h : RepOk r) (vo ko : Value) : (repC r vo ko)[42]? = some (.int .i64 (.ofNat r.ver)) ∧ (repC r vo ko)[43]? = some vo ∧ (repC r vo ko)[44]? = some ko ∧ (repC r vo ko)[45]? = some (.bool r.sane) := by
  have h1 := h.st
  have h2 := h.img
  have e : ∀ i, (repC r vo ko)[42 + i]? = [Value.int .i64 (.ofNat r.ver), vo, ko, .bool r.sane][i]? := fun i => by
    unfold repC
    rw [List.getElem?_append_right (by simp; omega)]
    congr 1; simp; omega
  exact ⟨e 0, e 1, e 2, e 3⟩
theorem rowL_get {l : List Value} {k : Nat} {v : Value} (h : l[k]? = some v) : (storeL l 0 .nil fun t => t).get (path k) = some v := by
  have hk := (List.getElem?_eq_some_iff.1 h).1
  rw [z_stget, if_pos ⟨by omega, by omega⟩]; simpa using h
/-- what stands while a report is printed -/
structure P8 (r : Rep) (vo ko : Value) (h : Hp) (b b3 : Nat) (acc : Option Value) (tm : T Value) (df : Df) (H : Hp) : Prop where
  df : df = []
  t1 : tm.get [true] = some (ptrV b 0)
  t3 : tm.get [true, true] = some (ptrV b3 0)
  t4 : tm.get [false, true] = acc
  wf : Wf H
  kp : Keeps h.next h H
  box : H.at b = some (rowL (repC r vo ko) 46 39 true)
  sv : ∃ c, H.at b3 = some (.row c 9 23 true false) ∧ ∀ i, i < 9 → c.get (path i) = some (.int .i64 (stG r i))
  hb : h.next ≤ b ∧ h.next ≤ b3
def P8E (r : Rep) (vo ko : Value) (h : Hp) (b b3 : Nat) (acc : Option Value) (e : Ex) (tm : T Value) (df : Df) (H : Hp) : Prop := e = .normal ∧ P8 r vo ko h b b3 acc tm df H
theorem P8.new {r : Rep} {vo ko : Value} {h : Hp} {b b3 : Nat} {acc acc' : Option Value} {tm tm' : T Value} {df : Df} {H : Hp} (p : P8 r vo ko h b b3 acc tm df H) (H' : Hp) (hw : Wf H') (hk : Keeps H.next H H')
    (t1 : tm'.get [true] = tm.get [true]) (t3 : tm'.get [true, true] = tm.get [true, true]) (t4 : tm'.get [false, true] = acc') : P8 r vo ko h b b3 acc' tm' df H' := by
  obtain ⟨c, h1, h2⟩ := p.sv
  have l1 := p.wf.lt p.box
  have l3 := p.wf.lt h1
  exact ⟨p.df, t1.trans p.t1, t3.trans p.t3, t4, hw, p.kp.trans (hk.less p.kp.next), by rw [hk.at_ b l1]; exact p.box, ⟨c, by rw [hk.at_ b3 l3]; exact h1, h2⟩, p.hb⟩
def H22 (call : Call) : Prop := (∀ (H : Hp) (b1 b2 : Nat) (a b c : List UInt8) (x y z : Int), H.at b1 = some (rowL [.string (mkS a), .string (mkS b), .string (mkS c)] 3 9 true) → H.at b2 = some (rowL [.int .i64 x, .int .i64 y, .int .i64 z] 3 3 true) → a.length ≤ 10 → b.length ≤ 10 → c.length ≤ 10 → I64 x → I64 y → I64 z →
    call 22 [slV b1 0 3 3, slV b2 0 3 3] H = .val (.string (mkS (fieldsT [(a, x), (b, y), (c, z)]))) H) ∧
  (∀ (H : Hp) (b1 b2 : Nat) (a b c d : List UInt8) (x y z u : Int), H.at b1 = some (rowL [.string (mkS a), .string (mkS b), .string (mkS c), .string (mkS d)] 4 9 true) → H.at b2 = some (rowL [.int .i64 x, .int .i64 y, .int .i64 z, .int .i64 u] 4 3 true) → a.length ≤ 10 → b.length ≤ 10 → c.length ≤ 10 → d.length ≤ 10 → I64 x → I64 y → I64 z → I64 u →
    call 22 [slV b1 0 4 4, slV b2 0 4 4] H = .val (.string (mkS (fieldsT [(a, x), (b, y), (c, z), (d, u)]))) H)
theorem stG64 {r : Rep} (h : RepOk r) {i : Nat} (hi : i < 9) : I64 (stG r i) := by
  have := h.st
  unfold stG
  rw [List.getElem?_eq_getElem (by omega)]
  exact h.st64 _ (List.getElem_mem _)
noncomputable def r8_0 : CC := (.region (.consG (281474976710687, []) (oBox 39 (.tmp [])) (.consP (oMove (.val (.string (mkS [])))) (.flush 0 [false] (.flush 1 [true] .nil)))))
noncomputable def r8_1 : CC := (.region (.consP (oFldA 0 (.tmp [true])) (.consR (oLoadA 9 (.loc 0)) (.consG (281474976710687, [(.some 6), (.some 5)]) (oAlloc 23 [(.int .i64 (.ofNat 0)), (.int .i64 (.ofNat 0)), (.int .i64 (.ofNat 0)), (.int .i64 (.ofNat 0)), (.int .i64 (.ofNat 0)), (.int .i64 (.ofNat 0)), (.int .i64 (.ofNat 0)), (.int .i64 (.ofNat 0)), (.int .i64 (.ofNat 0))] 9) (.consG (281474976710687, [(.some 3), (.some 6), (.some 5)]) (oStoreA 9 (.loc 0) (.loc 1)) (.flush 1 [true, true] .nil))))))
noncomputable def r8_2 : CC := (.region (.consG (281474976710687, []) (oBuildS 9 3 [(.string (mkS [])), (.string (mkS [])), (.string (mkS []))] [(0, (1, (.val (.string (mkS [112, 104, 97, 115, 101]))))), (1, (1, (.val (.string (mkS [115, 116, 101, 112]))))), (2, (1, (.val (.string (mkS [115, 117, 98])))))]) (.consP (oFldA 0 (.tmp [true, true])) (.consR (oLoad1 (.loc 0)) (.consP (oFldA 1 (.tmp [true, true])) (.consR (oLoad1 (.loc 0)) (.consP (oFldA 2 (.tmp [true, true])) (.consR (oLoad1 (.loc 0)) (.consG (281474976710687, [(.some 13), (.some 12), (.some 11), (.some 10), (.some 9), (.some 8), (.some 7)]) (oBuildS 3 3 [(.int .i64 (.ofNat 0)), (.int .i64 (.ofNat 0)), (.int .i64 (.ofNat 0))] [(0, (1, (.loc 4))), (1, (1, (.loc 2))), (2, (1, (.loc 0)))]) (.consG (281474976710687, [(.some 14), (.some 13), (.some 12), (.some 11), (.some 10), (.some 9), (.some 8), (.some 7)]) (oCallF 22 [(.loc 7), (.loc 0)]) (.consP (oMove (.loc 0)) (.flush 0 [false, true] .nil))))))))))))
noncomputable def r8_3 : CC := (.region (.consP (oMove (.tmp [false, true])) (.consG (281474976710687, [(.some 16)]) (oBuildS 9 4 [(.string (mkS [])), (.string (mkS [])), (.string (mkS [])), (.string (mkS []))] [(0, (1, (.val (.string (mkS [117, 110, 100, 111]))))), (1, (1, (.val (.string (mkS [116, 114, 105, 101, 115]))))), (2, (1, (.val (.string (mkS [115, 101, 116]))))), (3, (1, (.val (.string (mkS [115, 116, 97, 103, 101])))))]) (.consP (oFldA 3 (.tmp [true, true])) (.consR (oLoad1 (.loc 0)) (.consP (oFldA 4 (.tmp [true, true])) (.consR (oLoad1 (.loc 0)) (.consP (oFldA 5 (.tmp [true, true])) (.consR (oLoad1 (.loc 0)) (.consP (oFldA 6 (.tmp [true, true])) (.consR (oLoad1 (.loc 0)) (.consG (281474976710687, [(.some 25), (.some 24), (.some 23), (.some 22), (.some 21), (.some 20), (.some 19), (.some 18), (.some 17), (.some 16)]) (oBuildS 3 4 [(.int .i64 (.ofNat 0)), (.int .i64 (.ofNat 0)), (.int .i64 (.ofNat 0)), (.int .i64 (.ofNat 0))] [(0, (1, (.loc 6))), (1, (1, (.loc 4))), (2, (1, (.loc 2))), (3, (1, (.loc 0)))]) (.consG (281474976710687, [(.some 26), (.some 25), (.some 24), (.some 23), (.some 22), (.some 21), (.some 20), (.some 19), (.some 18), (.some 17), (.some 16)]) (oCallF 22 [(.loc 9), (.loc 0)]) (.consP (oStrOp .add (.loc 11) (.loc 0)) (.consP (oMove (.loc 0)) (.flush 0 [false, true] .nil))))))))))))))))
noncomputable def r8_4 : CC := (.region (.consP (oMove (.tmp [false, true])) (.consG (281474976710687, [(.some 29)]) (oBuildS 9 3 [(.string (mkS [])), (.string (mkS [])), (.string (mkS []))] [(0, (1, (.val (.string (mkS [118, 101, 114, 115, 105, 111, 110]))))), (1, (1, (.val (.string (mkS [108, 97, 115, 116]))))), (2, (1, (.val (.string (mkS [116, 111, 114, 110])))))]) (.consP (oFldA 7 (.tmp [true, true])) (.consR (oLoad1 (.loc 0)) (.consP (oFldA 8 (.tmp [true, true])) (.consR (oLoad1 (.loc 0)) (.consP (oFldA 9 (.tmp [true])) (.consR (oLoad1 (.loc 0)) (.consG (281474976710687, [(.some 36), (.some 35), (.some 34), (.some 33), (.some 32), (.some 31), (.some 30), (.some 29)]) (oBuildS 3 3 [(.int .i64 (.ofNat 0)), (.int .i64 (.ofNat 0)), (.int .i64 (.ofNat 0))] [(0, (1, (.loc 4))), (1, (1, (.loc 2))), (2, (1, (.loc 0)))]) (.consG (281474976710687, [(.some 37), (.some 36), (.some 35), (.some 34), (.some 33), (.some 32), (.some 31), (.some 30), (.some 29)]) (oCallF 22 [(.loc 7), (.loc 0)]) (.consP (oStrOp .add (.loc 9) (.loc 0)) (.consP (oMove (.loc 0)) (.flush 0 [false, true] .nil))))))))))))))
noncomputable def r8_5 : CC := (.region (.consP (oMove (.tmp [false, true])) (.consP (oFldA 10 (.tmp [true])) (.consP (oSlA 32 1 (.loc 0) .none .none .none) (.consG (281474976710687, [(.some 42), (.some 41), (.some 40)]) (oCallF 23 [(.loc 0)]) (.consP (oStrOp .add (.val (.string (mkS [105, 109, 97, 103, 101, 32]))) (.loc 0)) (.consP (oStrOp .add (.loc 0) (.val (.string (mkS [10])))) (.consP (oStrOp .add (.loc 5) (.loc 0)) (.consP (oMove (.loc 0)) (.flush 0 [false, true] .nil))))))))))
noncomputable def r8_6 : CC := (.seq (.region (.consP (oFldA 45 (.tmp [true])) (.consR (oLoad1 (.loc 0)) (.flush 0 [false, true, true, true, false] .nil)))) (.cond (.tmp [false, true, true, true, false]) (.region (.consP (oMove (.tmp [false, true])) (.consP (oStrOp .add (.loc 0) (.val (.string (mkS [115, 97, 110, 101, 32, 121, 101, 115, 10])))) (.consP (oMove (.loc 0)) (.flush 0 [false, true] .nil))))) (.region (.consP (oMove (.tmp [false, true])) (.consP (oStrOp .add (.loc 0) (.val (.string (mkS [115, 97, 110, 101, 32, 110, 111, 10])))) (.consP (oMove (.loc 0)) (.flush 0 [false, true] .nil)))))))
noncomputable def r8_7 : CC := (.region (.consP (oMove (.tmp [false, true])) (.consP (oFldA 42 (.tmp [true])) (.consR (oLoadA 3 (.loc 0)) (.consG (281474976710687, [(.some 55), (.some 54), (.some 53)]) (oCallF 24 [(.loc 0)]) (.consP (oStrOp .add (.loc 3) (.loc 0)) (.consP (oMove (.loc 0)) (.flush 0 [false] .nil))))))))
noncomputable def r8_8 : CC := .ret

theorem cf8_eq : cf8 = .mk 58 1 (.seq r8_0 (.seq r8_1 (.seq r8_2 (.seq r8_3 (.seq r8_4 (.seq r8_5 (.seq r8_6 (.seq r8_7 r8_8)))))))) [.tmp [false]] := rfl
theorem Keeps.new2 {lim : Nat} {h : Hp} (o o' : AObj) (hl : lim ≤ h.next) : Keeps lim h ((h.new o).new o') := (Keeps.new o hl).trans (Keeps.new o' (by rw [z_new_next]; omega))
noncomputable def S8 (l : List UInt8) : Option Value := some (.string (mkS l))
variable {r : Rep} {vo ko : Value} {h : Hp} {b b3 : Nat} {call : Call} {tm : T Value} {df : Df} {H : Hp} {acc : List UInt8} {cd : CallD}
theorem s8_2 (hr : RepOk r) (h22 : H22 call) {a0 : Option Value} (p : P8 r vo ko h b b3 a0 tm df H) :
    After (exC r8_2 call tm df H) (P8E r vo ko h b b3 (S8 (fieldsT [([112, 104, 97, 115, 101], stG r 0), ([115, 116, 101, 112], stG r 1), ([115, 117, 98], stG r 2)]))) := by
  obtain ⟨c, h1, h2⟩ := p.sv
  have l3 := p.wf.lt h1
  have n3 : H.next ≠ b3 := by omega
  have t3 := p.t3
  have g0 := h2 0 (by omega)
  have g1 := h2 1 (by omega)
  have g2 := h2 2 (by omega)
  have q0 : Nat.blt 0 9 = true := rfl
  have q1 : Nat.blt 1 9 = true := rfl
  have q2 : Nat.blt 2 9 = true := rfl
  have c1 := h22.1 ((H.new (rowL [.string (mkS [112, 104, 97, 115, 101]), .string (mkS [115, 116, 101, 112]), .string (mkS [115, 117, 98])] 3 9 true)).new (rowL [.int .i64 (stG r 0), .int .i64 (stG r 1), .int .i64 (stG r 2)] 3 3 true)) H.next (H.next + 1) [112, 104, 97, 115, 101] [115, 116, 101, 112] [115, 117, 98] (stG r 0) (stG r 1) (stG r 2)
    (by simp only [z_at_new, z_new_next, z_ne1, if_true, if_false]) (by simp only [z_at_new, z_new_next, if_true]) (by decide) (by decide) (by decide) (stG64 hr (by omega)) (stG64 hr (by omega)) (stG64 hr (by omega))
  simp only [↓evD, evD, evU, evF, reduceCtorEq, evB, Nat.reduceAdd, Nat.reduceLT, Nat.reduceMul, Nat.reduceSub, r8_2, t3, h1, n3, q0, q1, q2, g0, g1, g2, c1]
  refine ⟨rfl, p.new _ ((p.wf.new _).new _) (Keeps.new2 _ _ (Nat.le_refl _)) ?_ ?_ ?_⟩ <;> simp [T.get_set, S8]

theorem fields_len3 {a b c : List UInt8} {x y z : Int} (ha : a.length ≤ 10) (hb : b.length ≤ 10) (hc : c.length ≤ 10) (hx : I64 x) (hy : I64 y) (hz : I64 z) : (fieldsT [(a, x), (b, y), (c, z)]).length ≤ 200 := by
  have h1 := itoa_len hx.1 hx.2
  have h2 := itoa_len hy.1 hy.2
  have h3 := itoa_len hz.1 hz.2
  simp [fieldsT]; omega
theorem fields_len4 {a b c d : List UInt8} {x y z u : Int} (ha : a.length ≤ 10) (hb : b.length ≤ 10) (hc : c.length ≤ 10) (hd : d.length ≤ 10) (hx : I64 x) (hy : I64 y) (hz : I64 z) (hu : I64 u) : (fieldsT [(a, x), (b, y), (c, z), (d, u)]).length ≤ 200 := by
  have h1 := itoa_len hx.1 hx.2
  have h2 := itoa_len hy.1 hy.2
  have h3 := itoa_len hz.1 hz.2
  have h4 := itoa_len hu.1 hu.2
  simp [fieldsT]; omega
theorem s8_3 (hr : RepOk r) (h22 : H22 call) (hl : acc.length ≤ 200) (p : P8 r vo ko h b b3 (S8 acc) tm df H) :
    After (exC r8_3 call tm df H) (P8E r vo ko h b b3 (S8 (acc ++ fieldsT [([117, 110, 100, 111], stG r 3), ([116, 114, 105, 101, 115], stG r 4), ([115, 101, 116], stG r 5), ([115, 116, 97, 103, 101], stG r 6)]))) := by
  obtain ⟨c, h1, h2⟩ := p.sv
  have l3 := p.wf.lt h1
  have n3 : H.next ≠ b3 := by omega
  have t3 := p.t3
  have t4 : tm.get [false, true] = some (.string (mkS acc)) := p.t4
  haveI : BL acc 200 := ⟨hl⟩
  haveI : BL (fieldsT [([117, 110, 100, 111], stG r 3), ([116, 114, 105, 101, 115], stG r 4), ([115, 101, 116], stG r 5), ([115, 116, 97, 103, 101], stG r 6)]) 200 :=
    ⟨fields_len4 (by decide) (by decide) (by decide) (by decide) (stG64 hr (by omega)) (stG64 hr (by omega)) (stG64 hr (by omega)) (stG64 hr (by omega))⟩
  have g0 := h2 3 (by omega)
  have g1 := h2 4 (by omega)
  have g2 := h2 5 (by omega)
  have g3 := h2 6 (by omega)
  have q0 : Nat.blt 3 9 = true := rfl
  have q1 : Nat.blt 4 9 = true := rfl
  have q2 : Nat.blt 5 9 = true := rfl
  have q3 : Nat.blt 6 9 = true := rfl
  have c1 := h22.2 ((H.new (rowL [.string (mkS [117, 110, 100, 111]), .string (mkS [116, 114, 105, 101, 115]), .string (mkS [115, 101, 116]), .string (mkS [115, 116, 97, 103, 101])] 4 9 true)).new (rowL [.int .i64 (stG r 3), .int .i64 (stG r 4), .int .i64 (stG r 5), .int .i64 (stG r 6)] 4 3 true)) H.next (H.next + 1) [117, 110, 100, 111] [116, 114, 105, 101, 115] [115, 101, 116] [115, 116, 97, 103, 101] (stG r 3) (stG r 4) (stG r 5) (stG r 6)
    (by simp only [z_at_new, z_new_next, z_ne1, if_true, if_false]) (by simp only [z_at_new, z_new_next, if_true]) (by decide) (by decide) (by decide) (by decide) (stG64 hr (by omega)) (stG64 hr (by omega)) (stG64 hr (by omega)) (stG64 hr (by omega))
  simp only [↓evD, evD, evU, evF, reduceCtorEq, evB, Nat.reduceAdd, Nat.reduceLT, Nat.reduceMul, Nat.reduceSub, r8_3, t3, t4, h1, n3, q0, q1, q2, q3, g0, g1, g2, g3, c1]
  refine ⟨rfl, p.new _ ((p.wf.new _).new _) (Keeps.new2 _ _ (Nat.le_refl _)) ?_ ?_ ?_⟩ <;> simp [T.get_set, S8]
theorem s8_4 (hr : RepOk r) (h22 : H22 call) (hl : acc.length ≤ 400) (p : P8 r vo ko h b b3 (S8 acc) tm df H) :
    After (exC r8_4 call tm df H) (P8E r vo ko h b b3 (S8 (acc ++ fieldsT [([118, 101, 114, 115, 105, 111, 110], stG r 7), ([108, 97, 115, 116], stG r 8), ([116, 111, 114, 110], r.torn)]))) := by
  obtain ⟨c, h1, h2⟩ := p.sv
  have l3 := p.wf.lt h1
  have n3 : H.next ≠ b3 := by omega
  have l1 := p.wf.lt p.box
  have n1 : H.next ≠ b := by omega
  have t1 := p.t1
  have t3 := p.t3
  have t4 : tm.get [false, true] = some (.string (mkS acc)) := p.t4
  have hb := p.box
  haveI : BL acc 400 := ⟨hl⟩
  haveI : BL (fieldsT [([118, 101, 114, 115, 105, 111, 110], stG r 7), ([108, 97, 115, 116], stG r 8), ([116, 111, 114, 110], r.torn)]) 200 :=
    ⟨fields_len3 (by decide) (by decide) (by decide) (stG64 hr (by omega)) (stG64 hr (by omega)) hr.torn⟩
  have g0 := h2 7 (by omega)
  have g1 := h2 8 (by omega)
  have g2 := rowL_get (repC_torn hr vo ko)
  have q0 : Nat.blt 7 9 = true := rfl
  have q1 : Nat.blt 8 9 = true := rfl
  have q2 : Nat.blt 9 46 = true := rfl
  have c1 := h22.1 ((H.new (rowL [.string (mkS [118, 101, 114, 115, 105, 111, 110]), .string (mkS [108, 97, 115, 116]), .string (mkS [116, 111, 114, 110])] 3 9 true)).new (rowL [.int .i64 (stG r 7), .int .i64 (stG r 8), .int .i64 r.torn] 3 3 true)) H.next (H.next + 1) [118, 101, 114, 115, 105, 111, 110] [108, 97, 115, 116] [116, 111, 114, 110] (stG r 7) (stG r 8) r.torn
    (by simp only [z_at_new, z_new_next, z_ne1, if_true, if_false]) (by simp only [z_at_new, z_new_next, if_true]) (by decide) (by decide) (by decide) (stG64 hr (by omega)) (stG64 hr (by omega)) hr.torn
  simp only [↓evD, evD, evU, evF, reduceCtorEq, evB, Nat.reduceAdd, Nat.reduceLT, Nat.reduceMul, Nat.reduceSub, r8_4, t1, t3, t4, h1, hb, n1, n3, q0, q1, q2, g0, g1, g2, c1]
  refine ⟨rfl, p.new _ ((p.wf.new _).new _) (Keeps.new2 _ _ (Nat.le_refl _)) ?_ ?_ ?_⟩ <;> simp [T.get_set, S8]
def H23 (call : Call) : Prop := ∀ (H : Hp) (b o c : Nat) (l : List Nat), l.length = 32 → Bytes H b o l → (∀ x ∈ l, x < 256) → call 23 [slV b o 32 c] H = .val (.string (mkS (hexT l))) H
theorem s8_5 (hr : RepOk r) (h23 : H23 call) (hl : acc.length ≤ 600) (p : P8 r vo ko h b b3 (S8 acc) tm df H) :
    After (exC r8_5 call tm df H) (P8E r vo ko h b b3 (S8 (acc ++ ([105, 109, 97, 103, 101, 32] ++ hexT r.img ++ [10])))) := by
  have t1 := p.t1
  have t4 : tm.get [false, true] = some (.string (mkS acc)) := p.t4
  have hb := p.box
  haveI : BL acc 600 := ⟨hl⟩
  haveI : BL (hexT r.img) 64 := ⟨by rw [hexT_len, hr.img]; omega⟩
  have c1 := h23 H b 10 32 r.img hr.img ⟨_, 46, 39, true, false, hb, by rw [hr.img]; omega, fun j x hx => by rw [Nat.mul_one]; exact rowL_get (repC_img hr vo ko hx)⟩ hr.img8
  simp only [↓evD, evD, evU, evF, reduceCtorEq, evB, Nat.reduceAdd, Nat.reduceLT, Nat.reduceMul, Nat.reduceSub, r8_5, t1, t4, c1]
  refine ⟨rfl, p.new _ p.wf (Keeps.refl _ _) ?_ ?_ ?_⟩ <;> simp [T.get_set, S8]
theorem s8_6 (hr : RepOk r) (hl : acc.length ≤ 700) (p : P8 r vo ko h b b3 (S8 acc) tm df H) :
    After (exC r8_6 call tm df H) (P8E r vo ko h b b3 (S8 (acc ++ sanT r.sane))) := by
  have t1 := p.t1
  have t4 : tm.get [false, true] = some (.string (mkS acc)) := p.t4
  have hb := p.box
  haveI : BL acc 700 := ⟨hl⟩
  have g := rowL_get (repC_end hr vo ko).2.2.2
  have q2 : Nat.blt 45 46 = true := rfl
  cases hs : r.sane with
  | true =>
    rw [hs] at g
    simp only [↓evD, evD, evU, evF, reduceCtorEq, evB, Nat.reduceAdd, Nat.reduceLT, Nat.reduceMul, Nat.reduceSub, r8_6, t1, t4, hb, g, q2]
    refine ⟨rfl, p.new _ p.wf (Keeps.refl _ _) ?_ ?_ ?_⟩ <;> simp [T.get_set, S8, sanT]
  | false =>
    rw [hs] at g
    simp only [↓evD, evD, evU, evF, reduceCtorEq, evB, Nat.reduceAdd, Nat.reduceLT, Nat.reduceMul, Nat.reduceSub, r8_6, t1, t4, hb, g, q2]
    refine ⟨rfl, p.new _ p.wf (Keeps.refl _ _) ?_ ?_ ?_⟩ <;> simp [T.get_set, S8, sanT]

theorem Wf.put1 {h : Hp} (hw : Wf h) {b : Nat} (hb : b < h.next) (o : Option AObj) : Wf (h.put b o) := ⟨fun c hc => by rw [z_put_next] at hc; rw [z_at_put, if_neg (by omega)]; exact hw.dead c hc, hw.base⟩
theorem allOne_ints {kd : IntKind} (l : List Int) : allOne (l.map fun x => Value.int kd x) = true := by
  induction l with
  | nil => rfl
  | cons x l ih => exact ih
/-- before the first fields -/
def P8B (r : Rep) (vo ko : Value) (h : Hp) (e : Ex) (tm : T Value) (df : Df) (H : Hp) : Prop := e = .normal ∧ df = [] ∧ tm.get [true] = some (ptrV h.next 0) ∧ H = h.new (rowL (repC r vo ko) 46 39 true)
theorem s8_0 (hr : RepOk r) (ha : tm.get [] = some (.agg ⟨repC r vo ko⟩)) : After (exC r8_0 call tm [] h) (P8B r vo ko h) := by
  simp only [↓evD, evD, evU, evF, reduceCtorEq, evB, Nat.reduceAdd, Nat.reduceLT, Nat.reduceMul, Nat.reduceSub, r8_0, ha, repC_len hr vo ko]
  exact ⟨rfl, rfl, by simp [T.get_set], rfl⟩
theorem s8_1 (hr : RepOk r) (hw : Wf h) (p : P8B r vo ko h .normal tm df H) : After (exC r8_1 call tm df H) (P8E r vo ko h h.next (h.next + 1) (tm.get [false, true])) := by
  obtain ⟨_, rfl, t1, rfl⟩ := p
  have q : Nat.ble 9 46 = true := rfl
  have q1 : Nat.ble 9 9 = true := rfl
  have hlen : (r.st.map fun x => Value.int .i64 x).length = 9 := by rw [List.length_map]; exact hr.st
  have ld : loadN (storeL (repC r vo ko) 0 .nil fun t => t) 0 9 [] = some (r.st.map fun x => Value.int .i64 x) := by
    have := loadN_eq (c := storeL (repC r vo ko) 0 .nil fun t => t) (o := 0) 9 (r.st.map fun x => Value.int .i64 x) [] hlen (fun j hj => by
      rw [Nat.zero_add, rowL_get (repC_st hr vo ko hj)]
      have := hr.st
      unfold stG
      simp [List.getElem?_eq_getElem (show j < r.st.length by omega)])
    rw [this, List.append_nil]
  have hone := allOne_ints (kd := .i64) r.st
  simp only [↓evD, evD, evU, evF, reduceCtorEq, evB, Nat.reduceAdd, Nat.reduceLT, Nat.reduceMul, Nat.reduceSub, r8_1, t1, q, q1, ld, hlen, hone]
  refine ⟨rfl, rfl, by simp [T.get_set, t1], by simp [T.get_set], by simp [T.get_set], ?_, ?_, ?_, ⟨storeL (r.st.map fun x => Value.int .i64 x) 0 (storeL [Value.int .i64 (.ofNat 0), .int .i64 (.ofNat 0), .int .i64 (.ofNat 0), .int .i64 (.ofNat 0), .int .i64 (.ofNat 0), .int .i64 (.ofNat 0), .int .i64 (.ofNat 0), .int .i64 (.ofNat 0), .int .i64 (.ofNat 0)] 0 .nil fun t => t) fun t => t, ?_, fun i hi => ?_⟩, ?_⟩
  · exact ((hw.new _).new _).put1 (by rw [z_new_next, z_new_next]; omega) _
  · have hk := Keeps.new2 (lim := h.next) (rowL (repC r vo ko) 46 39 true) (rowL [Value.int .i64 (.ofNat 0), .int .i64 (.ofNat 0), .int .i64 (.ofNat 0), .int .i64 (.ofNat 0), .int .i64 (.ofNat 0), .int .i64 (.ofNat 0), .int .i64 (.ofNat 0), .int .i64 (.ofNat 0), .int .i64 (.ofNat 0)] 9 23 true) (Nat.le_refl h.next)
    refine ⟨hk.base, ?_, hk.next, fun b hb => ?_⟩
    · rw [z_put_log (by rw [z_new_base, z_new_base]; have := hw.base; omega)]; exact hk.log
    · rw [z_at_put, if_neg (by omega)]; exact hk.at_ b hb
  · simp only [z_at_put, z_at_new, z_new_next, z_ne1, z_ne1', if_true, if_false]
  · simp only [z_at_put, if_true]
  · rw [z_stget, if_pos ⟨by omega, by omega⟩]
    have := hr.st
    unfold stG
    simp [List.getElem?_eq_getElem (show i < r.st.length by omega)]
  · omega
def H24 (r : Rep) (vo ko : Value) (call : Call) : Prop := ∀ H, Wf H → SlP H vo r.s → SlP H ko r.k → call 24 [.agg ⟨[.int .i64 (.ofNat r.ver), vo, ko]⟩] H = .val (.string (mkS (text23 r.ver r.s r.k))) H
theorem text23_len {r : Rep} (hr : RepOk r) : (text23 r.ver r.s r.k).length ≤ 600 := by
  have hset := hr.set
  have hver := hset.ver
  have h1 := vlen hset.tab r.s.length
  have h2 := klen hset.ktab r.k.length
  rw [List.take_length] at h1 h2
  have h3 := hset.vals
  have h4 := hset.kept
  have h5 := itoa_len (n := .ofNat r.ver) (by show (-9223372036854775808 : Int) ≤ (r.ver : Int); omega) (by show (r.ver : Int) ≤ _; omega)
  unfold text23 head23
  simp only [List.length_append]
  simp at *
  omega
def P8F (r : Rep) (h : Hp) (pre : List UInt8) (e : Ex) (tm : T Value) (df : Df) (H : Hp) : Prop := e = .normal ∧ df = [] ∧ H.log = h.log ∧ tm.get [false] = some (.string (mkS (pre ++ text23 r.ver r.s r.k)))
theorem s8_7 (hr : RepOk r) (hw : Wf h) (h24 : H24 r vo ko call) (hv : SlP h vo r.s) (hk : SlP h ko r.k) (hl : acc.length ≤ 800) (p : P8 r vo ko h b b3 (S8 acc) tm df H) :
    After (exC r8_7 call tm df H) (P8F r h acc) := by
  have t1 := p.t1
  have t4 : tm.get [false, true] = some (.string (mkS acc)) := p.t4
  have hb := p.box
  haveI : BL acc 800 := ⟨hl⟩
  haveI : BL (text23 r.ver r.s r.k) 600 := ⟨text23_len hr⟩
  have g0 := rowL_get (repC_end hr vo ko).1
  have g1 := rowL_get (repC_end hr vo ko).2.1
  have g2 := rowL_get (repC_end hr vo ko).2.2.1
  have q2 : Nat.ble 45 46 = true := rfl
  have c1 := h24 H p.wf (hv.keep hw p.kp (Nat.le_refl _)) (hk.keep hw p.kp (Nat.le_refl _))
  simp only [↓evD, evD, evU, evF, reduceCtorEq, evB, Nat.reduceAdd, Nat.reduceLT, Nat.reduceMul, Nat.reduceSub, r8_7, z_ld3, t1, t4, hb, g0, g1, g2, q2, c1]
  exact ⟨rfl, p.df, p.kp.log, by simp [T.get_set]⟩
theorem print32_run (hr : RepOk r) (hw : Wf h) (hv : SlP h vo r.s) (hk : SlP h ko r.k) (h22 : H22 call) (h23 : H23 call) (h24 : H24 r vo ko call) :
    Yields (runF cf8 call cd [.agg ⟨repC r vo ko⟩] h) (QuietR (.string (mkS (repT r))) h) := by
  rw [cf8_eq]
  refine runF_yields rfl ?_
  rw [z_seq]
  refine After.exK (s8_0 hr rfl) ?_
  rintro e tm df H ⟨rfl, p⟩
  rw [z_kn, z_seq]
  refine After.exK (s8_1 hr hw ⟨rfl, p⟩) ?_
  rintro e tm df H ⟨rfl, p⟩
  rw [z_kn, z_seq]
  refine After.exK (s8_2 hr h22 p) ?_
  rintro e tm df H ⟨rfl, p⟩
  rw [z_kn, z_seq]
  have l1 := fields_len3 (a := [112, 104, 97, 115, 101]) (b := [115, 116, 101, 112]) (c := [115, 117, 98]) (by decide) (by decide) (by decide) (stG64 hr (i := 0) (by omega)) (stG64 hr (i := 1) (by omega)) (stG64 hr (i := 2) (by omega))
  have l2 := fields_len4 (a := [117, 110, 100, 111]) (b := [116, 114, 105, 101, 115]) (c := [115, 101, 116]) (d := [115, 116, 97, 103, 101]) (by decide) (by decide) (by decide) (by decide) (stG64 hr (i := 3) (by omega)) (stG64 hr (i := 4) (by omega)) (stG64 hr (i := 5) (by omega)) (stG64 hr (i := 6) (by omega))
  have l3 := fields_len3 (a := [118, 101, 114, 115, 105, 111, 110]) (b := [108, 97, 115, 116]) (c := [116, 111, 114, 110]) (by decide) (by decide) (by decide) (stG64 hr (i := 7) (by omega)) (stG64 hr (i := 8) (by omega)) hr.torn
  have l4 : ([105, 109, 97, 103, 101, 32] ++ hexT r.img ++ [10]).length ≤ 80 := by simp [hexT_len, hr.img]
  have l5 : (sanT r.sane).length ≤ 9 := by unfold sanT; split <;> decide
  refine After.exK (s8_3 hr h22 l1 p) ?_
  rintro e tm df H ⟨rfl, p⟩
  rw [z_kn, z_seq]
  refine After.exK (s8_4 hr h22 (by rw [List.length_append]; omega) p) ?_
  rintro e tm df H ⟨rfl, p⟩
  rw [z_kn, z_seq]
  refine After.exK (s8_5 hr h23 (by rw [List.length_append, List.length_append]; omega) p) ?_
  rintro e tm df H ⟨rfl, p⟩
  rw [z_kn, z_seq]
  refine After.exK (s8_6 hr (by rw [List.length_append, List.length_append, List.length_append]; omega) p) ?_
  rintro e tm df H ⟨rfl, p⟩
  rw [z_kn, z_seq]
  refine After.exK (s8_7 hr hw h24 hv hk (by rw [List.length_append, List.length_append, List.length_append, List.length_append]; omega) p) ?_
  rintro e tm df H ⟨rfl, rfl, hlog, t⟩
  rw [z_kn]
  refine FEnd.ret ?_
  rw [z_exR1, t]
  exact ⟨rfl, hlog⟩
end Abs
end Go
