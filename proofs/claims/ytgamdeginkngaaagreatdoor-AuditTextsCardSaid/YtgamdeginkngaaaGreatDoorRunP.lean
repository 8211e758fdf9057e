/-
Symbolic runs: Print of the program (audit).
Conditions: none.
-/
import Derived.Test.YtgamdeginkngaaaGreatDoorRunO
set_option linter.unusedVariables false
set_option linter.unusedSimpArgs false
namespace Go
namespace Abs
noncomputable def r6_0 : CC := (.region (.consG (287, []) (oBox 39 (.tmp [])) (.consP (oMove (.val (.string (mkS [])))) (.flush 0 [false] (.flush 1 [true] .nil)))))
noncomputable def r6_1 : CC := (.region (.consP (oFldA 0 (.tmp [true])) (.consR (oLoadA 9 (.loc 0)) (.consG (287, [(.some 6), (.some 5)]) (oAlloc 23 [(.int .i64 (.ofNat 0)), (.int .i64 (.ofNat 0)), (.int .i64 (.ofNat 0)), (.int .i64 (.ofNat 0)), (.int .i64 (.ofNat 0)), (.int .i64 (.ofNat 0)), (.int .i64 (.ofNat 0)), (.int .i64 (.ofNat 0)), (.int .i64 (.ofNat 0))] 9) (.consG (287, [(.some 3), (.some 6), (.some 5)]) (oStoreA 9 (.loc 0) (.loc 1)) (.consP (oMove (.val (.string (mkS [110, 111])))) (.flush 0 [false, true] (.flush 2 [true, true] .nil))))))))
noncomputable def r6_2 : CC := (.seq (.region (.consP (oFldA 45 (.tmp [true])) (.consR (oLoad1 (.loc 0)) (.flush 0 [false, true, true] .nil)))) (.cond (.tmp [false, true, true]) (.region (.consP (oMove (.val (.string (mkS [121, 101, 115])))) (.flush 0 [false, true] .nil))) .skip))
noncomputable def r6_3 : CC := (.draw (.node (.some 0) (.node (.some 0) (.node (.some 6) (.node (.some 96) (.node (.some 0) (.node (.some 2147483647) (.node (.some 4611686018427387904) .nil .nil) .nil) (.node (.some 140737488355327) .nil .nil)) (.node (.some 0) (.node (.some 274877906944) .nil .nil) (.node (.some 36028797018963967) .nil .nil))) (.node (.some 1536) (.node (.some 0) (.node (.some 17179869184) .nil .nil) (.node (.some 1829583053651967) .nil .nil)) (.node (.some 0) (.node (.some 4398046511104) .nil .nil) (.node (.some 504403158265495552) .nil .nil)))) (.node (.some 0) (.node (.some 0) (.node (.some 98304) (.node (.some 0) (.node (.some 36893488147419103231) .nil .nil) .nil) (.node (.some 0) .nil .nil)) (.node (.some 25165824) (.node (.some 0) .nil .nil) (.node (.some 0) .nil .nil))) (.node (.some 8191) (.node (.some 1572864) (.node (.some 0) .nil .nil) (.node (.some 8866457471418367) .nil .nil)) (.node (.some 402653184) (.node (.some 35175782154240) .nil .nil) (.node (.some 2305843009213693951) .nil .nil))))) (.node (.some 2) (.node (.some 0) (.node (.some 0) (.node (.some 32768) (.node (.some 4294967295) (.node (.some 16104731525693571071) .nil .nil) .nil) (.node (.some 0) .nil .nil)) (.node (.some 8388608) (.node (.some 824633720832) .nil .nil) (.node (.some 0) .nil .nil))) (.node (.some 4095) (.node (.some 524288) (.node (.some 51539607552) .nil .nil) (.node (.some 4081382867337215) .nil .nil)) (.node (.some 134217728) (.node (.some 13194139533312) .nil .nil) (.node (.some 1116751965804560383) .nil .nil)))) (.node (.some 32) (.node (.some 512) (.node (.some 0) (.node (.some 0) (.node (.some 73786976294838206463) .nil .nil) .nil) (.node (.some 562949953421312) .nil .nil)) (.node (.some 0) (.node (.some 0) .nil .nil) (.node (.some 144115188075855872) .nil .nil))) (.node (.some 0) (.node (.some 0) (.node (.some 0) .nil .nil) (.node (.some 17873656726159359) .nil .nil)) (.node (.some 1073725440) (.node (.some 70364449210367) .nil .nil) (.node (.some 0) .nil .nil)))))) (.consP (oMkI 9 (.val (.string (mkS [112, 104, 97, 115, 101])))) (.consP (oFldA 0 (.tmp [true, true])) (.consR 2 (oLoad1 (.loc 0)) (.consP (oMkI 3 (.loc 0)) (.consP (oMkI 9 (.val (.string (mkS [115, 116, 101, 112])))) (.consP (oFldA 1 (.tmp [true, true])) (.consR 6 (oLoad1 (.loc 0)) (.consP (oMkI 3 (.loc 0)) (.consP (oMkI 9 (.val (.string (mkS [115, 117, 98])))) (.consP (oFldA 2 (.tmp [true, true])) (.consR 10 (oLoad1 (.loc 0)) (.consP (oMkI 3 (.loc 0)) (.consG 12 false [(0, true), (1, true), (2, true), (3, true), (4, true), (5, true), (6, true), (7, true), (8, true), (9, true), (10, true), (11, true)] (oBuildS 20 6 [.nilIface, .nilIface, .nilIface, .nilIface, .nilIface, .nilIface] [(0, (1, (.loc 11))), (1, (1, (.loc 8))), (2, (1, (.loc 7))), (3, (1, (.loc 4))), (4, (1, (.loc 3))), (5, (1, (.loc 0)))]) (.consG 13 false [(0, true), (1, true), (2, true), (3, true), (4, true), (5, true), (6, true), (7, true), (8, true), (9, true), (10, true), (11, true), (12, true)] (oCallF 18 [(.loc 0)]) (.consP (oMkI 9 (.val (.string (mkS [117, 110, 100, 111])))) (.consP (oFldA 3 (.tmp [true, true])) (.consR 16 (oLoad1 (.loc 0)) (.consP (oMkI 3 (.loc 0)) (.consP (oMkI 9 (.val (.string (mkS [116, 114, 105, 101, 115])))) (.consP (oFldA 4 (.tmp [true, true])) (.consR 20 (oLoad1 (.loc 0)) (.consP (oMkI 3 (.loc 0)) (.consP (oMkI 9 (.val (.string (mkS [115, 101, 116])))) (.consP (oFldA 5 (.tmp [true, true])) (.consR 24 (oLoad1 (.loc 0)) (.consP (oMkI 3 (.loc 0)) (.consP (oMkI 9 (.val (.string (mkS [115, 116, 97, 103, 101])))) (.consP (oFldA 6 (.tmp [true, true])) (.consR 28 (oLoad1 (.loc 0)) (.consP (oMkI 3 (.loc 0)) (.consG 30 false [(0, false), (1, false), (2, false), (3, false), (4, false), (5, false), (6, false), (7, false), (8, false), (9, false), (10, false), (11, false), (12, false), (13, false), (14, true), (15, true), (16, true), (17, true), (18, true), (19, true), (20, true), (21, true), (22, true), (23, true), (24, true), (25, true), (26, true), (27, true), (28, true), (29, true)] (oBuildS 20 8 [.nilIface, .nilIface, .nilIface, .nilIface, .nilIface, .nilIface, .nilIface, .nilIface] [(0, (1, (.loc 15))), (1, (1, (.loc 12))), (2, (1, (.loc 11))), (3, (1, (.loc 8))), (4, (1, (.loc 7))), (5, (1, (.loc 4))), (6, (1, (.loc 3))), (7, (1, (.loc 0)))]) (.consG 31 false [(0, true), (1, true), (2, true), (3, true), (4, true), (5, true), (6, true), (7, true), (8, true), (9, true), (10, true), (11, true), (12, true), (13, true), (14, true), (15, true), (16, true), (17, true), (18, true), (19, true), (20, true), (21, true), (22, true), (23, true), (24, true), (25, true), (26, true), (27, true), (28, true), (29, true), (30, true)] (oCallF 18 [(.loc 0)]) (.consP (oStrOp .add (.loc 18) (.loc 0)) (.consP (oMkI 9 (.val (.string (mkS [118, 101, 114, 115, 105, 111, 110])))) (.consP (oFldA 7 (.tmp [true, true])) (.consR 35 (oLoad1 (.loc 0)) (.consP (oMkI 3 (.loc 0)) (.consP (oMkI 9 (.val (.string (mkS [108, 97, 115, 116])))) (.consP (oFldA 8 (.tmp [true, true])) (.consR 39 (oLoad1 (.loc 0)) (.consP (oMkI 3 (.loc 0)) (.consP (oMkI 9 (.val (.string (mkS [116, 111, 114, 110])))) (.consP (oFldA 9 (.tmp [true])) (.consR 43 (oLoad1 (.loc 0)) (.consP (oMkI 3 (.loc 0)) (.consG 45 false [(0, false), (1, false), (2, false), (3, false), (4, false), (5, false), (6, false), (7, false), (8, false), (9, false), (10, false), (11, false), (12, false), (13, false), (14, false), (15, false), (16, false), (17, false), (18, false), (19, false), (20, false), (21, false), (22, false), (23, false), (24, false), (25, false), (26, false), (27, false), (28, false), (29, false), (30, false), (31, false), (32, false), (33, true), (34, true), (35, true), (36, true), (37, true), (38, true), (39, true), (40, true), (41, true), (42, true), (43, true), (44, true)] (oBuildS 20 6 [.nilIface, .nilIface, .nilIface, .nilIface, .nilIface, .nilIface] [(0, (1, (.loc 11))), (1, (1, (.loc 8))), (2, (1, (.loc 7))), (3, (1, (.loc 4))), (4, (1, (.loc 3))), (5, (1, (.loc 0)))]) (.consG 46 false [(0, true), (1, true), (2, true), (3, true), (4, true), (5, true), (6, true), (7, true), (8, true), (9, true), (10, true), (11, true), (12, true), (13, true), (14, true), (15, true), (16, true), (17, true), (18, true), (19, true), (20, true), (21, true), (22, true), (23, true), (24, true), (25, true), (26, true), (27, true), (28, true), (29, true), (30, true), (31, true), (32, false), (33, true), (34, true), (35, true), (36, true), (37, true), (38, true), (39, true), (40, true), (41, true), (42, true), (43, true), (44, true), (45, true)] (oCallF 18 [(.loc 0)]) (.consP (oStrOp .add (.loc 14) (.loc 0)) (.consP (oMkI 9 (.val (.string (mkS [105, 109, 97, 103, 101])))) (.consP (oFldA 10 (.tmp [true])) (.consP (oSlA 32 1 (.loc 0) .none .none .none) (.consG 51 false [(0, true), (1, true), (2, true), (3, true), (4, true), (5, true), (6, true), (7, true), (8, true), (9, true), (10, true), (11, true), (12, true), (13, true), (14, true), (15, true), (16, true), (17, true), (18, true), (19, true), (20, true), (21, true), (22, true), (23, true), (24, true), (25, true), (26, true), (27, true), (28, true), (29, true), (30, true), (31, true), (32, false), (33, true), (34, true), (35, true), (36, true), (37, true), (38, true), (39, true), (40, true), (41, true), (42, true), (43, true), (44, true), (45, true), (46, true), (47, false), (48, false), (49, true), (50, true)] (oCallF 19 [(.loc 0)]) (.consP (oMkI 9 (.loc 0)) (.consG 53 false [(0, true), (1, true), (2, true), (3, true), (4, true), (5, true), (6, true), (7, true), (8, true), (9, true), (10, true), (11, true), (12, true), (13, true), (14, true), (15, true), (16, true), (17, true), (18, true), (19, true), (20, true), (21, true), (22, true), (23, true), (24, true), (25, true), (26, true), (27, true), (28, true), (29, true), (30, true), (31, true), (32, false), (33, true), (34, true), (35, true), (36, true), (37, true), (38, true), (39, true), (40, true), (41, true), (42, true), (43, true), (44, true), (45, true), (46, true), (47, false), (48, true), (49, true), (50, true), (51, true), (52, true)] (oBuildS 20 2 [.nilIface, .nilIface] [(0, (1, (.loc 4))), (1, (1, (.loc 0)))]) (.consG 54 false [(0, true), (1, true), (2, true), (3, true), (4, true), (5, true), (6, true), (7, true), (8, true), (9, true), (10, true), (11, true), (12, true), (13, true), (14, true), (15, true), (16, true), (17, true), (18, true), (19, true), (20, true), (21, true), (22, true), (23, true), (24, true), (25, true), (26, true), (27, true), (28, true), (29, true), (30, true), (31, true), (32, false), (33, true), (34, true), (35, true), (36, true), (37, true), (38, true), (39, true), (40, true), (41, true), (42, true), (43, true), (44, true), (45, true), (46, true), (47, false), (48, true), (49, true), (50, true), (51, true), (52, true), (53, true)] (oCallF 18 [(.loc 0)]) (.consP (oStrOp .add (.loc 7) (.loc 0)) (.consP (oMkI 9 (.val (.string (mkS [115, 97, 110, 101])))) (.consP (oMove (.tmp [false, true])) (.consP (oMkI 9 (.loc 0)) (.consG 59 false [(0, false), (1, false), (2, false), (3, false), (4, false), (5, false), (6, false), (7, false), (8, false), (9, false), (10, false), (11, false), (12, false), (13, false), (14, false), (15, false), (16, false), (17, false), (18, false), (19, false), (20, false), (21, false), (22, false), (23, false), (24, false), (25, false), (26, false), (27, false), (28, false), (29, false), (30, false), (31, false), (32, false), (33, false), (34, false), (35, false), (36, false), (37, false), (38, false), (39, false), (40, false), (41, false), (42, false), (43, false), (44, false), (45, false), (46, false), (47, false), (48, false), (49, false), (50, false), (51, false), (52, false), (53, false), (54, false), (55, false), (56, true), (57, true), (58, true)] (oBuildS 20 2 [.nilIface, .nilIface] [(0, (1, (.loc 2))), (1, (1, (.loc 0)))]) (.consG 60 true [(0, true), (1, true), (2, true), (3, true), (4, true), (5, true), (6, true), (7, true), (8, true), (9, true), (10, true), (11, true), (12, true), (13, true), (14, true), (15, true), (16, true), (17, true), (18, true), (19, true), (20, true), (21, true), (22, true), (23, true), (24, true), (25, true), (26, true), (27, true), (28, true), (29, true), (30, true), (31, true), (32, false), (33, true), (34, true), (35, true), (36, true), (37, true), (38, true), (39, true), (40, true), (41, true), (42, true), (43, true), (44, true), (45, true), (46, true), (47, false), (48, true), (49, true), (50, true), (51, true), (52, true), (53, true), (54, true), (55, false), (56, true), (57, true), (58, true), (59, true)] (oCallF 18 [(.loc 0)]) (.consP (oStrOp .add (.loc 5) (.loc 0)) (.consP (oFldA 42 (.tmp [true])) (.consR 63 (oLoadA 3 (.loc 0)) (.consG 64 true [(0, true), (1, true), (2, true), (3, true), (4, true), (5, true), (6, true), (7, true), (8, true), (9, true), (10, true), (11, true), (12, true), (13, true), (14, true), (15, true), (16, true), (17, true), (18, true), (19, true), (20, true), (21, true), (22, true), (23, true), (24, true), (25, true), (26, true), (27, true), (28, true), (29, true), (30, true), (31, true), (32, false), (33, true), (34, true), (35, true), (36, true), (37, true), (38, true), (39, true), (40, true), (41, true), (42, true), (43, true), (44, true), (45, true), (46, true), (47, false), (48, true), (49, true), (50, true), (51, true), (52, true), (53, true), (54, true), (55, false), (56, true), (57, true), (58, true), (59, true), (60, true), (61, false), (62, true), (63, true)] (oCallF 20 [(.loc 0)]) (.consP (oStrOp .add (.loc 3) (.loc 0)) (.consP (oMove (.loc 0)) (.flush 0 [false] .nil)))))))))))))))))))))))))))))))))))))))))))))))))))))))))))))))))))))
noncomputable def r6_4 : CC := .ret

theorem cf6_eq : cf6 = .mk 75 1 (.seq r6_0 (.seq r6_1 (.seq r6_2 (.seq r6_3 r6_4)))) [.tmp [false]] := rfl
theorem z_fillF {R : Type} (o n : Nat) (t : TypeId) (v : Value) (z : List Value) (k : List Value → R) (no : R) : fill1 o n (.iface t v) z k no = bif Nat.beq 1 n then bif Nat.ble (o + n) z.length then k (over z o [.iface t v]) else no else no := by
  show (bif false then no else bif Nat.beq 1 n then bif Nat.ble (Nat.add o n) (len z) then k (over z o [.iface t v]) else no else no) = _
  rw [len_eq]; rfl
theorem z_ovS (a : Value) (z : List Value) (n : Nat) (l : List Value) : over (a :: z) (n + 1) l = a :: over z n l := rfl
theorem z_ov0 (a x : Value) (z : List Value) : over (a :: z) 0 [x] = x :: z := rfl
variable {r : Rep} {vo ko : Value} {h : Hp} {b b3 : Nat} {call : Call} {tm : T Value} {df : Df} {H : Hp} {acc : List UInt8} {cd : CallD}
theorem s6_0 (hr : RepOk r) (ha : tm.get [] = some (.agg ⟨repC r vo ko⟩)) : After (exC r6_0 call tm [] h) (P8B r vo ko h) := by
  simp only [↓evD, evD, evU, evF, reduceCtorEq, evB, Nat.reduceAdd, Nat.reduceLT, Nat.reduceMul, Nat.reduceSub, r6_0, ha, repC_len hr vo ko]
  exact ⟨rfl, rfl, by simp [T.get_set], rfl⟩
theorem s6_1 (hr : RepOk r) (hw : Wf h) (p : P8B r vo ko h .normal tm df H) : After (exC r6_1 call tm df H) (P8E r vo ko h h.next (h.next + 1) (S8 [110, 111])) := by
  obtain ⟨_, rfl, t1, rfl⟩ := p
  have q : Nat.ble 9 46 = true := rfl
  have q1 : Nat.ble 9 9 = true := rfl
  have hlen : (r.st.map fun x => Value.int .i64 x).length = 9 := by rw [List.length_map]; exact hr.st
  have ld : loadN (storeL (repC r vo ko) 0 .nil fun t => t) 0 9 [] = some (r.st.map fun x => Value.int .i64 x) := by
    have := loadN_eq (c := storeL (repC r vo ko) 0 .nil fun t => t) (o := 0) 9 (r.st.map fun x => Value.int .i64 x) [] hlen (fun j hj => by
      rw [Nat.zero_add, rowL_get (repC_st hr vo ko hj)]
      have := hr.st
      unfold stG
      simp [List.getElem?_eq_getElem (show j < r.st.length by omega)])
    rw [this, List.append_nil]
  have hone := allOne_ints (kd := .i64) r.st
  simp only [↓evD, evD, evU, evF, reduceCtorEq, evB, Nat.reduceAdd, Nat.reduceLT, Nat.reduceMul, Nat.reduceSub, r6_1, t1, q, q1, ld, hlen, hone]
  refine ⟨rfl, rfl, by simp [T.get_set, t1], by simp [T.get_set], by simp [T.get_set, S8], ?_, ?_, ?_, ⟨storeL (r.st.map fun x => Value.int .i64 x) 0 (storeL [Value.int .i64 (.ofNat 0), .int .i64 (.ofNat 0), .int .i64 (.ofNat 0), .int .i64 (.ofNat 0), .int .i64 (.ofNat 0), .int .i64 (.ofNat 0), .int .i64 (.ofNat 0), .int .i64 (.ofNat 0), .int .i64 (.ofNat 0)] 0 .nil fun t => t) fun t => t, ?_, fun i hi => ?_⟩, ?_⟩
  · exact ((hw.new _).new _).put1 (by rw [z_new_next, z_new_next]; omega) _
  · have hk := Keeps.new2 (lim := h.next) (rowL (repC r vo ko) 46 39 true) (rowL [Value.int .i64 (.ofNat 0), .int .i64 (.ofNat 0), .int .i64 (.ofNat 0), .int .i64 (.ofNat 0), .int .i64 (.ofNat 0), .int .i64 (.ofNat 0), .int .i64 (.ofNat 0), .int .i64 (.ofNat 0), .int .i64 (.ofNat 0)] 9 23 true) (Nat.le_refl h.next)
    refine ⟨hk.base, ?_, hk.next, fun b hb => ?_⟩
    · rw [z_put_log (by rw [z_new_base, z_new_base]; have := hw.base; omega)]; exact hk.log
    · rw [z_at_put, if_neg (by omega)]; exact hk.at_ b hb
  · simp only [z_at_put, z_at_new, z_new_next, z_ne1, z_ne1', if_true, if_false]
  · simp only [z_at_put, if_true]
  · rw [z_stget, if_pos ⟨by omega, by omega⟩]
    have := hr.st
    unfold stG
    simp [List.getElem?_eq_getElem (show i < r.st.length by omega)]
  · omega

noncomputable def ynT (b : Bool) : List UInt8 := if b then [121, 101, 115] else [110, 111]
theorem s6_2 (hr : RepOk r) (p : P8 r vo ko h b b3 (S8 [110, 111]) tm df H) :
    After (exC r6_2 call tm df H) (P8E r vo ko h b b3 (S8 (ynT r.sane))) := by
  have t1 := p.t1
  have t4 : tm.get [false, true] = some (.string (mkS [110, 111])) := p.t4
  have hb := p.box
  have g := rowL_get (repC_end hr vo ko).2.2.2
  have q2 : Nat.blt 45 46 = true := rfl
  cases hs : r.sane with
  | true =>
    rw [hs] at g
    simp only [↓evD, evD, evU, evF, reduceCtorEq, evB, Nat.reduceAdd, Nat.reduceLT, Nat.reduceMul, Nat.reduceSub, r6_2, t1, t4, hb, g, q2]
    refine ⟨rfl, p.new _ p.wf (Keeps.refl _ _) ?_ ?_ ?_⟩ <;> simp [T.get_set, S8, ynT]
  | false =>
    rw [hs] at g
    simp only [↓evD, evD, evU, evF, reduceCtorEq, evB, Nat.reduceAdd, Nat.reduceLT, Nat.reduceMul, Nat.reduceSub, r6_2, t1, t4, hb, g, q2]
    refine ⟨rfl, p.new _ p.wf (Keeps.refl _ _) ?_ ?_ ?_⟩ <;> simp [T.get_set, S8, ynT, t4]
def H18 (call : Call) : Prop := ∀ (H : Hp) (ab ac : Nat) (its : List It), Wf H → Base H → (∀ x ∈ its, x.ok) → 0 < its.length → its.length ≤ 8 → H.at ab = some (rowL (its.map It.v) its.length 20 true) →
  call 18 [slV ab 0 its.length ac] H = .val (.string (mkS (joinS (its.map It.w) ++ [10]))) H
def H19 (call : Call) : Prop := ∀ (H : Hp) (b o c : Nat) (l : List Nat), Wf H → l.length = 32 → Bytes H b o l → (∀ x ∈ l, x < 256) → call 19 [slV b o 32 c] H = .val (.string (mkS (hexT l))) H
def H20 (r : Rep) (vo ko : Value) (call : Call) : Prop := ∀ H, Wf H → Base H → SlP H vo r.s → SlP H ko r.k → call 20 [.agg ⟨[.int .i64 (.ofNat r.ver), vo, ko]⟩] H = .val (.string (mkS (text23 r.ver r.s r.k))) H
theorem fields3_join (a b c : List UInt8) (x y z : Int) : joinS ([It.s a, .n x, .s b, .n y, .s c, .n z].map It.w) ++ [10] = fieldsT [(a, x), (b, y), (c, z)] := by
  simp [joinS, It.w, fieldsT]
theorem fields4_join (a b c d : List UInt8) (x y z u : Int) : joinS ([It.s a, .n x, .s b, .n y, .s c, .n z, .s d, .n u].map It.w) ++ [10] = fieldsT [(a, x), (b, y), (c, z), (d, u)] := by
  simp [joinS, It.w, fieldsT]

theorem s6_3 (hr : RepOk r) (hw : Wf h) (hB : Base h) (h18 : H18 call) (h19 : H19 call) (h20 : H20 r vo ko call) (hv : SlP h vo r.s) (hk : SlP h ko r.k) (p : P8 r vo ko h b b3 (S8 (ynT r.sane)) tm df H) :
    After (exC r6_3 call tm df H) (fun e tm df H' => e = .normal ∧ df = [] ∧ H'.log = h.log ∧ tm.get [false] = some (.string (mkS (repT r)))) := by
  obtain ⟨c, h1, h2⟩ := p.sv
  have t1 := p.t1
  have t3 := p.t3
  have t4 : tm.get [false, true] = some (.string (mkS (ynT r.sane))) := p.t4
  have hb := p.box
  have hdf := p.df
  subst hdf
  have l1 := p.wf.lt hb
  have l3 := p.wf.lt h1
  have hBH : Base H := hB.keep p.kp hB.next
  have st := fun {i : Nat} (hi : i < 9) => stG64 hr hi
  have g0 := h2 0 (by omega)
  have q0 : Nat.blt 0 9 = true := rfl
  have g1 := h2 1 (by omega)
  have q1 : Nat.blt 1 9 = true := rfl
  have g2 := h2 2 (by omega)
  have q2 : Nat.blt 2 9 = true := rfl
  have g3 := h2 3 (by omega)
  have q3 : Nat.blt 3 9 = true := rfl
  have g4 := h2 4 (by omega)
  have q4 : Nat.blt 4 9 = true := rfl
  have g5 := h2 5 (by omega)
  have q5 : Nat.blt 5 9 = true := rfl
  have g6 := h2 6 (by omega)
  have q6 : Nat.blt 6 9 = true := rfl
  have g7 := h2 7 (by omega)
  have q7 : Nat.blt 7 9 = true := rfl
  have g8 := h2 8 (by omega)
  have q8 : Nat.blt 8 9 = true := rfl
  have g9 := rowL_get (repC_torn hr vo ko)
  have g42 := rowL_get (repC_end hr vo ko).1
  have g43 := rowL_get (repC_end hr vo ko).2.1
  have g44 := rowL_get (repC_end hr vo ko).2.2.1
  have q9 : Nat.blt 9 46 = true := rfl
  have q45 : Nat.ble 45 46 = true := rfl
  have b56 : Nat.ble 5 6 = true := rfl
  have b66 : Nat.ble 6 6 = true := rfl
  have b58 : Nat.ble 5 8 = true := rfl
  have b68 : Nat.ble 6 8 = true := rfl
  have b78 : Nat.ble 7 8 = true := rfl
  have b88 : Nat.ble 8 8 = true := rfl
  have b16 : Nat.ble 1 6 = true := rfl
  have b26 : Nat.ble 2 6 = true := rfl
  have b36 : Nat.ble 3 6 = true := rfl
  have b46 : Nat.ble 4 6 = true := rfl
  have b18 : Nat.ble 1 8 = true := rfl
  have b28 : Nat.ble 2 8 = true := rfl
  have b38 : Nat.ble 3 8 = true := rfl
  have b48 : Nat.ble 4 8 = true := rfl
  obtain ⟨R1, hR1⟩ : ∃ R, rowL [.iface 9 (.string (mkS [112, 104, 97, 115, 101])), .iface 3 (.int .i64 (stG r 0)), .iface 9 (.string (mkS [115, 116, 101, 112])), .iface 3 (.int .i64 (stG r 1)), .iface 9 (.string (mkS [115, 117, 98])), .iface 3 (.int .i64 (stG r 2))] 6 20 true = R := ⟨_, rfl⟩
  have w1 : Wf (H.new R1) := p.wf.new _
  have a1 : (H.new R1).at (H.next) = some R1 := by rw [z_at_new]; exact if_pos rfl
  have s1 : setBase (H.new R1) H.base H.log = (H.new R1) := rfl
  have rb1 : (H.new R1).at b = some (rowL (repC r vo ko) 46 39 true) := by rw [z_at_new, if_neg (by omega)]; exact hb
  have rc1 : (H.new R1).at b3 = some (.row c 9 23 true false) := by rw [z_at_new, if_neg (by omega)]; exact h1
  have f1 : joinS ([It.s [112, 104, 97, 115, 101], It.n (stG r 0), It.s [115, 116, 101, 112], It.n (stG r 1), It.s [115, 117, 98], It.n (stG r 2)].map It.w) ++ [10] = fieldsT [([112, 104, 97, 115, 101], stG r 0), ([115, 116, 101, 112], stG r 1), ([115, 117, 98], stG r 2)] := fields3_join _ _ _ _ _ _
  have c1 : call 18 [slV (H.next) 0 6 6] (setBase (H.new R1) (H.next + 1) []) = .val (.string (mkS (fieldsT [([112, 104, 97, 115, 101], stG r 0), ([115, 116, 101, 112], stG r 1), ([115, 117, 98], stG r 2)]))) (setBase (H.new R1) (H.next + 1) []) := by
    rw [← f1]
    exact h18 _ _ 6 [It.s [112, 104, 97, 115, 101], It.n (stG r 0), It.s [115, 116, 101, 112], It.n (stG r 1), It.s [115, 117, 98], It.n (stG r 2)] (w1.sb []) ((hBH.new _).sb _ _) (by intro x hx; simp only [List.mem_cons, List.not_mem_nil, or_false] at hx; rcases hx with rfl | rfl | rfl | rfl | rfl | rfl <;> first | exact st (by omega) | exact hr.torn | (show List.length _ ≤ 70; decide) | (show (hexT r.img).length ≤ 70; rw [hexT_len, hr.img]; omega) | (show (ynT r.sane).length ≤ 70; unfold ynT; split <;> decide)) (by simp) (by simp) (by rw [z_at_sb, a1, ← hR1]; rfl)
  obtain ⟨R2, hR2⟩ : ∃ R, rowL [.iface 9 (.string (mkS [117, 110, 100, 111])), .iface 3 (.int .i64 (stG r 3)), .iface 9 (.string (mkS [116, 114, 105, 101, 115])), .iface 3 (.int .i64 (stG r 4)), .iface 9 (.string (mkS [115, 101, 116])), .iface 3 (.int .i64 (stG r 5)), .iface 9 (.string (mkS [115, 116, 97, 103, 101])), .iface 3 (.int .i64 (stG r 6))] 8 20 true = R := ⟨_, rfl⟩
  have w2 : Wf ((H.new R1).new R2) := w1.new _
  have a2 : ((H.new R1).new R2).at (H.next + 1) = some R2 := by rw [z_at_new]; exact if_pos rfl
  have s2 : setBase ((H.new R1).new R2) H.base H.log = ((H.new R1).new R2) := rfl
  have rb2 : ((H.new R1).new R2).at b = some (rowL (repC r vo ko) 46 39 true) := by rw [z_at_new, if_neg (by simp only [z_new_next]; omega)]; exact rb1
  have rc2 : ((H.new R1).new R2).at b3 = some (.row c 9 23 true false) := by rw [z_at_new, if_neg (by simp only [z_new_next]; omega)]; exact rc1
  have f2 : joinS ([It.s [117, 110, 100, 111], It.n (stG r 3), It.s [116, 114, 105, 101, 115], It.n (stG r 4), It.s [115, 101, 116], It.n (stG r 5), It.s [115, 116, 97, 103, 101], It.n (stG r 6)].map It.w) ++ [10] = fieldsT [([117, 110, 100, 111], stG r 3), ([116, 114, 105, 101, 115], stG r 4), ([115, 101, 116], stG r 5), ([115, 116, 97, 103, 101], stG r 6)] := fields4_join _ _ _ _ _ _ _ _
  have c2 : call 18 [slV (H.next + 1) 0 8 8] (setBase ((H.new R1).new R2) (H.next + 1 + 1) []) = .val (.string (mkS (fieldsT [([117, 110, 100, 111], stG r 3), ([116, 114, 105, 101, 115], stG r 4), ([115, 101, 116], stG r 5), ([115, 116, 97, 103, 101], stG r 6)]))) (setBase ((H.new R1).new R2) (H.next + 1 + 1) []) := by
    rw [← f2]
    exact h18 _ _ 8 [It.s [117, 110, 100, 111], It.n (stG r 3), It.s [116, 114, 105, 101, 115], It.n (stG r 4), It.s [115, 101, 116], It.n (stG r 5), It.s [115, 116, 97, 103, 101], It.n (stG r 6)] (w2.sb []) (((hBH.new _).new _).sb _ _) (by intro x hx; simp only [List.mem_cons, List.not_mem_nil, or_false] at hx; rcases hx with rfl | rfl | rfl | rfl | rfl | rfl | rfl | rfl <;> first | exact st (by omega) | exact hr.torn | (show List.length _ ≤ 70; decide) | (show (hexT r.img).length ≤ 70; rw [hexT_len, hr.img]; omega) | (show (ynT r.sane).length ≤ 70; unfold ynT; split <;> decide)) (by simp) (by simp) (by rw [z_at_sb, a2, ← hR2]; rfl)
  obtain ⟨R3, hR3⟩ : ∃ R, rowL [.iface 9 (.string (mkS [118, 101, 114, 115, 105, 111, 110])), .iface 3 (.int .i64 (stG r 7)), .iface 9 (.string (mkS [108, 97, 115, 116])), .iface 3 (.int .i64 (stG r 8)), .iface 9 (.string (mkS [116, 111, 114, 110])), .iface 3 (.int .i64 r.torn)] 6 20 true = R := ⟨_, rfl⟩
  have w3 : Wf (((H.new R1).new R2).new R3) := w2.new _
  have a3 : (((H.new R1).new R2).new R3).at (H.next + 1 + 1) = some R3 := by rw [z_at_new]; exact if_pos rfl
  have s3 : setBase (((H.new R1).new R2).new R3) H.base H.log = (((H.new R1).new R2).new R3) := rfl
  have rb3 : (((H.new R1).new R2).new R3).at b = some (rowL (repC r vo ko) 46 39 true) := by rw [z_at_new, if_neg (by simp only [z_new_next]; omega)]; exact rb2
  have rc3 : (((H.new R1).new R2).new R3).at b3 = some (.row c 9 23 true false) := by rw [z_at_new, if_neg (by simp only [z_new_next]; omega)]; exact rc2
  have f3 : joinS ([It.s [118, 101, 114, 115, 105, 111, 110], It.n (stG r 7), It.s [108, 97, 115, 116], It.n (stG r 8), It.s [116, 111, 114, 110], It.n r.torn].map It.w) ++ [10] = fieldsT [([118, 101, 114, 115, 105, 111, 110], stG r 7), ([108, 97, 115, 116], stG r 8), ([116, 111, 114, 110], r.torn)] := fields3_join _ _ _ _ _ _
  have c3 : call 18 [slV (H.next + 1 + 1) 0 6 6] (setBase (((H.new R1).new R2).new R3) (H.next + 1 + 1 + 1) []) = .val (.string (mkS (fieldsT [([118, 101, 114, 115, 105, 111, 110], stG r 7), ([108, 97, 115, 116], stG r 8), ([116, 111, 114, 110], r.torn)]))) (setBase (((H.new R1).new R2).new R3) (H.next + 1 + 1 + 1) []) := by
    rw [← f3]
    exact h18 _ _ 6 [It.s [118, 101, 114, 115, 105, 111, 110], It.n (stG r 7), It.s [108, 97, 115, 116], It.n (stG r 8), It.s [116, 111, 114, 110], It.n r.torn] (w3.sb []) ((((hBH.new _).new _).new _).sb _ _) (by intro x hx; simp only [List.mem_cons, List.not_mem_nil, or_false] at hx; rcases hx with rfl | rfl | rfl | rfl | rfl | rfl <;> first | exact st (by omega) | exact hr.torn | (show List.length _ ≤ 70; decide) | (show (hexT r.img).length ≤ 70; rw [hexT_len, hr.img]; omega) | (show (ynT r.sane).length ≤ 70; unfold ynT; split <;> decide)) (by simp) (by simp) (by rw [z_at_sb, a3, ← hR3]; rfl)
  have c6 : call 19 [slV b 10 32 32] (setBase (((H.new R1).new R2).new R3) (H.next + 1 + 1 + 1) []) = .val (.string (mkS (hexT r.img))) (setBase (((H.new R1).new R2).new R3) (H.next + 1 + 1 + 1) []) :=
    h19 _ _ _ _ r.img (w3.sb []) hr.img ⟨_, 46, 39, true, false, rb3, by rw [hr.img]; omega, fun j x hx => by rw [Nat.mul_one]; exact rowL_get (repC_img hr vo ko hx)⟩ hr.img8
  obtain ⟨R4, hR4⟩ : ∃ R, rowL [.iface 9 (.string (mkS [105, 109, 97, 103, 101])), .iface 9 (.string (mkS (hexT r.img)))] 2 20 true = R := ⟨_, rfl⟩
  have w4 : Wf ((((H.new R1).new R2).new R3).new R4) := w3.new _
  have a4 : ((((H.new R1).new R2).new R3).new R4).at (H.next + 1 + 1 + 1) = some R4 := by rw [z_at_new]; exact if_pos rfl
  have s4 : setBase ((((H.new R1).new R2).new R3).new R4) H.base H.log = ((((H.new R1).new R2).new R3).new R4) := rfl
  have rb4 : ((((H.new R1).new R2).new R3).new R4).at b = some (rowL (repC r vo ko) 46 39 true) := by rw [z_at_new, if_neg (by simp only [z_new_next]; omega)]; exact rb3
  have rc4 : ((((H.new R1).new R2).new R3).new R4).at b3 = some (.row c 9 23 true false) := by rw [z_at_new, if_neg (by simp only [z_new_next]; omega)]; exact rc3
  have f4 : joinS ([It.s [105, 109, 97, 103, 101], It.s (hexT r.img)].map It.w) ++ [10] = [105, 109, 97, 103, 101, 32] ++ hexT r.img ++ [10] := by simp [joinS, It.w]
  have c4 : call 18 [slV (H.next + 1 + 1 + 1) 0 2 2] (setBase ((((H.new R1).new R2).new R3).new R4) (H.next + 1 + 1 + 1 + 1) []) = .val (.string (mkS ([105, 109, 97, 103, 101, 32] ++ hexT r.img ++ [10]))) (setBase ((((H.new R1).new R2).new R3).new R4) (H.next + 1 + 1 + 1 + 1) []) := by
    rw [← f4]
    exact h18 _ _ 2 [It.s [105, 109, 97, 103, 101], It.s (hexT r.img)] (w4.sb []) (((((hBH.new _).new _).new _).new _).sb _ _) (by intro x hx; simp only [List.mem_cons, List.not_mem_nil, or_false] at hx; rcases hx with rfl | rfl <;> first | exact st (by omega) | exact hr.torn | (show List.length _ ≤ 70; decide) | (show (hexT r.img).length ≤ 70; rw [hexT_len, hr.img]; omega) | (show (ynT r.sane).length ≤ 70; unfold ynT; split <;> decide)) (by simp) (by simp) (by rw [z_at_sb, a4, ← hR4]; rfl)
  obtain ⟨R5, hR5⟩ : ∃ R, rowL [.iface 9 (.string (mkS [115, 97, 110, 101])), .iface 9 (.string (mkS (ynT r.sane)))] 2 20 true = R := ⟨_, rfl⟩
  have w5 : Wf (((((H.new R1).new R2).new R3).new R4).new R5) := w4.new _
  have a5 : (((((H.new R1).new R2).new R3).new R4).new R5).at (H.next + 1 + 1 + 1 + 1) = some R5 := by rw [z_at_new]; exact if_pos rfl
  have s5 : setBase (((((H.new R1).new R2).new R3).new R4).new R5) H.base H.log = (((((H.new R1).new R2).new R3).new R4).new R5) := rfl
  have rb5 : (((((H.new R1).new R2).new R3).new R4).new R5).at b = some (rowL (repC r vo ko) 46 39 true) := by rw [z_at_new, if_neg (by simp only [z_new_next]; omega)]; exact rb4
  have rc5 : (((((H.new R1).new R2).new R3).new R4).new R5).at b3 = some (.row c 9 23 true false) := by rw [z_at_new, if_neg (by simp only [z_new_next]; omega)]; exact rc4
  have f5 : joinS ([It.s [115, 97, 110, 101], It.s (ynT r.sane)].map It.w) ++ [10] = sanT r.sane := by unfold sanT ynT; cases r.sane <;> rfl
  have c5 : call 18 [slV (H.next + 1 + 1 + 1 + 1) 0 2 2] (setBase (((((H.new R1).new R2).new R3).new R4).new R5) (H.next + 1 + 1 + 1 + 1 + 1) []) = .val (.string (mkS (sanT r.sane))) (setBase (((((H.new R1).new R2).new R3).new R4).new R5) (H.next + 1 + 1 + 1 + 1 + 1) []) := by
    rw [← f5]
    exact h18 _ _ 2 [It.s [115, 97, 110, 101], It.s (ynT r.sane)] (w5.sb []) ((((((hBH.new _).new _).new _).new _).new _).sb _ _) (by intro x hx; simp only [List.mem_cons, List.not_mem_nil, or_false] at hx; rcases hx with rfl | rfl <;> first | exact st (by omega) | exact hr.torn | (show List.length _ ≤ 70; decide) | (show (hexT r.img).length ≤ 70; rw [hexT_len, hr.img]; omega) | (show (ynT r.sane).length ≤ 70; unfold ynT; split <;> decide)) (by simp) (by simp) (by rw [z_at_sb, a5, ← hR5]; rfl)
  have kp1 : Keeps h.next h (H.new R1) := p.kp.trans (Keeps.new _ (by have := p.kp.next; omega))
  have kp2 : Keeps h.next h ((H.new R1).new R2) := kp1.trans (Keeps.new _ (by simp only [z_new_next]; have := p.kp.next; omega))
  have kp3 : Keeps h.next h (((H.new R1).new R2).new R3) := kp2.trans (Keeps.new _ (by simp only [z_new_next]; have := p.kp.next; omega))
  have kp4 : Keeps h.next h ((((H.new R1).new R2).new R3).new R4) := kp3.trans (Keeps.new _ (by simp only [z_new_next]; have := p.kp.next; omega))
  have kp5 : Keeps h.next h (((((H.new R1).new R2).new R3).new R4).new R5) := kp4.trans (Keeps.new _ (by simp only [z_new_next]; have := p.kp.next; omega))
  have c7 : call 20 [.agg ⟨[.int .i64 (.ofNat r.ver), vo, ko]⟩] (setBase (((((H.new R1).new R2).new R3).new R4).new R5) (H.next + 1 + 1 + 1 + 1 + 1) []) = .val (.string (mkS (text23 r.ver r.s r.k))) (setBase (((((H.new R1).new R2).new R3).new R4).new R5) (H.next + 1 + 1 + 1 + 1 + 1) []) :=
    h20 _ (w5.sb []) (((((hBH.new _).new _).new _).new _).new _ |>.sb _ _) (by have q := hv.keep hw kp5 (Nat.le_refl _); exact q) (by have q := hk.keep hw kp5 (Nat.le_refl _); exact q)
  obtain ⟨T1, hT1⟩ : ∃ x, fieldsT [([112, 104, 97, 115, 101], stG r 0), ([115, 116, 101, 112], stG r 1), ([115, 117, 98], stG r 2)] = x := ⟨_, rfl⟩
  rw [hT1] at c1
  haveI : BL T1 200 := ⟨by rw [← hT1]; exact (fields_len3 (by decide) (by decide) (by decide) (st (by omega)) (st (by omega)) (st (by omega)))⟩
  obtain ⟨T2, hT2⟩ : ∃ x, fieldsT [([117, 110, 100, 111], stG r 3), ([116, 114, 105, 101, 115], stG r 4), ([115, 101, 116], stG r 5), ([115, 116, 97, 103, 101], stG r 6)] = x := ⟨_, rfl⟩
  rw [hT2] at c2
  haveI : BL T2 200 := ⟨by rw [← hT2]; exact (fields_len4 (by decide) (by decide) (by decide) (by decide) (st (by omega)) (st (by omega)) (st (by omega)) (st (by omega)))⟩
  obtain ⟨T3, hT3⟩ : ∃ x, fieldsT [([118, 101, 114, 115, 105, 111, 110], stG r 7), ([108, 97, 115, 116], stG r 8), ([116, 111, 114, 110], r.torn)] = x := ⟨_, rfl⟩
  rw [hT3] at c3
  haveI : BL T3 200 := ⟨by rw [← hT3]; exact (fields_len3 (by decide) (by decide) (by decide) (st (by omega)) (st (by omega)) hr.torn)⟩
  obtain ⟨T4, hT4⟩ : ∃ x, [105, 109, 97, 103, 101, 32] ++ hexT r.img ++ [10] = x := ⟨_, rfl⟩
  rw [hT4] at c4
  haveI : BL T4 80 := ⟨by rw [← hT4]; exact (by simp [hexT_len, hr.img])⟩
  obtain ⟨T5, hT5⟩ : ∃ x, sanT r.sane = x := ⟨_, rfl⟩
  rw [hT5] at c5
  haveI : BL T5 9 := ⟨by rw [← hT5]; exact (by unfold sanT; split <;> decide)⟩
  haveI : BL (text23 r.ver r.s r.k) 600 := ⟨text23_len hr⟩
  simp only [↓evD, evD, evU, evF, reduceCtorEq, evB, Nat.reduceAdd, Nat.reduceLT, Nat.reduceMul, Nat.reduceSub, r6_3, z_mkI, z_fillF, z_ovS, z_ov0, z_ld3, List.length_cons, List.length_nil, t1, t3, t4, hb, h1, g0, q0, g1, q1, g2, q2, g3, q3, g4, q4, g5, q5, g6, q6, g7, q7, g8, q8, g9, q9, g42, g43, g44, q45, b16, b26, b36, b46, b56, b66, b18, b28, b38, b48, b58, b68, b78, b88, hR1, s1, rb1, rc1, c1, hR2, s2, rb2, rc2, c2, hR3, s3, rb3, rc3, c3, hR4, s4, rb4, rc4, c4, hR5, s5, rb5, rc5, c5, c6, c7]
  exact ⟨p.kp.log, by rw [← hT1, ← hT2, ← hT3, ← hT4, ← hT5]; rfl⟩
theorem print6_run (hr : RepOk r) (hw : Wf h) (hB : Base h) (hv : SlP h vo r.s) (hk : SlP h ko r.k) (h18 : H18 call) (h19 : H19 call) (h20 : H20 r vo ko call) :
    Yields (runF cf6 call cd [.agg ⟨repC r vo ko⟩] h) (QuietR (.string (mkS (repT r))) h) := by
  rw [cf6_eq]
  refine runF_yields rfl ?_
  rw [z_seq]
  refine After.exK (s6_0 hr rfl) ?_
  rintro e tm df H ⟨rfl, p⟩
  rw [z_kn, z_seq]
  refine After.exK (s6_1 hr hw ⟨rfl, p⟩) ?_
  rintro e tm df H ⟨rfl, p⟩
  rw [z_kn, z_seq]
  refine After.exK (s6_2 hr p) ?_
  rintro e tm df H ⟨rfl, p⟩
  rw [z_kn, z_seq]
  refine After.exK (s6_3 hr hw hB h18 h19 h20 hv hk p) ?_
  rintro e tm df H ⟨rfl, rfl, hlog, t⟩
  rw [z_kn]
  refine FEnd.ret ?_
  rw [z_exR1, t]
  exact ⟨rfl, hlog⟩
end Abs
end Go
