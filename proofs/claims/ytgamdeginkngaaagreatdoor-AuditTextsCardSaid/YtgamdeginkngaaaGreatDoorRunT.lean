/-
Symbolic runs: AuditTexts.
Conditions: none.
-/
import Derived.Test.YtgamdeginkngaaaGreatDoorRunS
set_option linter.unusedVariables false
set_option linter.unusedSimpArgs false
namespace Go
namespace Abs
noncomputable def r3_0 : CC := (.region (.consG (1023, []) (oBox 24 (.tmp [])) (.consG (1023, [(.some 3)]) (oBox 29 (.tmp [true])) (.consG (1023, [(.some 4), (.some 3)]) (oBox 30 (.tmp [false])) (.consP (oMove (.val (.bool false))) (.flush 0 [false, false] (.flush 1 [true, false] (.flush 2 [false, true] (.flush 3 [true, true] .nil)))))))))
noncomputable def r3_1 : CC := (.region (.consG (1023, []) (oCallF 4 []) (.consP (oMove (.loc 0)) (.flush 0 [true, true, true] .nil))))
noncomputable def r3_2 : CC := (.draw (.node (.some 0) (.node (.some 1) (.node (.some 4) (.node (.some 96) .nil .nil) (.node (.some 1792) .nil .nil)) (.node (.some 0) (.node (.some 256) .nil .nil) (.node (.some 0) .nil .nil))) (.node (.some 0) (.node (.some 12) (.node (.some 0) .nil .nil) (.node (.some 4095) .nil .nil)) (.node (.some 32) (.node (.some 768) .nil .nil) (.node (.some 16383) .nil .nil)))) (.consP (oIxArr 2 9 (.tmp [true, true]) (.val (.int .i64 (.ofNat 0)))) (.consR 1 (oLoadA 9 (.loc 0)) (.consP (oIxArr 3 1 (.tmp [true, false]) (.val (.int .i64 (.ofNat 0)))) (.consR 3 (oLoad1 (.loc 0)) (.consP (oToInt .i64 (.loc 0)) (.consP (oIxArr 2 3 (.tmp [false, true]) (.val (.int .i64 (.ofNat 0)))) (.consR 6 (oLoadA 3 (.loc 0)) (.consG 7 false [(0, false), (1, false), (2, false), (3, false), (4, false), (5, true), (6, true)] (oCallF 5 [(.loc 0)]) (.consP (oIxArr 3 1 (.tmp [true, false]) (.val (.int .i64 (.ofNat 2)))) (.consR 9 (oLoad1 (.loc 0)) (.consP (oArith gRem (.loc 0) (.val (.int .u8 (.ofNat 2)))) (.consP (oArith gEq (.loc 0) (.val (.int .u8 (.ofNat 1)))) (.consP (oBuild [(.int .i64 (.ofNat 0)), (.int .i64 (.ofNat 0)), (.int .i64 (.ofNat 0)), (.int .i64 (.ofNat 0)), (.int .i64 (.ofNat 0)), (.int .i64 (.ofNat 0)), (.int .i64 (.ofNat 0)), (.int .i64 (.ofNat 0)), (.int .i64 (.ofNat 0)), (.int .i64 (.ofNat 0)), (.int .u8 (.ofNat 0)), (.int .u8 (.ofNat 0)), (.int .u8 (.ofNat 0)), (.int .u8 (.ofNat 0)), (.int .u8 (.ofNat 0)), (.int .u8 (.ofNat 0)), (.int .u8 (.ofNat 0)), (.int .u8 (.ofNat 0)), (.int .u8 (.ofNat 0)), (.int .u8 (.ofNat 0)), (.int .u8 (.ofNat 0)), (.int .u8 (.ofNat 0)), (.int .u8 (.ofNat 0)), (.int .u8 (.ofNat 0)), (.int .u8 (.ofNat 0)), (.int .u8 (.ofNat 0)), (.int .u8 (.ofNat 0)), (.int .u8 (.ofNat 0)), (.int .u8 (.ofNat 0)), (.int .u8 (.ofNat 0)), (.int .u8 (.ofNat 0)), (.int .u8 (.ofNat 0)), (.int .u8 (.ofNat 0)), (.int .u8 (.ofNat 0)), (.int .u8 (.ofNat 0)), (.int .u8 (.ofNat 0)), (.int .u8 (.ofNat 0)), (.int .u8 (.ofNat 0)), (.int .u8 (.ofNat 0)), (.int .u8 (.ofNat 0)), (.int .u8 (.ofNat 0)), (.int .u8 (.ofNat 0)), (.int .i64 (.ofNat 0)), (.slice .none 0 0), (.slice .none 0 0), (.bool false)] [(0, (9, (.loc 10))), (9, (1, (.loc 7))), (42, (3, (.loc 4))), (45, (1, (.loc 0)))]) (.consG 13 false [(0, false), (1, false), (2, false), (3, false), (4, false), (5, false), (6, false), (7, false), (8, false), (9, false), (10, false), (11, false), (12, false)] (oAlloc 39 [(.int .i64 (.ofNat 0)), (.int .i64 (.ofNat 0)), (.int .i64 (.ofNat 0)), (.int .i64 (.ofNat 0)), (.int .i64 (.ofNat 0)), (.int .i64 (.ofNat 0)), (.int .i64 (.ofNat 0)), (.int .i64 (.ofNat 0)), (.int .i64 (.ofNat 0)), (.int .i64 (.ofNat 0)), (.int .u8 (.ofNat 0)), (.int .u8 (.ofNat 0)), (.int .u8 (.ofNat 0)), (.int .u8 (.ofNat 0)), (.int .u8 (.ofNat 0)), (.int .u8 (.ofNat 0)), (.int .u8 (.ofNat 0)), (.int .u8 (.ofNat 0)), (.int .u8 (.ofNat 0)), (.int .u8 (.ofNat 0)), (.int .u8 (.ofNat 0)), (.int .u8 (.ofNat 0)), (.int .u8 (.ofNat 0)), (.int .u8 (.ofNat 0)), (.int .u8 (.ofNat 0)), (.int .u8 (.ofNat 0)), (.int .u8 (.ofNat 0)), (.int .u8 (.ofNat 0)), (.int .u8 (.ofNat 0)), (.int .u8 (.ofNat 0)), (.int .u8 (.ofNat 0)), (.int .u8 (.ofNat 0)), (.int .u8 (.ofNat 0)), (.int .u8 (.ofNat 0)), (.int .u8 (.ofNat 0)), (.int .u8 (.ofNat 0)), (.int .u8 (.ofNat 0)), (.int .u8 (.ofNat 0)), (.int .u8 (.ofNat 0)), (.int .u8 (.ofNat 0)), (.int .u8 (.ofNat 0)), (.int .u8 (.ofNat 0)), (.int .i64 (.ofNat 0)), (.slice .none 0 0), (.slice .none 0 0), (.bool false)] 46) (.consG 14 true [(0, true), (1, true), (2, true), (3, true), (4, true), (5, true), (6, true), (7, true), (8, true), (9, true), (10, true), (11, true), (12, true), (13, true)] (oStoreA 46 (.loc 0) (.loc 1)) (.flush 1 [false, true, true] .nil)))))))))))))))))
noncomputable def r3_3 : CC := (.draw (.node (.some 0) (.node (.some 1) (.node (.some 4) (.node (.some 96) (.node (.some 32767) .nil .nil) .nil) (.node (.some 1792) .nil .nil)) (.node (.some 0) (.node (.some 256) .nil .nil) (.node (.some 8191) .nil .nil))) (.node (.some 0) (.node (.some 12) (.node (.some 0) .nil .nil) (.node (.some 3840) .nil .nil)) (.node (.some 32) (.node (.some 768) .nil .nil) (.node (.some 0) .nil .nil)))) (.consP (oIxArr 2 9 (.tmp [true, true]) (.val (.int .i64 (.ofNat 1)))) (.consR 1 (oLoadA 9 (.loc 0)) (.consP (oIxArr 3 1 (.tmp [true, false]) (.val (.int .i64 (.ofNat 1)))) (.consR 3 (oLoad1 (.loc 0)) (.consP (oToInt .i64 (.loc 0)) (.consP (oIxArr 2 3 (.tmp [false, true]) (.val (.int .i64 (.ofNat 1)))) (.consR 6 (oLoadA 3 (.loc 0)) (.consG 7 false [(0, false), (1, false), (2, false), (3, false), (4, false), (5, true), (6, true)] (oCallF 5 [(.loc 0)]) (.consP (oIxArr 3 1 (.tmp [true, false]) (.val (.int .i64 (.ofNat 2)))) (.consR 9 (oLoad1 (.loc 0)) (.consP (oArith gQuo (.loc 0) (.val (.int .u8 (.ofNat 2)))) (.consP (oArith gRem (.loc 0) (.val (.int .u8 (.ofNat 2)))) (.consP (oArith gEq (.loc 0) (.val (.int .u8 (.ofNat 1)))) (.consP (oBuild [(.int .i64 (.ofNat 0)), (.int .i64 (.ofNat 0)), (.int .i64 (.ofNat 0)), (.int .i64 (.ofNat 0)), (.int .i64 (.ofNat 0)), (.int .i64 (.ofNat 0)), (.int .i64 (.ofNat 0)), (.int .i64 (.ofNat 0)), (.int .i64 (.ofNat 0)), (.int .i64 (.ofNat 0)), (.int .u8 (.ofNat 0)), (.int .u8 (.ofNat 0)), (.int .u8 (.ofNat 0)), (.int .u8 (.ofNat 0)), (.int .u8 (.ofNat 0)), (.int .u8 (.ofNat 0)), (.int .u8 (.ofNat 0)), (.int .u8 (.ofNat 0)), (.int .u8 (.ofNat 0)), (.int .u8 (.ofNat 0)), (.int .u8 (.ofNat 0)), (.int .u8 (.ofNat 0)), (.int .u8 (.ofNat 0)), (.int .u8 (.ofNat 0)), (.int .u8 (.ofNat 0)), (.int .u8 (.ofNat 0)), (.int .u8 (.ofNat 0)), (.int .u8 (.ofNat 0)), (.int .u8 (.ofNat 0)), (.int .u8 (.ofNat 0)), (.int .u8 (.ofNat 0)), (.int .u8 (.ofNat 0)), (.int .u8 (.ofNat 0)), (.int .u8 (.ofNat 0)), (.int .u8 (.ofNat 0)), (.int .u8 (.ofNat 0)), (.int .u8 (.ofNat 0)), (.int .u8 (.ofNat 0)), (.int .u8 (.ofNat 0)), (.int .u8 (.ofNat 0)), (.int .u8 (.ofNat 0)), (.int .u8 (.ofNat 0)), (.int .i64 (.ofNat 0)), (.slice .none 0 0), (.slice .none 0 0), (.bool false)] [(0, (9, (.loc 11))), (9, (1, (.loc 8))), (42, (3, (.loc 5))), (45, (1, (.loc 0)))]) (.consG 14 false [(0, false), (1, false), (2, false), (3, false), (4, false), (5, false), (6, false), (7, false), (8, false), (9, false), (10, false), (11, false), (12, false), (13, false)] (oAlloc 39 [(.int .i64 (.ofNat 0)), (.int .i64 (.ofNat 0)), (.int .i64 (.ofNat 0)), (.int .i64 (.ofNat 0)), (.int .i64 (.ofNat 0)), (.int .i64 (.ofNat 0)), (.int .i64 (.ofNat 0)), (.int .i64 (.ofNat 0)), (.int .i64 (.ofNat 0)), (.int .i64 (.ofNat 0)), (.int .u8 (.ofNat 0)), (.int .u8 (.ofNat 0)), (.int .u8 (.ofNat 0)), (.int .u8 (.ofNat 0)), (.int .u8 (.ofNat 0)), (.int .u8 (.ofNat 0)), (.int .u8 (.ofNat 0)), (.int .u8 (.ofNat 0)), (.int .u8 (.ofNat 0)), (.int .u8 (.ofNat 0)), (.int .u8 (.ofNat 0)), (.int .u8 (.ofNat 0)), (.int .u8 (.ofNat 0)), (.int .u8 (.ofNat 0)), (.int .u8 (.ofNat 0)), (.int .u8 (.ofNat 0)), (.int .u8 (.ofNat 0)), (.int .u8 (.ofNat 0)), (.int .u8 (.ofNat 0)), (.int .u8 (.ofNat 0)), (.int .u8 (.ofNat 0)), (.int .u8 (.ofNat 0)), (.int .u8 (.ofNat 0)), (.int .u8 (.ofNat 0)), (.int .u8 (.ofNat 0)), (.int .u8 (.ofNat 0)), (.int .u8 (.ofNat 0)), (.int .u8 (.ofNat 0)), (.int .u8 (.ofNat 0)), (.int .u8 (.ofNat 0)), (.int .u8 (.ofNat 0)), (.int .u8 (.ofNat 0)), (.int .i64 (.ofNat 0)), (.slice .none 0 0), (.slice .none 0 0), (.bool false)] 46) (.consG 15 true [(0, true), (1, true), (2, true), (3, true), (4, true), (5, true), (6, true), (7, true), (8, true), (9, true), (10, true), (11, true), (12, true), (13, true), (14, true)] (oStoreA 46 (.loc 0) (.loc 1)) (.flush 1 [true, false, true] .nil))))))))))))))))))
noncomputable def r3_4 : CC := (.draw (.node (.some 0) (.node (.some 1) (.node (.some 0) (.node (.some 71) .nil .nil) (.node (.some 2047) .nil .nil)) (.node (.some 24) (.node (.some 0) .nil .nil) .nil)) (.node (.some 3) (.node (.some 8) (.node (.some 199) .nil .nil) .nil) (.node (.some 0) (.node (.some 1023) .nil .nil) .nil))) (.consP (oIxArr 3 1 (.tmp [true, false]) (.val (.int .i64 (.ofNat 0)))) (.consR 1 (oLoad1 (.loc 0)) (.consP (oArith gRem (.loc 0) (.val (.int .u8 (.ofNat 32)))) (.consP (oIxArr 3 1 (.tmp [true, false]) (.val (.int .i64 (.ofNat 1)))) (.consR 4 (oLoad1 (.loc 0)) (.consP (oArith gRem (.loc 0) (.val (.int .u8 (.ofNat 32)))) (.consP (oFldA 10 (.tmp [false, true, true])) (.consP (oIxArr 32 1 (.loc 0) (.loc 4)) (.consG 8 true [(0, true), (1, true), (2, true), (3, false), (4, false), (5, false), (6, true), (7, true)] (oStore1 (.loc 0) (.val (.int .u8 (.ofNat 1)))) (.consP (oFldA 10 (.tmp [true, false, true])) (.consP (oIxArr 32 1 (.loc 0) (.loc 4)) (.consG 11 true [(0, true), (1, true), (2, true), (3, true), (4, true), (5, true), (6, true), (7, true), (8, true), (9, true), (10, true)] (oStore1 (.loc 0) (.val (.int .u8 (.ofNat 1)))) .nil)))))))))))))
noncomputable def r3_5 : CC := (.draw (.node (.some 0) (.node (.some 1) (.node (.some 7) (.node (.some 111) (.node (.some 32767) .nil .nil) .nil) (.node (.some 2047) (.node (.some 524287) .nil .nil) .nil)) (.node (.some 0) (.node (.some 511) (.node (.some 131071) .nil .nil) .nil) (.node (.some 8191) .nil .nil))) (.node (.some 0) (.node (.some 15) (.node (.some 255) (.node (.some 65535) .nil .nil) .nil) (.node (.some 1023) .nil .nil)) (.node (.some 0) (.node (.some 1023) (.node (.some 262143) .nil .nil) .nil) (.node (.some 16383) .nil .nil)))) (.consR 0 (oLoadA 46 (.tmp [false, true, true])) (.consG 1 true [(0, true)] (oCallF 6 [(.loc 0)]) (.consR 2 (oLoadA 46 (.tmp [true, false, true])) (.consG 3 true [(0, true), (1, true), (2, true)] (oCallF 6 [(.loc 0)]) (.consP (oStrOp .eql (.loc 2) (.loc 0)) (.consR 5 (oLoadA 46 (.tmp [false, true, true])) (.consR 6 (oLoadA 46 (.tmp [true, false, true])) (.consG 7 true [(0, true), (1, true), (2, true), (3, true), (4, false), (5, true), (6, true)] (oCallF 7 [(.loc 1), (.loc 0)]) (.consP (oBoolEq false (.loc 3) (.loc 0)) (.consP (oMove (.loc 0)) (.guardR 10 (.loc 0) true (oLoadA 46 (.tmp [false, true, true])) (.guardG 11 true [(0, true), (1, true), (2, true), (3, true), (4, true), (5, true), (6, true), (7, true), (8, true), (9, true), (10, true)] (.loc 1) true (oCallF 6 [(.loc 0)]) (.guardR 12 (.loc 2) true (oLoadA 46 (.tmp [false, true, true])) (.guardG 13 true [(0, true), (1, true), (2, true), (3, true), (4, true), (5, true), (6, true), (7, true), (8, true), (9, true), (10, true), (11, true), (12, true)] (.loc 3) true (oCallF 8 [(.loc 0)]) (.guardP (.loc 4) true (oStrOp .eql (.loc 2) (.loc 0)) (.consP (oPick (.loc 5) (.loc 0) (.val (.bool false))) (.consP (oMove (.loc 0)) (.guardP (.loc 0) true (oMove (.tmp [true, true, true])) (.consP (oPick (.loc 1) (.loc 0) (.val (.bool false))) (.consP (oMove (.loc 0)) (.flush 0 [false, false] .nil))))))))))))))))))))))
noncomputable def r3_6 : CC := .ret

theorem cf3_eq : cf3 = .mk 67 3 (.seq r3_0 (.seq r3_1 (.seq r3_2 (.seq r3_3 (.seq r3_4 (.seq r3_5 r3_6)))))) [.tmp [false, false]] := rfl
noncomputable def Z46 : List Value := [(.int .i64 (.ofNat 0)), (.int .i64 (.ofNat 0)), (.int .i64 (.ofNat 0)), (.int .i64 (.ofNat 0)), (.int .i64 (.ofNat 0)), (.int .i64 (.ofNat 0)), (.int .i64 (.ofNat 0)), (.int .i64 (.ofNat 0)), (.int .i64 (.ofNat 0)), (.int .i64 (.ofNat 0)), (.int .u8 (.ofNat 0)), (.int .u8 (.ofNat 0)), (.int .u8 (.ofNat 0)), (.int .u8 (.ofNat 0)), (.int .u8 (.ofNat 0)), (.int .u8 (.ofNat 0)), (.int .u8 (.ofNat 0)), (.int .u8 (.ofNat 0)), (.int .u8 (.ofNat 0)), (.int .u8 (.ofNat 0)), (.int .u8 (.ofNat 0)), (.int .u8 (.ofNat 0)), (.int .u8 (.ofNat 0)), (.int .u8 (.ofNat 0)), (.int .u8 (.ofNat 0)), (.int .u8 (.ofNat 0)), (.int .u8 (.ofNat 0)), (.int .u8 (.ofNat 0)), (.int .u8 (.ofNat 0)), (.int .u8 (.ofNat 0)), (.int .u8 (.ofNat 0)), (.int .u8 (.ofNat 0)), (.int .u8 (.ofNat 0)), (.int .u8 (.ofNat 0)), (.int .u8 (.ofNat 0)), (.int .u8 (.ofNat 0)), (.int .u8 (.ofNat 0)), (.int .u8 (.ofNat 0)), (.int .u8 (.ofNat 0)), (.int .u8 (.ofNat 0)), (.int .u8 (.ofNat 0)), (.int .u8 (.ofNat 0)), (.int .i64 (.ofNat 0)), (.slice .none 0 0), (.slice .none 0 0), (.bool false)]
theorem Z46_len : Z46.length = 46 := rfl
theorem Z46_img {i : Nat} (h1 : 10 ≤ i) (h2 : i < 42) : Z46[i]? = some (.int .u8 (.ofNat 0)) := by
  obtain ⟨j, rfl⟩ : ∃ j, i = 10 + j := ⟨i - 10, by omega⟩
  have : ∀ j, j < 32 → Z46[10 + j]? = some (.int .u8 (.ofNat 0)) := fun j hj => by
    have e : Z46[10 + j]? = (List.replicate 32 (Value.int .u8 (.ofNat 0)) ++ [.int .i64 (.ofNat 0), .slice none 0 0, .slice none 0 0, .bool false])[j]? := by
      show (List.replicate 10 (Value.int .i64 (.ofNat 0)) ++ (List.replicate 32 (Value.int .u8 (.ofNat 0)) ++ [.int .i64 (.ofNat 0), .slice none 0 0, .slice none 0 0, .bool false]))[10 + j]? = _
      rw [List.getElem?_append_right (by simp)]; simp
    rw [e, List.getElem?_append_left (by simp; exact hj), List.getElem?_replicate, if_pos hj]
  exact this j (by omega)
/-- the image of a report: one byte is 1 -/
def img0 : List Nat := List.replicate 32 0
def img1 (k : Nat) : List Nat := img0.set k 1
theorem built {st : List Int} {t ver : Nat} {s k : List (ByteArray × ByteArray)} {vo ko : Value} {sane : Bool} (hst : st.length = 9) :
    over (over (over (over Z46 0 (st.map fun x => Value.int .i64 x)) 9 [.int .i64 (.ofNat t)]) 42 [.int .i64 (.ofNat ver), vo, ko]) 45 [.bool sane] = repC ⟨st, .ofNat t, img0, ver, s, k, sane⟩ vo ko := by
  have hl : (over (over (over (over Z46 0 (st.map fun x => Value.int .i64 x)) 9 [.int .i64 (.ofNat t)]) 42 [.int .i64 (.ofNat ver), vo, ko]) 45 [.bool sane]).length = 46 := by
    rw [over_len, over_len, over_len, over_len]; rfl
  have hm : (st.map fun x => Value.int .i64 x).length = 9 := by rw [List.length_map]; exact hst
  refine List.ext_getElem? fun i => ?_
  rw [over_get _ _ _ _ (by rw [over_len, over_len, over_len, Z46_len]; simp), over_get _ _ _ _ (by rw [over_len, over_len, Z46_len]; simp), over_get _ _ _ _ (by rw [over_len, Z46_len]; simp), over_get _ _ _ _ (by rw [hm, Z46_len]; omega), hm]
  unfold repC
  by_cases h1 : i < 9
  · rw [if_neg (by simp; omega), if_neg (by simp; omega), if_neg (by simp; omega), if_pos (by omega), List.append_assoc, List.append_assoc, List.getElem?_append_left (by rw [hm]; exact h1), Nat.sub_zero]
  by_cases h2 : i = 9
  · subst h2
    rw [if_neg (by simp), if_neg (by simp), if_pos (by simp), List.append_assoc, List.append_assoc, List.getElem?_append_right (by rw [hm]; omega), hm]; rfl
  by_cases h3 : i < 42
  · rw [if_neg (by simp; omega), if_neg (by simp; omega), if_neg (by simp; omega), if_neg (by omega), Z46_img (by omega) h3, List.append_assoc, List.append_assoc, List.getElem?_append_right (by rw [hm]; omega), hm]
    rw [List.singleton_append, show i - 9 = (i - 10) + 1 by omega, List.getElem?_cons_succ, List.getElem?_append_left (by simp [img0]; omega)]
    have : (img0.map fun x => Value.int .u8 (.ofNat x)) = List.replicate 32 (.int .u8 (.ofNat 0)) := rfl
    rw [this, List.getElem?_replicate, if_pos (by omega)]
  have hr : ∀ j, i = 42 + j → ((st.map fun x => Value.int .i64 x) ++ [Value.int .i64 (.ofNat t)] ++ (img0.map fun x => Value.int .u8 (.ofNat x)) ++ [.int .i64 (.ofNat ver), vo, ko, .bool sane])[i]? = [Value.int .i64 (.ofNat ver), vo, ko, .bool sane][j]? := fun j hj => by
    subst hj
    rw [List.getElem?_append_right (by simp [img0, hst])]
    congr 1; simp [img0, hst]
  by_cases h4 : i < 45
  · rw [if_neg (by simp; omega), if_pos (by simp; omega), hr (i - 42) (by omega)]
    rcases (by omega : i - 42 = 0 ∨ i - 42 = 1 ∨ i - 42 = 2) with e | e | e <;> rw [e] <;> rfl
  by_cases h5 : i = 45
  · subst h5; rw [if_pos (by simp), hr 3 rfl]; rfl
  · rw [if_neg (by simp; omega), if_neg (by simp; omega), if_neg (by simp; omega), if_neg (by omega), hr (i - 42) (by omega), List.getElem?_eq_none (by rw [Z46_len]; omega), List.getElem?_eq_none (by simp; omega)]
theorem z_fillB {R : Type} (o n : Nat) (b : Bool) (z : List Value) (k : List Value → R) (no : R) : fill1 o n (.bool b) z k no = bif Nat.beq 1 n then bif Nat.ble (o + n) z.length then k (over z o [.bool b]) else no else no := by
  show (bif false then no else bif Nat.beq 1 n then bif Nat.ble (Nat.add o n) (len z) then k (over z o [.bool b]) else no else no) = _
  rw [len_eq]; rfl
theorem build46 {a b c d : OD} {lo : List Value} {tm : T Value} {st : List Int} {t ver : Nat} {s k : List (ByteArray × ByteArray)} {vo ko : Value} {sane : Bool} (hst : st.length = 9)
    (h1 : rdO a lo tm = .agg ⟨st.map fun x => Value.int .i64 x⟩) (h2 : rdO b lo tm = .int .i64 (.ofNat t)) (h3 : rdO c lo tm = .agg ⟨[.int .i64 (.ofNat ver), vo, ko]⟩) (h4 : rdO d lo tm = .bool sane) :
    oBuild Z46 [(0, (9, a)), (9, (1, b)), (42, (3, c)), (45, (1, d))] lo tm = some (.agg ⟨repC ⟨st, .ofNat t, img0, ver, s, k, sane⟩ vo ko⟩) := by
  have hm : (st.map fun x => Value.int .i64 x).length = 9 := by rw [List.length_map]; exact hst
  rw [z_build, z_fillC, h1, z_fillA, hm, z_fillC, h2, z_fillI, z_fillC, h3, z_fillA, z_fillC, h4, z_fillB, z_fill0, built (s := s) (k := k) hst]
  simp only [over_len, Z46_len]
  rfl
theorem allOne_app (a b : List Value) : allOne (a ++ b) = (allOne a && allOne b) := by
  induction a with
  | nil => show allOne b = (true && allOne b); rw [Bool.true_and]
  | cons x a ih =>
    show (bif isAgg' x then false else allOne (a ++ b)) = ((bif isAgg' x then false else allOne a) && allOne b)
    rw [ih]
    cases isAgg' x <;> simp
theorem allOne_repC {r : Rep} {vo ko : Value} (hv : allOne [vo] = true) (hk : allOne [ko] = true) : allOne (repC r vo ko) = true := by
  have e : [Value.int .i64 (.ofNat r.ver), vo, ko, .bool r.sane] = [.int .i64 (.ofNat r.ver)] ++ ([vo] ++ ([ko] ++ [.bool r.sane])) := rfl
  have hi : allOne (r.img.map fun x => Value.int .u8 (.ofNat x)) = true := by
    have := allOne_ints (kd := .u8) (r.img.map Int.ofNat)
    rwa [List.map_map] at this
  unfold repC
  rw [e, allOne_app, allOne_app, allOne_app, allOne_app, allOne_app, allOne_app, allOne_ints, hi, hv, hk]; rfl
theorem SlP.one {h : Hp} {v : Value} {l : List (ByteArray × ByteArray)} (hv : SlP h v l) : allOne [v] = true := by
  rcases hv with ⟨rfl, _⟩ | ⟨b, c, rfl, _⟩ <;> rfl
theorem SlU.keep {h H : Hp} {v : Value} {l : List (Nat × Nat)} {lim : Nat} (hw : Wf h) (hv : SlU h v l) (hk : Keeps lim h H) (hl : h.next ≤ lim) : SlU H v l := by
  rcases hv with hh | ⟨b, o, c, rfl, hu⟩
  · exact .inl hh
  · refine .inr ⟨b, o, c, rfl, fun hne => ?_⟩
    obtain ⟨cc, m, e, cl, ro, hat, h2, h3⟩ := hu hne
    exact ⟨cc, m, e, cl, ro, by rw [hk.at_ b (Nat.lt_of_lt_of_le (hw.lt hat) hl)]; exact hat, h2, h3⟩
def H5 (call : Call) : Prop := ∀ (H : Hp) (ver : Nat) (rv rk : Value) (lv lk : List (Nat × Nat)), Wf H → SlU H rv lv → SlU H rk lk → ver < 65536 → Yields (call 5 [.agg ⟨[.int .u16 (.ofNat ver), rv, rk]⟩] H) (MadeR ver lv lk H)
/-- the arguments -/
structure Arg where
  sa : List Int
  sb : List Int
  va : Nat
  vb : Nat
  rva : Value
  rka : Value
  rvb : Value
  rkb : Value
  lva : List (Nat × Nat)
  lka : List (Nat × Nat)
  lvb : List (Nat × Nat)
  lkb : List (Nat × Nat)
  w0 : Nat
  w1 : Nat
  w2 : Nat
noncomputable def Arg.c0 (A : Arg) : List Value := (A.sa ++ A.sb).map fun x => Value.int .i64 x
noncomputable def Arg.c1 (A : Arg) : List Value := [.int .u16 (.ofNat A.va), A.rva, A.rka, .int .u16 (.ofNat A.vb), A.rvb, A.rkb]
noncomputable def Arg.c2 (A : Arg) : List Value := [.int .u8 (.ofNat A.w0), .int .u8 (.ofNat A.w1), .int .u8 (.ofNat A.w2)]
structure ArgOk (A : Arg) (h : Hp) : Prop where
  sa : A.sa.length = 9
  sb : A.sb.length = 9
  sa64 : ∀ x ∈ A.sa, I64 x
  sb64 : ∀ x ∈ A.sb, I64 x
  va : A.va < 65536
  vb : A.vb < 65536
  rva : SlU h A.rva A.lva
  rka : SlU h A.rka A.lka
  rvb : SlU h A.rvb A.lvb
  rkb : SlU h A.rkb A.lkb
  w0 : A.w0 < 256
  w1 : A.w1 < 256
  w2 : A.w2 < 256
noncomputable def Arg.h3 (A : Arg) (h : Hp) : Hp := ((h.new (rowL A.c0 18 24 true)).new (rowL A.c1 6 29 true)).new (rowL A.c2 3 30 true)
/-- what stands from the boxes on -/
structure S3 (A : Arg) (h : Hp) (tm : T Value) (df : Df) (H : Hp) : Prop where
  df : df = []
  t3 : tm.get [true, true] = some (ptrV h.next 0)
  t4 : tm.get [false, true] = some (ptrV (h.next + 1) 0)
  t5 : tm.get [true, false] = some (ptrV (h.next + 1 + 1) 0)
  t7 : tm.get [true, true, true] = some (.bool true)
  wf : Wf H
  kp : Keeps (h.next + 3) (A.h3 h) H
theorem S3.ats {A : Arg} {h : Hp} {tm : T Value} {df : Df} {H : Hp} (S : S3 A h tm df H) : H.at h.next = some (rowL A.c0 18 24 true) ∧ H.at (h.next + 1) = some (rowL A.c1 6 29 true) ∧ H.at (h.next + 1 + 1) = some (rowL A.c2 3 30 true) := by
  refine ⟨?_, ?_, ?_⟩
  · rw [S.kp.at_ _ (by omega)]; unfold Arg.h3; simp only [z_at_new, z_new_next, z_ne1, z_ne2, if_true, if_false]
  · rw [S.kp.at_ _ (by omega)]; unfold Arg.h3; simp only [z_at_new, z_new_next, z_ne1, z_ne2, if_true, if_false]
  · rw [S.kp.at_ _ (by omega)]; unfold Arg.h3; simp only [z_at_new, z_new_next, if_true, if_false]
/-- the cells of a report, in memory -/
def CellsR (c : T Value) (r : Rep) (vo ko : Value) : Prop := ∀ j, j < 46 → c.get (path j) = (repC r vo ko)[j]?
structure RepAt (H : Hp) (b : Nat) (r : Rep) (vo ko : Value) : Prop where
  cells : ∃ c, H.at b = some (.row c 46 39 true false) ∧ CellsR c r vo ko
  s : SlP H vo r.s
  k : SlP H ko r.k
theorem RepAt.keep {H H' : Hp} {b : Nat} {r : Rep} {vo ko : Value} (hw : Wf H) (h : RepAt H b r vo ko) (hk : Keeps H.next H H') : RepAt H' b r vo ko := by
  obtain ⟨⟨c, h1, h2⟩, h3, h4⟩ := h
  exact ⟨⟨c, by rw [hk.at_ b (hw.lt h1)]; exact h1, h2⟩, h3.keep hw hk (Nat.le_refl _), h4.keep hw hk (Nat.le_refl _)⟩
noncomputable def repA (A : Arg) : Rep := ⟨A.sa, .ofNat A.w0, img0, A.va % 60001, madeVals A.lva, madeKept A.lka, Nat.beq (A.w2 % 2) 1⟩
noncomputable def repB (A : Arg) : Rep := ⟨A.sb, .ofNat A.w1, img0, A.vb % 60001, madeVals A.lvb, madeKept A.lkb, Nat.beq (A.w2 / 2 % 2) 1⟩
theorem repC_len' {r : Rep} (h1 : r.st.length = 9) (h2 : r.img.length = 32) (vo ko : Value) : (repC r vo ko).length = 46 := by unfold repC; simp [h1, h2]
variable {A : Arg} {h : Hp} {tm : T Value} {df : Df} {H : Hp} {call : Call} {cd : CallD}
theorem s3_2 (hw : Wf h) (ok : ArgOk A h) (h5 : H5 call) (S : S3 A h tm df H) :
    After (exC r3_2 call tm df H) (fun e tm' df' H' => e = .normal ∧ S3 A h tm' df' H' ∧ Keeps H.next H H' ∧ ∃ b vo ko, H.next ≤ b ∧ tm'.get [false, true, true] = some (ptrV b 0) ∧ RepAt H' b (repA A) vo ko) := by
  obtain ⟨at0, at1, at2⟩ := S.ats
  obtain ⟨rfl, t3, t4, t5, t7, wf, kp⟩ := S
  have hn : h.next + 3 ≤ H.next := by have := kp.next; unfold Arg.h3 at this; simp only [z_new_next] at this; omega
  have hkh : Keeps h.next h H := by
    refine Keeps.trans ?_ (kp.less (by omega))
    unfold Arg.h3
    exact ((Keeps.new _ (Nat.le_refl _)).trans (Keeps.new _ (by rw [z_new_next]; omega))).trans (Keeps.new _ (by rw [z_new_next, z_new_next]; omega))
  have ld : loadN (storeL A.c0 0 .nil fun t => t) 0 9 [] = some (A.sa.map fun x => Value.int .i64 x) := by
    have hlen : (A.sa.map fun x => Value.int .i64 x).length = 9 := by rw [List.length_map]; exact ok.sa
    have := loadN_eq (c := storeL A.c0 0 .nil fun t => t) (o := 0) 9 (A.sa.map fun x => Value.int .i64 x) [] hlen (fun j hj => by
      have h1 := ok.sa
      have h2 := ok.sb
      rw [Nat.zero_add, z_stget, if_pos ⟨by omega, by unfold Arg.c0; simp; omega⟩, Nat.sub_zero]
      unfold Arg.c0
      rw [List.map_append, List.getElem?_append_left (by rw [hlen]; exact hj)])
    rw [this, List.append_nil]
  have g0 : (storeL A.c1 0 .nil fun t => t).get (path 0) = some (.int .u16 (.ofNat A.va)) := rfl
  have g1 : (storeL A.c1 0 .nil fun t => t).get (path 1) = some A.rva := rfl
  have g2 : (storeL A.c1 0 .nil fun t => t).get (path 2) = some A.rka := rfl
  have k0 : (storeL A.c2 0 .nil fun t => t).get (path 0) = some (.int .u8 (.ofNat A.w0)) := rfl
  have k2 : (storeL A.c2 0 .nil fun t => t).get (path 2) = some (.int .u8 (.ofNat A.w2)) := rfl
  have i1 : Nat.blt 0 2 = true := rfl
  have i2 : Nat.ble 9 18 = true := rfl
  have i3 : Nat.blt 0 3 = true := rfl
  have i4 : Nat.ble 3 6 = true := rfl
  have i5 : Nat.blt 2 3 = true := rfl
  have i6 : Nat.ble 46 46 = true := rfl
  have wr : fwrap .i64 (.ofNat A.w0) = .ofNat A.w0 := z_wrapN (by have := ok.w0; omega)
  have rm : gRem .u8 (.ofNat A.w2) (.ofNat 2) = some (.int .u8 (.ofNat (A.w2 % 2))) := z_remG .u8 A.w2 2 rfl
  obtain ⟨v, H', ec, vo, ko, rfl, hvo, hko, wf', kp'⟩ := (h5 (setBase H H.next []) A.va A.rva A.rka A.lva A.lka (wf.sb []) (by have q := ok.rva.keep hw hkh (Nat.le_refl _); exact q) (by have q := ok.rka.keep hw hkh (Nat.le_refl _); exact q) ok.va).get
  have hlog : H'.log = [] := kp'.log
  have hnn : H.next ≤ H'.next := kp'.next
  have hbase := wf.base
  obtain ⟨G, hG⟩ : ∃ G, setBase H' H.base H.log = G := ⟨_, rfl⟩
  have wfG : Wf G := by rw [← hG]; exact ⟨wf'.dead, by show H.base ≤ H'.next; omega⟩
  have kpG : Keeps H.next H G := by rw [← hG]; exact ⟨rfl, rfl, hnn, fun b hb => kp'.at_ b hb⟩
  have hGn : G.next = H'.next := by rw [← hG]; rfl
  have hZ : [(.int .i64 (.ofNat 0)), (.int .i64 (.ofNat 0)), (.int .i64 (.ofNat 0)), (.int .i64 (.ofNat 0)), (.int .i64 (.ofNat 0)), (.int .i64 (.ofNat 0)), (.int .i64 (.ofNat 0)), (.int .i64 (.ofNat 0)), (.int .i64 (.ofNat 0)), (.int .i64 (.ofNat 0)), (.int .u8 (.ofNat 0)), (.int .u8 (.ofNat 0)), (.int .u8 (.ofNat 0)), (.int .u8 (.ofNat 0)), (.int .u8 (.ofNat 0)), (.int .u8 (.ofNat 0)), (.int .u8 (.ofNat 0)), (.int .u8 (.ofNat 0)), (.int .u8 (.ofNat 0)), (.int .u8 (.ofNat 0)), (.int .u8 (.ofNat 0)), (.int .u8 (.ofNat 0)), (.int .u8 (.ofNat 0)), (.int .u8 (.ofNat 0)), (.int .u8 (.ofNat 0)), (.int .u8 (.ofNat 0)), (.int .u8 (.ofNat 0)), (.int .u8 (.ofNat 0)), (.int .u8 (.ofNat 0)), (.int .u8 (.ofNat 0)), (.int .u8 (.ofNat 0)), (.int .u8 (.ofNat 0)), (.int .u8 (.ofNat 0)), (.int .u8 (.ofNat 0)), (.int .u8 (.ofNat 0)), (.int .u8 (.ofNat 0)), (.int .u8 (.ofNat 0)), (.int .u8 (.ofNat 0)), (.int .u8 (.ofNat 0)), (.int .u8 (.ofNat 0)), (.int .u8 (.ofNat 0)), (.int .u8 (.ofNat 0)), (.int .i64 (.ofNat 0)), (.slice .none 0 0), (.slice .none 0 0), (.bool false)] = Z46 := rfl
  have al := allOne_repC (r := repA A) hvo.one hko.one
  have len := repC_len' (r := repA A) ok.sa rfl vo ko
  have gat2 : G.at (h.next + 1 + 1) = some (rowL A.c2 3 30 true) := by rw [kpG.at_ _ (by omega)]; exact at2
  have bd : ∀ (lo : List Value) (tm : T Value), nth lo 10 = .agg ⟨A.sa.map fun x => Value.int .i64 x⟩ → nth lo 7 = .int .i64 (.ofNat A.w0) → nth lo 4 = .agg ⟨[.int .i64 (.ofNat (A.va % 60001)), vo, ko]⟩ → nth lo 0 = .bool (Nat.beq (A.w2 % 2) 1) →
      fillK [(0, (9, (.loc 10))), (9, (1, (.loc 7))), (42, (3, (.loc 4))), (45, (1, (.loc 0)))] lo tm Z46 (fun l => some (Value.agg ⟨l⟩)) none = some (.agg ⟨repC (repA A) vo ko⟩) := fun lo tm e1 e2 e3 e4 => build46 ok.sa e1 e2 e3 e4
  have beqF : ∀ a b : Nat, a < b → Nat.beq a b = false := fun a b hab => by cases e : Nat.beq a b with | false => rfl | true => have := Nat.eq_of_beq_eq_true e; omega
  have m1 := beqF (h.next + 1 + 1) H'.next (by omega)
  have m2 := beqF (h.next + 1) H'.next (by omega)
  have m3 := beqF h.next H'.next (by omega)
  have o1 : Nat.ble H'.next H'.next = true := z_ble (Nat.le_refl _)
  have o2 : ownOk [(0, true), (1, true), (2, true), (3, true), (4, true), (5, true), (6, true), (7, true), (8, true), (9, true), (10, true), (11, true), (12, true), (13, true)] 13 = true := rfl
  have q4 : logs (H'.next + 1) [] H'.next = [H'.next] := z_logs1 (z_blt (by omega))
  have gb : G.base ≤ H'.next := by rw [← hG]; show H.base ≤ H'.next; omega
  have q5 : below G.base [H'.next] G.log = G.log := z_be1 gb
  obtain ⟨c, hc⟩ : ∃ c, (storeL (repC (repA A) vo ko) 0 (storeL Z46 0 .nil fun t => t) fun t => t) = c := ⟨_, rfl⟩
  obtain ⟨F, hF⟩ : ∃ F, (G.new (rowL Z46 46 39 true)).put H'.next (some (.row c 46 39 true false)) = F := ⟨_, rfl⟩
  have q6 : setBase F G.base G.log = F := by rw [← hF]; exact sb_put (h := G.new (rowL Z46 46 39 true)) gb
  have wfF : Wf F := by rw [← hF]; exact (wfG.new _).put1 (by rw [z_new_next, hGn]; omega) _
  have kpF : Keeps G.next G F := by rw [← hF]; exact (Keeps.new _ (Nat.le_refl _)).trans (Keeps.put _ (by omega) gb)
  have hFn : F.next = H'.next + 1 := by rw [← hF, z_put_next, z_new_next, hGn]
  have hFat : F.at H'.next = some (.row c 46 39 true false) := by rw [← hF, z_at_put, if_pos rfl]
  simp only [↓evD, evD, evU, evF, reduceCtorEq, z_build, Nat.reduceAdd, Nat.reduceMul, z_ld3, hZ, ↓bd, t3, t4, t5, at0, at1, at2, ld, g0, g1, g2, k0, k2, i1, i2, i3, i4, i5, i6, wr, rm, ec, hlog, hG, hGn, gat2, len, al, r3_2, m1, m2, m3, o1, o2, q4, q5, hc, hF, q6]
  refine ⟨⟨rfl, by simp [T.get_set, t3], by simp [T.get_set, t4], by simp [T.get_set, t5], by simp [T.get_set, t7], wfF, kp.trans ((kpG.trans (kpF.less (by omega))).less hn)⟩, kpG.trans (kpF.less (by omega)), H'.next, vo, ko, hnn, by simp [T.get_set], ⟨⟨c, hFat, fun j hj => ?_⟩, ?_, ?_⟩⟩
  · rw [← hc, z_stget, if_pos ⟨by omega, by rw [len]; omega⟩, Nat.sub_zero]
  · exact SlP.keep (h := G) wfG (by rw [← hG]; exact hvo) kpF (Nat.le_refl _)
  · exact SlP.keep (h := G) wfG (by rw [← hG]; exact hko) kpF (Nat.le_refl _)
theorem s3_3 (hw : Wf h) (ok : ArgOk A h) (h5 : H5 call) (S : S3 A h tm df H) :
    After (exC r3_3 call tm df H) (fun e tm' df' H' => e = .normal ∧ S3 A h tm' df' H' ∧ Keeps H.next H H' ∧ ∃ b vo ko, H.next ≤ b ∧ tm'.get [true, false, true] = some (ptrV b 0) ∧ tm'.get [false, true, true] = tm.get [false, true, true] ∧ RepAt H' b (repB A) vo ko) := by
  obtain ⟨at0, at1, at2⟩ := S.ats
  obtain ⟨rfl, t3, t4, t5, t7, wf, kp⟩ := S
  have hn : h.next + 3 ≤ H.next := by have := kp.next; unfold Arg.h3 at this; simp only [z_new_next] at this; omega
  have hkh : Keeps h.next h H := by
    refine Keeps.trans ?_ (kp.less (by omega))
    unfold Arg.h3
    exact ((Keeps.new _ (Nat.le_refl _)).trans (Keeps.new _ (by rw [z_new_next]; omega))).trans (Keeps.new _ (by rw [z_new_next, z_new_next]; omega))
  have ld : loadN (storeL A.c0 0 .nil fun t => t) 9 9 [] = some (A.sb.map fun x => Value.int .i64 x) := by
    have hlen : (A.sb.map fun x => Value.int .i64 x).length = 9 := by rw [List.length_map]; exact ok.sb
    have := loadN_eq (c := storeL A.c0 0 .nil fun t => t) (o := 9) 9 (A.sb.map fun x => Value.int .i64 x) [] hlen (fun j hj => by
      have h1 := ok.sa
      have h2 := ok.sb
      rw [z_stget, if_pos ⟨by omega, by unfold Arg.c0; simp; omega⟩, Nat.sub_zero]
      unfold Arg.c0
      rw [List.map_append, List.getElem?_append_right (by simp; omega), List.length_map, h1, Nat.add_sub_cancel_left])
    rw [this, List.append_nil]
  have g0 : (storeL A.c1 0 .nil fun t => t).get (path 3) = some (.int .u16 (.ofNat A.vb)) := rfl
  have g1 : (storeL A.c1 0 .nil fun t => t).get (path 4) = some A.rvb := rfl
  have g2 : (storeL A.c1 0 .nil fun t => t).get (path 5) = some A.rkb := rfl
  have k0 : (storeL A.c2 0 .nil fun t => t).get (path 1) = some (.int .u8 (.ofNat A.w1)) := rfl
  have k2 : (storeL A.c2 0 .nil fun t => t).get (path 2) = some (.int .u8 (.ofNat A.w2)) := rfl
  have i1 : Nat.blt 1 2 = true := rfl
  have i2 : Nat.ble 18 18 = true := rfl
  have i3 : Nat.blt 1 3 = true := rfl
  have i4 : Nat.ble 6 6 = true := rfl
  have i5 : Nat.blt 2 3 = true := rfl
  have i6 : Nat.ble 46 46 = true := rfl
  have wr : fwrap .i64 (.ofNat A.w1) = .ofNat A.w1 := z_wrapN (by have := ok.w1; omega)
  have rm : gRem .u8 (.ofNat (A.w2 / 2)) (.ofNat 2) = some (.int .u8 (.ofNat (A.w2 / 2 % 2))) := z_remG .u8 (A.w2 / 2) 2 rfl
  have rq : gQuo .u8 (.ofNat A.w2) (.ofNat 2) = some (.int .u8 (.ofNat (A.w2 / 2))) := by
    have : gQuo .u8 (.ofNat A.w2) (.ofNat 2) = some (.int .u8 (fwrap .u8 (.ofNat (A.w2 / 2)))) := kInt_eq _ _
    rw [this, wrap8 (by have := ok.w2; omega)]
  obtain ⟨v, H', ec, vo, ko, rfl, hvo, hko, wf', kp'⟩ := (h5 (setBase H H.next []) A.vb A.rvb A.rkb A.lvb A.lkb (wf.sb []) (by have q := ok.rvb.keep hw hkh (Nat.le_refl _); exact q) (by have q := ok.rkb.keep hw hkh (Nat.le_refl _); exact q) ok.vb).get
  have hlog : H'.log = [] := kp'.log
  have hnn : H.next ≤ H'.next := kp'.next
  have hbase := wf.base
  obtain ⟨G, hG⟩ : ∃ G, setBase H' H.base H.log = G := ⟨_, rfl⟩
  have wfG : Wf G := by rw [← hG]; exact ⟨wf'.dead, by show H.base ≤ H'.next; omega⟩
  have kpG : Keeps H.next H G := by rw [← hG]; exact ⟨rfl, rfl, hnn, fun b hb => kp'.at_ b hb⟩
  have hGn : G.next = H'.next := by rw [← hG]; rfl
  have hZ : [(.int .i64 (.ofNat 0)), (.int .i64 (.ofNat 0)), (.int .i64 (.ofNat 0)), (.int .i64 (.ofNat 0)), (.int .i64 (.ofNat 0)), (.int .i64 (.ofNat 0)), (.int .i64 (.ofNat 0)), (.int .i64 (.ofNat 0)), (.int .i64 (.ofNat 0)), (.int .i64 (.ofNat 0)), (.int .u8 (.ofNat 0)), (.int .u8 (.ofNat 0)), (.int .u8 (.ofNat 0)), (.int .u8 (.ofNat 0)), (.int .u8 (.ofNat 0)), (.int .u8 (.ofNat 0)), (.int .u8 (.ofNat 0)), (.int .u8 (.ofNat 0)), (.int .u8 (.ofNat 0)), (.int .u8 (.ofNat 0)), (.int .u8 (.ofNat 0)), (.int .u8 (.ofNat 0)), (.int .u8 (.ofNat 0)), (.int .u8 (.ofNat 0)), (.int .u8 (.ofNat 0)), (.int .u8 (.ofNat 0)), (.int .u8 (.ofNat 0)), (.int .u8 (.ofNat 0)), (.int .u8 (.ofNat 0)), (.int .u8 (.ofNat 0)), (.int .u8 (.ofNat 0)), (.int .u8 (.ofNat 0)), (.int .u8 (.ofNat 0)), (.int .u8 (.ofNat 0)), (.int .u8 (.ofNat 0)), (.int .u8 (.ofNat 0)), (.int .u8 (.ofNat 0)), (.int .u8 (.ofNat 0)), (.int .u8 (.ofNat 0)), (.int .u8 (.ofNat 0)), (.int .u8 (.ofNat 0)), (.int .u8 (.ofNat 0)), (.int .i64 (.ofNat 0)), (.slice .none 0 0), (.slice .none 0 0), (.bool false)] = Z46 := rfl
  have al := allOne_repC (r := repB A) hvo.one hko.one
  have len := repC_len' (r := repB A) ok.sb rfl vo ko
  have gat2 : G.at (h.next + 1 + 1) = some (rowL A.c2 3 30 true) := by rw [kpG.at_ _ (by omega)]; exact at2
  have bd : ∀ (lo : List Value) (tm : T Value), nth lo 11 = .agg ⟨A.sb.map fun x => Value.int .i64 x⟩ → nth lo 8 = .int .i64 (.ofNat A.w1) → nth lo 5 = .agg ⟨[.int .i64 (.ofNat (A.vb % 60001)), vo, ko]⟩ → nth lo 0 = .bool (Nat.beq (A.w2 / 2 % 2) 1) →
      fillK [(0, (9, (.loc 11))), (9, (1, (.loc 8))), (42, (3, (.loc 5))), (45, (1, (.loc 0)))] lo tm Z46 (fun l => some (Value.agg ⟨l⟩)) none = some (.agg ⟨repC (repB A) vo ko⟩) := fun lo tm e1 e2 e3 e4 => build46 ok.sb e1 e2 e3 e4
  have beqF : ∀ a b : Nat, a < b → Nat.beq a b = false := fun a b hab => by cases e : Nat.beq a b with | false => rfl | true => have := Nat.eq_of_beq_eq_true e; omega
  have m1 := beqF (h.next + 1 + 1) H'.next (by omega)
  have m2 := beqF (h.next + 1) H'.next (by omega)
  have m3 := beqF h.next H'.next (by omega)
  have o1 : Nat.ble H'.next H'.next = true := z_ble (Nat.le_refl _)
  have o2 : ownOk [(0, true), (1, true), (2, true), (3, true), (4, true), (5, true), (6, true), (7, true), (8, true), (9, true), (10, true), (11, true), (12, true), (13, true), (14, true)] 14 = true := rfl
  have q4 : logs (H'.next + 1) [] H'.next = [H'.next] := z_logs1 (z_blt (by omega))
  have gb : G.base ≤ H'.next := by rw [← hG]; show H.base ≤ H'.next; omega
  have q5 : below G.base [H'.next] G.log = G.log := z_be1 gb
  obtain ⟨c, hc⟩ : ∃ c, (storeL (repC (repB A) vo ko) 0 (storeL Z46 0 .nil fun t => t) fun t => t) = c := ⟨_, rfl⟩
  obtain ⟨F, hF⟩ : ∃ F, (G.new (rowL Z46 46 39 true)).put H'.next (some (.row c 46 39 true false)) = F := ⟨_, rfl⟩
  have q6 : setBase F G.base G.log = F := by rw [← hF]; exact sb_put (h := G.new (rowL Z46 46 39 true)) gb
  have wfF : Wf F := by rw [← hF]; exact (wfG.new _).put1 (by rw [z_new_next, hGn]; omega) _
  have kpF : Keeps G.next G F := by rw [← hF]; exact (Keeps.new _ (Nat.le_refl _)).trans (Keeps.put _ (by omega) gb)
  have hFn : F.next = H'.next + 1 := by rw [← hF, z_put_next, z_new_next, hGn]
  have hFat : F.at H'.next = some (.row c 46 39 true false) := by rw [← hF, z_at_put, if_pos rfl]
  simp only [↓evD, evD, evU, evF, reduceCtorEq, z_build, Nat.reduceAdd, Nat.reduceMul, z_ld3, hZ, ↓bd, t3, t4, t5, at0, at1, at2, ld, g0, g1, g2, k0, k2, i1, i2, i3, i4, i5, i6, wr, rm, rq, ec, hlog, hG, hGn, gat2, len, al, r3_3, m1, m2, m3, o1, o2, q4, q5, hc, hF, q6]
  refine ⟨⟨rfl, by simp [T.get_set, t3], by simp [T.get_set, t4], by simp [T.get_set, t5], by simp [T.get_set, t7], wfF, kp.trans ((kpG.trans (kpF.less (by omega))).less hn)⟩, kpG.trans (kpF.less (by omega)), H'.next, vo, ko, hnn, by simp [T.get_set], ⟨⟨c, hFat, fun j hj => ?_⟩, ?_, ?_⟩⟩
  · rw [← hc, z_stget, if_pos ⟨by omega, by rw [len]; omega⟩, Nat.sub_zero]
  · exact SlP.keep (h := G) wfG (by rw [← hG]; exact hvo) kpF (Nat.le_refl _)
  · exact SlP.keep (h := G) wfG (by rw [← hG]; exact hko) kpF (Nat.le_refl _)
end Abs
end Go
