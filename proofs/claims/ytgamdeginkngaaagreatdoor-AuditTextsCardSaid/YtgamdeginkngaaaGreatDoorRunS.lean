/-
Symbolic runs: settings.Print of the program.
Conditions: none.
-/
import Derived.Test.YtgamdeginkngaaaGreatDoorRunR
set_option linter.unusedVariables false
set_option linter.unusedSimpArgs false
namespace Go
namespace Abs
noncomputable def r20_0 : CC := (.region (.consG (9311504828767, []) (oBox 34 (.tmp [])) (.consP (oMove (.val (.string (mkS [])))) (.flush 0 [false] (.flush 1 [true] .nil)))))
noncomputable def r20_1 : CC := (.seq (.region (.consR (oLoadA 3 (.tmp [true])) (.consG (9311504828767, [(.some 9)]) (oCallF 42 [(.loc 0)]) (.consP (oNot (.loc 0)) (.flush 0 [true, true, false] .nil))))) (.cond (.tmp [true, true, false]) (.seq (.region (.consP (oMove (.val (.string (mkS [])))) (.flush 0 [false] .nil))) .ret) .skip))
noncomputable def r20_2 : CC := (.region (.consG (9311504828767, []) (oAlloc 102 [(.pointer .none), (.slice .none 0 0)] 2) (.flush 0 [true, true] .nil)))
noncomputable def r20_3 : CC := (.region (.consP (oMkF 43 [] [(.tmp [true, true])]) (.consP (oMove (.loc 0)) (.flush 0 [false, true] .nil))))
noncomputable def r20_4 : CC := (.region (.consP (oMove (.tmp [false, true])) (.consP (oFldA 0 (.tmp [true])) (.consR (oLoad1 (.loc 0)) (.consG (9311504828767, [(.some 15), (.some 14), (.some 13)]) (oCallF 40 [(.loc 0)]) (.consG (9311504828767, [(.some 16), (.some 15), (.some 14), (.some 13)]) (oBuildS 9 2 [(.string (mkS [])), (.string (mkS []))] [(0, (1, (.val (.string (mkS [115, 101, 116, 116, 105, 110, 103, 115]))))), (1, (1, (.loc 0)))]) (.consG (9311504828767, [(.some 17), (.some 16), (.some 15), (.some 14), (.some 13)]) (oCallV (.loc 4) [(.loc 0)]) .nil)))))))
noncomputable def r20_5 : CC := (.seq (.region (.consP (oFldA 1 (.tmp [true])) (.consR (oLoad1 (.loc 0)) (.consP (oLenL (.loc 0)) (.consP (oMove (.val (.int .i64 (.ofNat 0)))) (.flush 0 [false, false, false, true] (.flush 1 [true, false, false, true] (.flush 2 [false, true, false, true] .nil)))))))) (.block 0 (.loop cf20_l1)))
noncomputable def r20_6 : CC := (.seq (.region (.consP (oFldA 2 (.tmp [true])) (.consR (oLoad1 (.loc 0)) (.consP (oLenL (.loc 0)) (.consP (oMove (.val (.int .i64 (.ofNat 0)))) (.flush 0 [true, false, false, true, true] (.flush 1 [false, true, false, true, true] (.flush 2 [true, true, false, true, true] .nil)))))))) (.block 2 (.loop cf20_l0)))
noncomputable def r20_7 : CC := (.region (.consG (9311504828767, []) (oCallF 45 [(.tmp [true, true])]) (.consP (oMove (.loc 0)) (.flush 0 [false] .nil))))
noncomputable def r20_8 : CC := .ret

theorem cf20_eq : cf20 = .mk 56 1 (.seq r20_0 (.seq r20_1 (.seq r20_2 (.seq r20_3 (.seq r20_4 (.seq r20_5 (.seq r20_6 (.seq r20_7 r20_8)))))))) [.tmp [false]] := rfl
theorem z_mkF (g : FuncId) (first cap : List OD) (lo : List Value) (tm : T Value) : oMkF g first cap lo tm = some (.func (.func g) ⟨rdL first lo tm⟩ ⟨rdL cap lo tm⟩) := rfl
theorem mkS_bl' (s : ByteArray) : mkS (bl s) = s := rfl
theorem Bld.keep {lim bB : Nat} {H H' : Hp} {p : Value} {acc : List UInt8} (hw : Wf H) (hb : Bld lim H bB p acc) (hk : ∀ b, b < H.next → H'.at b = H.at b) : Bld lim H' bB p acc := by
  obtain ⟨c, v, hat, g0, g1, hv⟩ := hb
  refine ⟨c, v, by rw [hk bB (hw.lt hat)]; exact hat, g0, g1, ?_⟩
  rcases hv with hh | ⟨h0, y, h1, h2, h3, h4⟩
  · exact .inl hh
  · exact .inr ⟨h0, y, h1, h2, h3, by rw [hk y (hw.lt h4)]; exact h4⟩
noncomputable def f43 (bB : Nat) : Value := .func (.func 43) ⟨[]⟩ ⟨[ptrV bB 0]⟩
/-- what stands while settings are printed; 'h1' has the box at 'b', 'bB' is what comes next there -/
structure PX (h1 : Hp) (b bB : Nat) (acc : List UInt8) (tm : T Value) (df : Df) (H : Hp) : Prop where
  df : df = []
  t1 : tm.get [true] = some (ptrV b 0)
  t3 : tm.get [true, true] = some (ptrV bB 0)
  t4 : tm.get [false, true] = some (f43 bB)
  wf : Wf H
  kp : Keeps bB h1 H
  bld : ∃ p, (p = .pointer none ∨ p = ptrV bB 0) ∧ Bld bB H bB p acc
variable {call : Call} {cd : CallD} {h1 : Hp} {b bB : Nat} {acc : List UInt8} {tm : T Value} {df : Df} {H : Hp}
theorem str3 {a c : List UInt8} {s1 s2 : ByteArray} {H : Hp} {y : Nat} (hat : H.at y = some (rowL [.string (mkS a), .string s1, .string s2] 3 9 true)) : Strs H y [a, bl s1, bl s2] :=
  Strs.of (n := 3) (by simp) hat
/-- one line -/
theorem line43 {ws : List (List UInt8)} {y c : Nat} (h43 : H43 call) (hbase : h1.base ≤ bB) (p : ∃ p, (p = .pointer none ∨ p = ptrV bB 0) ∧ Bld bB H bB p acc) (wf : Wf H) (kp : Keeps bB h1 H) {H2 : Hp} (wf2 : Wf H2) (hk : Keeps H.next H H2) (hs : Strs H2 y ws) (h0 : 0 < ws.length) (h8 : ws.length ≤ 8) (hlen : ∀ x ∈ ws, x.length ≤ 100) (hn : acc.length ≤ 5000) :
    ∃ v H3, call 43 [slV y 0 ws.length c, ptrV bB 0] H2 = .val v H3 ∧ Wf H3 ∧ Keeps bB h1 H3 ∧ ∃ p, (p = .pointer none ∨ p = ptrV bB 0) ∧ Bld bB H3 bB p (acc ++ (joinS ws ++ [10])) := by
  obtain ⟨q, hq, hb⟩ := p
  have hbn : bB < H.next := by obtain ⟨c, v, hat, _⟩ := hb; exact wf.lt hat
  obtain ⟨v, H3, e, hb3, wf3, kp3⟩ := (h43 H2 bB bB y c q acc ws (hb.keep wf hk.at_) hq wf2 (Nat.le_refl _) (by rw [hk.base, kp.base]; exact hbase) hs h0 h8 hlen hn).get
  exact ⟨v, H3, e, wf3, kp.trans ((hk.less (Nat.le_of_lt hbn)).trans kp3), _, .inr rfl, hb3⟩
/-- in the loops -/
structure PXL (h1 : Hp) (b bB : Nat) (A : List UInt8) (f : ByteArray × ByteArray → List UInt8) (s : List (ByteArray × ByteArray)) (p1 p2 p3 : List Bool) (v : Value) (i : Nat) (tm : T Value) (df : Df) (H : Hp) : Prop where
  px : PX h1 b bB (A ++ (s.take i).flatMap f) tm df H
  a1 : tm.get p1 = some v
  a2 : tm.get p2 = some (.int .i64 (.ofNat s.length))
  a3 : tm.get p3 = some (.int .i64 (.ofNat i))
def PXE (h1 : Hp) (b bB : Nat) (acc : List UInt8) (x e : Ex) (tm : T Value) (df : Df) (H : Hp) : Prop := e = x ∧ PX h1 b bB acc tm df H
theorem p20_loop1 {vo : Value} {A : List UInt8} {s : List (ByteArray × ByteArray)} (h43 : H43 call) (hw1 : Wf h1) (hbB : h1.next = bB) (hv : SlP h1 vo s) (hs : ∀ x ∈ s, Tab x) (hn : s.length ≤ 8) (hA : A.length ≤ 1000)
    (h0 : PXL h1 b bB A valLine s [false, true, false, true] [true, false, false, true] [false, false, false, true] vo 0 tm df H) : After (exC (.loop cf20_l1) call tm df H) (PXE h1 b bB (A ++ s.flatMap valLine) (.exit 0)) := by
  refine loop_for (n := s.length) (by omega) (PXL h1 b bB A valLine s [false, true, false, true] [true, false, false, true] [false, false, false, true] vo) ?_ ?_ h0
  · intro i tm df H hi p
    obtain ⟨⟨rfl, t1, t3, t4, wf, kp, bld⟩, a1, a2, a3⟩ := p
    obtain ⟨x, hx, hd⟩ := drop_at hi
    have ht := hs x (List.mem_of_getElem? hx)
    obtain ⟨bb, c, rfl, cc, m, e, cl, ro, hat0, hm, hc⟩ := hv.pos hi
    obtain ⟨hc0, hc1⟩ := hc i x hx
    have hbb := hw1.lt hat0
    have hat : H.at bb = some (.row cc m e cl ro) := by rw [kp.at_ bb (by omega)]; exact hat0
    have e1 := z_blt hi
    have e2 : Nat.ble (0 + i * 2 + 2) m = true := z_ble (by omega)
    have e3 : fwrap .i64 (.ofNat (i + 1)) = .ofNat (i + 1) := z_wrapN (by omega)
    have e4 : cc.get (path (0 + i * 2 + 0)) = some (.string x.1) := by rw [← hc0]; congr 2; omega
    have e5 : cc.get (path (0 + i * 2 + 1)) = some (.string x.2) := by rw [← hc1]; congr 2; omega
    obtain ⟨c2, hc2⟩ : ∃ c2, (storeL [Value.string x.1, .string x.2] 0 (storeL [Value.string (mkS []), .string (mkS [])] 0 .nil fun t => t) fun t => t) = c2 := ⟨_, rfl⟩
    have g0 : c2.get (path 0) = some (.string x.1) := by rw [← hc2]; exact (get2 _ _ _).1
    have g1 : c2.get (path 1) = some (.string x.2) := by rw [← hc2]; exact (get2 _ _ _).2
    have b02 : Nat.blt 0 2 = true := rfl
    have b12 : Nat.blt 1 2 = true := rfl
    obtain ⟨H', hH'⟩ : ∃ H', (H.new (rowL [.string (mkS []), .string (mkS [])] 2 62 true)).put H.next (some (.row c2 2 62 true false)) = H' := ⟨_, rfl⟩
    have hwf' : Wf H' := by rw [← hH']; exact (wf.new _).put1 (by rw [z_new_next]; omega) _
    have hnext : H'.next = H.next + 1 := by rw [← hH']; rfl
    have hat' : H'.at H.next = some (.row c2 2 62 true false) := by rw [← hH', z_at_put, if_pos rfl]
    have hk' : Keeps H.next H H' := by rw [← hH']; exact (Keeps.new _ (Nat.le_refl _)).trans (Keeps.put _ (Nat.le_refl _) wf.base)
    have hk2 : Keeps H.next H (H'.new (rowL [.string (mkS [118, 97, 108]), .string x.1, .string x.2] 3 9 true)) := hk'.trans (Keeps.new _ (by omega))
    obtain ⟨v, H3, ec, wf3, kp3, bld3⟩ := line43 (ws := [[118, 97, 108], bl x.1, bl x.2]) (y := H.next + 1) (c := 3) h43 (by have := hw1.base; omega) bld wf kp (hwf'.new (rowL [.string (mkS [118, 97, 108]), .string x.1, .string x.2] 3 9 true)) hk2 (str3 (c := []) (by rw [z_at_new, hnext, if_pos rfl])) (by simp) (by simp)
      (by intro w hw; simp only [List.mem_cons, List.not_mem_nil, or_false] at hw; have h1 := ht.len1; have h2 := ht.len2; rcases hw with rfl | rfl | rfl <;> first | decide | omega)
      (by have := vlen hs i; rw [List.length_append]; omega)
    change call 43 [slV (H.next + 1) 0 3 3, ptrV bB 0] (H'.new (rowL [.string (mkS [118, 97, 108]), .string x.1, .string x.2] 3 9 true)) = .val v H3 at ec
    simp only [↓evD, evD, evU, evF, reduceCtorEq, evB, Nat.reduceAdd, Nat.reduceLT, Nat.reduceMul, Nat.reduceSub, z_callV, z_vFn, f43, List.nil_append, List.cons_append, cf20_l1, t1, t3, t4, a1, a2, a3, hat, e1, e2, e3, e4, e5, hc2, hH', hnext, hat', g0, g1, b02, b12, ec]
    refine .go ⟨⟨rfl, by simp [T.get_set, t1], by simp [T.get_set, t3], by simp [T.get_set, t4, f43], wf3, kp3, ?_⟩, by simp [T.get_set, a1], by simp [T.get_set, a2], by simp [T.get_set]⟩
    rw [flat_step hx]
    have e : valLine x = joinS [[118, 97, 108], bl x.1, bl x.2] ++ [10] := by unfold valLine; simp [joinS]
    rw [e]; exact bld3
  · intro tm df H p
    obtain ⟨⟨rfl, t1, t3, t4, wf, kp, bld⟩, a1, a2, a3⟩ := p
    rw [List.take_length] at bld
    have e1 := z_bltF (Nat.le_refl s.length)
    simp only [↓evD, evD, evU, evF, reduceCtorEq, evB, Nat.reduceAdd, Nat.reduceLT, Nat.reduceMul, Nat.reduceSub, cf20_l1, a2, a3, e1]
    exact .ex ⟨rfl, rfl, by simp [T.get_set, t1], by simp [T.get_set, t3], by simp [T.get_set, t4], wf, kp, bld⟩
theorem p20_loop2 {ko : Value} {A : List UInt8} {s : List (ByteArray × ByteArray)} (h43 : H43 call) (hw1 : Wf h1) (hbB : h1.next = bB) (hv : SlP h1 ko s) (hs : ∀ x ∈ s, x = (mkS [], mkS []) ∨ Tab x) (hn : s.length ≤ 4) (hA : A.length ≤ 1500)
    (h0 : PXL h1 b bB A keptLine s [true, true, false, true, true] [false, true, false, true, true] [true, false, false, true, true] ko 0 tm df H) : After (exC (.loop cf20_l0) call tm df H) (PXE h1 b bB (A ++ s.flatMap keptLine) (.exit 2)) := by
  refine loop_for (n := s.length) (by omega) (PXL h1 b bB A keptLine s [true, true, false, true, true] [false, true, false, true, true] [true, false, false, true, true] ko) ?_ ?_ h0
  · intro i tm df H hi p
    obtain ⟨⟨rfl, t1, t3, t4, wf, kp, bld⟩, a1, a2, a3⟩ := p
    obtain ⟨x, hx, hd⟩ := drop_at hi
    obtain ⟨bb, c, rfl, cc, m, e, cl, ro, hat0, hm, hc⟩ := hv.pos hi
    obtain ⟨hc0, hc1⟩ := hc i x hx
    have hbb := hw1.lt hat0
    have hat : H.at bb = some (.row cc m e cl ro) := by rw [kp.at_ bb (by omega)]; exact hat0
    have e1 := z_blt hi
    have e2 : Nat.ble (0 + i * 2 + 2) m = true := z_ble (by omega)
    have e3 : fwrap .i64 (.ofNat (i + 1)) = .ofNat (i + 1) := z_wrapN (by omega)
    have e4 : cc.get (path (0 + i * 2 + 0)) = some (.string x.1) := by rw [← hc0]; congr 2; omega
    have e5 : cc.get (path (0 + i * 2 + 1)) = some (.string x.2) := by rw [← hc1]; congr 2; omega
    obtain ⟨c2, hc2⟩ : ∃ c2, (storeL [Value.string x.1, .string x.2] 0 (storeL [Value.string (mkS []), .string (mkS [])] 0 .nil fun t => t) fun t => t) = c2 := ⟨_, rfl⟩
    have g0 : c2.get (path 0) = some (.string x.1) := by rw [← hc2]; exact (get2 _ _ _).1
    have g1 : c2.get (path 1) = some (.string x.2) := by rw [← hc2]; exact (get2 _ _ _).2
    have b02 : Nat.blt 0 2 = true := rfl
    have b12 : Nat.blt 1 2 = true := rfl
    obtain ⟨H', hH'⟩ : ∃ H', (H.new (rowL [.string (mkS []), .string (mkS [])] 2 62 true)).put H.next (some (.row c2 2 62 true false)) = H' := ⟨_, rfl⟩
    have hwf' : Wf H' := by rw [← hH']; exact (wf.new _).put1 (by rw [z_new_next]; omega) _
    have hnext : H'.next = H.next + 1 := by rw [← hH']; rfl
    have hat' : H'.at H.next = some (.row c2 2 62 true false) := by rw [← hH', z_at_put, if_pos rfl]
    have hk' : Keeps H.next H H' := by rw [← hH']; exact (Keeps.new _ (Nat.le_refl _)).trans (Keeps.put _ (Nat.le_refl _) wf.base)
    rcases hs x (List.mem_of_getElem? hx) with rfl | ht
    · have hk2 : Keeps H.next H (H'.new (rowL [.string (mkS [107, 101, 112, 116]), .string (mkS [45])] 2 9 true)) := hk'.trans (Keeps.new _ (by omega))
      obtain ⟨v, H3, ec, wf3, kp3, bld3⟩ := line43 (ws := [[107, 101, 112, 116], [45]]) (y := H.next + 1) (c := 2) h43 (by have := hw1.base; omega) bld wf kp (hwf'.new (rowL [.string (mkS [107, 101, 112, 116]), .string (mkS [45])] 2 9 true)) hk2 (Strs.of (n := 2) (by simp) (by rw [z_at_new, hnext, if_pos rfl]; rfl)) (by simp) (by simp)
        (by intro w hw; simp only [List.mem_cons, List.not_mem_nil, or_false] at hw; rcases hw with rfl | rfl <;> decide)
        (by have := klen hs i; rw [List.length_append]; omega)
      change call 43 [slV (H.next + 1) 0 2 2, ptrV bB 0] (H'.new (rowL [.string (mkS [107, 101, 112, 116]), .string (mkS [45])] 2 9 true)) = .val v H3 at ec
      have e6 : lEq [] [] = true := rfl
      simp only [↓evD, evD, evU, evF, reduceCtorEq, evB, Nat.reduceAdd, Nat.reduceLT, Nat.reduceMul, Nat.reduceSub, z_callV, z_vFn, f43, List.nil_append, List.cons_append, cf20_l0, t1, t3, t4, a1, a2, a3, hat, e1, e2, e3, e4, e5, hc2, hH', hnext, hat', g0, g1, b02, b12, e6, ec]
      refine .go ⟨⟨rfl, by simp [T.get_set, t1], by simp [T.get_set, t3], by simp [T.get_set, t4, f43], wf3, kp3, ?_⟩, by simp [T.get_set, a1], by simp [T.get_set, a2], by simp [T.get_set]⟩
      rw [flat_step hx]
      have e : keptLine (mkS [], mkS []) = joinS [[107, 101, 112, 116], [45]] ++ [10] := rfl
      rw [e]; exact bld3
    · have hk2 : Keeps H.next H (H'.new (rowL [.string (mkS [107, 101, 112, 116]), .string x.1, .string x.2] 3 9 true)) := hk'.trans (Keeps.new _ (by omega))
      obtain ⟨v, H3, ec, wf3, kp3, bld3⟩ := line43 (ws := [[107, 101, 112, 116], bl x.1, bl x.2]) (y := H.next + 1) (c := 3) h43 (by have := hw1.base; omega) bld wf kp (hwf'.new (rowL [.string (mkS [107, 101, 112, 116]), .string x.1, .string x.2] 3 9 true)) hk2 (str3 (c := []) (by rw [z_at_new, hnext, if_pos rfl])) (by simp) (by simp)
        (by intro w hw; simp only [List.mem_cons, List.not_mem_nil, or_false] at hw; have h1 := ht.len1; have h2 := ht.len2; rcases hw with rfl | rfl | rfl <;> first | decide | omega)
        (by have := klen hs i; rw [List.length_append]; omega)
      change call 43 [slV (H.next + 1) 0 3 3, ptrV bB 0] (H'.new (rowL [.string (mkS [107, 101, 112, 116]), .string x.1, .string x.2] 3 9 true)) = .val v H3 at ec
      have e6 := ht.ne
      simp only [↓evD, evD, evU, evF, reduceCtorEq, evB, Nat.reduceAdd, Nat.reduceLT, Nat.reduceMul, Nat.reduceSub, z_callV, z_vFn, f43, List.nil_append, List.cons_append, cf20_l0, t1, t3, t4, a1, a2, a3, hat, e1, e2, e3, e4, e5, hc2, hH', hnext, hat', g0, g1, b02, b12, e6, ec]
      refine .go ⟨⟨rfl, by simp [T.get_set, t1], by simp [T.get_set, t3], by simp [T.get_set, t4, f43], wf3, kp3, ?_⟩, by simp [T.get_set, a1], by simp [T.get_set, a2], by simp [T.get_set]⟩
      rw [flat_step hx]
      have e : keptLine x = joinS [[107, 101, 112, 116], bl x.1, bl x.2] ++ [10] := by unfold keptLine; rw [e6]; simp [joinS]
      rw [e]; exact bld3
  · intro tm df H p
    obtain ⟨⟨rfl, t1, t3, t4, wf, kp, bld⟩, a1, a2, a3⟩ := p
    rw [List.take_length] at bld
    have e1 := z_bltF (Nat.le_refl s.length)
    simp only [↓evD, evD, evU, evF, reduceCtorEq, evB, Nat.reduceAdd, Nat.reduceLT, Nat.reduceMul, Nat.reduceSub, cf20_l0, a2, a3, e1]
    exact .ex ⟨rfl, rfl, by simp [T.get_set, t1], by simp [T.get_set, t3], by simp [T.get_set, t4], wf, kp, bld⟩

def H42 (ver : Nat) (s k : List (ByteArray × ByteArray)) (vo ko : Value) (call : Call) : Prop := ∀ H, Wf H → SlP H vo s → SlP H ko k → call 42 [.agg ⟨[.int .i64 (.ofNat ver), vo, ko]⟩] H = .val (.bool true) H
def H45 (call : Call) : Prop := ∀ (H : Hp) (lim bB : Nat) (p : Value) (acc : List UInt8), Bld lim H bB p acc → Wf H → lim ≤ bB → H.base ≤ lim → 0 < acc.length → acc.length ≤ 10000 → Yields (call 45 [ptrV bB 0] H) (fun v H' => v = .string (mkS acc) ∧ Wf H' ∧ Keeps lim H H')
theorem print20_run {h : Hp} {ver : Nat} {vo ko : Value} {s k : List (ByteArray × ByteArray)} (hw : Wf h) (hB : Base h) (hv : SlP h vo s) (hk : SlP h ko k) (hs : ValidS ver s k) (h40 : H40 call) (h42 : H42 ver s k vo ko call) (h43 : H43 call) (h45 : H45 call) :
    Yields (runF cf20 call cd [.agg ⟨[.int .i64 (.ofNat ver), vo, ko]⟩] h) (QuietR (.string (mkS (text23 ver s k))) h) := by
  rw [cf20_eq]
  refine runF_yields rfl ?_
  have hb0 : Nat.blt 0 3 = true := rfl
  have hb1 : Nat.blt 1 3 = true := rfl
  have hb2 : Nat.blt 2 3 = true := rfl
  have hb3 : Nat.ble 3 3 = true := rfl
  have hg0 : (storeL [Value.int .i64 (.ofNat ver), vo, ko] 0 .nil fun t => t).get (path 0) = some (.int .i64 (.ofNat ver)) := rfl
  have hg1 : (storeL [Value.int .i64 (.ofNat ver), vo, ko] 0 .nil fun t => t).get (path 1) = some vo := rfl
  have hg2 : (storeL [Value.int .i64 (.ofNat ver), vo, ko] 0 .nil fun t => t).get (path 2) = some ko := rfl
  have hver := hs.ver
  obtain ⟨h1, hh1⟩ : ∃ h1, h.new (rowL [.int .i64 (.ofNat ver), vo, ko] 3 34 true) = h1 := ⟨_, rfl⟩
  have hw1 : Wf h1 := by rw [← hh1]; exact hw.new _
  have hbox : h1.at h.next = some (rowL [.int .i64 (.ofNat ver), vo, ko] 3 34 true) := by rw [← hh1, z_at_new, if_pos rfl]
  have hv1 : SlP h1 vo s := by rw [← hh1]; exact hv.new hw _
  have hk1 : SlP h1 ko k := by rw [← hh1]; exact hk.new hw _
  have hn1 : h1.next = h.next + 1 := by rw [← hh1]; rfl
  have hlog : h1.log = h.log := by rw [← hh1]; rfl
  have c1 := h42 h1 hw1 hv1 hk1
  have i64v : I64 (.ofNat ver) := ⟨by show (-9223372036854775808 : Int) ≤ (ver : Int); omega, by show (ver : Int) ≤ _; omega⟩
  have hil := itoa_len i64v.1 i64v.2
  obtain ⟨h2, hh2⟩ : ∃ h2, h1.new (rowL [.pointer none, .slice none 0 0] 2 102 true) = h2 := ⟨_, rfl⟩
  have hw2 : Wf h2 := by rw [← hh2]; exact hw1.new _
  have hn2 : h2.next = h1.next + 1 := by rw [← hh2]; rfl
  have hbox2 : h2.at h.next = some (rowL [.int .i64 (.ofNat ver), vo, ko] 3 34 true) := by rw [← hh2, z_at_new, if_neg (by omega)]; exact hbox
  have c2 := h40 (.ofNat ver) h2 i64v (by rw [← hh2, ← hh1]; exact (hB.new _).new _)
  have bld : Bld h1.next h2 h1.next (.pointer none) [] := ⟨_, _, by rw [← hh2, z_at_new, if_pos rfl]; rfl, rfl, rfl, .inl ⟨rfl, rfl⟩⟩
  have kp2 : Keeps h1.next h1 h2 := by rw [← hh2]; exact Keeps.new _ (Nat.le_refl _)
  obtain ⟨v, H3, ec, wf3, kp3, bld3⟩ := line43 (ws := [[115, 101, 116, 116, 105, 110, 103, 115], Lib.itoa (.ofNat ver)]) (y := h2.next) (c := 2) (bB := h1.next) (h1 := h1) h43 hw1.base ⟨_, .inl rfl, bld⟩ hw2 kp2 (hw2.new (rowL [.string (mkS [115, 101, 116, 116, 105, 110, 103, 115]), .string (mkS (Lib.itoa (.ofNat ver)))] 2 9 true)) (Keeps.new _ (Nat.le_refl _)) (Strs.of (n := 2) (by simp) (by rw [z_at_new, if_pos rfl]; rfl)) (by simp) (by simp)
    (by intro w hw; simp only [List.mem_cons, List.not_mem_nil, or_false] at hw; rcases hw with rfl | rfl <;> first | decide | omega) (by simp)
  change call 43 [slV h2.next 0 2 2, ptrV h1.next 0] (h2.new (rowL [.string (mkS [115, 101, 116, 116, 105, 110, 103, 115]), .string (mkS (Lib.itoa (.ofNat ver)))] 2 9 true)) = .val v H3 at ec
  have hbox3 : H3.at h.next = some (rowL [.int .i64 (.ofNat ver), vo, ko] 3 34 true) := by rw [kp3.at_ h.next (by omega)]; exact hbox
  have hlen := hv.len
  have hlen2 := hk.len
  rw [z_seq, show exC r20_0 call (storeL [.agg ⟨[.int .i64 (.ofNat ver), vo, ko]⟩] 0 .nil fun t => t) [] h = .ok .normal (T.set [true] (T.set [false] (storeL [.agg ⟨[.int .i64 (.ofNat ver), vo, ko]⟩] 0 .nil fun t => t) (some (.string (mkS [])))) (some (ptrV h.next 0))) [] h1 from by simp only [↓evD, evD, evU, evF, reduceCtorEq, evB, Nat.reduceAdd, Nat.reduceLT, Nat.reduceMul, Nat.reduceSub, r20_0, hh1], z_kn]
  simp only [↓evD, evD, evU, evF, reduceCtorEq, evB, Nat.reduceAdd, Nat.reduceLT, Nat.reduceMul, Nat.reduceSub, r20_1, r20_2, r20_3, r20_4, r20_5, z_callV, z_vFn, z_mkF, z_ld3, List.nil_append, List.cons_append, hbox, hbox2, hbox3, hb0, hb1, hb3, hg0, hg1, hg2, c1, hh2, c2, ec, hlen]
  rw [List.nil_append] at bld3
  have hjoin : joinS [[115, 101, 116, 116, 105, 110, 103, 115], Lib.itoa (Int.ofNat ver)] ++ [10] = head23 ver := by unfold head23; simp [joinS]
  rw [hjoin] at bld3
  have hhl : (head23 ver).length ≤ 100 := by unfold head23; simp; simp at hil; omega
  have l1 := vlen hs.tab s.length
  have l2 := klen hs.ktab k.length
  rw [List.take_length] at l1 l2
  have hs8 := hs.vals
  have hk4 := hs.kept
  refine After.exK (φ := PXE h1 h.next h1.next (head23 ver ++ s.flatMap valLine) .normal) (After.exK (φ := PXE h1 h.next h1.next (head23 ver ++ s.flatMap valLine) (.exit 0)) ?_ ?_) ?_
  · refine p20_loop1 h43 hw1 rfl hv1 hs.tab hs8 (by omega) ⟨⟨rfl, ?_, ?_, ?_, wf3, kp3, ?_⟩, ?_, ?_, ?_⟩
    · simp [T.get_set]
    · simp [T.get_set]
    · simp [T.get_set, f43]
    · simpa using bld3
    · simp [T.get_set]
    · simp [T.get_set]
    · simp [T.get_set]
  · rintro e tm df H ⟨rfl, rest⟩; exact ⟨rfl, rest⟩
  · rintro e tm df H ⟨rfl, p⟩
    obtain ⟨rfl, t1, t3, t4, wf, kp, bld⟩ := p
    have hbH : H.at h.next = some (rowL [.int .i64 (.ofNat ver), vo, ko] 3 34 true) := by rw [kp.at_ h.next (by omega)]; exact hbox
    simp only [↓evD, evD, evU, evF, reduceCtorEq, evB, Nat.reduceAdd, Nat.reduceLT, Nat.reduceMul, Nat.reduceSub, r20_6, t1, hbH, hb2, hg2, hlen2]
    refine After.exK (φ := PXE h1 h.next h1.next (text23 ver s k) .normal) (After.exK (φ := PXE h1 h.next h1.next (text23 ver s k) (.exit 2)) ?_ ?_) ?_
    · refine p20_loop2 h43 hw1 rfl hk1 hs.ktab hk4 (by rw [List.length_append]; omega) ⟨⟨rfl, ?_, ?_, ?_, wf, kp, ?_⟩, ?_, ?_, ?_⟩
      · simp [T.get_set, t1]
      · simp [T.get_set, t3]
      · simp [T.get_set, t4]
      · simpa using bld
      · simp [T.get_set]
      · simp [T.get_set]
      · simp [T.get_set]
    · rintro e tm df H ⟨rfl, rest⟩; exact ⟨rfl, rest⟩
    · rintro e tm df H ⟨rfl, p⟩
      obtain ⟨rfl, t1, t3, t4, wf, kp, q, hq, bld⟩ := p
      have htl : (text23 ver s k).length ≤ 600 := by unfold text23; rw [List.length_append, List.length_append]; omega
      have ht0 : 0 < (text23 ver s k).length := by unfold text23 head23; simp
      obtain ⟨v, H5, e5, rfl, wf5, kp5⟩ := (h45 H h1.next h1.next q (text23 ver s k) bld wf (Nat.le_refl _) (by rw [kp.base]; exact hw1.base) ht0 (by omega)).get
      simp only [↓evD, evD, evU, evF, reduceCtorEq, evB, Nat.reduceAdd, Nat.reduceLT, Nat.reduceMul, Nat.reduceSub, r20_7, r20_8, t3, e5]
      refine .ret ?_
      simp only [↓evD, evD, evU, evF, reduceCtorEq, evB]
      exact ⟨rfl, (kp5.log.trans kp.log).trans hlog⟩
end Abs
end Go
