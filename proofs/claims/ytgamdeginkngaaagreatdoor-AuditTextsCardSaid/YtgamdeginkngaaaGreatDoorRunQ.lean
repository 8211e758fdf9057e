/-
Symbolic runs: Valid of the program (settings).
Conditions: none.
-/
import Derived.Test.YtgamdeginkngaaaGreatDoorRunP
set_option linter.unusedVariables false
set_option linter.unusedSimpArgs false
namespace Go
namespace Abs
@[congr] theorem lz_vFn {R : Type} {v v' : Value} {k : FuncId → List Value → List Value → R} {z : R} (h : v = v') : vFn v k z = vFn v' k z := by rw [h]
theorem z_callV (f : OD) (l : List OD) (call : Call) (lo : List Value) (tm : T Value) (h : Hp) : oCallV f l call lo tm h = vFn (rdO f lo tm) (fun g first cap => call g (first ++ (rdL l lo tm ++ cap)) h) .none := rfl
theorem z_vFn {R : Type} (g : FuncId) (a c : List Value) (k : FuncId → List Value → List Value → R) (z : R) : vFn (.func (.func g) ⟨a⟩ ⟨c⟩) k z = k g a c := rfl
theorem z_DGG (k : Nat) (bar : Bool) (own : List (Nat × Bool)) (g : OD) (want : Bool) (f : DO) (r : CD) (cm : Nat → Nat → Bool) (call : Call) (d : Dn) (lo : List Value) (tm : T Value) (df : Df) (h : Hp) : exD (.guardG k bar own g want f r) cm call d lo tm df h = vGuard (rdO g lo tm) want (exD (.consG k bar own f r) cm call d lo tm df h) (exD r cm call d (undef :: lo) tm df h) .none := rfl
def H74 (call : Call) : Prop := ∀ (x : ByteArray × ByteArray) (H : Hp), Tab x → call 74 [.agg ⟨[.string x.1, .string x.2]⟩] H = .val (.bool true) H
def H75 (call : Call) : Prop := ∀ (x y : ByteArray × ByteArray) (H : Hp), Tab x → Tab y → lLt (bl x.1) (bl y.1) = true → call 75 [.agg ⟨[.string x.1, .string x.2]⟩, .string y.1] H = .val (.int .i64 (.negSucc 0)) H
def H76 (call : Call) : Prop := ∀ (x : ByteArray × ByteArray) (H : Hp), (x = (mkS [], mkS []) ∨ Tab x) → call 76 [.agg ⟨[.string x.1, .string x.2]⟩] H = .val (.bool false) H
variable {call : Call} {cd : CallD} {h : Hp}
theorem call76_run {x : ByteArray × ByteArray} (h74 : H74 call) (hx : x = (mkS [], mkS []) ∨ Tab x) : Yields (runF cf76 call cd [.agg ⟨[.string x.1, .string x.2]⟩] h) (QuietR (.bool false) h) := by
  refine runF_yields rfl ?_
  have b22 : Nat.ble 2 2 = true := rfl
  have g0 : (storeL [Value.string x.1, .string x.2] 0 .nil fun t => t).get (path 0) = some (.string x.1) := rfl
  have g1 : (storeL [Value.string x.1, .string x.2] 0 .nil fun t => t).get (path 1) = some (.string x.2) := rfl
  rcases hx with rfl | ht
  · have e6 : (lEq [] [] && lEq [] []) = true := rfl
    simp only [↓evD, evD, evU, evF, reduceCtorEq, evB, Nat.reduceAdd, Nat.reduceLT, Nat.reduceMul, Nat.reduceSub, b22, g0, g1, e6]
    refine .ret ?_
    simp only [↓evD, evD, evU, evF, reduceCtorEq, evB]
    exact ⟨rfl, rfl⟩
  · have e6 : (lEq (bl x.1) [] && lEq (bl x.2) []) = false := by
      obtain ⟨n, m, rfl⟩ := ht
      rw [show lEq (bl (callS n)) [] = false from callS_ne n]; rfl
    have c1 := h74 x (h.new (rowL [.string x.1, .string x.2] 2 62 true)) ht
    simp only [↓evD, evD, evU, evF, reduceCtorEq, evB, Nat.reduceAdd, Nat.reduceLT, Nat.reduceMul, Nat.reduceSub, b22, g0, g1, e6, c1]
    refine .ret ?_
    simp only [↓evD, evD, evU, evF, reduceCtorEq, evB]
    exact ⟨rfl, rfl⟩
noncomputable def f76 : Value := .func (.func 76) ⟨[]⟩ ⟨[]⟩
def FI (v : Value) (l : List (ByteArray × ByteArray)) (h : Hp) (i : Nat) (tm : T Value) (df : Df) (H : Hp) : Prop := H = h ∧ df = [] ∧ tm.get [] = some v ∧ tm.get [true] = some f76 ∧ tm.get [true, true, true] = some (.int .i64 (.ofNat l.length)) ∧ tm.get [false, true, true] = some (.int .i64 (.ofNat i))
def FE (h : Hp) (x e : Ex) (tm : T Value) (df : Df) (H : Hp) : Prop := e = x ∧ H = h ∧ df = []
theorem call111_run {v : Value} {l : List (ByteArray × ByteArray)} (hv : SlP h v l) (hn : l.length < 1000) (hl : ∀ x ∈ l, x = (mkS [], mkS []) ∨ Tab x) (h76 : H76 call) : Yields (runF cf111 call cd [v, f76] h) (SameR' (.int .i64 (.negSucc 0)) h) := by
  refine runF_yields rfl ?_
  have hlen := hv.len
  simp only [↓evD, evD, evU, evF, reduceCtorEq, evB, hlen]
  refine After.exK (φ := FE h .normal) (After.exK (φ := FE h (.exit 0)) ?_ ?_) ?_
  · refine loop_for (n := l.length) (by omega) (FI v l h) ?_ ?_ ?_
    · rintro i tm df H hi ⟨rfl, rfl, t0, t1, t7, t8⟩
      obtain ⟨x, hx, hd⟩ := drop_at hi
      obtain ⟨bb, c, rfl, cc, m, e, cl, ro, hat, hm, hc⟩ := hv.pos hi
      obtain ⟨hc0, hc1⟩ := hc i x hx
      have e1 := z_blt hi
      have e2 : Nat.ble (0 + i * 2 + 2) m = true := z_ble (by omega)
      have e3 : fwrap .i64 (.ofNat (i + 1)) = .ofNat (i + 1) := z_wrapN (by omega)
      have e4 : cc.get (path (0 + i * 2 + 0)) = some (.string x.1) := by rw [← hc0]; congr 2; omega
      have e5 : cc.get (path (0 + i * 2 + 1)) = some (.string x.2) := by rw [← hc1]; congr 2; omega
      have c1 := h76 x H (hl x (List.mem_of_getElem? hx))
      simp only [↓evD, evD, evU, evF, reduceCtorEq, evB, cf111_l0, z_callV, z_vFn, f76, List.nil_append, List.append_nil, t0, t1, t7, t8, hat, e1, e2, e3, e4, e5, c1]
      exact .go ⟨rfl, rfl, by simp [T.get_set, t0], by simp [T.get_set, t1], by simp [T.get_set, t7], by simp [T.get_set]⟩
    · rintro tm df H ⟨rfl, rfl, t0, t1, t7, t8⟩
      have e1 := z_bltF (Nat.le_refl l.length)
      simp only [↓evD, evD, evU, evF, reduceCtorEq, evB, cf111_l0, t7, t8, e1]
      exact .ex ⟨rfl, rfl, rfl⟩
    · exact ⟨rfl, rfl, by simp [T.get_set, z_st20], by simp [T.get_set, z_st21], by simp [T.get_set], by simp [T.get_set]⟩
  · rintro e tm df H ⟨rfl, rest⟩; exact ⟨rfl, rest⟩
  · rintro e tm df H ⟨rfl, rfl, rfl⟩
    simp only [↓evD, evD, evU, evF, reduceCtorEq, evB]
    refine .ret ?_
    simp only [↓evD, evD, evU, evF, reduceCtorEq, evB]
    exact ⟨rfl, rfl⟩
def H111 (call : Call) : Prop := ∀ (H : Hp) (v : Value) (l : List (ByteArray × ByteArray)), SlP H v l → l.length < 1000 → (∀ x ∈ l, x = (mkS [], mkS []) ∨ Tab x) → call 111 [v, f76] H = .val (.int .i64 (.negSucc 0)) H
theorem call77_run {v : Value} {l : List (ByteArray × ByteArray)} (hv : SlP h v l) (hn : l.length < 1000) (hl : ∀ x ∈ l, x = (mkS [], mkS []) ∨ Tab x) (h111 : H111 call) : Yields (runF cf77 call cd [v, f76] h) (SameR' (.bool false) h) := by
  refine runF_yields rfl ?_
  have c1 := h111 h v l hv hn hl
  have e1 : ilt (.negSucc 0) (.ofNat 0) = true := rfl
  simp only [↓evD, evD, evU, evF, reduceCtorEq, evB, c1, e1]
  refine .ret ?_
  simp only [↓evD, evD, evU, evF, reduceCtorEq, evB]
  exact ⟨rfl, rfl⟩
def H77 (call : Call) : Prop := ∀ (H : Hp) (v : Value) (l : List (ByteArray × ByteArray)), SlP H v l → l.length < 1000 → (∀ x ∈ l, x = (mkS [], mkS []) ∨ Tab x) → call 77 [v, f76] H = .val (.bool false) H
noncomputable def r42_0 : CC := (.region (.consG (4503601674190911, []) (oBox 34 (.tmp [])) (.consP (oMove (.val (.bool false))) (.flush 0 [false] (.flush 1 [true] .nil)))))
noncomputable def r42_1 : CC := (.seq (.region (.consP (oFldA 0 (.tmp [true])) (.consR (oLoad1 (.loc 0)) (.consP (oArith gLt (.loc 0) (.val (.int .i64 (.ofNat 0)))) (.consP (oMove (.loc 0)) (.guard (4503601674190911, [(.some 9), (.some 8), (.some 7), (.some 6)]) (.loc 0) false (.p (oFldA 0 (.tmp [true]))) (.guard (4503601674190911, [(.some 10), (.some 9), (.some 8), (.some 7), (.some 6)]) (.loc 1) false (.r (oLoad1 (.loc 0))) (.guard (4503601674190911, [(.some 11), (.some 10), (.some 9), (.some 8), (.some 7), (.some 6)]) (.loc 2) false (.p (oArith gGt (.loc 0) (.val (.int .i64 (.ofNat 60000))))) (.consP (oPick (.loc 3) (.val (.bool true)) (.loc 0)) (.consP (oMove (.loc 0)) (.guard (4503601674190911, [(.some 14), (.some 13), (.some 12), (.some 11), (.some 10), (.some 9), (.some 8), (.some 7), (.some 6)]) (.loc 0) false (.p (oFldA 1 (.tmp [true]))) (.guard (4503601674190911, [(.some 15), (.some 14), (.some 13), (.some 12), (.some 11), (.some 10), (.some 9), (.some 8), (.some 7), (.some 6)]) (.loc 1) false (.r (oLoad1 (.loc 0))) (.guard (4503601674190911, [(.some 16), (.some 15), (.some 14), (.some 13), (.some 12), (.some 11), (.some 10), (.some 9), (.some 8), (.some 7), (.some 6)]) (.loc 2) false (.p (oLenL (.loc 0))) (.guard (4503601674190911, [(.some 17), (.some 16), (.some 15), (.some 14), (.some 13), (.some 12), (.some 11), (.some 10), (.some 9), (.some 8), (.some 7), (.some 6)]) (.loc 3) false (.p (oArith gGt (.loc 0) (.val (.int .i64 (.ofNat 16))))) (.consP (oPick (.loc 4) (.val (.bool true)) (.loc 0)) (.consP (oMove (.loc 0)) (.guard (4503601674190911, [(.some 20), (.some 19), (.some 18), (.some 17), (.some 16), (.some 15), (.some 14), (.some 13), (.some 12), (.some 11), (.some 10), (.some 9), (.some 8), (.some 7), (.some 6)]) (.loc 0) false (.p (oFldA 2 (.tmp [true]))) (.guard (4503601674190911, [(.some 21), (.some 20), (.some 19), (.some 18), (.some 17), (.some 16), (.some 15), (.some 14), (.some 13), (.some 12), (.some 11), (.some 10), (.some 9), (.some 8), (.some 7), (.some 6)]) (.loc 1) false (.r (oLoad1 (.loc 0))) (.guard (4503601674190911, [(.some 22), (.some 21), (.some 20), (.some 19), (.some 18), (.some 17), (.some 16), (.some 15), (.some 14), (.some 13), (.some 12), (.some 11), (.some 10), (.some 9), (.some 8), (.some 7), (.some 6)]) (.loc 2) false (.p (oLenL (.loc 0))) (.guard (4503601674190911, [(.some 23), (.some 22), (.some 21), (.some 20), (.some 19), (.some 18), (.some 17), (.some 16), (.some 15), (.some 14), (.some 13), (.some 12), (.some 11), (.some 10), (.some 9), (.some 8), (.some 7), (.some 6)]) (.loc 3) false (.p (oArith gGt (.loc 0) (.val (.int .i64 (.ofNat 16))))) (.consP (oPick (.loc 4) (.val (.bool true)) (.loc 0)) (.flush 0 [true, false, true, false] .nil)))))))))))))))))))))) (.cond (.tmp [true, false, true, false]) (.seq (.region (.consP (oMove (.val (.bool false))) (.flush 0 [false] .nil))) .ret) .skip))
noncomputable def r42_2 : CC := (.seq (.region (.consP (oFldA 1 (.tmp [true])) (.consR (oLoad1 (.loc 0)) (.consP (oLenL (.loc 0)) (.consP (oMove (.val (.int .i64 (.ofNat 0)))) (.flush 0 [true, false, false, false] (.flush 1 [false, true, false, false] (.flush 2 [true, true, false, false] .nil)))))))) (.block 0 (.loop cf42_l0)))
noncomputable def r42_3 : CC := (.region (.consP (oMove (.val (.func (.func 76) (.mk []) (.mk [])))) (.flush 0 [true, false] .nil)))
noncomputable def r42_4 : CC := (.region (.consP (oFldA 2 (.tmp [true])) (.consR (oLoad1 (.loc 0)) (.consP (oMove (.tmp [true, false])) (.consG (4503601674190911, [(.some 56), (.some 55), (.some 54)]) (oCallF 77 [(.loc 1), (.loc 0)]) (.consP (oNot (.loc 0)) (.consP (oMove (.loc 0)) (.flush 0 [false] .nil))))))))
noncomputable def r42_5 : CC := .ret

theorem cf42_eq : cf42 = .mk 59 1 (.seq r42_0 (.seq r42_1 (.seq r42_2 (.seq r42_3 (.seq r42_4 r42_5))))) [.tmp [false]] := rfl
/-- what stands while the values are looked at; 'h' has the box -/
structure VX (s : List (ByteArray × ByteArray)) (vo : Value) (b : Nat) (h : Hp) (i : Nat) (tm : T Value) (df : Df) (H : Hp) : Prop where
  df : df = []
  t1 : tm.get [true] = some (ptrV b 0)
  t27 : tm.get [true, true, false, false] = some vo
  t28 : tm.get [false, true, false, false] = some (.int .i64 (.ofNat s.length))
  t29 : tm.get [true, false, false, false] = some (.int .i64 (.ofNat i))
  wf : Wf H
  kp : Keeps h.next h H
def VXE (b : Nat) (h : Hp) (x e : Ex) (tm : T Value) (df : Df) (H : Hp) : Prop := e = x ∧ df = [] ∧ tm.get [true] = some (ptrV b 0) ∧ Wf H ∧ Keeps h.next h H
theorem get2 (a b : Value) (c : T Value) : (storeL [a, b] 0 c fun t => t).get (path 0) = some a ∧ (storeL [a, b] 0 c fun t => t).get (path 1) = some b := by
  constructor
  · rw [z_stget, if_pos ⟨by omega, by simp⟩]; rfl
  · rw [z_stget, if_pos ⟨by omega, by simp⟩]; rfl
theorem valid42_loop {b ver : Nat} {vo ko : Value} {s k : List (ByteArray × ByteArray)} (hw : Wf h) (hv : SlP h vo s) (hbox : h.at b = some (rowL [.int .i64 (.ofNat ver), vo, ko] 3 34 true)) (hs : ValidS ver s k) (h74 : H74 call) (h75 : H75 call)
    {tm : T Value} {df : Df} {H : Hp} (h0 : VX s vo b h 0 tm df H) : After (exC (.loop cf42_l0) call tm df H) (VXE b h (.exit 0)) := by
  have hb1 : Nat.blt 1 3 = true := rfl
  have hg1 : (storeL [Value.int .i64 (.ofNat ver), vo, ko] 0 .nil fun t => t).get (path 1) = some vo := rfl
  have hbn := hw.lt hbox
  refine loop_for (n := s.length) (by have := hs.vals; omega) (VX s vo b h) ?_ ?_ h0
  · intro i tm df H hi p
    obtain ⟨rfl, t1, t27, t28, t29, wf, kp⟩ := p
    obtain ⟨x, hx, hd⟩ := drop_at hi
    obtain ⟨bb, c, rfl, cc, m, e, cl, ro, hat0, hm, hc⟩ := hv.pos hi
    obtain ⟨hc0, hc1⟩ := hc i x hx
    have hbb := hw.lt hat0
    have hat : H.at bb = some (.row cc m e cl ro) := by rw [kp.at_ bb hbb]; exact hat0
    have hboxH : H.at b = some (rowL [.int .i64 (.ofNat ver), slV bb 0 s.length c, ko] 3 34 true) := by rw [kp.at_ b hbn]; exact hbox
    have n1 : H.next ≠ bb := by have := kp.next; omega
    have n2 : H.next ≠ b := by have := kp.next; omega
    have htab := hs.tab x (List.mem_of_getElem? hx)
    have e1 := z_blt hi
    have e2 : Nat.ble (0 + i * 2 + 2) m = true := z_ble (by omega)
    have e3 : fwrap .i64 (.ofNat (i + 1)) = .ofNat (i + 1) := z_wrapN (by have := hs.vals; omega)
    have e4 : cc.get (path (0 + i * 2 + 0)) = some (.string x.1) := by rw [← hc0]; congr 2; omega
    have e5 : cc.get (path (0 + i * 2 + 1)) = some (.string x.2) := by rw [← hc1]; congr 2; omega
    obtain ⟨c2, hc2⟩ : ∃ c2, (storeL [Value.string x.1, .string x.2] 0 (storeL [Value.string (mkS []), .string (mkS [])] 0 .nil fun t => t) fun t => t) = c2 := ⟨_, rfl⟩
    have g0 : c2.get (path 0) = some (.string x.1) := by rw [← hc2]; exact (get2 _ _ _).1
    have g1 : c2.get (path 1) = some (.string x.2) := by rw [← hc2]; exact (get2 _ _ _).2
    have b22 : Nat.ble 2 2 = true := rfl
    have b02 : Nat.blt 0 2 = true := rfl
    obtain ⟨H', hH'⟩ : ∃ H', (H.new (rowL [.string (mkS []), .string (mkS [])] 2 62 true)).put H.next (some (.row c2 2 62 true false)) = H' := ⟨_, rfl⟩
    have hwf' : Wf H' := by rw [← hH']; exact (wf.new _).put1 (by rw [z_new_next]; omega) _
    have hnext : H'.next = H.next + 1 := by rw [← hH']; rfl
    have hat' : H'.at H.next = some (.row c2 2 62 true false) := by rw [← hH', z_at_put, if_pos rfl]
    have hat2 : H'.at bb = some (.row cc m e cl ro) := by rw [← hH', z_at_put, if_neg n1, z_at_new, if_neg n1]; exact hat
    have hat3 : H'.at b = some (rowL [.int .i64 (.ofNat ver), slV bb 0 s.length c, ko] 3 34 true) := by rw [← hH', z_at_put, if_neg n2, z_at_new, if_neg n2]; exact hboxH
    have hbase : H'.base = H.base := by rw [← hH']; rfl
    have hlog : H'.log = H.log := by rw [← hH', z_put_log (by rw [z_new_base]; exact wf.base)]; rfl
    have hkp : Keeps h.next h H' := kp.trans (by rw [← hH']; exact (Keeps.new _ kp.next).trans (Keeps.put _ kp.next (by rw [z_new_base]; exact wf.base)))
    have c1 := h74 x (setBase H' (H.next + 1) []) htab
    have s1 : setBase H' H.base H.log = H' := by rw [← hbase, ← hlog]; exact z_sb_self _
    cases i with
    | zero =>
      have e6 : Nat.blt 0 0 = false := rfl
      simp only [↓evD, evD, evU, evF, reduceCtorEq, evB, Nat.reduceAdd, Nat.reduceLT, Nat.reduceMul, Nat.reduceSub, z_DGG, cf42_l0, t1, t27, t28, t29, hat, e1, e2, e3, e4, e5, b22, b02, hc2, hH', hnext, hat', hat2, hat3, hbase, hlog, g0, g1, c1, s1, e6]
      exact .go ⟨rfl, by simp [T.get_set, t1], by simp [T.get_set, t27], by simp [T.get_set, t28], by simp [T.get_set], hwf', hkp⟩
    | succ j =>
      have e6 : Nat.blt 0 (j + 1) = true := z_blt (by omega)
      obtain ⟨y, hy, _⟩ := drop_at (l := s) (i := j) (by omega)
      have hlt := hs.ord j y x hy hx
      obtain ⟨hd0, hd1⟩ := hc j y hy
      have e7 : fwrap .i64 (.ofNat (j + 1) - .ofNat 1) = .ofNat j := by
        have : (Int.ofNat (j + 1) - Int.ofNat 1 : Int) = Int.ofNat j := by simp
        rw [this]; exact z_wrapN (by have := hs.vals; omega)
      have e8 : Nat.blt j s.length = true := z_blt (by omega)
      have e9 : Nat.ble (0 + j * 2 + 2) m = true := z_ble (by omega)
      have e10 : cc.get (path (0 + j * 2 + 0)) = some (.string y.1) := by rw [← hd0]; congr 2; omega
      have e11 : cc.get (path (0 + j * 2 + 1)) = some (.string y.2) := by rw [← hd1]; congr 2; omega
      have c2' := h75 y x (setBase H' (H.next + 1) []) (hs.tab y (List.mem_of_getElem? hy)) htab hlt
      have e12 : ilt (.negSucc 0) (.ofNat 0) = true := rfl
      simp only [↓evD, evD, evU, evF, reduceCtorEq, evB, Nat.reduceAdd, Nat.reduceLT, Nat.reduceMul, Nat.reduceSub, z_sub, z_DGG, cf42_l0, t1, t27, t28, t29, hat, e1, e2, e3, e4, e5, b22, b02, hc2, hH', hnext, hat', hat2, hat3, hbase, hlog, g0, g1, c1, s1, e6, e7, e8, e9, e10, e11, e12, c2', hb1, hg1]
      exact .go ⟨rfl, by simp [T.get_set, t1], by simp [T.get_set, t27], by simp [T.get_set, t28], by simp [T.get_set], hwf', hkp⟩
  · intro tm df H p
    obtain ⟨rfl, t1, t27, t28, t29, wf, kp⟩ := p
    have e1 := z_bltF (Nat.le_refl s.length)
    simp only [↓evD, evD, evU, evF, reduceCtorEq, evB, cf42_l0, t28, t29, e1]
    exact .ex ⟨rfl, rfl, by simp [T.get_set, t1], wf, kp⟩

theorem valid42_run {ver : Nat} {vo ko : Value} {s k : List (ByteArray × ByteArray)} (hw : Wf h) (hv : SlP h vo s) (hk : SlP h ko k) (hs : ValidS ver s k) (h74 : H74 call) (h75 : H75 call) (h77 : H77 call) :
    Yields (runF cf42 call cd [.agg ⟨[.int .i64 (.ofNat ver), vo, ko]⟩] h) (QuietR (.bool true) h) := by
  refine runF_yields rfl ?_
  have hlen := hv.len
  have hlen2 := hk.len
  have hb0 : Nat.blt 0 3 = true := rfl
  have hb1 : Nat.blt 1 3 = true := rfl
  have hb2 : Nat.blt 2 3 = true := rfl
  have hg0 : (storeL [Value.int .i64 (.ofNat ver), vo, ko] 0 .nil fun t => t).get (path 0) = some (.int .i64 (.ofNat ver)) := rfl
  have hg1 : (storeL [Value.int .i64 (.ofNat ver), vo, ko] 0 .nil fun t => t).get (path 1) = some vo := rfl
  have hg2 : (storeL [Value.int .i64 (.ofNat ver), vo, ko] 0 .nil fun t => t).get (path 2) = some ko := rfl
  have c0 : ilt (.ofNat ver) (.ofNat 0) = false := by show Nat.blt ver 0 = false; exact z_bltF (Nat.zero_le _)
  have c1 : Nat.blt 60000 ver = false := z_bltF (by have := hs.ver; omega)
  have c2 : Nat.blt 16 s.length = false := z_bltF (by have := hs.vals; omega)
  have c3 : Nat.blt 16 k.length = false := z_bltF (by have := hs.kept; omega)
  have hbox : (h.new (rowL [Value.int .i64 (.ofNat ver), vo, ko] 3 34 true)).at h.next = some (rowL [.int .i64 (.ofNat ver), vo, ko] 3 34 true) := by rw [z_at_new, if_pos rfl]
  simp only [↓evD, evD, evU, evF, reduceCtorEq, evB, Nat.reduceAdd, Nat.reduceLT, Nat.reduceMul, Nat.reduceSub, hb0, hb1, hb2, hg0, hg1, hg2, hlen, hlen2, ↓c0, c1, c2, c3]
  refine After.exK (φ := VXE h.next (h.new (rowL [.int .i64 (.ofNat ver), vo, ko] 3 34 true)) .normal) (After.exK (φ := VXE h.next (h.new (rowL [.int .i64 (.ofNat ver), vo, ko] 3 34 true)) (.exit 0)) ?_ ?_) ?_
  · refine valid42_loop (hw.new _) (hv.new hw _) hbox hs h74 h75 ⟨rfl, ?_, ?_, ?_, ?_, hw.new _, Keeps.refl _ _⟩ <;> simp [T.get_set]
  · rintro e tm df H ⟨rfl, rest⟩; exact ⟨rfl, rest⟩
  · rintro e tm df H ⟨rfl, rfl, t1, wf, kp⟩
    have hat : H.at h.next = some (rowL [.int .i64 (.ofNat ver), vo, ko] 3 34 true) := by rw [kp.at_ h.next (by rw [z_new_next]; omega)]; exact hbox
    have cc := h77 H ko k ((hk.new hw _).keep (hw.new _) kp (Nat.le_refl _)) (by have := hs.kept; omega) hs.ktab
    have f76e : (Value.func (.func 76) ⟨[]⟩ ⟨[]⟩) = f76 := rfl
    simp only [↓evD, evD, evU, evF, reduceCtorEq, evB, Nat.reduceAdd, Nat.reduceLT, Nat.reduceMul, Nat.reduceSub, t1, hat, hb2, hg2, f76e, cc]
    refine .ret ?_
    simp only [↓evD, evD, evU, evF, reduceCtorEq, evB]
    exact ⟨rfl, kp.log⟩
end Abs
end Go
