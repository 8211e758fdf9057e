/-
Symbolic runs: line of the program.
Conditions: none.
-/
import Derived.Test.YtgamdeginkngaaaGreatDoorRunBase
set_option linter.unusedVariables false
set_option linter.unusedSimpArgs false
namespace Go
namespace Abs
@[congr] theorem lz_vIface {R : Type} {v v' : Value} {k : TypeId → Value → R} {kn z : R} (h : v = v') : vIface v k kn z = vIface v' k kn z := by rw [h]
@[congr] theorem lz_vTup {R : Type} {v v' : Value} {k : List Value → R} {z : R} (h : v = v') : vTup v k z = vTup v' k z := by rw [h]
theorem z_vIface {R : Type} (t : TypeId) (v : Value) (k : TypeId → Value → R) (kn z : R) : vIface (.iface t v) k kn z = k t v := rfl
theorem z_mkI (t : TypeId) (x : OD) (lo : List Value) (tm : T Value) : oMkI t x lo tm = some (.iface t (rdO x lo tm)) := rfl
theorem z_tAs (t : TypeId) (z : Value) (x : OD) (lo : List Value) (tm : T Value) : oTAs t true z x lo tm = vIface (rdO x lo tm) (fun u v => bif Nat.beq u t then some (.tuple ⟨[v, .bool true]⟩) else some (.tuple ⟨[z, .bool false]⟩)) (some (.tuple ⟨[z, .bool false]⟩)) none := rfl
theorem z_ext (i : Nat) (x : OD) (lo : List Value) (tm : T Value) : oExt i x lo tm = vTup (rdO x lo tm) (part1 i) none := rfl
theorem z_p20 (a b : Value) : part1 0 [a, b] = some a := rfl
theorem z_p21 (a b : Value) : part1 1 [a, b] = some b := rfl
/-- words with blanks between them -/
noncomputable def joinS : List (List UInt8) → List UInt8
  | [] => []
  | [x] => x
  | x :: r => x ++ 32 :: joinS r
noncomputable def strs (l : List (List UInt8)) : List Value := l.map fun x => Value.string (mkS x)
/-- a row of strings -/
def Strs (h : Hp) (b : Nat) (l : List (List UInt8)) : Prop := ∃ c m e cl ro, h.at b = some (.row c m e cl ro) ∧ l.length ≤ m ∧ ∀ (j : Nat) (x : List UInt8), l[j]? = some x → c.get (path j) = some (.string (mkS x))
theorem Strs.of {h : Hp} {b : Nat} {l : List (List UInt8)} {n : Nat} {e : TypeId} {cl : Bool} (hn : l.length ≤ n) (hat : h.at b = some (rowL (strs l) n e cl)) : Strs h b l := ⟨_, n, e, cl, false, hat, hn, fun j x hx => rowL_get (by unfold strs; rw [List.getElem?_map, hx]; rfl)⟩
def H41 (call : Call) : Prop := ∀ (H : Hp) (b c : Nat) (l : List (List UInt8)), Strs H b l → 0 < l.length → l.length ≤ 10 → (∀ x ∈ l, x.length ≤ 100) → call 41 [slV b 0 l.length c, .string (mkS [32])] H = .val (.string (mkS (joinS l))) H
def H40 (call : Call) : Prop := ∀ (n : Int) (H : Hp), I64 n → Base H → call 40 [.int .i64 n] H = .val (.string (mkS (Lib.itoa n))) H
inductive It where
  | n (x : Int) | s (l : List UInt8)
noncomputable def It.v : It → Value
  | .n x => .iface 3 (.int .i64 x)
  | .s l => .iface 9 (.string (mkS l))
noncomputable def It.w : It → List UInt8
  | .n x => Lib.itoa x
  | .s l => l
def It.ok : It → Prop
  | .n x => I64 x
  | .s l => l.length ≤ 70
/-- the words so far -/
def WS (lim : Nat) (H : Hp) (v : Value) (ws : List (List UInt8)) : Prop := (ws = [] ∧ v = .slice none 0 0) ∨ (0 < ws.length ∧ ∃ b, lim ≤ b ∧ v = slV b 0 ws.length (openC 1 ws.length) ∧ H.at b = some (rowL (strs ws) ws.length 9 false))
theorem app_str {lim : Nat} {H : Hp} {v : Value} {ws : List (List UInt8)} {w : List UInt8} {y : Nat} {xo yo : OD} {lo : List Value} {tm : T Value} {call : Call} (hw : Wf H) (hb : H.base ≤ lim) (hlim : lim ≤ H.next) (hn : ws.length < 100) (hv : WS lim H v ws) (hx : rdO xo lo tm = v) (hy : rdO yo lo tm = slV y 0 1 1) (hat : H.at y = some (rowL [.string (mkS w)] 1 9 true)) :
    ∃ v' H', oApp 9 1 xo yo call lo tm H = .val v' H' ∧ WS lim H' v' (ws ++ [w]) ∧ Wf H' ∧ Keeps lim H H' := by
  have hc : cellsOf H y 0 1 = some [.string (mkS w)] := cellsOf_rowL hat rfl (Nat.le_refl _)
  rcases hv with ⟨rfl, rfl⟩ | ⟨h0, b, hlb, rfl, hatb⟩
  · refine ⟨slV H.next 0 1 (openC 1 1), H.new (rowL [.string (mkS w)] 1 9 false), ?_, .inr ⟨by simp, H.next, hlim, rfl, ?_⟩, hw.new _, Keeps.new _ hlim⟩
    · unfold oApp
      rw [hy]
      show (bif Nat.beq 1 0 then vSl (rdO xo lo tm) (appS 9 1 H 0 []) (appN 9 1 H 0 []) .none else oEl (cellsOf H y 0 1) (fun new => vSl (rdO xo lo tm) (appS 9 1 H 1 new) (appN 9 1 H 1 new) .none) .none) = _
      rw [hc]
      show vSl (rdO xo lo tm) (appS 9 1 H 1 [.string (mkS w)]) (appN 9 1 H 1 [.string (mkS w)]) .none = _
      rw [hx]
      show opened 9 1 [.string (mkS w)] 1 H = _
      unfold opened
      rw [newRowK_eq, forceNat_eq]; rfl
    · rw [z_at_new, if_pos rfl]; rfl
  · have hold : cellsOf H b 0 (ws.length * 1) = some (strs ws) := cellsOf_rowL hatb (by unfold strs; simp) (by unfold strs; simp)
    obtain ⟨s1, s2, s3⟩ := z_openS 1 ws.length (by unfold OPEN; omega)
    have hbn := hw.lt hatb
    refine ⟨slV H.next 0 (ws.length + 1) (openC 1 (ws.length + 1)), (H.put b none).new (rowL (strs (ws ++ [w])) (ws.length + 1) 9 false), ?_, .inr ⟨by simp, H.next, hlim, by simp, ?_⟩, (hw.put1 hbn _).new _, ?_⟩
    · unfold oApp
      rw [hy]
      show (bif Nat.beq 1 0 then vSl (rdO xo lo tm) (appS 9 1 H 0 []) (appN 9 1 H 0 []) .none else oEl (cellsOf H y 0 1) (fun new => vSl (rdO xo lo tm) (appS 9 1 H 1 new) (appN 9 1 H 1 new) .none) .none) = _
      rw [hc]
      show vSl (rdO xo lo tm) (appS 9 1 H 1 [.string (mkS w)]) (appN 9 1 H 1 [.string (mkS w)]) .none = _
      rw [hx, z_vSlV]
      unfold appS
      rw [forceNat_eq]
      show (bif Nat.ble (ws.length + 1) (sure (openC 1 ws.length)) then _ else _) = _
      rw [s1, z_bleF (by omega), cond_false, z_ble (by show ws.length + 1 ≤ 16777216; omega), cond_true]
      have hb0 : Nat.beq ws.length 0 = false := by
        cases e : Nat.beq ws.length 0 with
        | false => rfl
        | true => have := Nat.eq_of_beq_eq_true e; omega
      rw [hb0, cond_false]
      show oEl (cellsOf H b 0 (ws.length * 1)) _ Res.none = _
      rw [hold]
      show (bif isOpen (openC 1 ws.length) then _ else _) = _
      rw [s2, cond_true]
      unfold rowK
      show oEl (H.at b) _ Res.none = _
      rw [hatb]
      show (bif false then Res.none else bif Nat.beq 9 9 && Nat.beq (esz (openC 1 ws.length)) (Nat.succ 1) && allOne [.string (mkS w)] then _ else _) = _
      rw [s3]
      show (H.putK b (Option.none : Option AObj) fun h => opened 9 1 (strs ws ++ [Value.string (mkS w)]) (ws.length + 1) h) = _
      rw [Hp.putK_eq]
      unfold opened
      rw [newRowK_eq, forceNat_eq, len_eq]
      have e : strs (ws ++ [w]) = strs ws ++ [.string (mkS w)] := by unfold strs; rw [List.map_append]; rfl
      have e2 : (strs ws ++ [Value.string (mkS w)]).length = ws.length + 1 := by unfold strs; simp
      rw [e, e2]; rfl
    · rw [z_at_new, z_put_next, if_pos rfl]
      congr 2
      simp
    · refine ⟨?_, ?_, ?_, fun c hc => ?_⟩
      · rw [z_new_base, z_put_base]
      · rw [z_new_log, z_put_log (by omega)]
      · rw [z_new_next, z_put_next]; omega
      · rw [z_at_new, z_put_next, if_neg (by omega), z_at_put, if_neg (by omega)]

noncomputable def appW (e : TypeId) (s : Nat) (x y : Value) (h : Hp) : Res := oApp e s (.val x) (.val y) (fun _ _ _ => .none) [] .nil h
theorem z_appW (e : TypeId) (s : Nat) (x y : OD) (call : Call) (lo : List Value) (tm : T Value) (h : Hp) : oApp e s x y call lo tm h = appW e s (rdO x lo tm) (rdO y lo tm) h := rfl
/-- what stands while the words are gathered -/
structure LX (its : List It) (a : Value) (h : Hp) (i : Nat) (tm : T Value) (df : Df) (H : Hp) : Prop where
  df : df = []
  t8 : tm.get [false, true, true] = some a
  t9 : tm.get [true, false, true] = some (.int .i64 (.ofNat its.length))
  t10 : tm.get [false, false, true] = some (.int .i64 (.ofNat i))
  wf : Wf H
  kp : Keeps h.next h H
  ws : ∃ v, tm.get [true, true] = some v ∧ WS h.next H v ((its.take i).map It.w)
def LXE (its : List It) (h : Hp) (x : Ex) (e : Ex) (tm : T Value) (df : Df) (H : Hp) : Prop := e = x ∧ df = [] ∧ Wf H ∧ Keeps h.next h H ∧ ∃ v, tm.get [true, true] = some v ∧ WS h.next H v (its.map It.w)
theorem It.step {its : List It} {i : Nat} {x : It} (hx : its[i]? = some x) : (its.take (i + 1)).map It.w = (its.take i).map It.w ++ [x.w] := by
  rw [take_step hx, List.map_append]; rfl
theorem joinS_len {l : List (List UInt8)} (h : ∀ x ∈ l, x.length ≤ 100) : (joinS l).length ≤ 101 * l.length := by
  induction l with
  | nil => simp [joinS]
  | cons x l ih =>
    have h1 := h x (by simp)
    have h2 := ih fun y hy => h y (by simp [hy])
    cases l with
    | nil => simp [joinS]; omega
    | cons y r => simp [joinS] at *; omega
theorem It.wlen {x : It} (h : x.ok) : x.w.length ≤ 100 := by
  cases x with
  | n x => have := itoa_len h.1 h.2; show (Lib.itoa x).length ≤ 100; omega
  | s l => show l.length ≤ 100; have : l.length ≤ 70 := h; omega
theorem line_run {call : Call} {cd : CallD} {h : Hp} {ab ac : Nat} {its : List It} (hw : Wf h) (hB : Base h) (h40 : H40 call) (h41 : H41 call) (hok : ∀ x ∈ its, x.ok) (h0 : 0 < its.length) (hn : its.length ≤ 8)
    (hat : h.at ab = some (rowL (its.map It.v) its.length 20 true)) :
    Yields (runF cf18 call cd [slV ab 0 its.length ac] h) (QuietR (.string (mkS (joinS (its.map It.w) ++ [10]))) h) := by
  refine runF_yields rfl ?_
  simp only [↓evD, evD, evU, evF, reduceCtorEq, evB]
  have hab := hw.lt hat
  refine After.exK (φ := LXE its h .normal) (After.exK (φ := LXE its h (.exit 0)) ?_ ?_) ?_
  · refine loop_for (n := its.length) (by omega) (LX its (slV ab 0 its.length ac) h) ?_ ?_ ?_
    · intro i tm df H hi p
      obtain ⟨rfl, t8, t9, t10, wf, kp, v, t3, hws⟩ := p
      obtain ⟨x, hx, hd⟩ := drop_at hi
      have hxo := hok x (List.mem_of_getElem? hx)
      have hatH : H.at ab = some (rowL (its.map It.v) its.length 20 true) := by rw [kp.at_ ab hab]; exact hat
      have hg : (storeL (its.map It.v) 0 .nil fun t => t).get (path (0 + i * 1)) = some x.v := by
        rw [show 0 + i * 1 = i by omega]
        exact rowL_get (by rw [List.getElem?_map, hx]; rfl)
      have e1 := z_blt hi
      have e2 : Nat.blt (0 + i * 1) its.length = true := z_blt (by omega)
      have e3 : fwrap .i64 (.ofNat (i + 1)) = .ofNat (i + 1) := z_wrapN (by omega)
      have hb9 : Nat.beq 9 3 = false := rfl
      have b11 : Nat.ble 1 1 = true := rfl
      obtain ⟨v', H', hap, hws', hwf', hkp'⟩ := app_str (lim := h.next) (ws := (its.take i).map It.w) (xo := .val v) (yo := .val (slV H.next 0 1 1)) (lo := []) (tm := .nil) (call := fun _ _ _ => .none) (w := x.w) (y := H.next) (wf.new (rowL [.string (mkS x.w)] 1 9 true)) (by rw [z_new_base, kp.base]; exact hw.base) (by rw [z_new_next]; have := kp.next; omega) (by simp; omega)
        (by
          rcases hws with hh | ⟨q0, b, q1, q2, q3⟩
          · exact .inl hh
          · exact .inr ⟨q0, b, q1, q2, by rw [z_at_new, if_neg (by have := wf.lt q3; omega)]; exact q3⟩) rfl rfl (by rw [z_at_new, if_pos rfl])
      change appW 9 1 v (slV H.next 0 1 1) (H.new (rowL [.string (mkS x.w)] 1 9 true)) = .val v' H' at hap
      have hkk : Keeps h.next h H' := kp.trans ((Keeps.new _ kp.next).trans hkp')
      cases x with
      | n x =>
        change appW 9 1 v (slV H.next 0 1 1) (H.new (rowL [.string (mkS (Lib.itoa x))] 1 9 true)) = .val v' H' at hap
        have c1 := h40 x H hxo (hB.keep kp hB.next)
        have hv : (It.n x).v = .iface 3 (.int .i64 x) := rfl
        rw [hv] at hg
        simp only [↓evD, evD, evU, evF, reduceCtorEq, evB, Nat.reduceAdd, Nat.reduceLT, Nat.reduceMul, Nat.reduceSub, cf18_l0, z_tAs, z_vIface, z_ext, z_p20, z_p21, z_appW, t8, t9, t10, t3, hatH, hg, e1, e2, e3, c1, b11, hap]
        exact .go ⟨rfl, by simp [T.get_set, t8], by simp [T.get_set, t9], by simp [T.get_set], hwf', hkk, v', by simp [T.get_set], by rw [It.step hx]; exact hws'⟩
      | s l =>
        change appW 9 1 v (slV H.next 0 1 1) (H.new (rowL [.string (mkS l)] 1 9 true)) = .val v' H' at hap
        have hv : (It.s l).v = .iface 9 (.string (mkS l)) := rfl
        rw [hv] at hg
        simp only [↓evD, evD, evU, evF, reduceCtorEq, evB, Nat.reduceAdd, Nat.reduceLT, Nat.reduceMul, Nat.reduceSub, cf18_l0, z_tAs, z_vIface, z_ext, z_p20, z_p21, z_appW, t8, t9, t10, t3, hatH, hg, e1, e2, e3, hb9, b11, hap]
        exact .go ⟨rfl, by simp [T.get_set, t8], by simp [T.get_set, t9], by simp [T.get_set], hwf', hkk, v', by simp [T.get_set], by rw [It.step hx]; exact hws'⟩
    · intro tm df H p
      obtain ⟨rfl, t8, t9, t10, wf, kp, v, t3, hws⟩ := p
      rw [List.take_length] at hws
      have e1 := z_bltF (Nat.le_refl its.length)
      simp only [↓evD, evD, evU, evF, reduceCtorEq, evB, cf18_l0, t8, t9, t10, e1]
      exact .ex ⟨rfl, rfl, wf, kp, v, by simp [T.get_set, t3], hws⟩
    · exact ⟨rfl, by simp [T.get_set, z_st10], by simp [T.get_set], by simp [T.get_set], hw, Keeps.refl _ _, _, by simp [T.get_set], .inl ⟨rfl, rfl⟩⟩
  · rintro e tm df H ⟨rfl, rest⟩; exact ⟨rfl, rest⟩
  · rintro e tm df H ⟨rfl, rfl, wf, kp, v, t3, hws⟩
    rcases hws with ⟨hnil, _⟩ | ⟨q0, b, q1, rfl, q3⟩
    · have := congrArg List.length hnil
      rw [List.length_map] at this
      simp at this
      subst this; simp at h0
    · have hlw : ∀ x ∈ its.map It.w, x.length ≤ 100 := fun x hx => by
        obtain ⟨y, hy, rfl⟩ := List.mem_map.1 hx
        exact It.wlen (hok y hy)
      have c1 := h41 H b (openC 1 (its.map It.w).length) (its.map It.w) (Strs.of (Nat.le_refl _) q3) q0 (by rw [List.length_map]; omega) hlw
      haveI : BL (joinS (its.map It.w)) 1000 := ⟨by have := joinS_len hlw; rw [List.length_map] at this; omega⟩
      simp only [↓evD, evD, evU, evF, reduceCtorEq, evB, Nat.reduceAdd, Nat.reduceLT, Nat.reduceMul, Nat.reduceSub, t3, c1]
      refine .ret ?_
      simp only [↓evD, evD, evU, evF, reduceCtorEq, evB]
      exact ⟨rfl, kp.log⟩
end Abs
end Go
