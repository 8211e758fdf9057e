/-
Symbolic runs: memory that is kept; append; Into.
Conditions: none.
-/
import Derived.Test.YtgamdeginkngaaaGreatDoorRunD
set_option linter.unusedVariables false
set_option linter.unusedSimpArgs false
namespace Go
namespace Abs
/-- nothing lies beyond the first free block -/
structure Wf (h : Hp) : Prop where
  dead : ∀ b, h.next ≤ b → h.at b = none
  base : h.base ≤ h.next
theorem Wf.lt {h : Hp} (hw : Wf h) {b : Nat} {o : AObj} (hb : h.at b = some o) : b < h.next := by
  rcases Nat.lt_or_ge b h.next with h1 | h1
  · exact h1
  · rw [hw.dead b h1] at hb; cases hb
theorem Wf.new {h : Hp} (hw : Wf h) (o : AObj) : Wf (h.new o) := ⟨fun b hb => by
  rw [z_new_next] at hb
  rw [z_at_new, if_neg (by omega)]
  exact hw.dead b (by omega), by rw [z_new_base, z_new_next]; have := hw.base; omega⟩
theorem Wf.sb {h : Hp} (hw : Wf h) (l : List Nat) : Wf (setBase h h.next l) := ⟨hw.dead, Nat.le_refl _⟩
/-- what lies below a place is kept, and nothing there is touched -/
structure Keeps (lim : Nat) (h H : Hp) : Prop where
  base : H.base = h.base
  log : H.log = h.log
  next : h.next ≤ H.next
  at_ : ∀ b, b < lim → H.at b = h.at b
theorem Keeps.refl (lim : Nat) (h : Hp) : Keeps lim h h := ⟨rfl, rfl, Nat.le_refl _, fun _ _ => rfl⟩
theorem Keeps.trans {lim : Nat} {a b c : Hp} (x : Keeps lim a b) (y : Keeps lim b c) : Keeps lim a c :=
  ⟨y.base.trans x.base, y.log.trans x.log, Nat.le_trans x.next y.next, fun k hk => (y.at_ k hk).trans (x.at_ k hk)⟩
theorem Keeps.less {lim lim' : Nat} {a b : Hp} (x : Keeps lim a b) (h : lim' ≤ lim) : Keeps lim' a b := ⟨x.base, x.log, x.next, fun k hk => x.at_ k (by omega)⟩
theorem Keeps.new {lim : Nat} {h : Hp} (o : AObj) (hl : lim ≤ h.next) : Keeps lim h (h.new o) := ⟨rfl, rfl, by rw [z_new_next]; omega, fun b hb => by rw [z_at_new, if_neg (by omega)]⟩
theorem Pairs.keep {h H : Hp} {b : Nat} {l : List (ByteArray × ByteArray)} (hp : Pairs h b l) (e : H.at b = h.at b) : Pairs H b l := by
  obtain ⟨c, m, e', cl, ro, hat, h2, h3⟩ := hp
  exact ⟨c, m, e', cl, ro, by rw [e]; exact hat, h2, h3⟩
theorem Pairs.lt {h : Hp} {b : Nat} {l : List (ByteArray × ByteArray)} (hw : Wf h) (hp : Pairs h b l) : b < h.next := by
  obtain ⟨c, m, e', cl, ro, hat, _⟩ := hp
  exact hw.lt hat
theorem SlP.keep {h H : Hp} {v : Value} {l : List (ByteArray × ByteArray)} {lim : Nat} (hw : Wf h) (hv : SlP h v l) (hk : Keeps lim h H) (hl : h.next ≤ lim) : SlP H v l := by
  rcases hv with h1 | ⟨b, c, h1, h2⟩
  · exact .inl h1
  · exact .inr ⟨b, c, h1, h2.keep (hk.at_ b (by have := h2.lt hw; omega))⟩
noncomputable def appV (e : TypeId) (s : Nat) (x y : Value) (h : Hp) : Res := srcK h s y (fun n new => vSl x (appS e s h n new) (appN e s h n new) .none) .none
theorem z_app (e : TypeId) (s : Nat) (x y : OD) (call : Call) (lo : List Value) (tm : T Value) (h : Hp) : oApp e s x y call lo tm h = appV e s (rdO x lo tm) (rdO y lo tm) h := rfl
/-- a slice that the call itself fills -/
def OutV (lim : Nat) (h : Hp) (v : Value) (o : List (ByteArray × ByteArray)) : Prop :=
  (o = [] ∧ ((∃ b, v = slV b 0 0 0) ∨ v = .slice none 0 0)) ∨ ∃ b, v = slV b 0 o.length (openC 2 o.length) ∧ 0 < o.length ∧ OwnP h b o ∧ lim ≤ b
theorem OutV.keep {lim lim' : Nat} {h H : Hp} {v : Value} {o : List (ByteArray × ByteArray)} (hw : Wf h) (hv : OutV lim h v o) (hk : Keeps lim' h H) (hl : h.next ≤ lim') : OutV lim H v o := by
  rcases hv with h1 | ⟨b, h1, h2, h3, h4⟩
  · exact .inl h1
  · refine .inr ⟨b, h1, h2, ?_, h4⟩
    unfold OwnP at h3 ⊢
    rw [hk.at_ b (by have := hw.lt h3; omega)]
    exact h3
theorem OutV.slP {lim : Nat} {h : Hp} {v : Value} {o : List (ByteArray × ByteArray)} (hv : OutV lim h v o) : SlP h v o ∨ (o = [] ∧ ∃ b, v = slV b 0 0 0) := by
  rcases hv with ⟨h1, h2 | h2⟩ | ⟨b, h1, h2, h3, h4⟩
  · exact .inr ⟨h1, h2⟩
  · exact .inl (.inl ⟨h2, h1⟩)
  · exact .inl (.inr ⟨b, _, h1, h3.pairs⟩)
theorem append_ok {lim : Nat} {H : Hp} {v : Value} {o : List (ByteArray × ByteArray)} (p q : ByteArray) (hw : Wf H) (hl : lim ≤ H.next) (hbl : H.base ≤ lim) (ho : OutV lim H v o) (hlen : o.length < 1000) :
    ∃ v' H', appV 62 2 v (slV H.next 0 1 1) (H.new (rowL [.string p, .string q] 2 62 true)) = .val v' H' ∧ OutV lim H' v' (o ++ [(p, q)]) ∧ Wf H' ∧ Keeps lim H H' := by
  have hat : (H.new (rowL [Value.string p, .string q] 2 62 true)).at H.next = some (rowL [.string p, .string q] 2 62 true) := by rw [z_at_new, if_pos rfl]
  rcases ho with ⟨rfl, h2⟩ | ⟨b, rfl, h2, h3, h4⟩
  · refine ⟨_, _, app_first (xo := .val v) (yo := .val (slV H.next 0 1 1)) (lo := []) (tm := .nil) (call := fun _ _ _ => .none) (b := (match v with | .slice (some a) _ _ => a.block | _ => 0)) ?_ rfl hat, ?_, ?_, ?_⟩
    · rcases h2 with ⟨b, rfl⟩ | rfl
      · exact .inl rfl
      · exact .inr rfl
    · refine .inr ⟨_, rfl, by simp, ?_, ?_⟩
      · unfold OwnP
        rw [z_at_new, if_pos rfl]; rfl
      · rw [z_new_next]; omega
    · exact (hw.new _).new _
    · exact (Keeps.new _ hl).trans (Keeps.new _ (by rw [z_new_next]; omega))
  · have h3' : OwnP (H.new (rowL [Value.string p, .string q] 2 62 true)) b o := by
      unfold OwnP at h3 ⊢
      rw [z_at_new, if_neg (by have := hw.lt h3; omega)]
      exact h3
    have hlt := hw.lt h3
    refine ⟨_, _, app_more (xo := .val (slV b 0 o.length (openC 2 o.length))) (yo := .val (slV H.next 0 1 1)) (lo := []) (tm := .nil) (call := fun _ _ _ => .none) h2 (by omega) rfl rfl hat h3', ?_, ?_, ?_⟩
    · refine .inr ⟨_, by rw [List.length_append]; rfl, by simp, ?_, ?_⟩
      · unfold OwnP
        rw [z_at_new]; exact if_pos rfl
      · rw [z_new_next]; omega
    · refine Wf.new ⟨fun c hc => ?_, ?_⟩ _
      · rw [z_put_next, z_new_next] at hc
        rw [z_at_put]
        by_cases e : b = c
        · rw [if_pos e]
        · rw [if_neg e, z_at_new, if_neg (by omega)]
          exact hw.dead c (by omega)
      · rw [z_put_base, z_put_next]; exact (hw.new _).base
    · have k1 : Keeps lim H (H.new (rowL [Value.string p, .string q] 2 62 true)) := Keeps.new _ hl
      have k2 : Keeps lim (H.new (rowL [Value.string p, .string q] 2 62 true)) ((H.new (rowL [Value.string p, .string q] 2 62 true)).put b none) := ⟨rfl, z_put_log (by rw [z_new_base]; omega), Nat.le_refl _, fun c hc => by rw [z_at_put, if_neg (by omega)]⟩
      exact (k1.trans k2).trans (Keeps.new _ (by rw [z_put_next, z_new_next]; omega))
/- ===== Into ===== -/
noncomputable def intoGo (v : ByteArray × ByteArray) : List (ByteArray × ByteArray) → Bool → List (ByteArray × ByteArray) → List (ByteArray × ByteArray)
  | [], done, out => if done = true then out else out ++ [v]
  | x :: r, done, out => if (!done && lLt (bl v.1) (bl x.1)) = true then intoGo v r true (out ++ [v] ++ [x]) else intoGo v r done (out ++ [x])
theorem intoGo_cons (v x : ByteArray × ByteArray) (r : List (ByteArray × ByteArray)) (done : Bool) (out : List (ByteArray × ByteArray)) : intoGo v (x :: r) done out = if (!done && lLt (bl v.1) (bl x.1)) = true then intoGo v r true (out ++ [v] ++ [x]) else intoGo v r done (out ++ [x]) := rfl
def IntoI (l : List (ByteArray × ByteArray)) (p q : ByteArray) (vl : Value) (h : Hp) (i : Nat) (tm : T Value) (df : Df) (H : Hp) : Prop :=
  ∃ (out : List (ByteArray × ByteArray)) (done : Bool) (vo : Value), df = [] ∧ tm.get [] = some vl ∧ tm.get [false, false] = some (.bool done) ∧ tm.get [true, true] = some (ptrV h.next 0) ∧ tm.get [true, false] = some vo ∧ tm.get [true, true, true] = some (.int .i64 (.ofNat i)) ∧
    OutV (h.next + 1) H vo out ∧ Wf H ∧ Keeps (h.next + 1) (h.new (rowL [.string p, .string q] 2 62 true)) H ∧ out.length ≤ 2 * i ∧ intoGo (p, q) l (lEq (bl p) []) [] = intoGo (p, q) (l.drop i) done out
def IntoE (l : List (ByteArray × ByteArray)) (p q : ByteArray) (h : Hp) (x : Ex) (e : Ex) (tm : T Value) (df : Df) (H : Hp) : Prop :=
  e = x ∧ ∃ (out : List (ByteArray × ByteArray)) (done : Bool) (vo : Value), df = [] ∧ tm.get [false, false] = some (.bool done) ∧ tm.get [true, true] = some (ptrV h.next 0) ∧ tm.get [true, false] = some vo ∧
    OutV (h.next + 1) H vo out ∧ Wf H ∧ Keeps (h.next + 1) (h.new (rowL [.string p, .string q] 2 62 true)) H ∧ out.length ≤ 2 * l.length ∧ intoGo (p, q) l (lEq (bl p) []) [] = (if done = true then out else out ++ [(p, q)])
def IntoR (l : List (ByteArray × ByteArray)) (p q : ByteArray) (h : Hp) (v : Value) (H : Hp) : Prop :=
  ∃ out, out = intoGo (p, q) l (lEq (bl p) []) [] ∧ OutV (h.next + 1) H v out ∧ Wf H ∧ Keeps h.next h H
theorem into_run {call : Call} {cd : CallD} {h : Hp} {vl : Value} {l : List (ByteArray × ByteArray)} {p q : ByteArray} (hw : Wf h) (hv : SlP h vl l) (hn : l.length < 400) :
    Yields (runF cf17 call cd [vl, .agg ⟨[.string p, .string q]⟩] h) (IntoR l p q h) := by
  refine runF_yields rfl ?_
  have hlen := hv.len
  have hb1 : Nat.blt (0 + 0) 2 = true := rfl
  have hb2 : Nat.ble (0 + 2) 2 = true := rfl
  have hbox : ∀ H : Hp, Keeps (h.next + 1) (h.new (rowL [.string p, .string q] 2 62 true)) H → H.at h.next = some (rowL [.string p, .string q] 2 62 true) := fun H hk => by rw [hk.at_ h.next (by omega), z_at_new, if_pos rfl]
  have hg0 : (storeL [Value.string p, .string q] 0 .nil fun t => t).get (path (0 + 0)) = some (.string p) := rfl
  have hg1 : (storeL [Value.string p, .string q] 0 .nil fun t => t).get (path (0 + 1)) = some (.string q) := rfl
  have hlen2 : [Value.string p, .string q].length = 2 := rfl
  have hlen0 : ([] : List Value).length = 0 := rfl
  simp only [↓evD, evD, evU, evF, reduceCtorEq, evB, hg0, hb1, hlen2, hlen0]
  have hsb : setBase ((h.new (rowL [Value.string p, .string q] 2 62 true)).new (rowL [] 0 62 true)) h.base h.log = (h.new (rowL [Value.string p, .string q] 2 62 true)).new (rowL [] 0 62 true) := rfl
  rw [hsb]
  have hbase : ∀ H : Hp, Keeps (h.next + 1) (h.new (rowL [.string p, .string q] 2 62 true)) H → H.base ≤ h.next + 1 := fun H hk => by rw [hk.base, z_new_base]; have := hw.base; omega
  have hnext : ∀ H : Hp, Keeps (h.next + 1) (h.new (rowL [.string p, .string q] 2 62 true)) H → h.next + 1 ≤ H.next := fun H hk => hk.next
  refine After.exK (φ := IntoE l p q h .normal) (After.exK (φ := IntoE l p q h (.exit 0)) ?_ ?_) ?_
  · refine loop_for (n := l.length) (by omega) (IntoI l p q vl h) ?_ ?_ ?_
    · intro i tm df H hi ⟨out, done, vo, e2, h0, h6, h3, h5, h7, ho, hwf, hk, hol, hf⟩
      subst e2
      obtain ⟨x, hx, hd⟩ := drop_at hi
      obtain ⟨b, c, rfl, hp⟩ := hv.pos hi
      have hblt := hp.lt hw
      obtain ⟨cc, m, e, cl, ro, hat, hm, hc⟩ := hp
      have hatH : ∀ H' : Hp, Keeps (h.next + 1) (h.new (rowL [.string p, .string q] 2 62 true)) H' → H'.at b = some (.row cc m e cl ro) := fun H' hk => by rw [hk.at_ b (by omega), z_at_new, if_neg (by omega)]; exact hat
      obtain ⟨hc0, hc1⟩ := hc i x hx
      have e1 := z_blt hi
      have e2 : Nat.blt (0 + i * 2 + 0) m = true := z_blt (by omega)
      have e2' : Nat.ble (0 + i * 2 + 2) m = true := z_ble (by omega)
      have e3 : fwrap .i64 (.ofNat (i + 1)) = .ofNat (i + 1) := z_wrapN (by omega)
      have e4 : cc.get (path (0 + i * 2 + 0)) = some (.string x.1) := by rw [← hc0]; congr 2; omega
      have e5 : cc.get (path (0 + i * 2 + 1)) = some (.string x.2) := by rw [← hc1]; congr 2; omega
      have hatb := hatH H hk
      have hatx := hbox H hk
      have hb3 : Nat.beq 2 2 = true := rfl
      have hb4 : Nat.ble (0 + 2) 2 = true := rfl
      have hlen3 : [Value.string (mkS []), Value.string (mkS [])].length = 2 := rfl
      rw [hd, intoGo_cons] at hf
      cases hq : (!done && lLt (bl p) (bl x.1)) with
      | true =>
        rw [hq, if_pos rfl] at hf
        rw [Bool.and_eq_true] at hq
        have hdone : done = false := by simpa using hq.1
        subst hdone
        have hlt := hq.2
        obtain ⟨v1, H1, ha1, ho1, hw1, hk1⟩ := append_ok p q hwf (hnext H hk) (hbase H hk) ho (by omega)
        have hk1' := hk.trans hk1
        obtain ⟨v2, H2, ha2, ho2, hw2, hk2⟩ := append_ok x.1 x.2 hw1 (hnext H1 hk1') (hbase H1 hk1') ho1 (by simp; omega)
        have hatb1 := hatH H1 hk1'
        simp only [↓evD, evD, evU, evF, reduceCtorEq, evB, cf17_l0, h0, h3, h5, h6, h7, hatb, hatx, e1, e2, e2', e3, e4, e5, hlt, hb1, hb2, hg0, hg1, hlen2, hlen3, hb3, z_app, ha1, ha2, hatb1]
        exact .go ⟨_, true, v2, rfl, by simp [T.get_set, h0], by simp [T.get_set], by simp [T.get_set, h3], by simp [T.get_set], by simp [T.get_set], ho2, hw2, hk1'.trans hk2, by simp; omega, hf⟩
      | false =>
        rw [hq, if_neg (by simp)] at hf
        obtain ⟨v2, H2, ha2, ho2, hw2, hk2⟩ := append_ok x.1 x.2 hwf (hnext H hk) (hbase H hk) ho (by omega)
        cases done with
        | true =>
          simp only [↓evD, evD, evU, evF, reduceCtorEq, evB, cf17_l0, h0, h3, h5, h6, h7, hatb, hatx, e1, e2, e2', e3, e4, e5, hb1, hb2, hg0, hg1, hb3, z_app, ha2]
          exact .go ⟨_, true, v2, rfl, by simp [T.get_set, h0], by simp [T.get_set, h6], by simp [T.get_set, h3], by simp [T.get_set], by simp [T.get_set], ho2, hw2, hk.trans hk2, by simp; omega, hf⟩
        | false =>
          have hlt : lLt (bl p) (bl x.1) = false := by simpa using hq
          simp only [↓evD, evD, evU, evF, reduceCtorEq, evB, cf17_l0, h0, h3, h5, h6, h7, hatb, hatx, e1, e2, e2', e3, e4, e5, hlt, hb1, hb2, hg0, hg1, hb3, z_app, ha2]
          exact .go ⟨_, false, v2, rfl, by simp [T.get_set, h0], by simp [T.get_set, h6], by simp [T.get_set, h3], by simp [T.get_set], by simp [T.get_set], ho2, hw2, hk.trans hk2, by simp; omega, hf⟩
    · intro tm df H ⟨out, done, vo, e2, h0, h6, h3, h5, h7, ho, hwf, hk, hol, hf⟩
      subst e2
      have e1 := z_bltF (Nat.le_refl l.length)
      simp only [↓evD, evD, evU, evF, reduceCtorEq, evB, cf17_l0, h0, h7, hlen, e1]
      exact .ex ⟨rfl, out, done, vo, rfl, by simp [T.get_set, h6], by simp [T.get_set, h3], by simp [T.get_set, h5], ho, hwf, hk, hol, by rw [hf, List.drop_of_length_le (Nat.le_refl _)]; rfl⟩
    · refine ⟨[], lEq (bl p) [], slV (h.next + 1) 0 0 0, rfl, by simp [T.get_set, z_st20], by simp [T.get_set], by simp [T.get_set], by simp [T.get_set], by simp [T.get_set], .inl ⟨rfl, .inl ⟨h.next + 1, rfl⟩⟩, (hw.new _).new _, Keeps.new _ (by rw [z_new_next]; omega), by simp, by simp⟩
  · rintro e tm df H ⟨rfl, out, done, vo, rfl, h6, h3, h5, ho, hwf, hk, hol, hf⟩
    exact ⟨rfl, out, done, vo, rfl, h6, h3, h5, ho, hwf, hk, hol, hf⟩
  · rintro e tm df H ⟨rfl, out, done, vo, rfl, h6, h3, h5, ho, hwf, hk, hol, hf⟩
    have hatx := hbox H hk
    have hkh : Keeps h.next h H := (Keeps.new _ (Nat.le_refl _)).trans (hk.less (by omega))
    cases done with
    | true =>
      simp only [↓evD, evD, evU, evF, reduceCtorEq, evB, h6, h5]
      refine .ret ?_
      simp only [↓evD, evD, evU, evF, reduceCtorEq, evB, h5]
      exact ⟨out, by rw [hf, if_pos rfl], ho, hwf, hkh⟩
    | false =>
      obtain ⟨v2, H2, ha2, ho2, hw2, hk2⟩ := append_ok p q hwf (hnext H hk) (hbase H hk) ho (by omega)
      simp only [↓evD, evD, evU, evF, reduceCtorEq, evB, h6, h5, h3, hatx, hb1, hb2, hg0, hg1, z_app, ha2]
      refine .ret ?_
      simp only [↓evD, evD, evU, evF, reduceCtorEq, evB]
      exact ⟨_, by rw [hf, if_neg (by simp)], ho2, hw2, hkh.trans (hk2.less (by omega))⟩
end Abs
end Go
