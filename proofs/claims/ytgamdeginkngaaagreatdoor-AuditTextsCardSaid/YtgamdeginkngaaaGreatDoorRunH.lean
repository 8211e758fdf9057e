/-
Symbolic runs: R23.Valid.
Conditions: none.
-/
import Derived.Test.YtgamdeginkngaaaGreatDoorRunG
set_option linter.unusedVariables false
set_option linter.unusedSimpArgs false
namespace Go
namespace Abs
/-- a value of the table -/
def Tab (x : ByteArray × ByteArray) : Prop := ∃ n m, x = (callS n, valS m)
structure ValidS (ver : Nat) (s k : List (ByteArray × ByteArray)) : Prop where
  ver : ver ≤ 60000
  vals : s.length ≤ 8
  kept : k.length ≤ 4
  tab : ∀ x ∈ s, Tab x
  ord : ∀ (i : Nat) (x y : ByteArray × ByteArray), s[i]? = some x → s[i + 1]? = some y → lLt (bl x.1) (bl y.1) = true
  ktab : ∀ x ∈ k, x = (mkS [], mkS []) ∨ Tab x
def VI (i : Nat) (p : List Bool) (a b : Nat) (H : Hp) (tm : T Value) (df : Df) (H' : Hp) : Prop := H' = H ∧ df = [] ∧ tm.get [true] = some (ptrV b 0) ∧ tm.get p = some (.int .i64 (.ofNat i))
def VE (b : Nat) (H : Hp) (x : Ex) (e : Ex) (tm : T Value) (df : Df) (H' : Hp) : Prop := e = x ∧ H' = H ∧ df = [] ∧ tm.get [true] = some (ptrV b 0)
theorem valid_loop1 {call : Call} {H : Hp} {b ver : Nat} {vo ko : Value} {s k : List (ByteArray × ByteArray)} (hv : SlP H vo s) (hbox : H.at b = some (rowL [.int .i64 (.ofNat ver), vo, ko] 3 34 true)) (hs : ValidS ver s k)
    (hcall79 : ∀ x H, Tab x → call 79 [.agg ⟨[.string x.1, .string x.2]⟩] H = .val (.bool true) H)
    {tm : T Value} {df : Df} (h0 : VI 0 [true, true] 0 b H tm df H) : After (exC (.loop cf48_l1) call tm df H) (VE b H (.exit 0)) := by
  have hlen := hv.len
  have hb1 : Nat.blt (0 + 1) 3 = true := rfl
  have hg1 : (storeL [Value.int .i64 (.ofNat ver), vo, ko] 0 .nil fun t => t).get (path (0 + 1)) = some vo := rfl
  refine loop_for (n := s.length) (by have := hs.vals; omega) (fun i tm df H' => VI i [true, true] 0 b H tm df H') ?_ ?_ h0
  · intro i tm df H' hi ⟨e1, e2, h1, h3⟩
    subst e1; subst e2
    obtain ⟨x, hx, hd⟩ := drop_at hi
    obtain ⟨bb, c, rfl, cc, m, e, cl, ro, hat, hm, hc⟩ := hv.pos hi
    obtain ⟨hc0, hc1⟩ := hc i x hx
    have ht := hcall79 x (setBase H' H'.next []) (hs.tab x (List.mem_of_getElem? hx))
    have e1 := z_blt hi
    have e2 : Nat.ble (0 + i * 2 + 2) m = true := z_ble (by omega)
    have e2' : Nat.blt (0 + i * 2 + 0) m = true := z_blt (by omega)
    have e3 : fwrap .i64 (.ofNat (i + 1)) = .ofNat (i + 1) := z_wrapN (by have := hs.vals; omega)
    have e4 : cc.get (path (0 + i * 2 + 0)) = some (.string x.1) := by rw [← hc0]; congr 2; omega
    have e5 : cc.get (path (0 + i * 2 + 1)) = some (.string x.2) := by rw [← hc1]; congr 2; omega
    have e4' : cc.get (path (0 + i * 2)) = some (.string x.1) := by rw [← hc0]; congr 2; omega
    cases i with
    | zero =>
      have e6 : Nat.blt 0 0 = false := rfl
      simp only [↓evD, evD, evU, evF, reduceCtorEq, evB, cf48_l1, h1, h3, hbox, hb1, hg1, hlen, e1, hat, e2, e4, e5, ht, e6, e3]
      exact .go ⟨rfl, rfl, by simp [T.get_set, h1], by simp [T.get_set]⟩
    | succ j =>
      have e6 : Nat.blt 0 (j + 1) = true := z_blt (by omega)
      obtain ⟨y, hy, _⟩ := drop_at (l := s) (i := j) (by omega)
      have hlt := hs.ord j y x hy hx
      obtain ⟨hd0, hd1⟩ := hc j y hy
      have e7 : fwrap .i64 (.ofNat (j + 1) - .ofNat 1) = .ofNat j := by
        have : (Int.ofNat (j + 1) - Int.ofNat 1 : Int) = Int.ofNat j := by simp
        rw [this]; exact z_wrapN (by have := hs.vals; omega)
      have e8 : Nat.blt j s.length = true := z_blt (by omega)
      have e9 : Nat.blt (0 + j * 2 + 0) m = true := z_blt (by omega)
      have e10 : cc.get (path (0 + j * 2 + 0)) = some (.string y.1) := by rw [← hd0]; congr 2; omega
      simp only [↓evD, evD, evU, evF, reduceCtorEq, evB, z_sub, cf48_l1, h1, h3, hbox, hb1, hg1, hlen, e1, hat, e2, e2', e4, e5, ht, e6, e3, e7, e8, e9, e10, hlt]
      exact .go ⟨rfl, rfl, by simp [T.get_set, h1], by simp [T.get_set]⟩
  · intro tm df H' ⟨e1, e2, h1, h3⟩
    subst e1; subst e2
    have e1 := z_bltF (Nat.le_refl s.length)
    simp only [↓evD, evD, evU, evF, reduceCtorEq, evB, cf48_l1, h1, h3, hbox, hb1, hg1, hlen, e1]
    exact .ex ⟨rfl, rfl, rfl, by simp [T.get_set, h1]⟩
theorem valid_loop2 {call : Call} {H : Hp} {b ver : Nat} {vo ko : Value} {s k : List (ByteArray × ByteArray)} (hv : SlP H ko k) (hbox : H.at b = some (rowL [.int .i64 (.ofNat ver), vo, ko] 3 34 true)) (hs : ValidS ver s k)
    (hcall79 : ∀ x H, Tab x → call 79 [.agg ⟨[.string x.1, .string x.2]⟩] H = .val (.bool true) H)
    {tm : T Value} {df : Df} (h0 : VI 0 [false, true] 0 b H tm df H) : After (exC (.loop cf48_l0) call tm df H) (VE b H (.exit 2)) := by
  have hlen := hv.len
  have hb1 : Nat.blt (0 + 2) 3 = true := rfl
  have hg1 : (storeL [Value.int .i64 (.ofNat ver), vo, ko] 0 .nil fun t => t).get (path (0 + 2)) = some ko := rfl
  refine loop_for (n := k.length) (by have := hs.kept; omega) (fun i tm df H' => VI i [false, true] 0 b H tm df H') ?_ ?_ h0
  · intro i tm df H' hi ⟨e1, e2, h1, h3⟩
    subst e1; subst e2
    obtain ⟨x, hx, hd⟩ := drop_at hi
    obtain ⟨bb, c, rfl, cc, m, e, cl, ro, hat, hm, hc⟩ := hv.pos hi
    obtain ⟨hc0, hc1⟩ := hc i x hx
    have e1 := z_blt hi
    have e2 : Nat.ble (0 + i * 2 + 2) m = true := z_ble (by omega)
    have e3 : fwrap .i64 (.ofNat (i + 1)) = .ofNat (i + 1) := z_wrapN (by have := hs.kept; omega)
    have e4 : cc.get (path (0 + i * 2 + 0)) = some (.string x.1) := by rw [← hc0]; congr 2; omega
    have e5 : cc.get (path (0 + i * 2 + 1)) = some (.string x.2) := by rw [← hc1]; congr 2; omega
    rcases hs.ktab x (List.mem_of_getElem? hx) with rfl | ht
    · have e6 : (lEq [] [] && lEq [] []) = true := rfl
      simp only [↓evD, evD, evU, evF, reduceCtorEq, evB, cf48_l0, h1, h3, hbox, hb1, hg1, hlen, e1, hat, e2, e4, e5, e6, e3]
      exact .go ⟨rfl, rfl, by simp [T.get_set, h1], by simp [T.get_set]⟩
    · have ht' := hcall79 x H' ht
      have e6 : (lEq (bl x.1) [] && lEq (bl x.2) []) = false := by
        obtain ⟨n, m, rfl⟩ := ht
        rw [show lEq (bl (callS n)) [] = false from callS_ne n]; rfl
      simp only [↓evD, evD, evU, evF, reduceCtorEq, evB, cf48_l0, h1, h3, hbox, hb1, hg1, hlen, e1, hat, e2, e4, e5, e6, e3, ht']
      exact .go ⟨rfl, rfl, by simp [T.get_set, h1], by simp [T.get_set]⟩
  · intro tm df H' ⟨e1, e2, h1, h3⟩
    subst e1; subst e2
    have e1 := z_bltF (Nat.le_refl k.length)
    simp only [↓evD, evD, evU, evF, reduceCtorEq, evB, cf48_l0, h1, h3, hbox, hb1, hg1, hlen, e1]
    exact .ex ⟨rfl, rfl, rfl, by simp [T.get_set, h1]⟩
theorem SlP.new {h : Hp} {v : Value} {l : List (ByteArray × ByteArray)} (hw : Wf h) (hv : SlP h v l) (o : AObj) : SlP (h.new o) v l := hv.keep hw (Keeps.new o (Nat.le_refl _)) (Nat.le_refl _)
theorem valid_run {call : Call} {cd : CallD} {h : Hp} {ver : Nat} {vo ko : Value} {s k : List (ByteArray × ByteArray)} (hw : Wf h) (hv : SlP h vo s) (hk : SlP h ko k) (hs : ValidS ver s k)
    (hcall79 : ∀ x H, Tab x → call 79 [.agg ⟨[.string x.1, .string x.2]⟩] H = .val (.bool true) H)
    (hcall49 : ∀ (a : Nat) (H : Hp), a ≤ 60000 → call 49 [.int .i64 (.ofNat a), .int .i64 (.ofNat 0), .int .i64 (.ofNat 60000)] H = .val (.bool true) H) :
    Yields (runF cf48 call cd [.agg ⟨[.int .i64 (.ofNat ver), vo, ko]⟩] h) (QuietR (.bool true) h) := by
  refine runF_yields rfl ?_
  have hlen := hv.len
  have hlen2 := hk.len
  have hb0 : Nat.blt (0 + 0) 3 = true := rfl
  have hb1 : Nat.blt (0 + 1) 3 = true := rfl
  have hb2 : Nat.blt (0 + 2) 3 = true := rfl
  have hg0 : (storeL [Value.int .i64 (.ofNat ver), vo, ko] 0 .nil fun t => t).get (path (0 + 0)) = some (.int .i64 (.ofNat ver)) := rfl
  have hg1 : (storeL [Value.int .i64 (.ofNat ver), vo, ko] 0 .nil fun t => t).get (path (0 + 1)) = some vo := rfl
  have hg2 : (storeL [Value.int .i64 (.ofNat ver), vo, ko] 0 .nil fun t => t).get (path (0 + 2)) = some ko := rfl
  have c1 : Nat.blt 16 s.length = false := z_bltF (by have := hs.vals; omega)
  have c2 : Nat.blt 16 k.length = false := z_bltF (by have := hs.kept; omega)
  have c3 := hcall49 ver (h.new (rowL [.int .i64 (.ofNat ver), vo, ko] 3 34 true)) hs.ver
  have hbox : (h.new (rowL [Value.int .i64 (.ofNat ver), vo, ko] 3 34 true)).at h.next = some (rowL [.int .i64 (.ofNat ver), vo, ko] 3 34 true) := by rw [z_at_new, if_pos rfl]
  simp only [↓evD, evD, evU, evF, reduceCtorEq, evB, hb0, hb1, hb2, hg0, hg1, hg2, c3, hlen, hlen2, c1, c2]
  refine After.exK (φ := VE h.next (h.new (rowL [.int .i64 (.ofNat ver), vo, ko] 3 34 true)) .normal) (After.exK (φ := VE h.next (h.new (rowL [.int .i64 (.ofNat ver), vo, ko] 3 34 true)) (.exit 0)) ?_ ?_) ?_
  · exact valid_loop1 (hv.new hw _) hbox hs hcall79 ⟨rfl, rfl, by simp [T.get_set], by simp [T.get_set]⟩
  · rintro e tm df H ⟨rfl, rest⟩; exact ⟨rfl, rest⟩
  · rintro e tm df H ⟨rfl, rfl, rfl, h1⟩
    simp only [↓evD, evD, evU, evF, reduceCtorEq, evB]
    refine After.exK (φ := VE h.next (h.new (rowL [.int .i64 (.ofNat ver), vo, ko] 3 34 true)) .normal) (After.exK (φ := VE h.next (h.new (rowL [.int .i64 (.ofNat ver), vo, ko] 3 34 true)) (.exit 2)) ?_ ?_) ?_
    · exact valid_loop2 (hk.new hw _) hbox hs hcall79 ⟨rfl, rfl, by simp [T.get_set, h1], by simp [T.get_set]⟩
    · rintro e tm df H ⟨rfl, rest⟩; exact ⟨rfl, rest⟩
    · rintro e tm df H ⟨rfl, rfl, rfl, h1⟩
      simp only [↓evD, evD, evU, evF, reduceCtorEq, evB]
      refine .ret ?_
      simp only [↓evD, evD, evU, evF, reduceCtorEq, evB]
      exact ⟨rfl, rfl⟩
end Abs
end Go
