/-
Symbolic runs: R23.Print.
Conditions: none.
-/
import Derived.Lib.ItoaNum
import Derived.Test.YtgamdeginkngaaaGreatDoorRunH
set_option linter.unusedVariables false
set_option linter.unusedSimpArgs false
namespace Go
namespace Abs
theorem callS_len (n : Nat) : (bl (callS n)).length ≤ 2 := by
  unfold callS
  rw [bl_mkS]
  have h8 := Nat.mod_lt n (show 8 > 0 by omega)
  generalize n % 8 = k at h8
  match k with
  | 0 => decide | 1 => decide | 2 => decide | 3 => decide | 4 => decide | 5 => decide | 6 => decide | 7 => decide
theorem valS_len (n : Nat) : (bl (valS n)).length ≤ 3 := by
  unfold valS
  rw [bl_mkS]
  have h8 := Nat.mod_lt n (show 4 > 0 by omega)
  generalize n % 4 = k at h8
  match k with
  | 0 => decide | 1 => decide | 2 => decide | 3 => decide
theorem Tab.len1 {x : ByteArray × ByteArray} (h : Tab x) : (bl x.1).length ≤ 2 := by obtain ⟨n, m, rfl⟩ := h; exact callS_len n
theorem Tab.len2 {x : ByteArray × ByteArray} (h : Tab x) : (bl x.2).length ≤ 3 := by obtain ⟨n, m, rfl⟩ := h; exact valS_len m
theorem Tab.ne {x : ByteArray × ByteArray} (h : Tab x) : lEq (bl x.1) [] = false := by obtain ⟨n, m, rfl⟩ := h; exact callS_ne n
noncomputable def valLine (x : ByteArray × ByteArray) : List UInt8 := [118, 97, 108, 32] ++ bl x.1 ++ [32] ++ bl x.2 ++ [10]
noncomputable def keptLine (x : ByteArray × ByteArray) : List UInt8 := if lEq (bl x.1) [] = true then [107, 101, 112, 116, 32, 45, 10] else [107, 101, 112, 116, 32] ++ bl x.1 ++ [32] ++ bl x.2 ++ [10]
noncomputable def head23 (ver : Nat) : List UInt8 := [115, 101, 116, 116, 105, 110, 103, 115, 32] ++ Lib.itoa ver ++ [10]
noncomputable def text23 (ver : Nat) (s k : List (ByteArray × ByteArray)) : List UInt8 := head23 ver ++ s.flatMap valLine ++ k.flatMap keptLine
theorem decDigits_len : ∀ (k u : Nat), u < 10 ^ k → (Lib.decDigits u).length ≤ k + 1 := by
  intro k
  induction k with
  | zero => intro u h; have : u = 0 := by simpa using h
            subst this; rw [Lib.decDigits]; simp
  | succ k ih =>
    intro u h
    rw [Lib.decDigits]
    split
    · simp
    · have := ih (u / 10) (by rw [Nat.pow_succ] at h; omega)
      simp; omega
theorem itoa_len {n : Int} (h0 : -9223372036854775808 ≤ n) (h1 : n ≤ 9223372036854775807) : (Lib.itoa n).length ≤ 30 := by
  unfold Lib.itoa
  split
  · have := decDigits_len 20 n.natAbs (by omega)
    simp; omega
  · have := decDigits_len 20 n.toNat (by omega)
    omega
theorem vlen {s : List (ByteArray × ByteArray)} (h : ∀ x ∈ s, Tab x) : ∀ i, ((s.take i).flatMap valLine).length ≤ 11 * s.length := by
  intro i
  have : ∀ l : List (ByteArray × ByteArray), (∀ x ∈ l, Tab x) → (l.flatMap valLine).length ≤ 11 * l.length := fun l => by
    induction l with
    | nil => intro _; simp
    | cons x l ih =>
      intro hl
      have h1 := (hl x (by simp)).len1
      have h2 := (hl x (by simp)).len2
      have h3 := ih fun y hy => hl y (by simp [hy])
      have h4 : (valLine x).length ≤ 11 := by unfold valLine; simp; omega
      rw [List.flatMap_cons, List.length_append, List.length_cons]
      omega
  have h1 := this (s.take i) fun x hx => h x (List.mem_of_mem_take hx)
  have : (s.take i).length ≤ s.length := by simp; omega
  omega
theorem klen {s : List (ByteArray × ByteArray)} (h : ∀ x ∈ s, x = (mkS [], mkS []) ∨ Tab x) : ∀ i, ((s.take i).flatMap keptLine).length ≤ 12 * s.length := by
  intro i
  have : ∀ l : List (ByteArray × ByteArray), (∀ x ∈ l, x = (mkS [], mkS []) ∨ Tab x) → (l.flatMap keptLine).length ≤ 12 * l.length := fun l => by
    induction l with
    | nil => intro _; simp
    | cons x l ih =>
      intro hl
      have h3 := ih fun y hy => hl y (by simp [hy])
      rw [List.flatMap_cons, List.length_append, List.length_cons]
      have : (keptLine x).length ≤ 12 := by
        rcases hl x (by simp) with rfl | ht
        · decide
        · have h1 := ht.len1
          have h2 := ht.len2
          unfold keptLine
          rw [ht.ne]
          simp; omega
      omega
  have h1 := this (s.take i) fun x hx => h x (List.mem_of_mem_take hx)
  have : (s.take i).length ≤ s.length := by simp; omega
  omega
def PI (i : Nat) (p : List Bool) (b : Nat) (A : List UInt8) (f : ByteArray × ByteArray → List UInt8) (s : List (ByteArray × ByteArray)) (H : Hp) (tm : T Value) (df : Df) (H' : Hp) : Prop :=
  H' = H ∧ df = [] ∧ tm.get [true] = some (ptrV b 0) ∧ tm.get p = some (.int .i64 (.ofNat i)) ∧ tm.get [true, true] = some (.string (mkS (A ++ (s.take i).flatMap f)))
def PE (b : Nat) (A : List UInt8) (H : Hp) (x : Ex) (e : Ex) (tm : T Value) (df : Df) (H' : Hp) : Prop := e = x ∧ H' = H ∧ df = [] ∧ tm.get [true] = some (ptrV b 0) ∧ tm.get [true, true] = some (.string (mkS A))
theorem flat_step {f : ByteArray × ByteArray → List UInt8} {s : List (ByteArray × ByteArray)} {i : Nat} {x : ByteArray × ByteArray} (hx : s[i]? = some x) (A : List UInt8) : A ++ (s.take (i + 1)).flatMap f = (A ++ (s.take i).flatMap f) ++ f x := by
  rw [take_step hx, List.flatMap_append, List.append_assoc]
  simp
theorem print_loop1 {call : Call} {H : Hp} {b ver : Nat} {vo ko : Value} {s : List (ByteArray × ByteArray)} {A : List UInt8} (hv : SlP H vo s) (hbox : H.at b = some (rowL [.int .i64 (.ofNat ver), vo, ko] 3 34 true)) (hs : ∀ x ∈ s, Tab x) (hn : s.length ≤ 8) (hA : A.length ≤ 1000)
    {tm : T Value} {df : Df} (h0 : PI 0 [false, true] b A valLine s H tm df H) : After (exC (.loop cf24_l1) call tm df H) (PE b (A ++ s.flatMap valLine) H (.exit 0)) := by
  have hlen := hv.len
  have hb1 : Nat.blt 1 3 = true := rfl
  have hg1 : (storeL [Value.int .i64 (.ofNat ver), vo, ko] 0 .nil fun t => t).get (path 1) = some vo := rfl
  refine loop_for (n := s.length) (by omega) (fun i tm df H' => PI i [false, true] b A valLine s H tm df H') ?_ ?_ h0
  · intro i tm df H' hi ⟨e1, e2, h1, h3, h4⟩
    subst e1; subst e2
    obtain ⟨x, hx, hd⟩ := drop_at hi
    obtain ⟨bb, c, rfl, cc, m, e, cl, ro, hat, hm, hc⟩ := hv.pos hi
    obtain ⟨hc0, hc1⟩ := hc i x hx
    have ht := hs x (List.mem_of_getElem? hx)
    haveI i1 : BL (bl x.1) 2 := ⟨ht.len1⟩
    haveI i2 : BL (bl x.2) 3 := ⟨ht.len2⟩
    haveI i3 : BL (A ++ (s.take i).flatMap valLine) 2000 := ⟨by have := vlen hs i; simp; simp at this; omega⟩
    have e1 := z_blt hi
    have e2 : Nat.blt (0 + i * 2 + 0) m = true := z_blt (by omega)
    have e2' : Nat.blt (0 + i * 2 + 1) m = true := z_blt (by omega)
    have e3 : fwrap .i64 (.ofNat (i + 1)) = .ofNat (i + 1) := z_wrapN (by omega)
    have e4 : cc.get (path (0 + i * 2 + 0)) = some (.string x.1) := by rw [← hc0]; congr 2; omega
    have e5 : cc.get (path (0 + i * 2 + 1)) = some (.string x.2) := by rw [← hc1]; congr 2; omega
    generalize hacc : A ++ (s.take i).flatMap valLine = acc at h4 i3
    simp only [↓evD, evD, evU, evF, reduceCtorEq, evB, Nat.reduceAdd, Nat.reduceLT, Nat.reduceMul, Nat.reduceSub, cf24_l1, h1, h3, h4, hbox, hb1, hg1, hlen, e1, hat, e2, e2', e4, e5, e3]
    refine .go ⟨rfl, rfl, by simp [T.get_set, h1], by simp [T.get_set], ?_⟩
    rw [flat_step hx, hacc]
    simp [T.get_set, valLine]
  · intro tm df H' ⟨e1, e2, h1, h3, h4⟩
    subst e1; subst e2
    have e1 := z_bltF (Nat.le_refl s.length)
    rw [List.take_length] at h4
    simp only [↓evD, evD, evU, evF, reduceCtorEq, evB, Nat.reduceAdd, Nat.reduceLT, Nat.reduceMul, Nat.reduceSub, cf24_l1, h1, h3, hbox, hb1, hg1, hlen, e1]
    exact .ex ⟨rfl, rfl, rfl, by simp [T.get_set, h1], by simp [T.get_set, h4]⟩
theorem print_loop2 {call : Call} {H : Hp} {b ver : Nat} {vo ko : Value} {s : List (ByteArray × ByteArray)} {A : List UInt8} (hv : SlP H ko s) (hbox : H.at b = some (rowL [.int .i64 (.ofNat ver), vo, ko] 3 34 true)) (hs : ∀ x ∈ s, x = (mkS [], mkS []) ∨ Tab x) (hn : s.length ≤ 4) (hA : A.length ≤ 1500)
    {tm : T Value} {df : Df} (h0 : PI 0 [true, false] b A keptLine s H tm df H) : After (exC (.loop cf24_l0) call tm df H) (PE b (A ++ s.flatMap keptLine) H (.exit 2)) := by
  have hlen := hv.len
  have hb1 : Nat.blt 2 3 = true := rfl
  have hg1 : (storeL [Value.int .i64 (.ofNat ver), vo, ko] 0 .nil fun t => t).get (path 2) = some ko := rfl
  refine loop_for (n := s.length) (by omega) (fun i tm df H' => PI i [true, false] b A keptLine s H tm df H') ?_ ?_ h0
  · intro i tm df H' hi ⟨e1, e2, h1, h3, h4⟩
    subst e1; subst e2
    obtain ⟨x, hx, hd⟩ := drop_at hi
    obtain ⟨bb, c, rfl, cc, m, e, cl, ro, hat, hm, hc⟩ := hv.pos hi
    obtain ⟨hc0, hc1⟩ := hc i x hx
    haveI i3 : BL (A ++ (s.take i).flatMap keptLine) 2000 := ⟨by have := klen hs i; simp; simp at this; omega⟩
    have e1 := z_blt hi
    have e2 : Nat.blt (0 + i * 2 + 0) m = true := z_blt (by omega)
    have e2' : Nat.blt (0 + i * 2 + 1) m = true := z_blt (by omega)
    have e3 : fwrap .i64 (.ofNat (i + 1)) = .ofNat (i + 1) := z_wrapN (by omega)
    have e4 : cc.get (path (0 + i * 2 + 0)) = some (.string x.1) := by rw [← hc0]; congr 2; omega
    have e5 : cc.get (path (0 + i * 2 + 1)) = some (.string x.2) := by rw [← hc1]; congr 2; omega
    generalize hacc : A ++ (s.take i).flatMap keptLine = acc at h4 i3
    rcases hs x (List.mem_of_getElem? hx) with hz | ht
    · subst hz
      have e6 : lEq [] [] = true := rfl
      simp only [↓evD, evD, evU, evF, reduceCtorEq, evB, Nat.reduceAdd, Nat.reduceLT, Nat.reduceMul, Nat.reduceSub, cf24_l0, h1, h3, h4, hbox, hb1, hg1, hlen, e1, hat, e2, e2', e4, e5, e3, e6]
      refine .go ⟨rfl, rfl, by simp [T.get_set, h1], by simp [T.get_set], ?_⟩
      rw [flat_step hx, hacc]
      have : keptLine (mkS [], mkS []) = [107, 101, 112, 116, 32, 45, 10] := rfl
      rw [this]
      simp [T.get_set]
    · haveI i1 : BL (bl x.1) 2 := ⟨ht.len1⟩
      haveI i2 : BL (bl x.2) 3 := ⟨ht.len2⟩
      have e6 := ht.ne
      simp only [↓evD, evD, evU, evF, reduceCtorEq, evB, Nat.reduceAdd, Nat.reduceLT, Nat.reduceMul, Nat.reduceSub, cf24_l0, h1, h3, h4, hbox, hb1, hg1, hlen, e1, hat, e2, e2', e4, e5, e3, e6]
      refine .go ⟨rfl, rfl, by simp [T.get_set, h1], by simp [T.get_set], ?_⟩
      rw [flat_step hx, hacc]
      have : keptLine x = [107, 101, 112, 116, 32] ++ bl x.1 ++ [32] ++ bl x.2 ++ [10] := by unfold keptLine; rw [e6]; rfl
      rw [this]
      simp [T.get_set]
  · intro tm df H' ⟨e1, e2, h1, h3, h4⟩
    subst e1; subst e2
    have e1 := z_bltF (Nat.le_refl s.length)
    rw [List.take_length] at h4
    simp only [↓evD, evD, evU, evF, reduceCtorEq, evB, Nat.reduceAdd, Nat.reduceLT, Nat.reduceMul, Nat.reduceSub, cf24_l0, h1, h3, hbox, hb1, hg1, hlen, e1]
    exact .ex ⟨rfl, rfl, rfl, by simp [T.get_set, h1], by simp [T.get_set, h4]⟩
theorem print23_run {call : Call} {cd : CallD} {h : Hp} {ver : Nat} {vo ko : Value} {s k : List (ByteArray × ByteArray)} (hw : Wf h) (hv : SlP h vo s) (hk : SlP h ko k) (hs : ValidS ver s k)
    (hcall48 : ∀ H, Wf H → SlP H vo s → SlP H ko k → call 48 [.agg ⟨[.int .i64 (.ofNat ver), vo, ko]⟩] H = .val (.bool true) H)
    (hcall47 : ∀ (n : Int) (H : Hp), -9223372036854775808 ≤ n → n ≤ 9223372036854775807 → call 47 [.int .i64 n] H = .val (.string (mkS (Lib.itoa n))) H) :
    Yields (runF cf24 call cd [.agg ⟨[.int .i64 (.ofNat ver), vo, ko]⟩] h) (QuietR (.string (mkS (text23 ver s k))) h) := by
  refine runF_yields rfl ?_
  have hb0 : Nat.blt 0 3 = true := rfl
  have hb3 : Nat.ble 3 3 = true := rfl
  have hg0 : (storeL [Value.int .i64 (.ofNat ver), vo, ko] 0 .nil fun t => t).get (path 0) = some (.int .i64 (.ofNat ver)) := rfl
  have hg1 : (storeL [Value.int .i64 (.ofNat ver), vo, ko] 0 .nil fun t => t).get (path 1) = some vo := rfl
  have hg2 : (storeL [Value.int .i64 (.ofNat ver), vo, ko] 0 .nil fun t => t).get (path 2) = some ko := rfl
  have hver := hs.ver
  have c1 := hcall48 (h.new (rowL [.int .i64 (.ofNat ver), vo, ko] 3 34 true)) (hw.new _) (hv.new hw _) (hk.new hw _)
  have c2 := hcall47 (.ofNat ver) (h.new (rowL [.int .i64 (.ofNat ver), vo, ko] 3 34 true)) (by show (-9223372036854775808 : Int) ≤ (ver : Int); omega) (by show (ver : Int) ≤ _; omega)
  haveI i1 : BL (Lib.itoa (.ofNat ver)) 30 := ⟨itoa_len (by show (-9223372036854775808 : Int) ≤ (ver : Int); omega) (by show (ver : Int) ≤ _; omega)⟩
  have hbox : (h.new (rowL [Value.int .i64 (.ofNat ver), vo, ko] 3 34 true)).at h.next = some (rowL [.int .i64 (.ofNat ver), vo, ko] 3 34 true) := by rw [z_at_new, if_pos rfl]
  have hhl : (head23 ver).length ≤ 100 := by have := i1.le; unfold head23; simp; simp at this; omega
  simp only [↓evD, evD, evU, evF, reduceCtorEq, evB, Nat.reduceAdd, Nat.reduceLT, Nat.reduceMul, Nat.reduceSub, hb0, hb3, hg0, hg1, hg2, c1, c2]
  refine After.exK (φ := PE h.next (head23 ver ++ s.flatMap valLine) (h.new (rowL [.int .i64 (.ofNat ver), vo, ko] 3 34 true)) .normal) (After.exK (φ := PE h.next (head23 ver ++ s.flatMap valLine) (h.new (rowL [.int .i64 (.ofNat ver), vo, ko] 3 34 true)) (.exit 0)) ?_ ?_) ?_
  · exact print_loop1 (hv.new hw _) hbox hs.tab hs.vals (by omega) ⟨rfl, rfl, by simp [T.get_set], by simp [T.get_set], by simp [T.get_set, head23]⟩
  · rintro e tm df H ⟨rfl, rest⟩; exact ⟨rfl, rest⟩
  · rintro e tm df H ⟨rfl, rfl, rfl, h1, h2⟩
    simp only [↓evD, evD, evU, evF, reduceCtorEq, evB]
    refine After.exK (φ := PE h.next (text23 ver s k) (h.new (rowL [.int .i64 (.ofNat ver), vo, ko] 3 34 true)) .normal) (After.exK (φ := PE h.next (text23 ver s k) (h.new (rowL [.int .i64 (.ofNat ver), vo, ko] 3 34 true)) (.exit 2)) ?_ ?_) ?_
    · exact print_loop2 (hk.new hw _) hbox hs.ktab hs.kept (by have h1 := vlen hs.tab s.length; rw [List.take_length] at h1; have := hs.vals; rw [List.length_append]; omega) ⟨rfl, rfl, by simp [T.get_set, h1], by simp [T.get_set], by simp [T.get_set, h2]⟩
    · rintro e tm df H ⟨rfl, rest⟩; exact ⟨rfl, rest⟩
    · rintro e tm df H ⟨rfl, rfl, rfl, h1, h2⟩
      simp only [↓evD, evD, evU, evF, reduceCtorEq, evB, h2]
      refine .ret ?_
      simp only [↓evD, evD, evU, evF, reduceCtorEq, evB]
      exact ⟨rfl, rfl⟩
end Abs
end Go
