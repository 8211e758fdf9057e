/-
Symbolic runs: Made.
Conditions: none.
-/
import Derived.Test.YtgamdeginkngaaaGreatDoorRunE
set_option linter.unusedVariables false
set_option linter.unusedSimpArgs false
namespace Go
namespace Abs
/-- pairs of bytes -/
def U8s (h : Hp) (b o : Nat) (l : List (Nat × Nat)) : Prop := ∃ c m e cl ro, h.at b = some (.row c m e cl ro) ∧ o + 2 * l.length ≤ m ∧ ∀ (j : Nat) (x : Nat × Nat), l[j]? = some x → c.get (path (o + j * 2)) = some (.int .u8 (.ofNat x.1)) ∧ c.get (path (o + j * 2 + 1)) = some (.int .u8 (.ofNat x.2))
def SlU (h : Hp) (v : Value) (l : List (Nat × Nat)) : Prop := (v = .slice none 0 0 ∧ l = []) ∨ ∃ b o c, v = slV b o l.length c ∧ (l ≠ [] → U8s h b o l)
theorem SlU.len {h : Hp} {v : Value} {l : List (Nat × Nat)} (hv : SlU h v l) : vSl v (fun _ _ l _ => some (Value.int .i64 (.ofNat l))) (fun l _ => some (Value.int .i64 (.ofNat l))) none = some (.int .i64 (.ofNat l.length)) := by
  rcases hv with ⟨rfl, rfl⟩ | ⟨b, o, c, rfl, _⟩ <;> rfl
theorem SlU.pos {h : Hp} {v : Value} {l : List (Nat × Nat)} (hv : SlU h v l) {i : Nat} (hi : i < l.length) : ∃ b o c, v = slV b o l.length c ∧ U8s h b o l := by
  rcases hv with ⟨_, rfl⟩ | h
  · simp at hi
  · obtain ⟨b, o, c, e, hu⟩ := h
    exact ⟨b, o, c, e, hu (fun e => by subst e; simp at hi)⟩
noncomputable def Hp.newV (H : Hp) (p q : ByteArray) : Hp := (H.new (rowL [.string (mkS []), .string (mkS [])] 2 62 true)).put H.next (some (.row (storeL [.string p, .string q] 0 (storeL [.string (mkS []), .string (mkS [])] 0 .nil fun t => t) fun t => t) 2 62 true false))
theorem z_newV (H : Hp) (p q : ByteArray) : (H.new (rowL [.string (mkS []), .string (mkS [])] 2 62 true)).put H.next (some (.row (storeL [.string p, .string q] 0 (storeL [.string (mkS []), .string (mkS [])] 0 .nil fun t => t) fun t => t) 2 62 true false)) = H.newV p q := rfl
theorem newV_at (H : Hp) (p q : ByteArray) (b : Nat) : (H.newV p q).at b = if H.next = b then some (.row (storeL [.string p, .string q] 0 (storeL [.string (mkS []), .string (mkS [])] 0 .nil fun t => t) fun t => t) 2 62 true false) else H.at b := by
  unfold Hp.newV
  rw [z_at_put, z_at_new]
  by_cases e : H.next = b <;> simp [e]
theorem newV_next (H : Hp) (p q : ByteArray) : (H.newV p q).next = H.next + 1 := rfl
theorem Wf.newV {H : Hp} (hw : Wf H) (p q : ByteArray) : Wf (H.newV p q) := ⟨fun b hb => by
  rw [newV_next] at hb
  rw [newV_at, if_neg (by omega)]
  exact hw.dead b (by omega), by show H.base ≤ H.next + 1; have := hw.base; omega⟩
theorem Keeps.newV {lim : Nat} {H : Hp} (hw : Wf H) (p q : ByteArray) (hl : lim ≤ H.next) : Keeps lim H (H.newV p q) := ⟨rfl, z_put_log (by rw [z_new_base]; exact hw.base), by rw [newV_next]; omega, fun b hb => by rw [newV_at, if_neg (by omega)]⟩
theorem Wf.put {h : Hp} (hw : Wf h) {b : Nat} (o : AObj) (hb : b < h.next) : Wf (h.put b (some o)) := ⟨fun c hc => by
  rw [z_put_next] at hc
  rw [z_at_put, if_neg (by omega)]
  exact hw.dead c hc, hw.base⟩
theorem Keeps.put {lim : Nat} {h : Hp} {b : Nat} (o : AObj) (hl : lim ≤ b) (hb : h.base ≤ b) : Keeps lim h (h.put b (some o)) := ⟨rfl, z_put_log hb, Nat.le_refl _, fun c hc => by rw [z_at_put, if_neg (by omega)]⟩

/- ===== what Made makes ===== -/
noncomputable def callS (n : Nat) : ByteArray := mkS (match n % 8 with | 0 => [97] | 1 => [98] | 2 => [99] | 3 => [100] | 4 => [101, 49] | 5 => [70] | 6 => [103, 103] | _ => [104])
noncomputable def valS (n : Nat) : ByteArray := mkS (match n % 4 with | 0 => [] | 1 => [49] | 2 => [120, 32, 121] | _ => [126])
noncomputable def valueOf (x : Nat × Nat) : ByteArray × ByteArray := (callS x.1, valS x.2)
noncomputable def addVal (s : List (ByteArray × ByteArray)) (x : Nat × Nat) : List (ByteArray × ByteArray) :=
  if findAt (valueOf x).1 s 0 < 0 then intoGo (valueOf x) s (lEq (bl (valueOf x).1) []) [] else s
noncomputable def keptOf (x : Nat × Nat) : ByteArray × ByteArray := if x.2 % 5 = 4 then (mkS [], mkS []) else valueOf x
noncomputable def madeVals (l : List (Nat × Nat)) : List (ByteArray × ByteArray) := (l.take 8).foldl addVal []
noncomputable def madeKept (l : List (Nat × Nat)) : List (ByteArray × ByteArray) := (l.take 4).map keptOf
/-- settings in memory -/
structure SetRow (H : Hp) (n2 lim : Nat) (ver : Int) (vo ko : Value) (s k : List (ByteArray × ByteArray)) : Prop where
  row : ∃ c, H.at n2 = some (.row c 3 34 true false) ∧ c.get (path 0) = some (.int .i64 ver) ∧ c.get (path 1) = some vo ∧ c.get (path 2) = some ko
  vals : OutV lim H vo s
  vnil : s = [] → vo = .slice none 0 0
  kept : OutV lim H ko k
  knil : k = [] → ko = .slice none 0 0
theorem OutV.slP' {lim : Nat} {h : Hp} {v : Value} {o : List (ByteArray × ByteArray)} (hv : OutV lim h v o) (hn : o = [] → v = .slice none 0 0) : SlP h v o := by
  rcases hv with ⟨h1, h2⟩ | ⟨b, h1, h2, h3, h4⟩
  · exact .inl ⟨hn h1, h1⟩
  · exact .inr ⟨b, _, h1, h3.pairs⟩
theorem intoGo_ne (v : ByteArray × ByteArray) : ∀ (l : List (ByteArray × ByteArray)) (done : Bool) (out : List (ByteArray × ByteArray)), (l ≠ [] ∨ done = false ∨ out ≠ []) → intoGo v l done out ≠ [] := by
  intro l
  induction l with
  | nil =>
    intro done out h
    show (if done = true then out else out ++ [v]) ≠ []
    cases done with
    | false => simp
    | true => simpa using h
  | cons x r ih =>
    intro done out _
    rw [intoGo_cons]
    split
    · exact ih _ _ (.inr (.inr (by simp)))
    · exact ih _ _ (.inr (.inr (by simp)))
theorem callS_ne (n : Nat) : lEq (bl (callS n)) [] = false := by
  unfold callS
  rw [bl_mkS]
  have h8 := Nat.mod_lt n (show 8 > 0 by omega)
  generalize n % 8 = k at h8
  match k with
  | 0 => rfl | 1 => rfl | 2 => rfl | 3 => rfl | 4 => rfl | 5 => rfl | 6 => rfl | 7 => rfl
theorem addVal_ne {s : List (ByteArray × ByteArray)} {x : Nat × Nat} (h : addVal s x = []) : s = [] ∧ ¬ findAt (valueOf x).1 s 0 < 0 := by
  unfold addVal at h
  split at h
  · exact absurd h (intoGo_ne _ _ _ _ (.inr (.inl (callS_ne x.1))))
  · exact ⟨h, by assumption⟩
theorem z_rowK {R : Type} (h : Hp) (b : Nat) (k : T Value → Nat → TypeId → Bool → Bool → R) (z : R) : rowK h b k z = oEl (h.at b) (fun o => rowO o k z) z := rfl
theorem z_exRc (m : Nat) (p : List Bool) (tm : T Value) (h : Hp) : exR [.cell true m p] tm h = oEl (vPtr (oget (tm.get p)) (fun b o => oEl (h.at b) (fun ob => rowO ob (fun c n _ _ _ => bif Nat.ble (o + m) n then oEl (loadN c o m []) (fun l => some (Value.agg ⟨l⟩)) none else none) none) none) none) (fun v => .val v h) .none := by
  show oEl (oEl (exR1 (.cell true m p) tm h) (fun v => some [v]) none) _ Res.none = _
  have e : exR1 (.cell true m p) tm h = vPtr (oget (tm.get p)) (fun b o => oEl (h.at b) (fun ob => rowO ob (fun c n _ _ _ => bif Nat.ble (o + m) n then oEl (loadN c o m []) (fun l => some (Value.agg ⟨l⟩)) none else none) none) none) none := rfl
  rw [e]
  cases vPtr (oget (tm.get p)) (fun b o => oEl (h.at b) (fun ob => rowO ob (fun c n _ _ _ => bif Nat.ble (o + m) n then oEl (loadN c o m []) (fun l => some (Value.agg ⟨l⟩)) none else none) none) none) none <;> rfl
/-- the heap when the loops begin -/
noncomputable def madeH (h : Hp) (ver : Nat) (rv rk : Value) : Hp := ((((h.new (rowL [Value.int .u16 (Int.ofNat ver), rv, rk] 3 28 true)).new (rowL [Value.int .i64 (Int.ofNat 0), Value.slice none 0 0, Value.slice none 0 0] 3 34 true)).new
                (rowL [Value.int .i64 (Int.ofNat 0), Value.slice none 0 0, Value.slice none 0 0] 3 34 true)).put (h.next + 1 + 1)
            (some (AObj.row (storeL [Value.int .i64 (Int.ofNat (ver % 60001)), Value.slice none 0 0, Value.slice none 0 0] 0 (storeL [Value.int .i64 (Int.ofNat 0), Value.slice none 0 0, Value.slice none 0 0] 0 T.nil fun t => t) fun t => t) 3 34 true false)))
theorem madeH_at {h : Hp} {ver : Nat} {rv rk : Value} (b : Nat) : (madeH h ver rv rk).at b = if h.next + 1 + 1 = b then some (AObj.row (storeL [Value.int .i64 (Int.ofNat (ver % 60001)), Value.slice none 0 0, Value.slice none 0 0] 0 (storeL [Value.int .i64 (Int.ofNat 0), Value.slice none 0 0, Value.slice none 0 0] 0 T.nil fun t => t) fun t => t) 3 34 true false)
    else if h.next + 1 = b then some (rowL [Value.int .i64 (Int.ofNat 0), Value.slice none 0 0, Value.slice none 0 0] 3 34 true) else if h.next = b then some (rowL [Value.int .u16 (Int.ofNat ver), rv, rk] 3 28 true) else h.at b := by
  unfold madeH
  rw [z_at_put, z_at_new, z_at_new, z_at_new]
  by_cases e : h.next + 1 + 1 = b
  · rw [if_pos e, if_pos e]
  · rw [if_neg e, if_neg e, if_neg (by rw [z_new_next, z_new_next]; exact e)]
    rfl
theorem madeH_wf {h : Hp} (hw : Wf h) {ver : Nat} {rv rk : Value} : Wf (madeH h ver rv rk) := Wf.put (((hw.new _).new _).new _) _ (by rw [z_new_next, z_new_next, z_new_next]; omega)
theorem madeH_keeps {h : Hp} (hw : Wf h) {ver : Nat} {rv rk : Value} : Keeps h.next h (madeH h ver rv rk) :=
  ((((Keeps.new _ (Nat.le_refl _)).trans (Keeps.new _ (by rw [z_new_next]; omega))).trans (Keeps.new _ (by rw [z_new_next, z_new_next]; omega))).trans (Keeps.put _ (by omega) (by show h.base ≤ _; have := hw.base; omega)))
/-- a round of the first loop -/
def MadeI (rv rk : Value) (lv : List (Nat × Nat)) (ver : Nat) (h : Hp) (i : Nat) (tm : T Value) (df : Df) (H : Hp) : Prop :=
  ∃ vo, df = [] ∧ tm.get [true] = some (ptrV h.next 0) ∧ tm.get [false] = some (ptrV (h.next + 1) 0) ∧ tm.get [true, true] = some (ptrV (h.next + 1 + 1) 0) ∧ tm.get [false, true] = some (.int .i64 (.ofNat i)) ∧
    Wf H ∧ Keeps (h.next + 1 + 1) (madeH h ver rv rk) H ∧ SetRow H (h.next + 1 + 1) (h.next + 3) (.ofNat (ver % 60001)) vo (.slice none 0 0) ((lv.take i).foldl addVal []) [] ∧ ((lv.take i).foldl addVal []).length ≤ i
def MadeE (rv rk : Value) (lv : List (Nat × Nat)) (ver : Nat) (h : Hp) (x : Ex) (e : Ex) (tm : T Value) (df : Df) (H : Hp) : Prop :=
  e = x ∧ ∃ vo, df = [] ∧ tm.get [true] = some (ptrV h.next 0) ∧ tm.get [false] = some (ptrV (h.next + 1) 0) ∧ tm.get [true, true] = some (ptrV (h.next + 1 + 1) 0) ∧
    Wf H ∧ Keeps (h.next + 1 + 1) (madeH h ver rv rk) H ∧ SetRow H (h.next + 1 + 1) (h.next + 3) (.ofNat (ver % 60001)) vo (.slice none 0 0) (madeVals lv) []
theorem intoGo_len (v : ByteArray × ByteArray) : ∀ (l : List (ByteArray × ByteArray)) (done : Bool) (out : List (ByteArray × ByteArray)), (intoGo v l done out).length ≤ out.length + l.length + (if done = true then 0 else 1) := by
  intro l
  induction l with
  | nil => intro done out; show (if done = true then out else out ++ [v]).length ≤ _; cases done <;> simp
  | cons x r ih =>
    intro done out
    rw [intoGo_cons]
    cases done with
    | true =>
      have := ih true (out ++ [x])
      simp at this ⊢; omega
    | false =>
      split
      · have := ih true (out ++ [(v)] ++ [x]); simp at this ⊢; omega
      · have := ih false (out ++ [x]); simp at this ⊢; omega
theorem addVal_t {s : List (ByteArray × ByteArray)} {x : Nat × Nat} (h : ilt (findAt (valueOf x).1 s 0) (.ofNat 0) = true) : addVal s x = intoGo (valueOf x) s (lEq (bl (valueOf x).1) []) [] := by
  unfold addVal
  rw [ilt_eq] at h
  exact if_pos (by simpa using h)
theorem addVal_f {s : List (ByteArray × ByteArray)} {x : Nat × Nat} (h : ilt (findAt (valueOf x).1 s 0) (.ofNat 0) = false) : addVal s x = s := by
  unfold addVal
  rw [ilt_eq] at h
  exact if_neg (by simpa using h)
theorem addVal_len (s : List (ByteArray × ByteArray)) (x : Nat × Nat) : (addVal s x).length ≤ s.length + 1 := by
  unfold addVal
  split
  · have := intoGo_len (valueOf x) s (lEq (bl (valueOf x).1) []) []
    rw [show lEq (bl (valueOf x).1) [] = false from callS_ne x.1] at this ⊢
    simp at this; omega
  · omega
theorem OutV.put {lim : Nat} {h : Hp} {v : Value} {o : List (ByteArray × ByteArray)} {n : Nat} {ob : Option AObj} (hv : OutV lim h v o) (hn : n < lim) : OutV lim (h.put n ob) v o := by
  rcases hv with h1 | ⟨b, h1, h2, h3, h4⟩
  · exact .inl h1
  · refine .inr ⟨b, h1, h2, ?_, h4⟩
    unfold OwnP at h3 ⊢
    rw [z_at_put, if_neg (by omega)]
    exact h3
theorem OutV.less {lim lim' : Nat} {h : Hp} {v : Value} {o : List (ByteArray × ByteArray)} (hv : OutV lim h v o) (hl : lim' ≤ lim) : OutV lim' h v o := by
  rcases hv with h1 | ⟨b, h1, h2, h3, h4⟩
  · exact .inl h1
  · exact .inr ⟨b, h1, h2, h3, by omega⟩
theorem take_step {α : Type} {l : List α} {i : Nat} {x : α} (hx : l[i]? = some x) : l.take (i + 1) = l.take i ++ [x] := by
  rw [List.take_add_one, hx]; rfl
theorem made_loop1 {call : Call} {h : Hp} {ver : Nat} {rv rk : Value} {lv : List (Nat × Nat)} (hw : Wf h) (hv : SlU h rv lv)
    (hcall15 : ∀ (x : Nat × Nat) (H : Hp), call 15 [.agg ⟨[.int .u8 (.ofNat x.1), .int .u8 (.ofNat x.2)]⟩] H = .val (.agg ⟨[.string (valueOf x).1, .string (valueOf x).2]⟩) H)
    (hcall16 : ∀ (H : Hp) (v : Value) (l : List (ByteArray × ByteArray)) (nm : ByteArray), SlP H v l → l.length < 1000 → call 16 [v, .string nm] H = .val (.int .i64 (findAt nm l 0)) H)
    (hcall17 : ∀ (H : Hp) (v : Value) (l : List (ByteArray × ByteArray)) (p q : ByteArray), Wf H → SlP H v l → l.length < 400 → Yields (call 17 [v, .agg ⟨[.string p, .string q]⟩] H) (IntoR l p q H))
    {tm : T Value} {df : Df} {H : Hp} (h0 : MadeI rv rk lv ver h 0 tm df H) : After (exC (.loop cf5_l1) call tm df H) (MadeE rv rk lv ver h (.exit 0)) := by
  have hlen := hv.len
  have hg1 : (storeL [Value.int .u16 (.ofNat ver), rv, rk] 0 .nil fun t => t).get (path (0 + 1)) = some rv := rfl
  have hb1 : Nat.blt (0 + 1) 3 = true := rfl
  have hbox : ∀ H : Hp, Keeps (h.next + 1 + 1) (madeH h ver rv rk) H → H.at h.next = some (rowL [Value.int .u16 (Int.ofNat ver), rv, rk] 3 28 true) := fun H hk => by
    rw [hk.at_ h.next (by omega), madeH_at, if_neg (by omega), if_neg (by omega), if_pos rfl]
  have hold : ∀ H : Hp, Keeps (h.next + 1 + 1) (madeH h ver rv rk) H → ∀ b, b < h.next → H.at b = h.at b := fun H hk b hb => by
    rw [hk.at_ b (by omega), madeH_at, if_neg (by omega), if_neg (by omega), if_neg (by omega)]
  refine loop_for (n := min lv.length 8) (by omega) (MadeI rv rk lv ver h) ?_ ?_ h0
  · intro i tm df H hi ⟨vo, e2, h1, h2, h3, h4, hwf, hk, hs, hsl⟩
    subst e2
    have hil : i < lv.length := by omega
    obtain ⟨x, hx, hd⟩ := drop_at hil
    obtain ⟨b, o, c, rfl, cc, m, e, cl, ro, hat, hm, hc⟩ := hv.pos hil
    have hblt := hw.lt hat
    obtain ⟨hc0, hc1⟩ := hc i x hx
    have e1 := z_blt hil
    have e8 : Nat.blt i 8 = true := z_blt (by omega)
    have e2 : Nat.ble (o + i * 2 + 2) m = true := z_ble (by omega)
    have e3 : fwrap .i64 (.ofNat (i + 1)) = .ofNat (i + 1) := z_wrapN (by omega)
    have e4 : cc.get (path (o + i * 2 + 0)) = some (.int .u8 (.ofNat x.1)) := by rw [← hc0]; rfl
    have hatx := hbox H hk
    have hatb : H.at b = some (.row cc m e cl ro) := by rw [hold H hk b hblt]; exact hat
    obtain ⟨cr, hr, hr0, hr1, hr2⟩ := hs.row
    have hn2 := hwf.lt hr
    have hb2 : Nat.ble (0 + 2) 2 = true := rfl
    have hb3 : Nat.blt (0 + 0) 2 = true := rfl
    have hgs0 : (storeL [Value.string (valueOf x).1, .string (valueOf x).2] 0 (storeL [Value.string (mkS []), .string (mkS [])] 0 .nil fun t => t) fun t => t).get (path (0 + 0)) = some (.string (valueOf x).1) := rfl
    have hgs1 : (storeL [Value.string (valueOf x).1, .string (valueOf x).2] 0 (storeL [Value.string (mkS []), .string (mkS [])] 0 .nil fun t => t) fun t => t).get (path (0 + 1)) = some (.string (valueOf x).2) := rfl
    have hN : (H.newV (valueOf x).1 (valueOf x).2).at (h.next + 1 + 1) = some (.row cr 3 34 true false) := by rw [newV_at, if_neg (by omega)]; exact hr
    have hNs := newV_at H (valueOf x).1 (valueOf x).2 H.next
    rw [if_pos rfl] at hNs
    have hr1' : cr.get (path (0 + 1)) = some vo := hr1
    have hwN := hwf.newV (valueOf x).1 (valueOf x).2
    have hkN : Keeps H.next H (H.newV (valueOf x).1 (valueOf x).2) := Keeps.newV hwf _ _ (Nat.le_refl _)
    have hsN : SlP (H.newV (valueOf x).1 (valueOf x).2) vo ((lv.take i).foldl addVal []) := (hs.vals.slP' hs.vnil).keep hwf hkN (Nat.le_refl _)
    have hfind := hcall16 _ _ _ (valueOf x).1 hsN (by omega)
    have hfold : (lv.take (i + 1)).foldl addVal [] = addVal ((lv.take i).foldl addVal []) x := by rw [take_step hx, List.foldl_append]; rfl
    have hfl := addVal_len ((lv.take i).foldl addVal []) x
    have hkk : Keeps (h.next + 1 + 1) (madeH h ver (slV b o lv.length c) rk) (H.newV (valueOf x).1 (valueOf x).2) := hk.trans (hkN.less (by omega))
    cases hq : ilt (findAt (valueOf x).1 ((lv.take i).foldl addVal []) 0) (.ofNat 0) with
    | true =>
      obtain ⟨v', H', hc17, out, hout, ho, hwf', hk'⟩ := (hcall17 _ _ _ (valueOf x).1 (valueOf x).2 hwN hsN (by omega)).get
      have hadd : addVal ((lv.take i).foldl addVal []) x = out := by rw [addVal_t hq, hout]
      have hne : out ≠ [] := by rw [hout]; exact intoGo_ne _ _ _ _ (.inr (.inl (callS_ne x.1)))
      have hnx : (H.newV (valueOf x).1 (valueOf x).2).next = H.next + 1 := rfl
      have hN' : H'.at (h.next + 1 + 1) = some (.row cr 3 34 true false) := by rw [hk'.at_ _ (by omega)]; exact hN
      have hone : allOne [v'] = true := by
        rcases ho with ⟨h1, _⟩ | ⟨b, rfl, _⟩
        · exact absurd h1 hne
        · rfl
      have hb4 : Nat.ble (0 + 1 + 1) 3 = true := rfl
      simp only [↓evD, evD, evU, evF, reduceCtorEq, evB, cf5_l1, h1, h3, h4, hatx, hg1, hb1, hlen, e1, e8, hatb, e2, e4, hc1, hcall15, z_newV, hb2, hb3, hN, hNs, hr1', hgs0, hgs1, hfind, hq, hc17, hN', hone, hb4, e3]
      refine .go ⟨v', rfl, by simp [T.get_set, h1], by simp [T.get_set, h2], by simp [T.get_set, h3], by simp [T.get_set], hwf'.put _ (hwf'.lt hN'), ?_, ⟨⟨_, by rw [z_at_put, if_pos rfl], ?_, ?_, ?_⟩, ?_, ?_, .inl ⟨rfl, .inr rfl⟩, fun _ => rfl⟩, ?_⟩
      · exact (hkk.trans (hk'.less (by omega))).trans (Keeps.put _ (Nat.le_refl _) (by rw [hk'.base]; show H.base ≤ _; rw [hk.base]; show h.base ≤ _; have := hw.base; omega))
      · rw [z_stget, if_neg (by omega)]; exact hr0
      · rw [z_stget, if_pos ⟨by omega, by simp⟩]; rfl
      · rw [z_stget, if_neg (by simp)]; exact hr2
      · rw [hfold, hadd]
        exact (ho.less (by omega)).put (by omega)
      · rw [hfold, hadd]; exact fun h => absurd h hne
      · rw [hfold]; omega
    | false =>
      have hadd : addVal ((lv.take i).foldl addVal []) x = (lv.take i).foldl addVal [] := addVal_f hq
      simp only [↓evD, evD, evU, evF, reduceCtorEq, evB, cf5_l1, h1, h3, h4, hatx, hg1, hb1, hlen, e1, e8, hatb, e2, e4, hc1, hcall15, z_newV, hb2, hb3, hN, hNs, hr1', hgs0, hgs1, hfind, hq, e3]
      refine .go ⟨vo, rfl, by simp [T.get_set, h1], by simp [T.get_set, h2], by simp [T.get_set, h3], by simp [T.get_set], hwN, hkk, ⟨⟨_, hN, hr0, hr1, hr2⟩, ?_, ?_, .inl ⟨rfl, .inr rfl⟩, fun _ => rfl⟩, ?_⟩
      · rw [hfold, hadd]; exact hs.vals.keep hwf hkN (Nat.le_refl _)
      · rw [hfold, hadd]; exact hs.vnil
      · rw [hfold]; omega
  · intro tm df H ⟨vo, e2, h1, h2, h3, h4, hwf, hk, hs, hsl⟩
    subst e2
    have hatx := hbox H hk
    have hfin : MadeE rv rk lv ver h (.exit 0) (.exit 0) (T.set [true, false, false, true] tm (some (.bool false))) [] H := by
      refine ⟨rfl, vo, rfl, by simp [T.get_set, h1], by simp [T.get_set, h2], by simp [T.get_set, h3], hwf, hk, ?_⟩
      have e : lv.take (min lv.length 8) = lv.take 8 := by
        rcases Nat.le_total lv.length 8 with hl | hl
        · rw [Nat.min_eq_left hl, List.take_of_length_le hl, List.take_length]
        · rw [Nat.min_eq_right hl]
      rw [e] at hs
      exact hs
    by_cases hl : lv.length ≤ 8
    · rw [Nat.min_eq_left hl] at h4
      have e1 := z_bltF (Nat.le_refl lv.length)
      simp only [↓evD, evD, evU, evF, reduceCtorEq, evB, cf5_l1, h1, h3, h4, hatx, hg1, hb1, hlen, e1]
      exact .ex hfin
    · rw [Nat.min_eq_right (by omega)] at h4
      have e1 : Nat.blt 8 lv.length = true := z_blt (by omega)
      have e8 : Nat.blt 8 8 = false := rfl
      simp only [↓evD, evD, evU, evF, reduceCtorEq, evB, cf5_l1, h1, h3, h4, hatx, hg1, hb1, hlen, e1, e8]
      exact .ex hfin
/-- all is kept but one block -/
structure Kex (n : Nat) (h H : Hp) : Prop where
  base : H.base = h.base
  log : H.log = h.log
  next : h.next ≤ H.next
  at_ : ∀ b, b < h.next → b ≠ n → H.at b = h.at b
theorem Kex.refl (n : Nat) (h : Hp) : Kex n h h := ⟨rfl, rfl, Nat.le_refl _, fun _ _ _ => rfl⟩
theorem Kex.step {n : Nat} {a b c : Hp} (x : Kex n a b) (y : Keeps a.next b c) : Kex n a c := ⟨y.base.trans x.base, y.log.trans x.log, Nat.le_trans x.next y.next, fun k hk hn => (y.at_ k hk).trans (x.at_ k hk hn)⟩
theorem Kex.put {n : Nat} {a b : Hp} (x : Kex n a b) (o : Option AObj) (hb : a.base ≤ n) : Kex n a (b.put n o) := ⟨x.base, (z_put_log (by rw [x.base]; exact hb)).trans x.log, x.next, fun k hk hn => by rw [z_at_put, if_neg (fun e => hn e.symm)]; exact x.at_ k hk hn⟩
/-- a round of the second loop -/
def MadeI2 (lk : List (Nat × Nat)) (vi : Int) (vo : Value) (n : Nat) (Hs : Hp) (i : Nat) (tm : T Value) (df : Df) (H : Hp) : Prop :=
  ∃ ko c, df = [] ∧ tm.get [true] = some (ptrV n 0) ∧ tm.get [false] = some (ptrV (n + 1) 0) ∧ tm.get [true, true] = some (ptrV (n + 1 + 1) 0) ∧ tm.get [false, false] = some (.int .i64 (.ofNat i)) ∧
    Wf H ∧ Kex (n + 1 + 1) Hs H ∧ H.at (n + 1 + 1) = some (.row c 3 34 true false) ∧ c.get (path 0) = some (.int .i64 vi) ∧ c.get (path 1) = some vo ∧ c.get (path 2) = some ko ∧ OutV Hs.next H ko ((lk.take i).map keptOf) ∧ (((lk.take i).map keptOf) = [] → ko = .slice none 0 0)
def MadeE2 (lk : List (Nat × Nat)) (vi : Int) (vo : Value) (n : Nat) (Hs : Hp) (x : Ex) (e : Ex) (tm : T Value) (df : Df) (H : Hp) : Prop :=
  e = x ∧ ∃ ko c, df = [] ∧ tm.get [false] = some (ptrV (n + 1) 0) ∧ tm.get [true, true] = some (ptrV (n + 1 + 1) 0) ∧
    Wf H ∧ Kex (n + 1 + 1) Hs H ∧ H.at (n + 1 + 1) = some (.row c 3 34 true false) ∧ c.get (path 0) = some (.int .i64 vi) ∧ c.get (path 1) = some vo ∧ c.get (path 2) = some ko ∧ OutV Hs.next H ko (madeKept lk) ∧ (madeKept lk = [] → ko = .slice none 0 0)
theorem made_loop2 {call : Call} {h Hs : Hp} {ver : Nat} {rv rk vo : Value} {vi : Int} {lk : List (Nat × Nat)} (hw : Wf h) (hws : Wf Hs) (hk0 : SlU h rk lk) (hsx : Hs.at h.next = some (rowL [Value.int .u16 (Int.ofNat ver), rv, rk] 3 28 true)) (hsb : ∀ b, b < h.next → Hs.at b = h.at b) (hsn : h.next + 1 + 1 < Hs.next) (hbs : Hs.base ≤ h.next)
    (hcall15 : ∀ (x : Nat × Nat) (H : Hp), call 15 [.agg ⟨[.int .u8 (.ofNat x.1), .int .u8 (.ofNat x.2)]⟩] H = .val (.agg ⟨[.string (valueOf x).1, .string (valueOf x).2]⟩) H)
    {tm : T Value} {df : Df} {H : Hp} (h0 : MadeI2 lk vi vo h.next Hs 0 tm df H) : After (exC (.loop cf5_l0) call tm df H) (MadeE2 lk vi vo h.next Hs (.exit 2)) := by
  have hlen := hk0.len
  have hg1 : (storeL [Value.int .u16 (.ofNat ver), rv, rk] 0 .nil fun t => t).get (path (0 + 2)) = some rk := rfl
  have hb1 : Nat.blt (0 + 2) 3 = true := rfl
  refine loop_for (n := min lk.length 4) (by omega) (MadeI2 lk vi vo h.next Hs) ?_ ?_ h0
  · intro i tm df H hi ⟨ko, cr, e2, h1, h2, h3, h4, hwf, hk, hr, hr0, hr1, hr2, hko, hkn⟩
    subst e2
    have hil : i < lk.length := by omega
    obtain ⟨x, hx, hd⟩ := drop_at hil
    obtain ⟨b, o, c, rfl, cc, m, e, cl, ro, hat, hm, hc⟩ := hk0.pos hil
    have hblt := hw.lt hat
    obtain ⟨hc0, hc1⟩ := hc i x hx
    have e1 := z_blt hil
    have e8 : Nat.blt i 4 = true := z_blt (by omega)
    have e2 : Nat.ble (o + i * 2 + 2) m = true := z_ble (by omega)
    have e2' : Nat.blt (o + i * 2 + 1 * 1) m = true := z_blt (by omega)
    have e3 : fwrap .i64 (.ofNat (i + 1)) = .ofNat (i + 1) := z_wrapN (by omega)
    have e4 : cc.get (path (o + i * 2 + 0)) = some (.int .u8 (.ofNat x.1)) := by rw [← hc0]; rfl
    have e5 : cc.get (path (o + i * 2 + 1 * 1)) = some (.int .u8 (.ofNat x.2)) := by rw [← hc1]
    have e6 : Nat.blt 1 2 = true := rfl
    have hnH := hk.next
    have hatx : H.at h.next = some (rowL [Value.int .u16 (Int.ofNat ver), rv, slV b o lk.length c] 3 28 true) := by rw [hk.at_ _ (by omega) (by omega)]; exact hsx
    have hatb : H.at b = some (.row cc m e cl ro) := by rw [hk.at_ b (by omega) (by omega), hsb b hblt]; exact hat
    have hb2 : Nat.ble (0 + 2) 2 = true := rfl
    have hb3 : Nat.blt (0 + 0) 2 = true := rfl
    have hgs0 : (storeL [Value.string (valueOf x).1, .string (valueOf x).2] 0 (storeL [Value.string (mkS []), .string (mkS [])] 0 .nil fun t => t) fun t => t).get (path (0 + 0)) = some (.string (valueOf x).1) := rfl
    have hgs1 : (storeL [Value.string (valueOf x).1, .string (valueOf x).2] 0 (storeL [Value.string (mkS []), .string (mkS [])] 0 .nil fun t => t) fun t => t).get (path (0 + 1)) = some (.string (valueOf x).2) := rfl
    have hgt0 : (storeL [Value.string (mkS []), .string (mkS [])] 0 (storeL [Value.string (valueOf x).1, .string (valueOf x).2] 0 (storeL [Value.string (mkS []), .string (mkS [])] 0 .nil fun t => t) fun t => t) fun t => t).get (path (0 + 0)) = some (.string (mkS [])) := rfl
    have hgt1 : (storeL [Value.string (mkS []), .string (mkS [])] 0 (storeL [Value.string (valueOf x).1, .string (valueOf x).2] 0 (storeL [Value.string (mkS []), .string (mkS [])] 0 .nil fun t => t) fun t => t) fun t => t).get (path (0 + 1)) = some (.string (mkS [])) := rfl
    have hN : (H.newV (valueOf x).1 (valueOf x).2).at (h.next + 1 + 1) = some (.row cr 3 34 true false) := by rw [newV_at, if_neg (by omega)]; exact hr
    have hNs := newV_at H (valueOf x).1 (valueOf x).2 H.next
    rw [if_pos rfl] at hNs
    have hNx : (H.newV (valueOf x).1 (valueOf x).2).at h.next = some (rowL [Value.int .u16 (Int.ofNat ver), rv, slV b o lk.length c] 3 28 true) := by rw [newV_at, if_neg (by omega)]; exact hatx
    have hNb : (H.newV (valueOf x).1 (valueOf x).2).at b = some (.row cc m e cl ro) := by rw [newV_at, if_neg (by omega)]; exact hatb
    have hr2' : cr.get (path (0 + 2)) = some ko := hr2
    have hwN := hwf.newV (valueOf x).1 (valueOf x).2
    have hkN : Keeps H.next H (H.newV (valueOf x).1 (valueOf x).2) := Keeps.newV hwf _ _ (Nat.le_refl _)
    have hnx : (H.newV (valueOf x).1 (valueOf x).2).next = H.next + 1 := rfl
    have hmap : (lk.take (i + 1)).map keptOf = (lk.take i).map keptOf ++ [keptOf x] := by rw [take_step hx, List.map_append]; rfl
    have hlk : ((lk.take i).map keptOf).length < 1000 := by simp; omega
    have hb4 : Nat.ble (0 + 2 + 1) 3 = true := rfl
    have done : ∀ (H1 : Hp) (p q : ByteArray) (tm' : T Value), Wf H1 → Keeps H.next H H1 → keptOf x = (p, q) → tm'.get [true] = some (ptrV h.next 0) → tm'.get [false] = some (ptrV (h.next + 1) 0) → tm'.get [true, true] = some (ptrV (h.next + 1 + 1) 0) → tm'.get [false, false] = some (.int .i64 (.ofNat (i + 1))) →
        ∃ v' H', appV 62 2 ko (slV H1.next 0 1 1) (H1.new (rowL [.string p, .string q] 2 62 true)) = .val v' H' ∧ H'.at (h.next + 1 + 1) = some (.row cr 3 34 true false) ∧ allOne [v'] = true ∧
          MadeI2 lk vi vo h.next Hs (i + 1) tm' [] (H'.put (h.next + 1 + 1) (some (.row (storeL [v'] (0 + 2) cr fun t => t) 3 34 true false))) := fun H1 p q tm' hw1 hk1 hkx t1 t2 t3 t4 => by
      have hkh1 : Kex (h.next + 1 + 1) Hs H1 := hk.step (hk1.less hnH)
      obtain ⟨v', H', ha, ho, hw', hk'⟩ := append_ok (lim := Hs.next) p q hw1 hkh1.next (by rw [hkh1.base]; exact hws.base) (hko.keep hwf hk1 (Nat.le_refl _)) hlk
      have hr' : H'.at (h.next + 1 + 1) = some (.row cr 3 34 true false) := by rw [hk'.at_ _ (by omega), hk1.at_ _ (by omega)]; exact hr
      have hone : allOne [v'] = true := by
        rcases ho with ⟨h1, _⟩ | ⟨b, rfl, _⟩
        · simp at h1
        · rfl
      refine ⟨v', H', ha, hr', hone, v', _, rfl, t1, t2, t3, t4, hw'.put _ (hw'.lt hr'), (hkh1.step hk').put _ (by omega), by rw [z_at_put, if_pos rfl], ?_, ?_, ?_, ?_, ?_⟩
      · rw [z_stget, if_neg (by omega)]; exact hr0
      · rw [z_stget, if_neg (by omega)]; exact hr1
      · rw [z_stget, if_pos ⟨by omega, by simp⟩]; rfl
      · rw [hmap, hkx]; exact ho.put hsn
      · rw [hmap]; intro h; simp at h
    cases hq : Nat.beq (x.2 % 5) 4 with
    | true =>
      have hkx : keptOf x = (mkS [], mkS []) := by unfold keptOf; rw [if_pos (Nat.eq_of_beq_eq_true hq)]
      have hwP : Wf ((H.newV (valueOf x).1 (valueOf x).2).put H.next (some (.row (storeL [Value.string (mkS []), .string (mkS [])] 0 (storeL [Value.string (valueOf x).1, .string (valueOf x).2] 0 (storeL [Value.string (mkS []), .string (mkS [])] 0 .nil fun t => t) fun t => t) fun t => t) 2 62 true false))) := hwN.put _ (by omega)
      have hkP : Keeps H.next H ((H.newV (valueOf x).1 (valueOf x).2).put H.next (some (.row (storeL [Value.string (mkS []), .string (mkS [])] 0 (storeL [Value.string (valueOf x).1, .string (valueOf x).2] 0 (storeL [Value.string (mkS []), .string (mkS [])] 0 .nil fun t => t) fun t => t) fun t => t) 2 62 true false))) := hkN.trans (Keeps.put _ (Nat.le_refl _) (by show H.base ≤ _; exact hwf.base))
      obtain ⟨v', H', ha, hr', hone, hI⟩ := done _ (mkS []) (mkS []) (T.set [false, false] (T.set [true, false, true, true, true, true] (T.set [true, true, true] (T.set [true, false, true, true, false] tm (some (.bool true))) (some (ptrV H.next 0))) (some (.bool true))) (some (.int .i64 (.ofNat (i + 1))))) hwP hkP hkx (by simp [T.get_set, h1]) (by simp [T.get_set, h2]) (by simp [T.get_set, h3]) (by simp [T.get_set])
      rw [z_put_next] at ha
      have hn1 : ¬ H.next = h.next + 1 + 1 := by omega
      simp only [↓evD, evD, evU, evF, reduceCtorEq, evB, cf5_l0, h1, h3, h4, hatx, hg1, hb1, hlen, e1, e8, hatb, e2, e2', e4, e5, e6, hc1, hcall15, z_newV, hb2, hb3, hN, hNs, hNx, hNb, hr2', hgs0, hgs1, hgt0, hgt1, hq, e3, hn1, z_app, ha, hr', hone, hb4]
      exact .go hI
    | false =>
      have hkx : keptOf x = ((valueOf x).1, (valueOf x).2) := by unfold keptOf; rw [if_neg (beq_ne hq)]
      obtain ⟨v', H', ha, hr', hone, hI⟩ := done _ (valueOf x).1 (valueOf x).2 (T.set [false, false] (T.set [true, false, true, true, true, true] (T.set [true, true, true] (T.set [true, false, true, true, false] tm (some (.bool true))) (some (ptrV H.next 0))) (some (.bool false))) (some (.int .i64 (.ofNat (i + 1))))) hwN hkN hkx (by simp [T.get_set, h1]) (by simp [T.get_set, h2]) (by simp [T.get_set, h3]) (by simp [T.get_set])
      simp only [↓evD, evD, evU, evF, reduceCtorEq, evB, cf5_l0, h1, h3, h4, hatx, hg1, hb1, hlen, e1, e8, hatb, e2, e2', e4, e5, e6, hc1, hcall15, z_newV, hb2, hb3, hN, hNs, hNx, hNb, hr2', hgs0, hgs1, hgt0, hgt1, hq, e3, z_app, ha, hr', hone, hb4]
      exact .go hI
  · intro tm df H ⟨ko, cr, e2, h1, h2, h3, h4, hwf, hk, hr, hr0, hr1, hr2, hko, hkn⟩
    subst e2
    have hnH := hk.next
    have hatx : H.at h.next = some (rowL [Value.int .u16 (Int.ofNat ver), rv, rk] 3 28 true) := by rw [hk.at_ _ (by omega) (by omega)]; exact hsx
    have e : lk.take (min lk.length 4) = lk.take 4 := by
      rcases Nat.le_total lk.length 4 with hl | hl
      · rw [Nat.min_eq_left hl, List.take_of_length_le hl, List.take_length]
      · rw [Nat.min_eq_right hl]
    rw [e] at hko hkn
    have hfin : MadeE2 lk vi vo h.next Hs (.exit 2) (.exit 2) (T.set [true, false, true, true, false] tm (some (.bool false))) [] H :=
      ⟨rfl, ko, cr, rfl, by simp [T.get_set, h2], by simp [T.get_set, h3], hwf, hk, hr, hr0, hr1, hr2, hko, hkn⟩
    by_cases hl : lk.length ≤ 4
    · rw [Nat.min_eq_left hl] at h4
      have e1 := z_bltF (Nat.le_refl lk.length)
      simp only [↓evD, evD, evU, evF, reduceCtorEq, evB, cf5_l0, h1, h3, h4, hatx, hg1, hb1, hlen, e1]
      exact .ex hfin
    · rw [Nat.min_eq_right (by omega)] at h4
      have e1 : Nat.blt 4 lk.length = true := z_blt (by omega)
      have e8 : Nat.blt 4 4 = false := rfl
      simp only [↓evD, evD, evU, evF, reduceCtorEq, evB, cf5_l0, h1, h3, h4, hatx, hg1, hb1, hlen, e1, e8]
      exact .ex hfin
end Abs
end Go
