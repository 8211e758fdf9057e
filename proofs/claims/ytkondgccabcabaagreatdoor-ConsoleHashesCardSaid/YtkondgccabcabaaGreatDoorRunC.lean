/-
Symbolic runs of the evaluator: memory, and the equations gathered.
Conditions: none.
-/
import Derived.Test.YtkondgccabcabaaGreatDoorRunA
set_option linter.unusedVariables false
set_option linter.unusedSimpArgs false
/- Symbolic runs of the evaluator, part C: memory. -/
namespace Go
namespace Abs

/-- a row with these cells -/
noncomputable def rowL (l : List Value) (n : Nat) (e : TypeId) (cl : Bool) : AObj := .row (storeL l 0 .nil fun t => t) n e cl false
theorem z_new_next (h : Hp) (o : AObj) : (h.new o).next = h.next + 1 := rfl
theorem z_new_base (h : Hp) (o : AObj) : (h.new o).base = h.base := rfl
theorem z_new_log (h : Hp) (o : AObj) : (h.new o).log = h.log := rfl
theorem z_put_next (h : Hp) (b : Nat) (o : Option AObj) : (h.put b o).next = h.next := rfl
theorem z_put_base (h : Hp) (b : Nat) (o : Option AObj) : (h.put b o).base = h.base := rfl
theorem z_put_log {h : Hp} {b : Nat} {o : Option AObj} (hb : h.base ≤ b) : (h.put b o).log = h.log := by
  show logs h.base h.log b = h.log
  unfold logs
  rw [z_bltF hb]; rfl
theorem z_at_new (h : Hp) (c : Nat) (o : AObj) : (h.new o).at c = if h.next = c then some o else h.at c := Hp.at_new h c o
theorem z_at_put (h : Hp) (b c : Nat) (o : Option AObj) : (h.put b o).at c = if b = c then o else h.at c := Hp.at_put h b c o
theorem z_at_sb (h : Hp) (n : Nat) (l : List Nat) (b : Nat) : (setBase h n l).at b = h.at b := rfl
theorem z_sb_next (h : Hp) (n : Nat) (l : List Nat) : (setBase h n l).next = h.next := rfl
theorem z_sb_base (h : Hp) (n : Nat) (l : List Nat) : (setBase h n l).base = n := rfl
theorem z_sb_log (h : Hp) (n : Nat) (l : List Nat) : (setBase h n l).log = l := rfl
theorem z_sb_sb (h : Hp) (n m : Nat) (l k : List Nat) : setBase (setBase h n l) m k = setBase h m k := rfl
theorem z_sb_self (h : Hp) : setBase h h.base h.log = h := rfl
theorem z_new_sb (h : Hp) (n : Nat) (l : List Nat) (o : AObj) : (setBase h n l).new o = setBase (h.new o) n l := rfl
theorem z_sb_new_self (h : Hp) (o : AObj) : setBase (h.new o) h.base h.log = h.new o := rfl
theorem z_ne1 (n : Nat) : (n + 1 = n) = False := by simp
theorem z_ne2 (n : Nat) : (n + 1 + 1 = n) = False := by simp; omega
theorem z_ne3 (n : Nat) : (n + 1 + 1 + 1 = n) = False := by simp; omega
theorem z_ne1' (n : Nat) : (n = n + 1) = False := by simp
theorem z_ne2' (n : Nat) : (n = n + 1 + 1) = False := by simp; omega
theorem z_ne3' (n : Nat) : (n = n + 1 + 1 + 1) = False := by simp; omega
theorem z_box (e : TypeId) (x : OD) (call : Call) (lo : List Value) (tm : T Value) (h : Hp) : oBox e x call lo tm h = boxV e (rdO x lo tm) h := rfl
theorem z_boxA (e : TypeId) (l : List Value) (h : Hp) : boxV e (.agg ⟨l⟩) h = .val (ptrV h.next 0) (h.new (rowL l l.length e true)) := by
  show newRowK h e l (len l) true (fun b h => Res.val (ptrV b 0) h) = _
  rw [newRowK_eq, len_eq]; rfl
theorem z_alloc (e : TypeId) (z : List Value) (n : Nat) (call : Call) (lo : List Value) (tm : T Value) (h : Hp) : oAlloc e z n call lo tm h = .val (ptrV h.next 0) (h.new (rowL z n e true)) := newRowK_eq _ _ _ _ _ _
theorem z_store1 (a x : OD) (call : Call) (lo : List Value) (tm : T Value) (h : Hp) : oStore1 a x call lo tm h = vPtr (rdO a lo tm) (fun b o => writeK h b o [rdO x lo tm] (fun h => .val undef h) .none) .none := rfl
theorem z_storeA (n : Nat) (a x : OD) (call : Call) (lo : List Value) (tm : T Value) (h : Hp) : oStoreA n a x call lo tm h = vPtr (rdO a lo tm) (fun b o => vAgg (rdO x lo tm) (fun l => bif Nat.beq l.length n then writeK h b o l (fun h => .val undef h) .none else .none) .none) .none := by
  unfold oStoreA; simp only [len_eq]
theorem z_writeK {R : Type} (h : Hp) (b o : Nat) (l : List Value) (k : Hp → R) (z : R) : writeK h b o l k z = oEl (h.at b) (fun ob => rowO ob (fun c n e cl ro => bif ro then z else bif allOne l then bif Nat.ble (o + l.length) n then k (h.put b (some (.row (storeL l o c fun t => t) n e cl false))) else z else z) z) z := by
  unfold writeK rowK
  simp only [len_eq, Hp.putK_eq]
  show oEl (h.at b) _ z = oEl (h.at b) _ z
  congr 1
  funext ob
  cases ob with
  | row c n e cl ro =>
    show (bif ro then z else bif allOne l then bif Nat.ble (Nat.add o l.length) n then storeL l o c fun c => k (h.put b (some (.row c n e cl false))) else z else z) = _
    rw [storeL_eq]; rfl
  | iter s p => rfl
  | mp es => rfl
theorem z_rowRL {R : Type} (l : List Value) (n : Nat) (e : TypeId) (cl : Bool) (k : T Value → Nat → TypeId → Bool → Bool → R) (z : R) : rowO (rowL l n e cl) k z = k (storeL l 0 .nil fun t => t) n e cl false := rfl
theorem z_stget (l : List Value) (i : Nat) (c : T Value) (k : Nat) : (storeL l i c fun t => t).get (path k) = if i ≤ k ∧ k < i + l.length then l[k - i]? else c.get (path k) := storeL_get l i c k
theorem z_st10 (a : Value) : (storeL [a] 0 .nil fun t => t).get [] = some a := rfl
theorem z_st20 (a b : Value) : (storeL [a, b] 0 .nil fun t => t).get [] = some a := rfl
theorem z_st21 (a b : Value) : (storeL [a, b] 0 .nil fun t => t).get [true] = some b := rfl
theorem z_st30 (a b c : Value) : (storeL [a, b, c] 0 .nil fun t => t).get [] = some a := rfl
theorem z_st31 (a b c : Value) : (storeL [a, b, c] 0 .nil fun t => t).get [true] = some b := rfl
theorem z_st32 (a b c : Value) : (storeL [a, b, c] 0 .nil fun t => t).get [false] = some c := rfl
theorem z_ld1 (c : T Value) (o : Nat) : loadN c o 1 [] = oEl (c.get (path (o + 0))) (fun v => some [v]) none := rfl
theorem z_ld2 (c : T Value) (o : Nat) : loadN c o 2 [] = oEl (c.get (path (o + 1))) (fun v1 => oEl (c.get (path (o + 0))) (fun v0 => some [v0, v1]) none) none := rfl
theorem z_ld3 (c : T Value) (o : Nat) : loadN c o 3 [] = oEl (c.get (path (o + 2))) (fun v2 => oEl (c.get (path (o + 1))) (fun v1 => oEl (c.get (path (o + 0))) (fun v0 => some [v0, v1, v2]) none) none) none := rfl
theorem z_eqA (ls : List (Nat × Nat)) (neg : Bool) (x y : OD) (lo : List Value) (tm : T Value) : oEqA ls neg x y lo tm = vAgg (rdO x lo tm) (fun a => vAgg (rdO y lo tm) (fun b => oEl (leafEq ls a b) (fun t => some (.bool (bEqB neg (!t)))) none) none) none := by
  unfold oEqA; simp only [gB_eq]
theorem z_leaf2 (a b c d : ByteArray) : leafEq [(0, 3), (1, 3)] [.string a, .string b] [.string c, .string d] = some (lEq (bl a) (bl c) && lEq (bl b) (bl d)) := by
  show Bool.rec (motive := fun _ => Option Bool) (some false) (Bool.rec (motive := fun _ => Option Bool) (some false) (some true) (lEq (bl b) (bl d))) (lEq (bl a) (bl c)) = _
  cases lEq (bl a) (bl c) <;> cases lEq (bl b) (bl d) <;> rfl
theorem z_bEqT (t : Bool) : bEqB true t = t := by cases t <;> rfl
theorem z_bEqF (t : Bool) : bEqB false t = !t := by cases t <;> rfl
theorem z_buildS (e : TypeId) (n : Nat) (z : List Value) (parts : List (Nat × Nat × OD)) (call : Call) (lo : List Value) (tm : T Value) (h : Hp) :
    oBuildS e n z parts call lo tm h = fillK parts lo tm z (fun l => .val (slV h.next 0 n n) (h.new (rowL l l.length e true))) .none := by
  unfold oBuildS
  simp only [newRowK_eq, len_eq]
  rfl
theorem z_build (z : List Value) (parts : List (Nat × Nat × OD)) (lo : List Value) (tm : T Value) : oBuild z parts lo tm = fillK parts lo tm z (fun l => some (.agg ⟨l⟩)) none := rfl
theorem z_fill0 {R : Type} (lo : List Value) (tm : T Value) (z : List Value) (k : List Value → R) (no : R) : fillK [] lo tm z k no = k z := rfl
theorem z_fillC {R : Type} (p : Nat × Nat × OD) (r : List (Nat × Nat × OD)) (lo : List Value) (tm : T Value) (z : List Value) (k : List Value → R) (no : R) : fillK (p :: r) lo tm z k no = fill1 p.1 p.2.1 (rdO p.2.2 lo tm) z (fun z => fillK r lo tm z k no) no := rfl
theorem z_fillA {R : Type} (o n : Nat) (l z : List Value) (k : List Value → R) (no : R) : fill1 o n (.agg ⟨l⟩) z k no = bif Nat.beq l.length n then bif Nat.ble (o + n) z.length then k (over z o l) else no else no := by
  show (bif false then no else bif Nat.beq (len l) n then bif Nat.ble (Nat.add o n) (len z) then k (over z o l) else no else no) = _
  rw [len_eq, len_eq]; rfl
theorem z_fillS {R : Type} (o n : Nat) (s : ByteArray) (z : List Value) (k : List Value → R) (no : R) : fill1 o n (.string s) z k no = bif Nat.beq 1 n then bif Nat.ble (o + n) z.length then k (over z o [.string s]) else no else no := by
  show (bif false then no else bif Nat.beq 1 n then bif Nat.ble (Nat.add o n) (len z) then k (over z o [.string s]) else no else no) = _
  rw [len_eq]; rfl
theorem z_over2 (a b c d : Value) : over [a, b] 0 [c, d] = [c, d] := rfl
theorem z_one1 (s : ByteArray) : allOne [.string s] = true := rfl
theorem z_one2 (s t : ByteArray) : allOne [.string s, .string t] = true := rfl
theorem z_toInt (kd : IntKind) (x : OD) (lo : List Value) (tm : T Value) : oToInt kd x lo tm = vInt (rdO x lo tm) (fun _ a => some (.int kd (fwrap kd a))) none := by
  unfold oToInt; simp only [kInt_eq]
theorem z_remG (kd : IntKind) (a b : Nat) (hb : Nat.beq b 0 = false) : gRem kd (.ofNat a) (.ofNat b) = some (.int kd (.ofNat (a % b))) := by
  have e : ieq (.ofNat b) 0 = Nat.beq b 0 := rfl
  unfold gRem
  rw [e, hb, cond_false, kInt_eq]; rfl
theorem z_rem60001 (kd : IntKind) (a : Nat) : gRem kd (.ofNat a) (.ofNat 60001) = some (.int kd (.ofNat (a % 60001))) := z_remG kd a 60001 rfl
theorem z_rem8 (kd : IntKind) (a : Nat) : gRem kd (.ofNat a) (.ofNat 8) = some (.int kd (.ofNat (a % 8))) := z_remG kd a 8 rfl
theorem z_rem5 (kd : IntKind) (a : Nat) : gRem kd (.ofNat a) (.ofNat 5) = some (.int kd (.ofNat (a % 5))) := z_remG kd a 5 rfl
theorem z_rem4 (kd : IntKind) (a : Nat) : gRem kd (.ofNat a) (.ofNat 4) = some (.int kd (.ofNat (a % 4))) := z_remG kd a 4 rfl
theorem z_ixArr (n s : Nat) (x i : OD) (lo : List Value) (tm : T Value) : oIxArr n s x i lo tm = vNat (rdO i lo tm) (fun i => vPtr (rdO x lo tm) (fun b o => bif Nat.blt i n then some (ptrV b (o + i * s)) else none) none) none := by
  unfold oIxArr; simp only [forceNat_eq]; rfl
theorem z_over3 (a b c d : Value) : over [a, b, c] 0 [d] = [d, b, c] := rfl
theorem z_fillI {R : Type} (o n : Nat) (kd : IntKind) (s : Int) (z : List Value) (k : List Value → R) (no : R) : fill1 o n (.int kd s) z k no = bif Nat.beq 1 n then bif Nat.ble (o + n) z.length then k (over z o [.int kd s]) else no else no := by
  show (bif false then no else bif Nat.beq 1 n then bif Nat.ble (Nat.add o n) (len z) then k (over z o [.int kd s]) else no else no) = _
  rw [len_eq]; rfl
theorem z_oneI (kd : IntKind) (n : Int) (r : List Value) : allOne (.int kd n :: r) = allOne r := rfl
theorem z_oneS (s : ByteArray) (r : List Value) : allOne (.string s :: r) = allOne r := rfl
theorem z_oneB (b : Bool) (r : List Value) : allOne (.bool b :: r) = allOne r := rfl
theorem z_oneL (a : Option Addr) (l c : Nat) (r : List Value) : allOne (.slice a l c :: r) = allOne r := rfl
theorem z_oneL' (b o l c : Nat) (r : List Value) : allOne (slV b o l c :: r) = allOne r := rfl
theorem z_oneP (b o : Nat) (r : List Value) : allOne (ptrV b o :: r) = allOne r := rfl
theorem z_oneN : allOne [] = true := rfl
theorem z_put_sb (h : Hp) (n : Nat) (l : List Nat) (b : Nat) (o : Option AObj) : (setBase h n l).put b o = setBase (h.put b o) n (logs n l b) := rfl
theorem z_logs1 {b n : Nat} (hb : Nat.blt b n = true) : logs n [] b = [b] := by unfold logs; rw [hb]; rfl
theorem z_al1 (cm : Nat → Nat → Bool) (k : Nat) (bar : Bool) (own : List (Nat × Bool)) (d : Dn) (b : Nat) : allowed cm k bar own d [b] = bif Option.rec (motive := fun _ => Bool) bar (ownOk own) (owner d.ns b) then (bif metOk cm k b d.rs then true else false) else false := rfl
theorem z_owC (n : Nat × Nat) (r : List (Nat × Nat)) (b : Nat) : owner (n :: r) b = bif Nat.ble n.1 b then some n.2 else owner r b := rfl
theorem z_owN (b : Nat) : owner [] b = none := rfl
theorem z_meC (cm : Nat → Nat → Bool) (k b : Nat) (p : Nat × Nat) (l : List (Nat × Nat)) : metOk cm k b (p :: l) = bif Nat.beq p.2 b then (bif cm p.1 k then metOk cm k b l else false) else metOk cm k b l := rfl
theorem z_be1 {base b : Nat} {old : List Nat} (hb : base ≤ b) : below base [b] old = old := by
  show (bif Nat.blt b base then _ else _) = _
  rw [z_bltF hb]; rfl
theorem z_wr1 (k b : Nat) (ws : List (Nat × Nat)) : wrote k [b] ws = (k, b) :: ws := rfl
/-- a list that is no longer than that -/
class BL (x : List UInt8) (n : outParam Nat) : Prop where
  le : x.length ≤ n
instance blNil : BL [] 0 := ⟨Nat.le_refl _⟩
instance blCons (a : UInt8) (l : List UInt8) (n : Nat) [h : BL l n] : BL (a :: l) (n + 1) := ⟨by have := h.le; simp; omega⟩
instance blAppend (x y : List UInt8) (a b : Nat) [h : BL x a] [k : BL y b] : BL (x ++ y) (a + b) := ⟨by have := h.le; have := k.le; simp; omega⟩
theorem z_sAddC {x y : List UInt8} {a b : Nat} [h : BL x a] [k : BL y b] (hl : a + b < 9223372036854775808) : strOp .add x y = some (.string (mkS (x ++ y))) := z_sAdd (by have := h.le; have := k.le; omega)
theorem z_blmk (l : List UInt8) : bl (mkS l) = l := rfl
theorem z_slStr (x : OD) (l h : Option OD) (lo : List Value) (tm : T Value) : oSlStr x l h lo tm = vStr (rdO x lo tm) (fun s => bndK h lo tm (bl s).length (bl s).length (fun hi => bndK l lo tm 0 hi (fun lw => some (.string (mkS (takeL (hi - lw) (dropL lw (bl s)))))) none) none) none := by
  unfold oSlStr; simp only [len_eq]; rfl
theorem z_bndS {R : Type} (x : OD) (lo : List Value) (tm : T Value) (d t : Nat) (k : Nat → R) (z : R) : bndK (some x) lo tm d t k z = vNat (rdO x lo tm) (fun i => bif Nat.ble i t then k i else z) z := by
  unfold bndK; simp only [forceNat_eq]
theorem z_bndN {R : Type} (lo : List Value) (tm : T Value) (d t : Nat) (k : Nat → R) (z : R) : bndK none lo tm d t k z = k d := rfl
theorem z_neg (x : OD) (lo : List Value) (tm : T Value) : oNeg x lo tm = vInt (rdO x lo tm) (fun kd a => some (.int kd (fwrap kd (-a)))) none := by
  unfold oNeg; simp only [kInt_eq]
theorem z_ov30 (a b c x : Value) : over [a, b, c] 0 [x] = [x, b, c] := rfl
theorem z_ov31 (a b c x : Value) : over [a, b, c] 1 [x] = [a, x, c] := rfl
theorem z_ov32 (a b c x : Value) : over [a, b, c] 2 [x] = [a, b, x] := rfl
theorem z_ov40 (a b c d x : Value) : over [a, b, c, d] 0 [x] = [x, b, c, d] := rfl
theorem z_ov41 (a b c d x : Value) : over [a, b, c, d] 1 [x] = [a, x, c, d] := rfl
theorem z_ov42 (a b c d x : Value) : over [a, b, c, d] 2 [x] = [a, b, x, d] := rfl
theorem z_ov43 (a b c d x : Value) : over [a, b, c, d] 3 [x] = [a, b, c, x] := rfl
theorem z_ov2o (a b x : Value) : over [a, b] 1 [x] = [a, x] := rfl
theorem z_ov2z (a b x : Value) : over [a, b] 0 [x] = [x, b] := rfl
theorem z_ov10 (a x : Value) : over [a] 0 [x] = [x] := rfl
theorem z_len4 (a b c d : Value) : [a, b, c, d].length = 4 := rfl
theorem z_slA32 (x : OD) (lo : List Value) (tm : T Value) : oSlA 32 1 x none none none lo tm = vPtr (rdO x lo tm) (fun b o => some (slV b o 32 32)) none := by
  unfold oSlA
  show vPtr (rdO x lo tm) (fun b o => cutC b o 1 0 32 32) none = _
  congr 1
  funext b o
  unfold cutC cutSl
  simp only [forceNat_eq]; rfl
theorem z_b12 : Nat.ble 1 2 = true := rfl
theorem z_b22 : Nat.ble 2 2 = true := rfl
theorem z_b13 : Nat.ble 1 3 = true := rfl
theorem z_b23 : Nat.ble 2 3 = true := rfl
theorem z_b33 : Nat.ble 3 3 = true := rfl
theorem z_b14 : Nat.ble 1 4 = true := rfl
theorem z_b24 : Nat.ble 2 4 = true := rfl
theorem z_b34 : Nat.ble 3 4 = true := rfl
theorem z_b44 : Nat.ble 4 4 = true := rfl
theorem z_len0 : ([] : List Value).length = 0 := rfl
theorem z_len1 (a : Value) : [a].length = 1 := rfl
theorem z_len2 (a b : Value) : [a, b].length = 2 := rfl
theorem z_len3 (a b c : Value) : [a, b, c].length = 3 := rfl
theorem z_beqS (n : Nat) : Nat.beq n n = true := Nat.beq_refl n
/- lists of pairs of strings -/
def flat (l : List (ByteArray × ByteArray)) : List Value := l.flatMap fun x => [.string x.1, .string x.2]
theorem flat_len (l : List (ByteArray × ByteArray)) : (flat l).length = 2 * l.length := by
  induction l with
  | nil => rfl
  | cons x l ih => show ([Value.string x.1, .string x.2] ++ flat l).length = _; rw [List.length_append, ih]; simp; omega
theorem flat_get {l : List (ByteArray × ByteArray)} : ∀ {j : Nat} {x : ByteArray × ByteArray}, l[j]? = some x → (flat l)[j * 2]? = some (.string x.1) ∧ (flat l)[j * 2 + 1]? = some (.string x.2) := by
  induction l with
  | nil => intro j x h; simp at h
  | cons y l ih =>
    intro j x h
    have e : flat (y :: l) = .string y.1 :: .string y.2 :: flat l := rfl
    rw [e]
    cases j with
    | zero => simp at h; subst h; exact ⟨rfl, rfl⟩
    | succ j =>
      obtain ⟨h1, h2⟩ := ih (j := j) (x := x) (by simpa using h)
      have e1 : (j + 1) * 2 = j * 2 + 1 + 1 := by omega
      rw [e1]
      exact ⟨by simpa using h1, by simpa using h2⟩
theorem flat_append (l m : List (ByteArray × ByteArray)) : flat (l ++ m) = flat l ++ flat m := by simp [flat]
theorem flat_one (l : List (ByteArray × ByteArray)) : allOne (flat l) = true := by
  induction l with
  | nil => rfl
  | cons x l ih => exact ih
/-- pairs of strings in a row -/
def Pairs (h : Hp) (b : Nat) (l : List (ByteArray × ByteArray)) : Prop := ∃ c m e cl ro, h.at b = some (.row c m e cl ro) ∧ 2 * l.length ≤ m ∧ ∀ (j : Nat) (x : ByteArray × ByteArray), l[j]? = some x → c.get (path (j * 2)) = some (.string x.1) ∧ c.get (path (j * 2 + 1)) = some (.string x.2)
/-- a row of the call's own -/
def OwnP (h : Hp) (b : Nat) (l : List (ByteArray × ByteArray)) : Prop := h.at b = some (rowL (flat l) (2 * l.length) 62 false)
theorem OwnP.pairs {h : Hp} {b : Nat} {l : List (ByteArray × ByteArray)} (ho : OwnP h b l) : Pairs h b l := by
  refine ⟨_, _, _, _, _, ho, Nat.le_refl _, fun j x hx => ?_⟩
  have hj := (List.getElem?_eq_some_iff.1 hx).1
  obtain ⟨h1, h2⟩ := flat_get hx
  rw [z_stget, z_stget, if_pos ⟨by omega, by rw [flat_len]; omega⟩, if_pos ⟨by omega, by rw [flat_len]; omega⟩]
  exact ⟨h1, h2⟩
theorem loadN_eq {c : T Value} {o : Nat} : ∀ (n : Nat) (l acc : List Value), l.length = n → (∀ j, j < n → c.get (path (o + j)) = l[j]?) → loadN c o n acc = some (l ++ acc) := by
  intro n
  induction n with
  | zero => intro l acc hl _; have := List.eq_nil_of_length_eq_zero hl; subst this; rfl
  | succ n ih =>
    intro l acc hl hc
    show oEl (c.get (path (o + n))) (fun v => loadN c o n (v :: acc)) none = _
    rw [hc n (by omega), List.getElem?_eq_getElem (by omega)]
    show loadN c o n (l[n] :: acc) = _
    rw [ih (l.take n) (l[n] :: acc) (by simp; omega) fun j hj => by rw [hc j (by omega), List.getElem?_take, if_pos hj]]
    congr 1
    have : l = l.take n ++ [l[n]] := by
      have h1 := List.take_append_drop n l
      rw [List.drop_eq_getElem_cons (by omega), List.drop_of_length_le (by omega)] at h1
      exact h1.symm
    rw [List.append_cons]
    congr 1
    exact this.symm
theorem cellsOf_rowL {h : Hp} {b : Nat} {l : List Value} {n : Nat} {e : TypeId} {cl : Bool} (hat : h.at b = some (rowL l n e cl)) {m : Nat} (hm : m = l.length) (hn : l.length ≤ n) : cellsOf h b 0 m = some l := by
  subst hm
  show oEl (h.at b) (fun ob => cellsOb ob 0 l.length) none = _
  rw [hat]
  show (bif Nat.ble (0 + l.length) n then loadN _ 0 l.length [] else none) = _
  rw [z_ble (by omega), cond_true, loadN_eq l.length l [] rfl fun j hj => by rw [z_stget, if_pos ⟨by omega, by omega⟩]; congr 1; omega]
  simp
theorem cellsOf_pairs {h : Hp} {b : Nat} {l : List (ByteArray × ByteArray)} (hp : Pairs h b l) {m : Nat} (hm : m = 2 * l.length) : cellsOf h b 0 m = some (flat l) := by
  subst hm
  obtain ⟨c, n, e, cl, ro, hat, hn, hc⟩ := hp
  show oEl (h.at b) (fun ob => cellsOb ob 0 (2 * l.length)) none = _
  rw [hat]
  show (bif Nat.ble (0 + 2 * l.length) n then loadN _ 0 (2 * l.length) [] else none) = _
  rw [z_ble (by omega), cond_true, loadN_eq (2 * l.length) (flat l) [] (flat_len l) fun j hj => ?_]
  · simp
  · obtain ⟨x, hx⟩ : ∃ x, l[j / 2]? = some x := ⟨l[j / 2]'(by omega), by simp⟩
    obtain ⟨h1, h2⟩ := hc _ x hx
    obtain ⟨g1, g2⟩ := flat_get hx
    rcases Nat.mod_two_eq_zero_or_one j with hj2 | hj2
    · have e : 0 + j = j / 2 * 2 := by omega
      have e' : j = j / 2 * 2 := by omega
      rw [e, h1, ← g1, ← e']
    · have e : 0 + j = j / 2 * 2 + 1 := by omega
      rw [e, h2, ← g2]; congr 1; omega
theorem z_openS (s n : Nat) (hn : n < OPEN) : sure (openC s n) = n ∧ isOpen (openC s n) = true ∧ esz (openC s n) = s + 1 := by
  have hO : 0 < OPEN := by decide
  have e : openC s n = OPEN * (s + 1) + n := rfl
  have h1 : isOpen (openC s n) = true := by
    unfold isOpen
    rw [e]
    refine z_ble ?_
    have : OPEN * 1 ≤ OPEN * (s + 1) := Nat.mul_le_mul_left _ (by omega)
    omega
  refine ⟨?_, h1, ?_⟩
  · unfold sure
    rw [h1, cond_true, e]
    show (OPEN * (s + 1) + n) % OPEN = n
    rw [Nat.mul_add_mod]
    exact Nat.mod_eq_of_lt hn
  · unfold esz
    rw [e]
    show (OPEN * (s + 1) + n) / OPEN = s + 1
    rw [Nat.mul_add_div hO, Nat.div_eq_of_lt hn]
/-- append of one pair onto an empty slice -/
theorem app_first {h : Hp} {b y : Nat} {p q : ByteArray} {xo yo : OD} {lo : List Value} {tm : T Value} {call : Call} (hx : rdO xo lo tm = slV b 0 0 0 ∨ rdO xo lo tm = .slice none 0 0) (hy : rdO yo lo tm = slV y 0 1 1) (hat : h.at y = some (rowL [.string p, .string q] 2 62 true)) :
    oApp 62 2 xo yo call lo tm h = .val (slV h.next 0 1 (openC 2 1)) (h.new (rowL (flat [(p, q)]) (2 * [(p, q)].length) 62 false)) := by
  have hc : cellsOf h y 0 2 = some [.string p, .string q] := cellsOf_rowL hat rfl (Nat.le_refl _)
  unfold oApp
  rw [hy]
  show (bif Nat.beq 1 0 then vSl (rdO xo lo tm) (appS 62 2 h 0 []) (appN 62 2 h 0 []) .none else oEl (cellsOf h y 0 2) (fun new => vSl (rdO xo lo tm) (appS 62 2 h 1 new) (appN 62 2 h 1 new) .none) .none) = _
  rw [hc]
  show vSl (rdO xo lo tm) (appS 62 2 h 1 [.string p, .string q]) (appN 62 2 h 1 [.string p, .string q]) .none = _
  rcases hx with hx | hx
  · rw [hx]
    show opened 62 2 [.string p, .string q] 1 h = _
    unfold opened
    rw [newRowK_eq, forceNat_eq]; rfl
  · rw [hx]
    show opened 62 2 [.string p, .string q] 1 h = _
    unfold opened
    rw [newRowK_eq, forceNat_eq]; rfl
/-- append of one pair onto a row of the call's own -/
theorem app_more {h : Hp} {b y : Nat} {p q : ByteArray} {l : List (ByteArray × ByteArray)} {xo yo : OD} {lo : List Value} {tm : T Value} {call : Call} (hl : 0 < l.length) (hl2 : l.length < 1000000) (hx : rdO xo lo tm = slV b 0 l.length (openC 2 l.length)) (hy : rdO yo lo tm = slV y 0 1 1)
    (hat : h.at y = some (rowL [.string p, .string q] 2 62 true)) (ho : OwnP h b l) :
    oApp 62 2 xo yo call lo tm h = .val (slV h.next 0 (l.length + 1) (openC 2 (l.length + 1))) ((h.put b none).new (rowL (flat (l ++ [(p, q)])) (2 * (l ++ [(p, q)]).length) 62 false)) := by
  have hc : cellsOf h y 0 2 = some [.string p, .string q] := cellsOf_rowL hat rfl (Nat.le_refl _)
  have hold : cellsOf h b 0 (l.length * 2) = some (flat l) := cellsOf_pairs ho.pairs (by omega)
  obtain ⟨s1, s2, s3⟩ := z_openS 2 l.length (by unfold OPEN; omega)
  unfold oApp
  rw [hy]
  show (bif Nat.beq 1 0 then vSl (rdO xo lo tm) (appS 62 2 h 0 []) (appN 62 2 h 0 []) .none else oEl (cellsOf h y 0 2) (fun new => vSl (rdO xo lo tm) (appS 62 2 h 1 new) (appN 62 2 h 1 new) .none) .none) = _
  rw [hc]
  show vSl (rdO xo lo tm) (appS 62 2 h 1 [.string p, .string q]) (appN 62 2 h 1 [.string p, .string q]) .none = _
  rw [hx, z_vSlV]
  unfold appS
  rw [forceNat_eq]
  show (bif Nat.ble (l.length + 1) (sure (openC 2 l.length)) then _ else _) = _
  rw [s1, z_bleF (by omega), cond_false, z_ble (by show l.length + 1 ≤ 16777216; omega), cond_true]
  have hb0 : Nat.beq l.length 0 = false := by
    cases e : Nat.beq l.length 0 with
    | false => rfl
    | true => have := Nat.eq_of_beq_eq_true e; omega
  rw [hb0, cond_false]
  show oEl (cellsOf h b 0 (l.length * 2)) _ Res.none = _
  rw [hold]
  show (bif isOpen (openC 2 l.length) then _ else _) = _
  rw [s2, cond_true]
  unfold rowK
  show oEl (h.at b) _ Res.none = _
  rw [ho]
  show (bif false then Res.none else bif Nat.beq 62 62 && Nat.beq (esz (openC 2 l.length)) (Nat.succ 2) && allOne [.string p, .string q] then _ else _) = _
  rw [s3]
  show (h.putK b (Option.none : Option AObj) fun h => opened 62 2 (flat l ++ [Value.string p, .string q]) (l.length + 1) h) = _
  rw [Hp.putK_eq]
  unfold opened
  rw [newRowK_eq, forceNat_eq, len_eq]
  have e : flat (l ++ [(p, q)]) = flat l ++ [.string p, .string q] := flat_append _ _
  have e2 : (flat l ++ [Value.string p, .string q]).length = 2 * (l ++ [(p, q)]).length := by rw [← e, flat_len]
  rw [e, e2]; rfl
end Abs
end Go
/- Symbolic runs: the equations of the evaluator, gathered. -/
set_option linter.defProp false
set_option maxRecDepth 10000
namespace Go
namespace Abs
/-- equations -/
def evD := And.intro @z_seq <| And.intro @z_region <| And.intro @z_draw <| And.intro @z_P <| And.intro @z_F <| And.intro @z_N <| And.intro @z_R <| And.intro @z_G <| And.intro @z_DP <| And.intro @z_DF <| And.intro @z_DN <| And.intro @z_DR <| And.intro @z_DG <| And.intro @z_DGp <| And.intro @z_DGr <| And.intro @z_PRv <| And.intro @z_PRr <| And.intro @z_finD <| And.intro @z_Gp <| And.intro @z_Gr <| And.intro @z_Gg <| And.intro @z_fin <| And.intro @z_prV <| And.intro @z_prR <| And.intro @z_oEl <| And.intro @z_vSlV <| And.intro @z_vSl <| And.intro @z_vSlN <| And.intro @z_vInt <| And.intro @cond_true.{1} <| And.intro @cond_false.{1} <| And.intro @z_kn <| And.intro @z_ke <| And.intro @z_kr <| And.intro @z_cond <| And.intro @z_block <| And.intro @z_ret <| And.intro @z_exit <| And.intro @z_vBool <| And.intro @z_bt <| And.intro @z_bf <| And.intro @z_skip <| And.intro @z_vNat <| And.intro @z_vPtr <| And.intro @z_rowO <| And.intro @z_vStr <| And.intro @z_vGuard_tt <| And.intro @z_vGuard_tf <| And.intro @z_vGuard_ft <| And.intro @z_vGuard_ff <| And.intro @z_vGuard_u <| And.intro @z_vAgg <| And.intro @z_vTup <| @z_rowRL
/-- equations -/
def evU := And.intro @z_metNil <| And.intro @z_alNil <| And.intro @z_wrNil <| And.intro @z_beNil <| And.intro @z_move <| And.intro @z_t <| And.intro @z_l <| And.intro @z_v <| And.intro @z_o <| And.intro @z_lenL <| And.intro @z_lenS <| And.intro @z_n0 <| And.intro @z_nS <| And.intro @z_arith <| And.intro @z_kEq <| And.intro @z_lt <| And.intro @z_le <| And.intro @z_gt <| And.intro @z_ge <| And.intro @z_eq <| And.intro @z_ne <| And.intro @z_iltN <| And.intro @z_ieqN <| And.intro @T.get_set <| And.intro @z_ixSl <| And.intro @z_fldA <| And.intro @z_load1 <| And.intro @z_loadA <| And.intro @z_strOp <| And.intro @z_sEql <| And.intro @z_sNeq <| And.intro @z_sLss <| And.intro @z_sGeq <| And.intro @z_add <| And.intro @z_iaddN <| And.intro @z_pick <| And.intro @z_not <| And.intro @z_callF <| And.intro @z_rdLn <| And.intro @z_rdLc <| And.intro @after_ok <| And.intro @z_new_next <| And.intro @z_new_base <| And.intro @z_new_log <| And.intro @z_put_next <| And.intro @z_put_base <| And.intro @z_at_new <| And.intro @z_at_put <| And.intro @z_at_sb <| And.intro @z_sb_next <| And.intro @z_sb_base <| And.intro @z_sb_log <| And.intro @z_sb_sb <| And.intro @z_sb_self <| And.intro @z_new_sb <| And.intro @z_sb_new_self <| And.intro @z_ne1 <| And.intro @z_ne2 <| And.intro @z_ne3 <| And.intro @z_ne1' <| And.intro @z_ne2' <| And.intro @z_ne3' <| And.intro @z_box <| And.intro @z_boxA <| And.intro @z_alloc <| And.intro @z_store1 <| And.intro @z_storeA <| And.intro @z_writeK <| And.intro @z_st10 <| And.intro @z_st20 <| And.intro @z_st21 <| And.intro @z_st30 <| And.intro @z_st31 <| And.intro @z_st32 <| And.intro @z_ld2 <| And.intro @z_ld3 <| And.intro @z_eqA <| And.intro @z_leaf2 <| And.intro @z_bEqT <| And.intro @z_bEqF <| And.intro @z_build <| And.intro @z_fill0 <| And.intro @z_over2 <| And.intro @z_one1 <| And.intro @z_one2 <| And.intro @z_exR1 <| And.intro @yields_val <| And.intro @z_len0 <| And.intro @z_len1 <| And.intro @z_len2 <| And.intro @z_len3 <| And.intro @z_beqS <| And.intro @z_toInt <| And.intro @z_rem60001 <| And.intro @z_rem8 <| And.intro @z_rem5 <| And.intro @z_rem4 <| And.intro @z_ixArr <| And.intro @z_over3 <| And.intro @z_oneI <| And.intro @z_oneS <| And.intro @z_oneB <| And.intro @z_oneL <| And.intro @z_oneL' <| And.intro @z_oneP <| And.intro @z_oneN <| And.intro @z_put_sb <| And.intro @z_al1 <| And.intro @z_owC <| And.intro @z_owN <| And.intro @z_meC <| And.intro @z_wr1 <| And.intro @z_sAddC <| And.intro @z_blmk <| And.intro @z_slStr <| And.intro @z_bndS <| And.intro @z_bndN <| And.intro @z_neg <| And.intro @z_ov30 <| And.intro @z_ov31 <| And.intro @z_ov32 <| And.intro @z_ov40 <| And.intro @z_ov41 <| And.intro @z_ov42 <| And.intro @z_ov43 <| And.intro @z_ov2o <| And.intro @z_ov2z <| And.intro @z_ov10 <| And.intro @z_len4 <| And.intro @z_slA32 <| And.intro @z_b12 <| And.intro @z_b22 <| And.intro @z_b13 <| And.intro @z_b23 <| And.intro @z_b33 <| And.intro @z_b14 <| And.intro @z_b24 <| And.intro @z_b34 <| @z_b44
/-- equations -/
def evB := And.intro @z_buildS <| And.intro @z_fillC <| And.intro @z_fillA <| And.intro @z_fillS <| @z_fillI
/-- equations -/
def evF := And.intro @Bool.not_true <| And.intro @Bool.not_false <| And.intro @if_true.{1} <| And.intro @List.cons.injEq.{0} <| And.intro @Bool.true_eq_false <| And.intro @Bool.false_eq_true <| And.intro @and_false <| And.intro @false_and <| And.intro @and_true <| And.intro @true_and <| And.intro @and_self <| @if_false.{1}
end Abs
end Go
