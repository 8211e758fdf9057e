/-
Symbolic runs of the evaluator: what its parts answer.
Conditions: none.
-/
import Derived.Test.YtkondgccabcabaaGreatDoorEvalD
set_option linter.unusedVariables false
set_option linter.unusedSimpArgs false
/- Symbolic runs of the evaluator, part A: equations. -/
namespace Go
namespace Abs

/- what is looked at is brought to its form first, and nothing else -/
@[congr] theorem lz_oEl {α R : Type} {o o' : Option α} {k : α → R} {z : R} (h : o = o') : oEl o k z = oEl o' k z := by rw [h]
@[congr] theorem lz_vInt {R : Type} {v v' : Value} {k : IntKind → Int → R} {z : R} (h : v = v') : vInt v k z = vInt v' k z := by rw [h]
@[congr] theorem lz_vSl {R : Type} {v v' : Value} {k : Nat → Nat → Nat → Nat → R} {kn : Nat → Nat → R} {z : R} (h : v = v') : vSl v k kn z = vSl v' k kn z := by rw [h]
@[congr] theorem lz_vStr {R : Type} {v v' : Value} {k : ByteArray → R} {z : R} (h : v = v') : vStr v k z = vStr v' k z := by rw [h]
@[congr] theorem lz_vBool {R : Type} {v v' : Value} {k : Bool → R} {z : R} (h : v = v') : vBool v k z = vBool v' k z := by rw [h]
@[congr] theorem lz_vPtr {R : Type} {v v' : Value} {k : Nat → Nat → R} {z : R} (h : v = v') : vPtr v k z = vPtr v' k z := by rw [h]
@[congr] theorem lz_vAgg {R : Type} {v v' : Value} {k : List Value → R} {z : R} (h : v = v') : vAgg v k z = vAgg v' k z := by rw [h]
@[congr] theorem lz_vNat {R : Type} {v v' : Value} {k : Nat → R} {z : R} (h : v = v') : vNat v k z = vNat v' k z := by rw [h]
@[congr] theorem lz_vGuard {R : Type} {v v' : Value} {w : Bool} {y n z : R} (h : v = v') : vGuard v w y n z = vGuard v' w y n z := by rw [h]
@[congr] theorem lz_exK {r r' : ResC} {kn : T Value → Df → Hp → ResC} {ke : Nat → T Value → Df → Hp → ResC} (h : r = r') : exK r kn ke = exK r' kn ke := by rw [h]
@[congr] theorem lz_finC {tm : T Value} {df : Df} {k : Value → Hp → ResC} {r r' : Res} (h : r = r') : finC tm df k r = finC tm df k r' := by rw [h]
@[congr] theorem lz_finD {k : Value → Hp → ResC} {r r' : Res} (h : r = r') : finD k r = finD k r' := by rw [h]
@[congr] theorem lz_prK {hp : Hp} {k : Value → ResC} {r r' : PR} (h : r = r') : prK hp r k = prK hp r' k := by rw [h]
@[congr] theorem lz_cond {R : Type} {a b : R} {c c' : Bool} (h : c = c') : cond c a b = cond c' a b := by rw [h]
@[congr] theorem lz_exD {l : CD} {cm : Nat → Nat → Bool} {call : Call} {d d' : Dn} {lo : List Value} {tm tm' : T Value} {df : Df} {h h' : Hp} (h0 : d = d') (h1 : tm = tm') (h2 : h = h') : exD l cm call d lo tm df h = exD l cm call d' lo tm' df h' := by rw [h0, h1, h2]
@[congr] theorem lz_exL {l : CL} {call : Call} {lo : List Value} {tm tm' : T Value} {df : Df} {h h' : Hp} (h1 : tm = tm') (h2 : h = h') : exL l call lo tm df h = exL l call lo tm' df h' := by rw [h1, h2]
@[congr] theorem lz_exC {l : CC} {call : Call} {tm tm' : T Value} {df : Df} {h h' : Hp} (h1 : tm = tm') (h2 : h = h') : exC l call tm df h = exC l call tm' df h' := by rw [h1, h2]
noncomputable def bsel {R : Type} (a b : R) (t : Bool) : R := Bool.rec (motive := fun _ => R) a b t
@[congr] theorem lz_bsel {R : Type} {a b : R} {c c' : Bool} (h : c = c') : bsel a b c = bsel a b c' := by rw [h]
theorem z_bt {R : Type} (a b : R) : bsel a b true = b := rfl
theorem z_bf {R : Type} (a b : R) : bsel a b false = a := rfl
noncomputable def prD {R : Type} (z : R) (k : Value → R) (kr : Nat → (AObj → Option Value) → R) (p : PR) : R := PR.rec (motive := fun _ => R) z k kr p
@[congr] theorem lz_prD {R : Type} {z : R} {k : Value → R} {kr : Nat → (AObj → Option Value) → R} {p p' : PR} (h : p = p') : prD z k kr p = prD z k kr p' := by rw [h]
theorem z_oEl {α R : Type} (v : α) (k : α → R) (z : R) : oEl (some v) k z = k v := rfl
theorem z_oElN {α R : Type} (k : α → R) (z : R) : oEl (none : Option α) k z = z := rfl
theorem z_vInt {R : Type} (kd : IntKind) (n : Int) (k : IntKind → Int → R) (z : R) : vInt (.int kd n) k z = k kd n := rfl
theorem z_vSl {R : Type} (b o l c : Nat) (k : Nat → Nat → Nat → Nat → R) (kn : Nat → Nat → R) (z : R) : vSl (.slice (some ⟨b, o, none⟩) l c) k kn z = k b o l c := rfl
theorem z_vSlV {R : Type} (b o l c : Nat) (k : Nat → Nat → Nat → Nat → R) (kn : Nat → Nat → R) (z : R) : vSl (slV b o l c) k kn z = k b o l c := rfl
theorem z_vSlN {R : Type} (l c : Nat) (k : Nat → Nat → Nat → Nat → R) (kn : Nat → Nat → R) (z : R) : vSl (.slice none l c) k kn z = kn l c := rfl
theorem z_vStr {R : Type} (s : ByteArray) (k : ByteArray → R) (z : R) : vStr (.string s) k z = k s := rfl
theorem z_vBool {R : Type} (b : Bool) (k : Bool → R) (z : R) : vBool (.bool b) k z = k b := rfl
theorem z_vPtr {R : Type} (b o : Nat) (k : Nat → Nat → R) (z : R) : vPtr (ptrV b o) k z = k b o := rfl
theorem z_vPtr' {R : Type} (b o : Nat) (k : Nat → Nat → R) (z : R) : vPtr (.pointer (some ⟨b, o, none⟩)) k z = k b o := rfl
theorem z_vAgg {R : Type} (a : List Value) (k : List Value → R) (z : R) : vAgg (.agg ⟨a⟩) k z = k a := rfl
theorem z_vTup {R : Type} (a : List Value) (k : List Value → R) (z : R) : vTup (.tuple ⟨a⟩) k z = k a := rfl
theorem z_vNat {R : Type} (kd : IntKind) (n : Nat) (k : Nat → R) (z : R) : vNat (.int kd (.ofNat n)) k z = k n := rfl
theorem z_vNat' {R : Type} (kd : IntKind) (n : Nat) (k : Nat → R) (z : R) : vNat (.int kd (n : Int)) k z = k n := rfl
theorem z_vGuard_tt {R : Type} (y n z : R) : vGuard (.bool true) true y n z = y := rfl
theorem z_vGuard_tf {R : Type} (y n z : R) : vGuard (.bool true) false y n z = n := rfl
theorem z_vGuard_ft {R : Type} (y n z : R) : vGuard (.bool false) true y n z = n := rfl
theorem z_vGuard_ff {R : Type} (y n z : R) : vGuard (.bool false) false y n z = y := rfl
theorem z_vGuard_u {R : Type} (want : Bool) (y n z : R) : vGuard undef want y n z = n := rfl
/- code -/
theorem z_seq (a b : CC) (call : Call) (tm : T Value) (df : Df) (h : Hp) : exC (.seq a b) call tm df h = exK (exC a call tm df h) (exC b call) (fun i tm df h => .ok (.exit i) tm df h) := rfl
theorem z_region (l : CL) (call : Call) (tm : T Value) (df : Df) (h : Hp) : exC (.region l) call tm df h = exL l call [] tm df h := rfl
theorem z_draw (an : T Nat) (l : CD) (call : Call) (tm : T Value) (df : Df) (h : Hp) : exC (.draw an l) call tm df h = exD l (comp an) call ⟨[], [], []⟩ [] tm df h := rfl
theorem z_skip (call : Call) (tm : T Value) (df : Df) (h : Hp) : exC .skip call tm df h = .ok .normal tm df h := rfl
theorem z_ret (call : Call) (tm : T Value) (df : Df) (h : Hp) : exC .ret call tm df h = .ok .ret tm df h := rfl
theorem z_exit (i : Nat) (call : Call) (tm : T Value) (df : Df) (h : Hp) : exC (.exit i) call tm df h = .ok (.exit i) tm df h := rfl
theorem z_cond (c : OD) (a b : CC) (call : Call) (tm : T Value) (df : Df) (h : Hp) : exC (.cond c a b) call tm df h = vBool (rdO c [] tm) (fun b' => bsel (exC b call tm df h) (exC a call tm df h) b') .none := rfl
theorem z_block (id : Nat) (b : CC) (call : Call) (tm : T Value) (df : Df) (h : Hp) : exC (.block id b) call tm df h = exK (exC b call tm df h) (fun tm df h => .ok .normal tm df h) (fun i tm df h => bif Nat.beq i id then .ok .normal tm df h else .ok (.exit i) tm df h) := rfl
theorem z_loop (b : CC) (call : Call) (tm : T Value) (df : Df) (h : Hp) : exC (.loop b) call tm df h = loopN (exC b) 1000000 call tm df h := rfl
theorem z_round (a : D) (n : Nat) (call : Call) (tm : T Value) (df : Df) (h : Hp) : loopN a (n + 1) call tm df h = exK (a call tm df h) (loopN a n call) (fun i tm df h => .ok (.exit i) tm df h) := rfl
theorem z_kn (tm : T Value) (df : Df) (h : Hp) (kn : T Value → Df → Hp → ResC) (ke : Nat → T Value → Df → Hp → ResC) : exK (.ok .normal tm df h) kn ke = kn tm df h := rfl
theorem z_ke (i : Nat) (tm : T Value) (df : Df) (h : Hp) (kn : T Value → Df → Hp → ResC) (ke : Nat → T Value → Df → Hp → ResC) : exK (.ok (.exit i) tm df h) kn ke = ke i tm df h := rfl
theorem z_kr (tm : T Value) (df : Df) (h : Hp) (kn : T Value → Df → Hp → ResC) (ke : Nat → T Value → Df → Hp → ResC) : exK (.ok .ret tm df h) kn ke = .ok .ret tm df h := rfl
/- regions -/
theorem z_P (f : DP) (r : CL) (call : Call) (lo : List Value) (tm : T Value) (df : Df) (h : Hp) : exL (.consP f r) call lo tm df h = oEl (f lo tm) (fun v => exL r call (v :: lo) tm df h) .none := rfl
theorem z_R (f : DR) (r : CL) (call : Call) (lo : List Value) (tm : T Value) (df : Df) (h : Hp) : exL (.consR f r) call lo tm df h = prK h (f lo tm) (fun v => exL r call (v :: lo) tm df h) := rfl
theorem z_G (fl : Fl) (f : DO) (r : CL) (call : Call) (lo : List Value) (tm : T Value) (df : Df) (h : Hp) : exL (.consG fl f r) call lo tm df h = finC (fl.go lo tm) df (fun v h => exL r call (v :: lo) tm df h) (f call lo tm h) := rfl
theorem z_F (i : Nat) (p : List Bool) (r : CL) (call : Call) (lo : List Value) (tm : T Value) (df : Df) (h : Hp) : exL (.flush i p r) call lo tm df h = exL r call lo (T.set p tm (some (nth lo i))) df h := T.setK_eq _ _ _ _
theorem z_N (call : Call) (lo : List Value) (tm : T Value) (df : Df) (h : Hp) : exL .nil call lo tm df h = .ok .normal tm df h := rfl
theorem z_Gp (fl : Fl) (g : OD) (want : Bool) (f : DP) (r : CL) (call : Call) (lo : List Value) (tm : T Value) (df : Df) (h : Hp) : exL (.guard fl g want (.p f) r) call lo tm df h = vGuard (rdO g lo tm) want (oEl (f lo tm) (fun v => exL r call (v :: lo) tm df h) .none) (exL r call (undef :: lo) tm df h) .none := rfl
theorem z_Gr (fl : Fl) (g : OD) (want : Bool) (f : DR) (r : CL) (call : Call) (lo : List Value) (tm : T Value) (df : Df) (h : Hp) : exL (.guard fl g want (.r f) r) call lo tm df h = vGuard (rdO g lo tm) want (prK h (f lo tm) (fun v => exL r call (v :: lo) tm df h)) (exL r call (undef :: lo) tm df h) .none := rfl
theorem z_Gg (fl : Fl) (g : OD) (want : Bool) (f : DO) (r : CL) (call : Call) (lo : List Value) (tm : T Value) (df : Df) (h : Hp) : exL (.guard fl g want (.g f) r) call lo tm df h = vGuard (rdO g lo tm) want (finC (fl.go lo tm) df (fun v h => exL r call (v :: lo) tm df h) (f call lo tm h)) (exL r call (undef :: lo) tm df h) .none := rfl
theorem z_fin (tm : T Value) (df : Df) (k : Value → Hp → ResC) (v : Value) (h : Hp) : finC tm df k (.val v h) = k v h := rfl
theorem z_prV (h : Hp) (v : Value) (k : Value → ResC) : prK h (.val v) k = k v := rfl
theorem z_prR (h : Hp) (b : Nat) (g : AObj → Option Value) (k : Value → ResC) : prK h (.read b g) k = oEl (h.at b) (fun o => oEl (g o) k .none) .none := rfl
theorem z_rowO {R : Type} (c : T Value) (n : Nat) (e : TypeId) (cl ro : Bool) (k : T Value → Nat → TypeId → Bool → Bool → R) (z : R) : rowO (.row c n e cl ro) k z = k c n e cl ro := rfl
/- drawn regions -/
theorem z_DP (f : DP) (r : CD) (cm : Nat → Nat → Bool) (call : Call) (d : Dn) (lo : List Value) (tm : T Value) (df : Df) (h : Hp) : exD (.consP f r) cm call d lo tm df h = oEl (f lo tm) (fun v => exD r cm call d (v :: lo) tm df h) .none := rfl
theorem z_DF (i : Nat) (p : List Bool) (r : CD) (cm : Nat → Nat → Bool) (call : Call) (d : Dn) (lo : List Value) (tm : T Value) (df : Df) (h : Hp) : exD (.flush i p r) cm call d lo tm df h = exD r cm call d lo (T.set p tm (some (nth lo i))) df h := T.setK_eq _ _ _ _
theorem z_DN (cm : Nat → Nat → Bool) (call : Call) (d : Dn) (lo : List Value) (tm : T Value) (df : Df) (h : Hp) : exD .nil cm call d lo tm df h = .ok .normal tm df h := rfl
theorem z_DR (k : Nat) (f : DR) (r : CD) (cm : Nat → Nat → Bool) (call : Call) (d : Dn) (lo : List Value) (tm : T Value) (df : Df) (h : Hp) : exD (.consR k f r) cm call d lo tm df h = prD .none (fun v => exD r cm call d (v :: lo) tm df h)
  (fun b g => bif metOk cm k b d.ws then oEl (h.at b) (fun o => oEl (g o) (fun v => exD r cm call ⟨d.ns, (k, b) :: d.rs, d.ws⟩ (v :: lo) tm df h) .none) .none else .none) (f lo tm) := rfl
theorem z_PRv {R : Type} (z : R) (k : Value → R) (kr : Nat → (AObj → Option Value) → R) (v : Value) : prD z k kr (.val v) = k v := rfl
theorem z_PRr {R : Type} (z : R) (k : Value → R) (kr : Nat → (AObj → Option Value) → R) (b : Nat) (g : AObj → Option Value) : prD z k kr (.read b g) = kr b g := rfl
theorem z_DG (n : Nat) (bar : Bool) (own : List (Nat × Bool)) (f : DO) (r : CD) (cm : Nat → Nat → Bool) (call : Call) (d : Dn) (lo : List Value) (tm : T Value) (df : Df) (h : Hp) : exD (.consG n bar own f r) cm call d lo tm df h =
  finD (fun v h1 => bif allowed cm n bar own d h1.log then exD r cm call ⟨(h.next, n) :: d.ns, d.rs, wrote n h1.log d.ws⟩ (v :: lo) tm df (setBase h1 h.base (below h.base h1.log h.log)) else .none) (f call lo tm (setBase h h.next [])) := rfl
theorem z_finD (k : Value → Hp → ResC) (v : Value) (h : Hp) : finD k (.val v h) = k v h := rfl
theorem z_DGp (g : OD) (want : Bool) (f : DP) (r : CD) (cm : Nat → Nat → Bool) (call : Call) (d : Dn) (lo : List Value) (tm : T Value) (df : Df) (h : Hp) : exD (.guardP g want f r) cm call d lo tm df h = vGuard (rdO g lo tm) want (oEl (f lo tm) (fun v => exD r cm call d (v :: lo) tm df h) .none) (exD r cm call d (undef :: lo) tm df h) .none := rfl
theorem z_DGr (k : Nat) (g : OD) (want : Bool) (f : DR) (r : CD) (cm : Nat → Nat → Bool) (call : Call) (d : Dn) (lo : List Value) (tm : T Value) (df : Df) (h : Hp) : exD (.guardR k g want f r) cm call d lo tm df h = vGuard (rdO g lo tm) want (exD (.consR k f r) cm call d lo tm df h) (exD r cm call d (undef :: lo) tm df h) .none := rfl
theorem z_metNil (cm : Nat → Nat → Bool) (k b : Nat) : metOk cm k b [] = true := rfl
theorem z_alNil (cm : Nat → Nat → Bool) (k : Nat) (bar : Bool) (own : List (Nat × Bool)) (d : Dn) : allowed cm k bar own d [] = true := rfl
theorem z_wrNil (k : Nat) (ws : List (Nat × Nat)) : wrote k [] ws = ws := rfl
theorem z_beNil (b : Nat) (old : List Nat) : below b [] old = old := rfl
/- operands -/
theorem z_l (i : Nat) (lo : List Value) (tm : T Value) : rdO (.loc i) lo tm = nth lo i := rfl
theorem z_t (p : List Bool) (lo : List Value) (tm : T Value) : rdO (.tmp p) lo tm = oget (tm.get p) := rfl
theorem z_v (v : Value) (lo : List Value) (tm : T Value) : rdO (.val v) lo tm = v := rfl
theorem z_o (v : Value) : oget (some v) = v := rfl
theorem z_n0 (v : Value) (l : List Value) : nth (v :: l) 0 = v := rfl
theorem z_nS (v : Value) (l : List Value) (i : Nat) : nth (v :: l) (i + 1) = nth l i := rfl
theorem z_rdLn (lo : List Value) (tm : T Value) : rdL [] lo tm = [] := rfl
theorem z_rdLc (o : OD) (l : List OD) (lo : List Value) (tm : T Value) : rdL (o :: l) lo tm = rdO o lo tm :: rdL l lo tm := rfl
/- operations -/
theorem z_move (x : OD) (lo : List Value) (tm : T Value) : oMove x lo tm = some (rdO x lo tm) := rfl
theorem z_lenL (x : OD) (lo : List Value) (tm : T Value) : oLenL x lo tm = vSl (rdO x lo tm) (fun _ _ l _ => some (.int .i64 (.ofNat l))) (fun l _ => some (.int .i64 (.ofNat l))) none := by
  unfold oLenL; simp only [kNat_eq]; rfl
theorem z_lenS (x : OD) (lo : List Value) (tm : T Value) : oLenS x lo tm = vStr (rdO x lo tm) (fun s => some (.int .i64 (.ofNat (bl s).length))) none := by
  unfold oLenS; simp only [kNat_eq, len_eq]; rfl
theorem z_arith (g : G) (x y : OD) (lo : List Value) (tm : T Value) : oArith g x y lo tm = vInt (rdO x lo tm) (fun kd a => vInt (rdO y lo tm) (fun kd' b => bif kEq kd kd' then g kd a b else none) none) none := rfl
theorem z_kEq (k : IntKind) : kEq k k = true := by cases k <;> rfl
theorem z_lt (kd : IntKind) (x y : Int) : gLt kd x y = some (.bool (ilt x y)) := gB_eq _
theorem z_le (kd : IntKind) (x y : Int) : gLe kd x y = some (.bool (!ilt y x)) := gB_eq _
theorem z_gt (kd : IntKind) (x y : Int) : gGt kd x y = some (.bool (ilt y x)) := gB_eq _
theorem z_ge (kd : IntKind) (x y : Int) : gGe kd x y = some (.bool (!ilt x y)) := gB_eq _
theorem z_eq (kd : IntKind) (x y : Int) : gEq kd x y = some (.bool (ieq x y)) := gB_eq _
theorem z_ne (kd : IntKind) (x y : Int) : gNe kd x y = some (.bool (!ieq x y)) := gB_eq _
theorem z_add (kd : IntKind) (x y : Int) : gAdd kd x y = some (.int kd (fwrap kd (iadd x y))) := by unfold gAdd; rw [kInt_eq]
theorem z_sub (kd : IntKind) (x y : Int) : gSub kd x y = some (.int kd (fwrap kd (x - y))) := by unfold gSub; rw [kInt_eq]
theorem z_iaddN (a b : Nat) : iadd (.ofNat a) (.ofNat b) = .ofNat (a + b) := rfl
theorem z_iltN (a b : Nat) : ilt (.ofNat a) (.ofNat b) = Nat.blt a b := rfl
theorem z_ieqN (a b : Nat) : ieq (.ofNat a) (.ofNat b) = Nat.beq a b := rfl
theorem z_wrapN {a : Nat} (h : a < 9223372036854775808) : fwrap .i64 (.ofNat a) = .ofNat a := by
  show (bif Nat.blt a 9223372036854775808 then _ else _) = _
  rw [Nat.blt_eq.mpr h]; rfl
theorem z_blt {a b : Nat} (h : a < b) : Nat.blt a b = true := Nat.blt_eq.mpr h
theorem z_bltF {a b : Nat} (h : b ≤ a) : Nat.blt a b = false := by
  cases e : Nat.blt a b with
  | false => rfl
  | true => have := Nat.blt_eq.mp e; omega
theorem z_ble {a b : Nat} (h : a ≤ b) : Nat.ble a b = true := Nat.ble_eq.mpr h
theorem z_bleF {a b : Nat} (h : b < a) : Nat.ble a b = false := by
  cases e : Nat.ble a b with
  | false => rfl
  | true => have := Nat.ble_eq.mp e; omega
theorem z_ixSl (s : Nat) (x i : OD) (lo : List Value) (tm : T Value) : oIxSl s x i lo tm = vNat (rdO i lo tm) (fun i => vSl (rdO x lo tm) (fun b o l _ => bif Nat.blt i l then some (ptrV b (o + i * s)) else none) (fun _ _ => none) none) none := by
  unfold oIxSl; simp only [forceNat_eq]; rfl
theorem z_fldA (off : Nat) (x : OD) (lo : List Value) (tm : T Value) : oFldA off x lo tm = vPtr (rdO x lo tm) (fun b o => some (ptrV b (o + off))) none := by
  unfold oFldA; simp only [forceNat_eq]; rfl
theorem z_load1 (a : OD) (lo : List Value) (tm : T Value) : oLoad1 a lo tm = vPtr (rdO a lo tm) (fun b o => .read b fun ob => rowO ob (fun c n _ _ _ => bif Nat.blt o n then c.get (path o) else none) none) .none := rfl
theorem z_loadA (m : Nat) (a : OD) (lo : List Value) (tm : T Value) : oLoadA m a lo tm = vPtr (rdO a lo tm) (fun b o => .read b fun ob => rowO ob (fun c n _ _ _ => bif Nat.ble (o + m) n then oEl (loadN c o m []) (fun l => some (.agg ⟨l⟩)) none else none) none) .none := rfl
theorem z_strOp (op : BinOp) (x y : OD) (lo : List Value) (tm : T Value) : oStrOp op x y lo tm = vStr (rdO x lo tm) (fun a => vStr (rdO y lo tm) (fun b => strOp op (bl a) (bl b)) none) none := rfl
theorem z_sEql (x y : List UInt8) : strOp .eql x y = some (.bool (lEq x y)) := gB_eq _
theorem z_sNeq (x y : List UInt8) : strOp .neq x y = some (.bool (!lEq x y)) := gB_eq _
theorem z_sLss (x y : List UInt8) : strOp .lss x y = some (.bool (lLt x y)) := gB_eq _
theorem z_sGeq (x y : List UInt8) : strOp .geq x y = some (.bool (!lLt x y)) := gB_eq _
theorem z_sAdd {x y : List UInt8} (h : x.length + y.length < 9223372036854775808) : strOp .add x y = some (.string (mkS (x ++ y))) := by
  show (bif Nat.blt (Nat.add (len x) (len y)) 9223372036854775808 then kStr (x ++ y) else none) = _
  rw [len_eq, len_eq]
  show (bif Nat.blt (x.length + y.length) 9223372036854775808 then kStr (x ++ y) else none) = _
  rw [z_blt h]; rfl
theorem z_pick (c a b : OD) (lo : List Value) (tm : T Value) : oPick c a b lo tm = vBool (rdO c lo tm) (fun t => bsel (some (rdO b lo tm)) (some (rdO a lo tm)) t) none := rfl
theorem z_not (x : OD) (lo : List Value) (tm : T Value) : oNot x lo tm = vBool (rdO x lo tm) (fun b => some (.bool (!b))) none := by
  unfold oNot; simp only [gB_eq]
theorem z_callF (g : FuncId) (l : List OD) (call : Call) (lo : List Value) (tm : T Value) (h : Hp) : oCallF g l call lo tm h = call g (rdL l lo tm) h := rfl
theorem z_load2 (c : T Value) (o : Nat) {v0 v1 : Value} (h0 : c.get (path o) = some v0) (h1 : c.get (path (o + 1)) = some v1) : loadN c o 2 [] = some [v0, v1] := by
  show oEl (c.get (path (o + 1))) (fun v => oEl (c.get (path (o + 0))) (fun v' => some (v' :: v :: [])) none) none = _
  rw [h1, Nat.add_zero, h0]; rfl
end Abs
end Go
/- Symbolic runs of the evaluator, part B: loops, functions, calls that are known by a contract. -/
namespace Go
namespace Abs

/- ===== results of code, described ===== -/
def After (r : ResC) (φ : Ex → T Value → Df → Hp → Prop) : Prop := match r with | .none => False | .ok e tm df h => φ e tm df h
theorem after_ok (e : Ex) (tm : T Value) (df : Df) (h : Hp) (φ : Ex → T Value → Df → Hp → Prop) : After (.ok e tm df h) φ = φ e tm df h := rfl
theorem After.mono {r : ResC} {φ ψ : Ex → T Value → Df → Hp → Prop} (h : After r φ) (hi : ∀ e tm df h, φ e tm df h → ψ e tm df h) : After r ψ := by
  cases r with
  | none => exact h
  | ok e tm df h' => exact hi _ _ _ _ h
/-- code that ends as 'φ' says, and what comes behind it -/
theorem After.exK {r : ResC} {φ ψ : Ex → T Value → Df → Hp → Prop} {kn : T Value → Df → Hp → ResC} {ke : Nat → T Value → Df → Hp → ResC} (h : After r φ) (hi : ∀ e tm df h, φ e tm df h → After (Abs.exK (.ok e tm df h) kn ke) ψ) : After (Abs.exK r kn ke) ψ := by
  cases r with
  | none => exact h
  | ok e tm df h' => exact hi _ _ _ _ h
/-- a round of a loop: it goes on, or it ends -/
def LStep (I : Nat → T Value → Df → Hp → Prop) (φ : Ex → T Value → Df → Hp → Prop) (i : Nat) (e : Ex) (tm : T Value) (df : Df) (h : Hp) : Prop := (e = .normal ∧ I (i + 1) tm df h) ∨ (e ≠ .normal ∧ φ e tm df h)
theorem LStep.go {I : Nat → T Value → Df → Hp → Prop} {φ : Ex → T Value → Df → Hp → Prop} {i : Nat} {tm : T Value} {df : Df} {h : Hp} (hI : I (i + 1) tm df h) : LStep I φ i .normal tm df h := .inl ⟨rfl, hI⟩
theorem LStep.ex {I : Nat → T Value → Df → Hp → Prop} {φ : Ex → T Value → Df → Hp → Prop} {i k : Nat} {tm : T Value} {df : Df} {h : Hp} (hI : φ (.exit k) tm df h) : LStep I φ i (.exit k) tm df h := .inr ⟨by simp, hI⟩
theorem LStep.ret {I : Nat → T Value → Df → Hp → Prop} {φ : Ex → T Value → Df → Hp → Prop} {i : Nat} {tm : T Value} {df : Df} {h : Hp} (hI : φ .ret tm df h) : LStep I φ i .ret tm df h := .inr ⟨by simp, hI⟩
def LEnd (φ : Ex → T Value → Df → Hp → Prop) (e : Ex) (tm : T Value) (df : Df) (h : Hp) : Prop := e ≠ .normal ∧ φ e tm df h
theorem LEnd.ex {φ : Ex → T Value → Df → Hp → Prop} {k : Nat} {tm : T Value} {df : Df} {h : Hp} (hI : φ (.exit k) tm df h) : LEnd φ (.exit k) tm df h := ⟨by simp, hI⟩
theorem loop_ind {a : D} {call : Call} {n : Nat} (I : Nat → T Value → Df → Hp → Prop) {φ : Ex → T Value → Df → Hp → Prop}
    (hstep : ∀ i tm df h, i < n → I i tm df h → After (a call tm df h) (LStep I φ i))
    (hend : ∀ tm df h, I n tm df h → After (a call tm df h) (LEnd φ)) :
    ∀ (fuel i : Nat) (tm : T Value) (df : Df) (h : Hp), n < i + fuel → i ≤ n → I i tm df h → After (loopN a fuel call tm df h) φ := by
  have out : ∀ (e : Ex) (tm : T Value) (df : Df) (h : Hp) (fuel : Nat), e ≠ .normal → φ e tm df h → After (Abs.exK (.ok e tm df h) (loopN a fuel call) (fun i tm df h => .ok (.exit i) tm df h)) φ := fun e tm df h fuel hn hp => by
    cases e with
    | normal => exact absurd rfl hn
    | exit i => exact hp
    | ret => exact hp
    | panic c => exact hp
  intro fuel
  induction fuel with
  | zero => intro i tm df h h1 h2; omega
  | succ fuel ih =>
    intro i tm df h h1 h2 hI
    rw [z_round]
    by_cases hi : i < n
    · refine (hstep i tm df h hi hI).exK fun e tm' df' h' hh => ?_
      rcases hh with ⟨rfl, hh⟩ | ⟨hn, hh⟩
      · rw [z_kn]; exact ih (i + 1) tm' df' h' (by omega) (by omega) hh
      · exact out e tm' df' h' fuel hn hh
    · have : i = n := by omega
      subst this
      exact (hend tm df h hI).exK fun e tm' df' h' hh => out e tm' df' h' fuel hh.1 hh.2
theorem loop_for {b : CC} {call : Call} {n : Nat} (hn : n < 1000000) (I : Nat → T Value → Df → Hp → Prop) {φ : Ex → T Value → Df → Hp → Prop} {tm : T Value} {df : Df} {h : Hp}
    (hstep : ∀ i tm df h, i < n → I i tm df h → After (exC b call tm df h) (LStep I φ i))
    (hend : ∀ tm df h, I n tm df h → After (exC b call tm df h) (LEnd φ)) (h0 : I 0 tm df h) : After (exC (.loop b) call tm df h) φ := by
  rw [z_loop]
  exact loop_ind I hstep hend 1000000 0 tm df h (by omega) (Nat.zero_le _) h0

/- ===== functions ===== -/
def Yields (r : Res) (φ : Value → Hp → Prop) : Prop := match r with | .val v h => φ v h | _ => False
theorem yields_val (v : Value) (h : Hp) (φ : Value → Hp → Prop) : Yields (.val v h) φ = φ v h := rfl
theorem Yields.get {r : Res} {φ : Value → Hp → Prop} (h : Yields r φ) : ∃ v h', r = .val v h' ∧ φ v h' := by
  cases r with
  | val v h' => exact ⟨v, h', rfl, h⟩
  | none => exact h.elim
  | panic c h' => exact h.elim
theorem Yields.mono {r : Res} {φ ψ : Value → Hp → Prop} (h : Yields r φ) (hi : ∀ v h, φ v h → ψ v h) : Yields r ψ := by
  cases r with
  | val v h' => exact hi _ _ h
  | none => exact h
  | panic c h' => exact h
/-- the end of a function's body -/
def FEnd (rs : List CR) (φ : Value → Hp → Prop) (e : Ex) (tm : T Value) (df : Df) (h : Hp) : Prop := (e = .normal ∨ e = .ret) ∧ df = [] ∧ Yields (exR rs tm h) φ
theorem FEnd.ret {rs : List CR} {φ : Value → Hp → Prop} {tm : T Value} {h : Hp} (hy : Yields (exR rs tm h) φ) : FEnd rs φ .ret tm [] h := ⟨.inr rfl, rfl, hy⟩
theorem FEnd.end {rs : List CR} {φ : Value → Hp → Prop} {tm : T Value} {h : Hp} (hy : Yields (exR rs tm h) φ) : FEnd rs φ .normal tm [] h := ⟨.inl rfl, rfl, hy⟩
theorem z_exR1 (p : List Bool) (tm : T Value) (h : Hp) : exR [.tmp p] tm h = .val (oget (tm.get p)) h := rfl
theorem runF_yields {nt na : Nat} {b : CC} {rs : List CR} {call : Call} {cd : CallD} {args : List Value} {h : Hp} {φ : Value → Hp → Prop} (hn : (Nat.beq (len args) na && Nat.ble na nt) = true)
    (hb : After (exC b call (storeL args 0 .nil fun t => t) [] h) (FEnd rs φ)) : Yields (runF (.mk nt na b rs) call cd args h) φ := by
  show Yields (bif Nat.beq (len args) na && Nat.ble na nt then argsT args 0 .nil fun tm => ResC.rec (motive := fun _ => Res) .none (fun e tm df h => Ex.rec (motive := fun _ => Res) (leave cd rs df tm .ret h) (fun _ => .none) (leave cd rs df tm .ret h) (fun c => leave cd rs df tm (.pnc c) h) e) (exC b call tm [] h) else .none) φ
  rw [hn, cond_true, argsT_eq, storeL_eq]
  revert hb
  cases exC b call (storeL args 0 .nil fun t => t) [] h with
  | none => intro h; exact h.elim
  | ok e tm df h' =>
    intro hb
    obtain ⟨he, hdf, hy⟩ := hb
    subst hdf
    rcases he with rfl | rfl <;> exact hy

/- ===== calls ===== -/
variable {P : Program}
/-- one call is sound -/
def CallAt (P : Program) (gs : List Nat) (g : FuncId) (args : List Value) (h : Hp) (r : Res) : Prop := ∀ (args' : List Value) (f : Map) (w : World), GRel gs f → HRel f h w → LRel f args args' → match r with
  | .none => True
  | .val v h' => Enters P g ∧ Calls P g args'.toArray w fun | .returned v', w' => ∃ f', AStep h h' ∧ CStep f h w f' h' w' ∧ VRel f' v v' | _, _ => False
  | .panic c h' => Enters P g ∧ Calls P g args'.toArray w fun | .panicked c', w' => ∃ f', AStep h h' ∧ CStep f h w f' h' w' ∧ ChRel f' c c' | _, _ => False
theorem callOk_iff {gs : List Nat} {call : Call} : CallOk P gs call ↔ ∀ g args h, CallAt P gs g args h (call g args h) :=
  ⟨fun H g args h args' f w a b c => H g args args' f h w a b c, fun H g args args' f h w a b c => H g args h args' f w a b c⟩
theorem callAt_none {gs : List Nat} {g : FuncId} {args : List Value} {h : Hp} : CallAt P gs g args h .none := fun _ _ _ _ _ _ => trivial
theorem VRel.plain_inv {f g : Map} {v v' : Value} (hp : plainC v = true) (h : VRel f v v') : VRel g v v' := by
  cases h <;> first | (cases hp; done) | (constructor; done) | exact .bool _ | exact .int _ _ | exact .string _
/-- an argument without an address -/
def plainA (v : Value) : Bool := match v with | .agg a => a.toList.all plainC | v => plainC v
theorem VRel.plainA_inv {f g : Map} {v v' : Value} (hp : plainA v = true) (h : VRel f v v') : VRel g v v' := by
  cases h with
  | agg a a' hs h =>
    refine .agg a a' hs fun i hi => (h i hi).plain_inv ?_
    have : a.toList.all plainC = true := hp
    have h1 := List.all_eq_true.1 this (a[i]) (by simp)
    rw [getD_of_getElem? (v := a[i]) (by simp [hi])]
    exact h1
  | bool b => exact .bool b
  | int k n => exact .int k n
  | string s => exact .string s
  | nilPtr => exact .nilPtr
  | nilSlice l c => exact .nilSlice l c
  | nilMap => exact .nilMap
  | nilFunc => exact .nilFunc
  | nilIface => exact .nilIface
  | top v => cases hp
  | ptr b o i h => cases hp
  | slice b o l c i h hc hl => cases hp
  | sliceO b o l c lb i o' c' h hc hlb hl hb ho hn => cases hp
  | map b i h => cases hp
  | func g a c a' c' ha hc va vc => cases hp
  | iface t v v' h => cases hp
  | tuple a a' hs h => cases hp
/-- what a call made besides its result is forgotten -/
noncomputable def quiet (r : Res) (h : Hp) : Res := match r with
  | .val v h1 => bif plainA v then (match h1.log with | [] => .val v h | _ => .none) else .none
  | _ => .none
theorem quiet_at {gs : List Nat} {g : FuncId} {args : List Value} {h : Hp} {r : Res} (H : CallAt P gs g args (setBase h h.next []) r) : CallAt P gs g args h (quiet r h) := by
  intro args' f w hG hr hl
  have hr' : HRel f (setBase h h.next []) w := hr.setBase (Nat.le_refl _)
  have h1 := H args' f w hG hr' hl
  revert h1
  cases r with
  | none => intro _; trivial
  | panic c h1 => intro _; trivial
  | val v h1 =>
    intro hh
    show match (bif plainA v then (match h1.log with | [] => Res.val v h | _ => .none) else .none) with | .none => True | .val v h' => _ | .panic c h' => _
    cases hp : plainA v with
    | false => trivial
    | true =>
      rw [cond_true]
      cases hlog : h1.log with
      | cons x y => trivial
      | nil =>
        refine ⟨hh.1, hh.2.mono fun e w' he => ?_⟩
        cases e with
        | panicked c => exact he.elim
        | outgrown => exact he.elim
        | returned v' =>
          obtain ⟨f', hA, hC, hv⟩ := he
          have hat : ∀ b, b < h.next → h1.at b = h.at b := fun b hb => hA.keep b hb (by rw [hlog]; simp)
          refine ⟨f, AStep.refl h, ⟨hr, Map.le_refl f, ⟨fun b o i hb ho => ?_, hr.inj, fun b i hb => ⟨(hr.fresh b i hb).1, Nat.lt_of_lt_of_le (hr.fresh b i hb).2 hC.size⟩, hr.dead, hr.base⟩, hC.size, hC.tape, hC.os, hC.out, fun c hc hh => ?_, fun b i h1 h2 => by (rw [h1] at h2; cases h2)⟩, hv.plainA_inv hp⟩
          · obtain ⟨x, hx, hor⟩ := hr.obj b o i hb ho
            refine ⟨x, ?_, hor⟩
            rw [hC.keep i.blk (hr.fresh b i hb).2 fun b' i' h1 _ h3 => ⟨(hr.fresh b' i' h1).1, by rw [hlog]; simp⟩]
            exact hx
          · exact hC.keep c hc fun b' i' h1 _ h3 => ⟨(hr.fresh b' i' h1).1, by rw [hlog]; simp⟩
/-- a call whose arguments bear no address, run over no memory at all -/
noncomputable def leaf (call0 : Call) (g : FuncId) (args : List Value) (h : Hp) : Res := bif args.all plainA then (match call0 g args ⟨.nil, 0, 0, []⟩ with | .val v _ => bif plainA v then .val v h else .none | _ => .none) else .none
theorem leaf_at {gs : List Nat} {call0 : Call} (H : CallOk P [] call0) (g : FuncId) (args : List Value) (h : Hp) : CallAt P gs g args h (leaf call0 g args h) := by
  unfold leaf
  cases hp : args.all plainA with
  | false => exact callAt_none
  | true =>
    rw [cond_true]
    intro args' f w hG hr hl
    have h0 : HRel (fun _ => none) ⟨.nil, 0, 0, []⟩ w := ⟨fun b o i hb => (by cases hb), fun b c i j hb => (by cases hb), fun b i hb => (by cases hb), fun b _ => rfl, Nat.le_refl _⟩
    have hl0 : LRel (fun _ => none) args args' := ⟨hl.1, fun i v hv => by
      obtain ⟨v', h1, h2⟩ := hl.2 i v hv
      exact ⟨v', h1, h2.plainA_inv (List.all_eq_true.1 hp v (List.mem_of_getElem? hv))⟩⟩
    have h1 := H g args args' (fun _ => none) ⟨.nil, 0, 0, []⟩ w (fun _ hg => by cases hg) h0 hl0
    revert h1
    cases call0 g args ⟨.nil, 0, 0, []⟩ with
    | none => intro _; trivial
    | panic c h1 => intro _; trivial
    | val v h1 =>
      intro hh
      show match (bif plainA v then Res.val v h else .none) with | .none => True | .val v h' => _ | .panic c h' => _
      cases hpv : plainA v with
      | false => trivial
      | true =>
        refine ⟨hh.1, hh.2.mono fun e w' he => ?_⟩
        cases e with
        | panicked c => exact he.elim
        | outgrown => exact he.elim
        | returned v' =>
          obtain ⟨f', hA, hC, hv⟩ := he
          have hk : ∀ c, c < w.heap.size → w'.heap[c]? = w.heap[c]? := fun c hc => hC.keep c hc fun b i hb => by cases hb
          refine ⟨f, AStep.refl h, ⟨hr, Map.le_refl f, ⟨fun b o i hb ho => ?_, hr.inj, fun b i hb => ⟨(hr.fresh b i hb).1, Nat.lt_of_lt_of_le (hr.fresh b i hb).2 hC.size⟩, hr.dead, hr.base⟩, hC.size, hC.tape, hC.os, hC.out, fun c hc _ => hk c hc, fun b i h1 h2 => by (rw [h1] at h2; cases h2)⟩, hv.plainA_inv hpv⟩
          obtain ⟨x, hx, hor⟩ := hr.obj b o i hb ho
          exact ⟨x, by rw [hk i.blk (hr.fresh b i hb).2]; exact hx, hor⟩
/-- calls: some by a contract, some of which only the result is kept, the others by their bodies -/
noncomputable def callX (P : Program) (cx : Cx) (ov : FuncId → List Value → Hp → Option Res) (q : List Nat) : Nat → Call
  | 0 => fun _ _ _ => .none
  | n + 1 => fun g args h => Option.rec (motive := fun _ => Res)
      (bif q.any (Nat.beq g) then quiet (runF (cF P cx g) (callX P cx ov q n) (fun g => runD (cFD P cx g) (callX P cx ov q n)) args (setBase h h.next [])) h
        else runF (cF P cx g) (callX P cx ov q n) (fun g => runD (cFD P cx g) (callX P cx ov q n)) args h) (fun r => r) (ov g args h)
theorem callX_ok {cx : Cx} {ov : FuncId → List Value → Hp → Option Res} {q : List Nat} (hX : CxOk P cx) (hdraw : DrawOk P cx) (hov : ∀ g args h r, ov g args h = some r → CallAt P cx.gs g args h r) : ∀ n, CallOk P cx.gs (callX P cx ov q n) := by
  intro n
  induction n with
  | zero => exact callOk_iff.2 fun g args h => callAt_none
  | succ n ih =>
    have hF := callOk_iff.1 (runF_ok hX hdraw ih (runD_ok hX hdraw ih))
    refine callOk_iff.2 fun g args h => ?_
    show CallAt P cx.gs g args h (Option.rec (motive := fun _ => Res) _ (fun r => r) (ov g args h))
    cases ho : ov g args h with
    | some r => exact hov g args h r ho
    | none =>
      show CallAt P cx.gs g args h (bif q.any (Nat.beq g) then _ else _)
      cases q.any (Nat.beq g) with
      | true => exact quiet_at (hF g args _)
      | false => exact hF g args h
end Abs
end Go
