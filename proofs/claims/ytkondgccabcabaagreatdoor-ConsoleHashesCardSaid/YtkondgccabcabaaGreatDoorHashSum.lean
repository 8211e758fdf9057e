/-
Symbolic runs: append, slices, and the sum of a list of bytes.
Conditions: none.
-/
import Derived.Test.YtkondgccabcabaaGreatDoorHashBlock
set_option linter.unusedVariables false
set_option linter.unusedSimpArgs false
/- Symbolic runs: memory that is kept; append of bytes; slices; Clone. -/
namespace Go
namespace Abs
/-- nothing lies beyond the first free block -/
structure Wf (h : Hp) : Prop where
  dead : ∀ b, h.next ≤ b → h.at b = none
  base : h.base ≤ h.next
theorem Wf.lt {h : Hp} (hw : Wf h) {b : Nat} {o : AObj} (hb : h.at b = some o) : b < h.next := by
  rcases Nat.lt_or_ge b h.next with h1 | h1
  · exact h1
  · rw [hw.dead b h1] at hb; cases hb
theorem Wf.new {h : Hp} (hw : Wf h) (o : AObj) : Wf (h.new o) := ⟨fun b hb => by
  rw [z_new_next] at hb
  rw [z_at_new, if_neg (by omega)]
  exact hw.dead b (by omega), by rw [z_new_base, z_new_next]; have := hw.base; omega⟩
theorem Wf.put {h : Hp} (hw : Wf h) {b : Nat} (hb : b < h.next) (o : Option AObj) : Wf (h.put b o) := ⟨fun c hc => by
  rw [z_put_next] at hc
  rw [z_at_put, if_neg (by omega)]
  exact hw.dead c hc, by rw [z_put_base, z_put_next]; exact hw.base⟩
theorem Wf.sb {h : Hp} (hw : Wf h) (l : List Nat) : Wf (setBase h h.next l) := ⟨hw.dead, Nat.le_refl _⟩
/-- what lies below a place is kept, and nothing there is touched -/
structure Keeps (lim : Nat) (h H : Hp) : Prop where
  base : H.base = h.base
  log : H.log = h.log
  next : h.next ≤ H.next
  at_ : ∀ b, b < lim → H.at b = h.at b
theorem Keeps.refl (lim : Nat) (h : Hp) : Keeps lim h h := ⟨rfl, rfl, Nat.le_refl _, fun _ _ => rfl⟩
theorem Keeps.trans {lim : Nat} {a b c : Hp} (x : Keeps lim a b) (y : Keeps lim b c) : Keeps lim a c :=
  ⟨y.base.trans x.base, y.log.trans x.log, Nat.le_trans x.next y.next, fun k hk => (y.at_ k hk).trans (x.at_ k hk)⟩
theorem Keeps.less {lim lim' : Nat} {a b : Hp} (x : Keeps lim a b) (h : lim' ≤ lim) : Keeps lim' a b := ⟨x.base, x.log, x.next, fun k hk => x.at_ k (by omega)⟩
theorem Keeps.new {lim : Nat} {h : Hp} (o : AObj) (hl : lim ≤ h.next) : Keeps lim h (h.new o) := ⟨rfl, rfl, by rw [z_new_next]; omega, fun b hb => by rw [z_at_new, if_neg (by omega)]⟩
theorem Keeps.put {lim : Nat} {h : Hp} {b : Nat} (o : Option AObj) (hl : lim ≤ b) (hb : h.base ≤ b) : Keeps lim h (h.put b o) := ⟨rfl, z_put_log hb, Nat.le_refl _, fun c hc => by rw [z_at_put, if_neg (by omega)]⟩
noncomputable def appV (e : TypeId) (s : Nat) (x y : Value) (h : Hp) : Res := srcK h s y (fun n new => vSl x (appS e s h n new) (appN e s h n new) .none) .none
theorem z_app (e : TypeId) (s : Nat) (x y : OD) (call : Call) (lo : List Value) (tm : T Value) (h : Hp) : oApp e s x y call lo tm h = appV e s (rdO x lo tm) (rdO y lo tm) h := rfl
theorem z_srcS {R : Type} (h : Hp) (s b o l c : Nat) (k : Nat → List Value → R) (z : R) : srcK h s (slV b o l c) k z = bif Nat.beq l 0 then k 0 [] else oEl (cellsOf h b o (l * s)) (k l) z := rfl
/-- bytes, as values -/
def B8s (l : List Value) : Prop := ∀ v ∈ l, ∃ n, n < 256 ∧ v = .int .u8 (.ofNat n)
theorem B8s.one : ∀ {l : List Value}, B8s l → allOne l = true := by
  intro l
  induction l with
  | nil => intro _; rfl
  | cons v l ih =>
    intro h
    obtain ⟨n, _, rfl⟩ := h v (by simp)
    rw [z_oneI]
    exact ih fun w hw => h w (by simp [hw])
theorem B8s.append {l m : List Value} (h : B8s l) (k : B8s m) : B8s (l ++ m) := fun v hv => by
  rcases List.mem_append.1 hv with h1 | h1
  · exact h v h1
  · exact k v h1
theorem B8s.get {l : List Value} (h : B8s l) {k : Nat} (hk : k < l.length) : ∃ n, n < 256 ∧ l[k]? = some (.int .u8 (.ofNat n)) := by
  obtain ⟨n, hn, e⟩ := h l[k] (List.getElem_mem hk)
  exact ⟨n, hn, by rw [List.getElem?_eq_getElem hk, e]⟩
theorem B8s.single {n : Nat} (h : n < 256) : B8s [.int .u8 (.ofNat n)] := fun v hv => by
  rw [List.mem_singleton] at hv
  exact ⟨n, h, hv⟩
/-- bytes that are cells -/
theorem cells_list {c : T Value} {o n : Nat} (hc : ∀ k, k < n → ∃ x, x < 256 ∧ c.get (path (o + k)) = some (.int .u8 (.ofNat x))) :
    ∃ vs : List Value, vs.length = n ∧ B8s vs ∧ loadN c o n [] = some vs ∧ ∀ k, k < n → c.get (path (o + k)) = vs[k]? := by
  let vs : List Value := (List.range n).map fun j => (c.get (path (o + j))).getD (.bool false)
  have hlen : vs.length = n := by simp [vs]
  have hget : ∀ k, k < n → c.get (path (o + k)) = vs[k]? := fun k hk => by
    obtain ⟨x, _, e⟩ := hc k hk
    simp [vs, List.getElem?_range hk, e]
  refine ⟨vs, hlen, fun v hv => ?_, ?_, hget⟩
  · obtain ⟨j, hj, rfl⟩ := List.mem_map.1 hv
    obtain ⟨x, hx, e⟩ := hc j (List.mem_range.1 hj)
    exact ⟨x, hx, by rw [e]; rfl⟩
  · have := loadN_eq n vs [] hlen hget
    rw [List.append_nil] at this
    exact this
theorem ByT.cells {h : Hp} {b o n : Nat} (hb : ByT h b o n) : ∃ vs : List Value, vs.length = n ∧ B8s vs ∧ cellsOf h b o n = some vs := by
  obtain ⟨c, m, e, cl, ro, hat, hm, hc⟩ := hb
  obtain ⟨vs, h1, h2, h3, _⟩ := cells_list hc
  refine ⟨vs, h1, h2, ?_⟩
  show oEl (h.at b) (fun ob => cellsOb ob o n) none = _
  rw [hat]
  show (bif Nat.ble (o + n) m then loadN c o n [] else none) = _
  rw [z_ble hm, cond_true, h3]
theorem ByT.keep {h H : Hp} {b o n : Nat} (hb : ByT h b o n) (e : H.at b = h.at b) : ByT H b o n := by
  obtain ⟨c, m, e', cl, ro, hat, h2⟩ := hb
  exact ⟨c, m, e', cl, ro, by rw [e]; exact hat, h2⟩
theorem ByT.part {h : Hp} {b o n : Nat} (hb : ByT h b o n) {k m : Nat} (hk : k + m ≤ n) : ByT h b (o + k) m := by
  obtain ⟨c, mm, e', cl, ro, hat, h2, h3⟩ := hb
  exact ⟨c, mm, e', cl, ro, hat, by omega, fun j hj => by rw [Nat.add_assoc]; exact h3 (k + j) (by omega)⟩
theorem ByT.lt {h : Hp} {b o n : Nat} (hw : Wf h) (hb : ByT h b o n) : b < h.next := by
  obtain ⟨c, mm, e', cl, ro, hat, _⟩ := hb
  exact hw.lt hat
/-- a row that the call has filled itself -/
def OwnB (h : Hp) (b : Nat) (vs : List Value) : Prop := h.at b = some (rowL vs vs.length 5 false)
theorem OwnB.byT {h : Hp} {b : Nat} {vs : List Value} (ho : OwnB h b vs) (hv : B8s vs) : ByT h b 0 vs.length :=
  ⟨_, _, _, _, _, ho, by omega, fun k hk => by
    rw [z_stget, if_pos ⟨by omega, by omega⟩]
    obtain ⟨n, hn, e⟩ := hv.get hk
    exact ⟨n, hn, by rw [show 0 + k - 0 = k by omega]; exact e⟩⟩
theorem app_zero (h : Hp) (b y oy cy : Nat) : appV 5 1 (slV b 0 0 0) (slV y oy 0 cy) h = .val (slV b 0 0 0) h := rfl
theorem app_fresh {h : Hp} {y oy cy n : Nat} {x : Value} {new : List Value} (hx : (∃ b, x = slV b 0 0 0) ∨ x = .slice none 0 0) (hn : new.length = n) (h0 : 0 < n) (h1 : n ≤ 1000) (hc : cellsOf h y oy n = some new) :
    appV 5 1 x (slV y oy n cy) h = .val (slV h.next 0 n (openC 1 n)) (h.new (rowL new n 5 false)) := by
  have hb : Nat.beq n 0 = false := z_beqF (by omega)
  have ho : opened 5 1 new n h = .val (slV h.next 0 n (openC 1 n)) (h.new (rowL new n 5 false)) := by
    unfold opened
    rw [newRowK_eq, forceNat_eq, len_eq, hn]; rfl
  unfold appV
  rw [z_srcS, hb, cond_false, Nat.mul_one, hc]
  show vSl x (appS 5 1 h n new) (appN 5 1 h n new) .none = _
  rcases hx with ⟨b, rfl⟩ | rfl
  · rw [z_vSlV]
    unfold appS
    rw [forceNat_eq, show Nat.add 0 n = n from Nat.zero_add n, show sure 0 = 0 from rfl, z_bleF h0, cond_false, z_ble (by omega : n ≤ 16777216), cond_true]
    exact ho
  · rw [z_vSlN]
    unfold appN
    rw [hb, cond_false, z_ble (by omega : n ≤ 16777216), cond_true]
    exact ho
theorem app_open {h : Hp} {b y oy cy n : Nat} {vs new : List Value} (hn : new.length = n) (h0 : 0 < n) (h1 : n ≤ 1000) (hl : 0 < vs.length) (hl2 : vs.length ≤ 1000) (hone : allOne new = true) (hc : cellsOf h y oy n = some new) (ho : OwnB h b vs) :
    appV 5 1 (slV b 0 vs.length (openC 1 vs.length)) (slV y oy n cy) h = .val (slV h.next 0 (vs.length + n) (openC 1 (vs.length + n))) ((h.put b none).new (rowL (vs ++ new) (vs ++ new).length 5 false)) := by
  have hb : Nat.beq n 0 = false := z_beqF (by omega)
  have hb0 : Nat.beq vs.length 0 = false := z_beqF (by omega)
  have hold : cellsOf h b 0 (vs.length * 1) = some vs := cellsOf_rowL ho (Nat.mul_one _) (Nat.le_refl _)
  obtain ⟨s1, s2, s3⟩ := z_openS 1 vs.length (by unfold OPEN; omega)
  unfold appV
  rw [z_srcS, hb, cond_false, Nat.mul_one, hc]
  show vSl (slV b 0 vs.length (openC 1 vs.length)) (appS 5 1 h n new) (appN 5 1 h n new) .none = _
  rw [z_vSlV]
  unfold appS
  rw [forceNat_eq]
  show (bif Nat.ble (vs.length + n) (sure (openC 1 vs.length)) then _ else _) = _
  rw [s1, z_bleF (by omega), cond_false, z_ble (by show vs.length + n ≤ 16777216; omega), cond_true, hb0, cond_false]
  show oEl (cellsOf h b 0 (vs.length * 1)) _ Res.none = _
  rw [hold]
  show (bif isOpen (openC 1 vs.length) then _ else _) = _
  rw [s2, cond_true]
  unfold rowK
  show oEl (h.at b) _ Res.none = _
  rw [show h.at b = _ from ho]
  show (bif false then Res.none else bif Nat.beq 5 5 && Nat.beq (esz (openC 1 vs.length)) (Nat.succ 1) && allOne new then _ else _) = _
  rw [s3, hone]
  show (h.putK b (Option.none : Option AObj) fun h => opened 5 1 (vs ++ new) (vs.length + n) h) = _
  rw [Hp.putK_eq]
  unfold opened
  rw [newRowK_eq, forceNat_eq, len_eq]; rfl
/-- a slice of bytes that the call itself fills -/
def OutB (lim : Nat) (h : Hp) (v : Value) (n : Nat) : Prop :=
  (n = 0 ∧ ((∃ b, v = slV b 0 0 0) ∨ v = .slice none 0 0)) ∨ ∃ b vs, v = slV b 0 n (openC 1 n) ∧ 0 < n ∧ vs.length = n ∧ B8s vs ∧ OwnB h b vs ∧ lim ≤ b
theorem OutB.len {lim : Nat} {h : Hp} {v : Value} {n : Nat} (ho : OutB lim h v n) : vSl v (fun _ _ l _ => some (Value.int .i64 (.ofNat l))) (fun l _ => some (Value.int .i64 (.ofNat l))) none = some (.int .i64 (.ofNat n)) := by
  rcases ho with ⟨rfl, ⟨b, rfl⟩ | rfl⟩ | ⟨b, vs, rfl, _⟩ <;> rfl
theorem OutB.less {lim lim' : Nat} {h : Hp} {v : Value} {n : Nat} (ho : OutB lim h v n) (hl : lim' ≤ lim) : OutB lim' h v n := by
  rcases ho with h1 | ⟨b, vs, h1, h2, h3, h4, h5, h6⟩
  · exact .inl h1
  · exact .inr ⟨b, vs, h1, h2, h3, h4, h5, by omega⟩
/-- one byte more -/
theorem append_byte {lim : Nat} {H : Hp} {v : Value} {n x : Nat} (hx : x < 256) (hw : Wf H) (hl : lim ≤ H.next) (hbl : H.base ≤ lim) (ho : OutB lim H v n) (hlen : n < 900) :
    ∃ v' H', appV 5 1 v (slV H.next 0 1 1) (H.new (rowL [.int .u8 (.ofNat x)] 1 5 true)) = .val v' H' ∧ OutB lim H' v' (n + 1) ∧ Wf H' ∧ Keeps lim H H' := by
  have hat : (H.new (rowL [.int .u8 (.ofNat x)] 1 5 true)).at H.next = some (rowL [.int .u8 (.ofNat x)] 1 5 true) := by rw [z_at_new, if_pos rfl]
  have hc : cellsOf (H.new (rowL [.int .u8 (.ofNat x)] 1 5 true)) H.next 0 1 = some [.int .u8 (.ofNat x)] := cellsOf_rowL hat rfl (Nat.le_refl _)
  rcases ho with ⟨rfl, h2⟩ | ⟨b, vs, rfl, h2, rfl, h3, h4, h5⟩
  · refine ⟨_, _, app_fresh h2 rfl (by omega) (by omega) hc, .inr ⟨_, _, rfl, by omega, rfl, B8s.single hx, ?_, ?_⟩, (hw.new _).new _, (Keeps.new _ hl).trans (Keeps.new _ (by rw [z_new_next]; omega))⟩
    · unfold OwnB
      rw [z_at_new, if_pos rfl]; rfl
    · rw [z_new_next]; omega
  · have hlt := hw.lt h4
    have h4' : OwnB (H.new (rowL [.int .u8 (.ofNat x)] 1 5 true)) b vs := by
      unfold OwnB
      rw [z_at_new, if_neg (by omega)]; exact h4
    refine ⟨_, _, app_open (new := [.int .u8 (.ofNat x)]) rfl (by omega) (by omega) h2 (by omega) rfl hc h4', .inr ⟨_, _, rfl, by omega, by simp, h3.append (B8s.single hx), ?_, ?_⟩, ((hw.new _).put (by rw [z_new_next]; omega) _).new _, ?_⟩
    · unfold OwnB
      rw [z_at_new, if_pos (z_put_next _ _ _)]
    · show lim ≤ H.next + 1; omega
    · exact ((Keeps.new _ hl).trans (Keeps.put _ h5 (by rw [z_new_base]; omega))).trans (Keeps.new _ (by rw [z_put_next, z_new_next]; omega))
/- ===== slices from a place on ===== -/
noncomputable def slF (k : Nat) (v : Value) : Option Value := oSlS 1 (.val v) (some (.val (.int .i64 (.ofNat k)))) none none [] .nil
theorem z_slS (k : Nat) (x : OD) (lo : List Value) (tm : T Value) : oSlS 1 x (some (.val (.int .i64 (.ofNat k)))) none none lo tm = slF k (rdO x lo tm) := rfl
theorem slF_eq {k b o l c : Nat} (hk : k ≤ l) : slF k (slV b o l c) = bif isOpen c then cutO b o 1 k l c else cutC b o 1 k l c := by
  show bndK none [] .nil l (sure c) (fun hi => bndK (some (.val (.int .i64 (.ofNat k)))) [] .nil 0 hi (fun lw => bif isOpen c then cutO b o 1 lw hi c else cutC b o 1 lw hi c) none) none = _
  rw [z_bndN, z_bndS]
  show (bif Nat.ble k l then bif isOpen c then cutO b o 1 k l c else cutC b o 1 k l c else none) = _
  rw [z_ble hk, cond_true]
theorem cutSl_eq (b o k l c : Nat) : cutSl b o 1 k l c = some (slV b (o + k) (l - k) (c - k)) := by
  unfold cutSl
  rw [forceNat_eq, forceNat_eq, forceNat_eq]
  show some (slV b (o + k * 1) (l - k) (c - k)) = _
  rw [Nat.mul_one]
theorem slF_closed {k b o l c : Nat} (hk : k ≤ l) (hc : c < OPEN) : slF k (slV b o l c) = some (if k = c then slV b o 0 0 else slV b (o + k) (l - k) (c - k)) := by
  rw [slF_eq hk, show isOpen c = false from z_bleF hc, cond_false]
  unfold cutC
  by_cases e : k = c
  · subst e
    rw [Nat.beq_refl, cond_true, if_pos rfl]
  · rw [z_beqF e, cond_false, if_neg e, cutSl_eq]
theorem slF_open {k b o l : Nat} (h0 : 0 < k) (hk : k ≤ l) (hl : l < 100000) : slF k (slV b o l (openC 1 l)) = some (if k = l then slV b o 0 (openC 1 0) else slV b (o + k) (l - k) (openC 1 (l - k))) := by
  obtain ⟨s1, s2, s3⟩ := z_openS 1 l (by unfold OPEN; omega)
  have eo : ∀ n, openC 1 n = OPEN * 2 + n := fun n => rfl
  rw [slF_eq hk, s2, cond_true]
  unfold cutO
  rw [z_beqF (by omega : k ≠ 0), cond_false, s3, show Nat.beq (1 + 1) (Nat.succ 1) = true from rfl, cond_true, s1]
  by_cases e : k = l
  · subst e
    rw [z_bltF (Nat.le_refl _), cond_false, forceNat_eq, if_pos rfl]
    have : Nat.sub (openC 1 k) k = openC 1 0 := by rw [eo, eo]; show OPEN * 2 + k - k = _; omega
    rw [this]
  · rw [z_blt (by omega : k < l), cond_true, cutSl_eq, if_neg e, eo, eo, Nat.add_sub_assoc hk]
/-- what is left of a slice of the caller -/
def RestV (h : Hp) (v : Value) (n : Nat) : Prop := (n = 0 ∧ v = .slice none 0 0) ∨ ∃ b o c, v = slV b o n c ∧ n ≤ c ∧ c < OPEN ∧ (0 < n → ByT h b o n) ∧ b < h.next
theorem RestV.len {h : Hp} {v : Value} {n : Nat} (ho : RestV h v n) : vSl v (fun _ _ l _ => some (Value.int .i64 (.ofNat l))) (fun l _ => some (Value.int .i64 (.ofNat l))) none = some (.int .i64 (.ofNat n)) := by
  rcases ho with ⟨rfl, rfl⟩ | ⟨b, o, c, rfl, _⟩ <;> rfl
theorem RestV.cut {h : Hp} {v : Value} {n k : Nat} (ho : RestV h v n) (h0 : 0 < k) (hk : k ≤ n) : ∃ b o c v', v = slV b o n c ∧ ByT h b o n ∧ b < h.next ∧ slF k v = some v' ∧ RestV h v' (n - k) := by
  rcases ho with ⟨rfl, rfl⟩ | ⟨b, o, c, rfl, h1, h2, h3, h4⟩
  · omega
  · refine ⟨b, o, c, _, rfl, h3 (by omega), h4, slF_closed hk h2, ?_⟩
    by_cases e : k = c
    · subst e
      rw [if_pos rfl]
      have : n - k = 0 := by omega
      rw [this]
      exact .inr ⟨b, o, 0, rfl, Nat.le_refl _, by unfold OPEN; omega, fun h => by omega, h4⟩
    · rw [if_neg e]
      exact .inr ⟨b, o + k, c - k, rfl, by omega, by omega, fun h => (h3 (by omega)).part (by omega), h4⟩
/- ===== Clone ===== -/
theorem z_eqNil (isn : Value → Option Bool) (neg : Bool) (x : OD) (lo : List Value) (tm : T Value) : oEqNil isn neg x lo tm = oEl (isn (rdO x lo tm)) (fun t => some (.bool (bEqB neg (!t)))) none := by
  unfold oEqNil; simp only [gB_eq]
theorem z_nilS0 : nilS (.slice none 0 0) = some true := rfl
theorem z_nilS1 (b o l c : Nat) : nilS (slV b o l c) = some false := rfl
theorem clone_run {call : Call} {cd : CallD} {h H : Hp} {v : Value} {n : Nat} (hn : n < 500) (hw : Wf H) (hkp : Keeps h.next h H) (hv : RestV h v n) :
    Yields (runF cf14 call cd [v] H) (fun v' H' => OutB H.next H' v' n ∧ Wf H' ∧ Keeps H.next H H') := by
  refine runF_yields rfl ?_
  have hlen0 : ([] : List Value).length = 0 := rfl
  rcases hv with ⟨rfl, rfl⟩ | ⟨b, o, c, rfl, h1, h2, h3, h4⟩
  · simp only [↓evD, evD, evU, evF, reduceCtorEq, evB, z_eqNil, z_nilS0]
    refine .ret ?_
    simp only [↓evD, evD, evU, evF, reduceCtorEq, evB]
    exact ⟨.inl ⟨rfl, .inr rfl⟩, hw, Keeps.refl _ _⟩
  · by_cases h0 : n = 0
    · subst h0
      simp only [↓evD, evD, evU, evF, reduceCtorEq, evB, z_eqNil, z_nilS1, hlen0, z_app, app_zero]
      refine .ret ?_
      simp only [↓evD, evD, evU, evF, reduceCtorEq, evB]
      exact ⟨.inl ⟨rfl, .inl ⟨_, rfl⟩⟩, hw.new _, Keeps.new _ (Nat.le_refl _)⟩
    · have hbt : ByT H b o n := (h3 (by omega)).keep (hkp.at_ b h4)
      have hbH : b < H.next := Nat.lt_of_lt_of_le h4 hkp.next
      have hb' : ByT (H.new (rowL [] 0 5 true)) b o n := hbt.keep (by rw [z_at_new, if_neg (by omega)])
      obtain ⟨vs, e1, e2, e3⟩ := hb'.cells
      have ha := app_fresh (x := slV H.next 0 0 0) (cy := c) (.inl ⟨_, rfl⟩) e1 (by omega) (by omega) e3
      simp only [↓evD, evD, evU, evF, reduceCtorEq, evB, z_eqNil, z_nilS1, hlen0, z_app, ha]
      refine .ret ?_
      simp only [↓evD, evD, evU, evF, reduceCtorEq, evB]
      refine ⟨.inr ⟨_, vs, rfl, by omega, e1, e2, ?_, ?_⟩, (hw.new _).new _, (Keeps.new _ (Nat.le_refl _)).trans (Keeps.new _ (by rw [z_new_next]; omega))⟩
      · unfold OwnB
        rw [z_at_new, if_pos (z_new_next _ _), e1]
      · exact Nat.le_succ _
end Abs
end Go
/- Symbolic runs: the loops of hash.Sum. -/
namespace Go
namespace Abs
noncomputable def z32l : List Value := [.int .u8 (.ofNat 0), .int .u8 (.ofNat 0), .int .u8 (.ofNat 0), .int .u8 (.ofNat 0), .int .u8 (.ofNat 0), .int .u8 (.ofNat 0), .int .u8 (.ofNat 0), .int .u8 (.ofNat 0), .int .u8 (.ofNat 0), .int .u8 (.ofNat 0), .int .u8 (.ofNat 0), .int .u8 (.ofNat 0), .int .u8 (.ofNat 0), .int .u8 (.ofNat 0), .int .u8 (.ofNat 0), .int .u8 (.ofNat 0), .int .u8 (.ofNat 0), .int .u8 (.ofNat 0), .int .u8 (.ofNat 0), .int .u8 (.ofNat 0), .int .u8 (.ofNat 0), .int .u8 (.ofNat 0), .int .u8 (.ofNat 0), .int .u8 (.ofNat 0), .int .u8 (.ofNat 0), .int .u8 (.ofNat 0), .int .u8 (.ofNat 0), .int .u8 (.ofNat 0), .int .u8 (.ofNat 0), .int .u8 (.ofNat 0), .int .u8 (.ofNat 0), .int .u8 (.ofNat 0)]
/-- what stands while the sum is made: the row of the result, the state -/
structure SumK (h H : Hp) : Prop where
  wf : Wf H
  kp : Keeps h.next h H
  rs : RowT 8 62 (H.at (h.next + 1))
  r2 : H.at h.next = some (rowL z32l 32 45 true)
  ls : h.next + 2 ≤ H.next
theorem SumK.keep {h H H' : Hp} (hk : SumK h H) (hw : Wf H') (k : Keeps (h.next + 2) H H') : SumK h H' :=
  ⟨hw, hk.kp.trans (k.less (by omega)), by rw [k.at_ _ (by omega)]; exact hk.rs, by rw [k.at_ _ (by omega)]; exact hk.r2, Nat.le_trans hk.ls k.next⟩
/-- a block is added to the state -/
def BlkC (call : Call) (h : Hp) : Prop := ∀ bb o l cp H, SumK h H → ByT H bb o 64 → 64 ≤ l → bb ≠ h.next + 1 → bb < H.next →
  ∃ H', call 13 [ptrV (h.next + 1) 0, slV bb o l cp] H = .val (.tuple ⟨[]⟩) H' ∧ SumK h H' ∧ H'.next = H.next + 1 ∧ ∀ c, c ≠ h.next + 1 → c ≠ H.next → H'.at c = H.at c
def CloneC (call : Call) (h : Hp) : Prop := ∀ v n H, n < 500 → Wf H → Keeps h.next h H → RestV h v n → ∃ v' H', call 14 [v] H = .val v' H' ∧ OutB H.next H' v' n ∧ Wf H' ∧ Keeps H.next H H'
/-- the blocks of the list itself -/
structure L4 (v0 : Value) (n : Nat) (h : Hp) (i : Nat) (tm : T Value) (df : Df) (H : Hp) : Prop where
  df : df = []
  t0 : tm.get [] = some v0
  t2 : tm.get [false] = some (ptrV h.next 0)
  t3 : tm.get [true, true] = some (ptrV (h.next + 1) 0)
  k : SumK h H
  t4 : ∃ v, tm.get [false, true] = some v ∧ RestV h v (n - 64 * i)
theorem sum_l4 {call : Call} {h : Hp} {v0 : Value} {n : Nat} (hblk : BlkC call h) (hn : n < 500) {tm : T Value} {df : Df} {H : Hp} (hst : L4 v0 n h 0 tm df H) :
    After (exC (.loop cf6_l4) call tm df H) (fun ex tm df H => ex = .exit 0 ∧ L4 v0 n h (n / 64) tm df H) := by
  refine loop_for (n := n / 64) (by omega) (L4 v0 n h) (fun i tm df H hi hI => ?_) (fun tm df H hI => ?_) hst
  · obtain ⟨hdf, t0, t2, t3, hk, ⟨v, t4, hr⟩⟩ := hI
    subst hdf
    have hge : 64 ≤ n - 64 * i := by omega
    obtain ⟨b, o, c, v', rfl, hby, hlt, hs, hr'⟩ := hr.cut (k := 64) (by omega) hge
    have hn1 := hk.kp.next
    obtain ⟨H', e, hk', _, _⟩ := hblk b o (n - 64 * i) c H hk ((hby.part (k := 0) (by omega)).keep (hk.kp.at_ b hlt)) hge (by omega) (by omega)
    have e1 : Nat.blt (n - 64 * i) 64 = false := z_bltF hge
    have en : n - 64 * (i + 1) = n - 64 * i - 64 := by omega
    simp only [↓evD, evD, evU, evF, reduceCtorEq, evB, cf6_l4, t3, t4, e1, e, z_slS, hs]
    exact .go ⟨rfl, by simp [T.get_set, t0], by simp [T.get_set, t2], by simp [T.get_set, t3], hk', v', by simp [T.get_set], by rw [en]; exact hr'⟩
  · obtain ⟨hdf, t0, t2, t3, hk, ⟨v, t4, hr⟩⟩ := hI
    subst hdf
    have e1 : Nat.blt (n - 64 * (n / 64)) 64 = true := z_blt (by omega)
    have hlen := hr.len
    simp only [↓evD, evD, evU, evF, reduceCtorEq, evB, cf6_l4, t4, hlen, e1]
    exact .ex ⟨rfl, rfl, by simp [T.get_set, t0], by simp [T.get_set, t2], by simp [T.get_set, t3], hk, v, by simp [T.get_set, t4], hr⟩
/-- the bytes 0 behind the list -/
structure L3 (v0 : Value) (n : Nat) (h : Hp) (i : Nat) (tm : T Value) (df : Df) (H : Hp) : Prop where
  df : df = []
  t0 : tm.get [] = some v0
  t2 : tm.get [false] = some (ptrV h.next 0)
  t3 : tm.get [true, true] = some (ptrV (h.next + 1) 0)
  k : SumK h H
  t5 : ∃ v, tm.get [true, false] = some v ∧ OutB (h.next + 2) H v (n + i)
theorem z_remN (a b : Nat) (hb : Nat.beq b 0 = false) : gRem .i64 (.ofNat a) (.ofNat b) = some (.int .i64 (.ofNat (a % b))) := z_remG _ _ _ hb
theorem sum_l3 {call : Call} {h : Hp} {v0 : Value} {n m : Nat} (hb : h.base ≤ h.next) (hn : n ≤ 64) (hm : m < 64) (h1 : ∀ i, i < m → (n + i) % 64 ≠ 56) (h2 : (n + m) % 64 = 56) {tm : T Value} {df : Df} {H : Hp} (hst : L3 v0 n h 0 tm df H) :
    After (exC (.loop cf6_l3) call tm df H) (fun ex tm df H => ex = .exit 2 ∧ L3 v0 n h m tm df H) := by
  have hr : ∀ a, gRem .i64 (.ofNat a) (.ofNat 64) = some (.int .i64 (.ofNat (a % 64))) := fun a => z_remN a 64 rfl
  have q1 : Nat.ble (0 + 1) 1 = true := rfl
  refine loop_for (n := m) (by omega) (L3 v0 n h) (fun i tm df H hi hI => ?_) (fun tm df H hI => ?_) hst
  · obtain ⟨hdf, t0, t2, t3, hk, ⟨v, t5, ho⟩⟩ := hI
    subst hdf
    have hlen := ho.len
    have e1 : Nat.beq ((n + i) % 64) 56 = false := z_beqF (h1 i hi)
    obtain ⟨v', H', e, ho', hw', hk'⟩ := append_byte (x := 0) (by omega) hk.wf hk.ls (by rw [hk.kp.base]; omega) ho (by omega)
    simp only [↓evD, evD, evU, evF, reduceCtorEq, evB, cf6_l3, t5, hlen, hr, e1, q1, z_app, e]
    exact .go ⟨rfl, by simp [T.get_set, t0], by simp [T.get_set, t2], by simp [T.get_set, t3], hk.keep hw' hk', v', by simp [T.get_set], ho'⟩
  · obtain ⟨hdf, t0, t2, t3, hk, ⟨v, t5, ho⟩⟩ := hI
    subst hdf
    have hlen := ho.len
    have e1 : Nat.beq ((n + m) % 64) 56 = true := by rw [h2]; rfl
    simp only [↓evD, evD, evU, evF, reduceCtorEq, evB, cf6_l3, t5, hlen, hr, e1]
    exact .ex ⟨rfl, rfl, by simp [T.get_set, t0], by simp [T.get_set, t2], by simp [T.get_set, t3], hk, v, by simp [T.get_set, t5], ho⟩
/-- the length, as eight bytes -/
def t6v : Nat → Int | 0 => .ofNat 56 | 1 => .ofNat 48 | 2 => .ofNat 40 | 3 => .ofNat 32 | 4 => .ofNat 24 | 5 => .ofNat 16 | 6 => .ofNat 8 | 7 => .ofNat 0 | _ => .negSucc 7
structure L2 (v0 : Value) (n : Nat) (h : Hp) (i : Nat) (tm : T Value) (df : Df) (H : Hp) : Prop where
  df : df = []
  t0 : tm.get [] = some v0
  t2 : tm.get [false] = some (ptrV h.next 0)
  t3 : tm.get [true, true] = some (ptrV (h.next + 1) 0)
  t6 : tm.get [false, false] = some (.int .i64 (t6v i))
  k : SumK h H
  t5 : ∃ v, tm.get [true, false] = some v ∧ OutB (h.next + 2) H v (n + i)
theorem z_shr64 (a k : Nat) : gShr .u64 (.ofNat a) (.ofNat k) = some (.int .u64 (.ofNat (a / 2 ^ nmin k 64))) := by
  show kInt .u64 (ishr (.ofNat a) (nmin k 64)) = _
  rw [kInt_eq]; rfl
theorem t6_at {i : Nat} (hi : i < 8) : t6v i = .ofNat (56 - 8 * i) ∧ gSub .i64 (.ofNat (56 - 8 * i)) (.ofNat 8) = some (.int .i64 (t6v (i + 1))) := by
  match i, hi with
  | 0, _ => exact ⟨rfl, rfl⟩
  | 1, _ => exact ⟨rfl, rfl⟩
  | 2, _ => exact ⟨rfl, rfl⟩
  | 3, _ => exact ⟨rfl, rfl⟩
  | 4, _ => exact ⟨rfl, rfl⟩
  | 5, _ => exact ⟨rfl, rfl⟩
  | 6, _ => exact ⟨rfl, rfl⟩
  | 7, _ => exact ⟨rfl, rfl⟩
  | i + 8, h => omega
theorem sum_l2 {call : Call} {h : Hp} {v0 : Value} {n n0 : Nat} (hb : h.base ≤ h.next) (hn : n ≤ 200) (hn0 : n0 < 500) (h0 : RestV h v0 n0) {tm : T Value} {df : Df} {H : Hp} (hst : L2 v0 n h 0 tm df H) :
    After (exC (.loop cf6_l2) call tm df H) (fun ex tm df H => ex = .exit 4 ∧ L2 v0 n h 8 tm df H) := by
  have q1 : Nat.ble (0 + 1) 1 = true := rfl
  have hlen := h0.len
  have u1 : fwrap .u64 (.ofNat n0) = .ofNat n0 := by rw [z_wrap64, Nat.mod_eq_of_lt (by omega)]
  have u2 : gMul .u64 (.ofNat n0) (.ofNat 8) = some (.int .u64 (.ofNat (n0 * 8))) := by
    unfold gMul
    rw [kInt_eq, show imul (.ofNat n0) (.ofNat 8) = .ofNat (n0 * 8) from rfl, z_wrap64, Nat.mod_eq_of_lt (by omega)]
  refine loop_for (n := 8) (by omega) (L2 v0 n h) (fun i tm df H hi hI => ?_) (fun tm df H hI => ?_) hst
  · obtain ⟨hdf, t0, t2, t3, t6, hk, ⟨v, t5, ho⟩⟩ := hI
    subst hdf
    obtain ⟨a1, a2⟩ := t6_at hi
    rw [a1] at t6
    have e1 : Nat.blt (56 - 8 * i) 0 = false := z_bltF (by omega)
    obtain ⟨v', H', e, ho', hw', hk'⟩ := append_byte (x := n0 * 8 / 2 ^ nmin (56 - 8 * i) 64 % 256) (Nat.mod_lt _ (by omega)) hk.wf hk.ls (by rw [hk.kp.base]; omega) ho (by omega)
    simp only [↓evD, evD, evU, evF, reduceCtorEq, evB, cf6_l2, t0, t5, t6, hlen, e1, q1, u1, u2, z_shift, z_shr64, z_wrap8, a2, z_app, e]
    exact .go ⟨rfl, by simp [T.get_set, t0], by simp [T.get_set, t2], by simp [T.get_set, t3], by simp [T.get_set], hk.keep hw' hk', v', by simp [T.get_set], ho'⟩
  · obtain ⟨hdf, t0, t2, t3, t6, hk, ⟨v, t5, ho⟩⟩ := hI
    subst hdf
    have e1 : ilt (t6v 8) (.ofNat 0) = true := rfl
    simp only [↓evD, evD, evU, evF, reduceCtorEq, evB, cf6_l2, t6, e1]
    exact .ex ⟨rfl, rfl, by simp [T.get_set, t0], by simp [T.get_set, t2], by simp [T.get_set, t3], by simp [T.get_set, t6], hk, v, by simp [T.get_set, t5], ho⟩
/-- the last blocks -/
def LastV (h H : Hp) (v : Value) (n : Nat) : Prop := ∃ b o, v = slV b o n (openC 1 n) ∧ (0 < n → ByT H b o n ∧ b ≠ h.next + 1 ∧ b < H.next)
structure L1 (m : Nat) (h : Hp) (i : Nat) (tm : T Value) (df : Df) (H : Hp) : Prop where
  df : df = []
  t2 : tm.get [false] = some (ptrV h.next 0)
  t3 : tm.get [true, true] = some (ptrV (h.next + 1) 0)
  k : SumK h H
  t5 : ∃ v, tm.get [true, false] = some v ∧ LastV h H v (64 * m - 64 * i)
theorem sum_l1 {call : Call} {h : Hp} {m : Nat} (hblk : BlkC call h) (hm : m < 10) {tm : T Value} {df : Df} {H : Hp} (hst : L1 m h 0 tm df H) :
    After (exC (.loop cf6_l1) call tm df H) (fun ex tm df H => ex = .exit 6 ∧ L1 m h m tm df H) := by
  refine loop_for (n := m) (by omega) (L1 m h) (fun i tm df H hi hI => ?_) (fun tm df H hI => ?_) hst
  · obtain ⟨hdf, t2, t3, hk, ⟨v, t5, ⟨b, o, rfl, hr⟩⟩⟩ := hI
    subst hdf
    obtain ⟨hby, hne, hlt⟩ := hr (by omega)
    have hge : 64 ≤ 64 * m - 64 * i := by omega
    obtain ⟨H', e, hk', hn', hat'⟩ := hblk b o (64 * m - 64 * i) (openC 1 (64 * m - 64 * i)) H hk (hby.part (k := 0) (by omega)) hge hne hlt
    have e1 : Nat.blt 0 (64 * m - 64 * i) = true := z_blt (by omega)
    have hs := slF_open (b := b) (o := o) (by omega : 0 < 64) hge (by omega)
    have en : 64 * m - 64 * (i + 1) = 64 * m - 64 * i - 64 := by omega
    simp only [↓evD, evD, evU, evF, reduceCtorEq, evB, cf6_l1, t3, t5, e1, e, z_slS, hs]
    refine .go ⟨rfl, by simp [T.get_set, t2], by simp [T.get_set, t3], hk', _, by simp [T.get_set]; rfl, ?_⟩
    rw [en]
    by_cases e : 64 = 64 * m - 64 * i
    · rw [if_pos e, ← e]
      exact ⟨b, o, rfl, fun h => by omega⟩
    · rw [if_neg e]
      exact ⟨b, o + 64, rfl, fun h => ⟨(hby.part (by omega)).keep (hat' b hne (by omega)), hne, by omega⟩⟩
  · obtain ⟨hdf, t2, t3, hk, ⟨v, t5, ⟨b, o, rfl, hr⟩⟩⟩ := hI
    subst hdf
    have e1 : Nat.blt 0 (64 * m - 64 * m) = false := z_bltF (by omega)
    simp only [↓evD, evD, evU, evF, reduceCtorEq, evB, cf6_l1, t5, e1]
    exact .ex ⟨rfl, rfl, by simp [T.get_set, t2], by simp [T.get_set, t3], hk, _, by simp [T.get_set, t5], b, o, rfl, hr⟩
end Abs
end Go
/- Symbolic runs: hash.Sum, whole. -/
set_option maxRecDepth 10000
namespace Go
namespace Abs
theorem W32s.one {n : Nat} {l : List Value} (h : W32s n l) : allOne l = true := by
  obtain ⟨rfl, h⟩ := h
  induction l with
  | nil => rfl
  | cons v l ih =>
    obtain ⟨x, _, e⟩ := h 0 (by simp)
    have e2 : v = .int .u32 (.ofNat x) := by simpa using e
    subst e2
    rw [z_oneI]
    exact ih fun k hk => by have := h (k + 1) (by simp; omega); simpa using this
theorem exR1_cell {n b : Nat} {p : List Bool} {tm : T Value} {h : Hp} {c : T Value} {m : Nat} {e : TypeId} {cl ro : Bool} {l : List Value} (ht : tm.get p = some (ptrV b 0)) (hat : h.at b = some (.row c m e cl ro)) (hm : n ≤ m) (hl : loadN c 0 n [] = some l) : exR1 (.cell true n p) tm h = some (.agg ⟨l⟩) := by
  show vPtr (oget (tm.get p)) (fun b o => rowK h b (fun c m _ _ _ => bif Nat.ble (Nat.add o n) m then oEl (loadN c o n []) (fun l => some (Value.agg ⟨l⟩)) none else none) none) none = _
  rw [ht]
  show rowK h b (fun c m _ _ _ => bif Nat.ble (Nat.add 0 n) m then oEl (loadN c 0 n []) (fun l => some (Value.agg ⟨l⟩)) none else none) none = _
  unfold rowK
  show oEl (h.at b) _ none = _
  rw [hat]
  show (bif Nat.ble (Nat.add 0 n) m then oEl (loadN c 0 n []) (fun l => some (Value.agg ⟨l⟩)) none else none) = _
  rw [show Nat.add 0 n = n from Nat.zero_add n, z_ble hm, cond_true, hl]; rfl
theorem exR_cell {n b : Nat} {p : List Bool} {tm : T Value} {h : Hp} {c : T Value} {m : Nat} {e : TypeId} {cl ro : Bool} {l : List Value} (ht : tm.get p = some (ptrV b 0)) (hat : h.at b = some (.row c m e cl ro)) (hm : n ≤ m) (hl : loadN c 0 n [] = some l) : exR [.cell true n p] tm h = .val (.agg ⟨l⟩) h := by
  have h2 : exRs [.cell true n p] tm h = some [.agg ⟨l⟩] := by
    show oEl (exR1 (.cell true n p) tm h) (fun v => oEl (some ([] : List Value)) (fun l => some (v :: l)) none) none = _
    rw [exR1_cell ht hat hm hl]; rfl
  unfold exR
  rw [h2]; rfl
noncomputable def z8l : List Value := [.int .u32 (.ofNat 0), .int .u32 (.ofNat 0), .int .u32 (.ofNat 0), .int .u32 (.ofNat 0), .int .u32 (.ofNat 0), .int .u32 (.ofNat 0), .int .u32 (.ofNat 0), .int .u32 (.ofNat 0)]
/-- a sum: 32 bytes -/
def SumR (l0 : List Nat) (r : Value) (H : Hp) : Prop := (∃ l, r = .agg ⟨l⟩ ∧ l.length = 32 ∧ B8s l) ∧ H.log = l0
theorem pad_len {n m : Nat} (hm : m = (120 - n % 64) % 64) : (∀ i, i < m → (n + i) % 64 ≠ 56) ∧ (n + m) % 64 = 56 ∧ m < 64 := by
  subst hm
  refine ⟨fun i hi => ?_, ?_, ?_⟩ <;> omega
theorem sum_run {call : Call} {cd : CallD} {h : Hp} {v : Value} {n : Nat} {c0 : T Value} {m0 : Nat} {e0 : TypeId} {cl0 ro0 : Bool} {kl : List Value} (hw : Wf h) (hn : n ≤ 200) (hv : RestV h v n) (hblk : BlkC call h) (hcl : CloneC call h)
    (hg : h.at 0 = some (.row c0 m0 e0 cl0 ro0)) (hm : 8 ≤ m0) (hld : loadN c0 0 8 [] = some kl) (hkl : W32s 8 kl) (h0 : 0 < h.next) :
    Yields (runF cf6 call cd [v] h) (SumR h.log) := by
  refine runF_yields rfl ?_
  have hn0 : (h.next = 0) = False := by simp; omega
  have hm' : Nat.ble (0 + 8) m0 = true := z_ble (by omega)
  have hm2 : Nat.ble 8 m0 = true := z_ble hm
  have hk1 := hkl.1
  have hk2 := hkl.one
  have q8 : Nat.ble 8 8 = true := rfl
  have hb := hw.base
  simp only [↓evD, evD, evU, evF, reduceCtorEq, evB, cf6, hn0, z_vPtr', hg, hm', hm2, hld, hk1, hk2, q8, Nat.zero_add]
  have hw2 : Wf (((h.new (rowL z32l 32 45 true)).new (rowL z8l 8 62 true)).put (h.next + 1) (some (.row (storeL kl 0 (storeL z8l 0 .nil fun t => t) fun t => t) 8 62 true false))) := ((hw.new _).new _).put (by rw [z_new_next, z_new_next]; omega) _
  have hK0 : SumK h (((h.new (rowL z32l 32 45 true)).new (rowL z8l 8 62 true)).put (h.next + 1) (some (.row (storeL kl 0 (storeL z8l 0 .nil fun t => t) fun t => t) 8 62 true false))) := by
    refine ⟨hw2, ((Keeps.new _ (Nat.le_refl _)).trans (Keeps.new _ (by rw [z_new_next]; omega))).trans (Keeps.put _ (by omega) (by rw [z_new_base, z_new_base]; omega)), ?_, ?_, ?_⟩
    · rw [z_at_put, if_pos rfl]
      refine ⟨_, _, rfl, fun k hk => ?_⟩
      rw [z_stget, if_pos ⟨by omega, by omega⟩]
      exact hkl.2 k hk
    · rw [z_at_put, if_neg (by omega), z_at_new, z_new_next, if_neg (by omega), z_at_new, if_pos rfl]
    · rw [z_put_next, z_new_next, z_new_next]; omega
  refine After.exK (φ := fun e tm df H => e = .normal ∧ L4 v n h (n / 64) tm df H) (After.exK (φ := fun e tm df H => e = .exit 0 ∧ L4 v n h (n / 64) tm df H) ?_ ?_) ?_
  · exact sum_l4 hblk (by omega) ⟨rfl, by simp [T.get_set, z_st10], by simp [T.get_set], by simp [T.get_set], hK0, v, by simp [T.get_set, z_st10], hv⟩
  · rintro e tm df H ⟨rfl, rest⟩; exact ⟨rfl, rest⟩
  rintro ex tm df H ⟨rfl, ⟨hdf, t0, t2, t3, hk, ⟨v4, t4, hr⟩⟩⟩
  subst hdf
  generalize hn4 : n - 64 * (n / 64) = n4 at hr
  have hn5 : n4 < 64 := by omega
  obtain ⟨v5, H5, e5, ho5, hw5, hk5⟩ := hcl v4 n4 H (by omega) hk.wf hk.kp hr
  obtain ⟨v6, H6, e6, ho6, hw6, hk6⟩ := append_byte (x := 128) (by omega) hw5 (Nat.le_trans hk.ls hk5.next) (by rw [hk5.base, hk.kp.base]; omega) (ho5.less hk.ls) (by omega)
  have hK6 : SumK h H6 := hk.keep hw6 ((hk5.less hk.ls).trans hk6)
  have q1 : Nat.ble (0 + 1) 1 = true := rfl
  have q11 : Nat.ble 1 1 = true := rfl
  simp only [↓evD, evD, evU, evF, reduceCtorEq, evB, t4, e5, q1, q11, z_app, e6, Nat.zero_add]
  generalize hm3 : (120 - (n4 + 1) % 64) % 64 = m3
  obtain ⟨p1, p2, p3⟩ := pad_len hm3.symm
  refine After.exK (φ := fun e tm df H => e = .normal ∧ L3 v (n4 + 1) h m3 tm df H) (After.exK (φ := fun e tm df H => e = .exit 2 ∧ L3 v (n4 + 1) h m3 tm df H) ?_ ?_) ?_
  · exact sum_l3 hb (by omega) p3 p1 p2 ⟨rfl, by simp [T.get_set, t0], by simp [T.get_set, t2], by simp [T.get_set, t3], hK6, v6, by simp [T.get_set], ho6⟩
  · rintro e tm df H ⟨rfl, rest⟩; exact ⟨rfl, rest⟩
  rintro ex tm df H7 ⟨rfl, ⟨hdf, t0, t2, t3, hk7, ⟨v7, t5, ho7⟩⟩⟩
  subst hdf
  simp only [↓evD, evD, evU, evF, reduceCtorEq, evB]
  refine After.exK (φ := fun e tm df H => e = .normal ∧ L2 v (n4 + 1 + m3) h 8 tm df H) (After.exK (φ := fun e tm df H => e = .exit 4 ∧ L2 v (n4 + 1 + m3) h 8 tm df H) ?_ ?_) ?_
  · exact sum_l2 hb (by omega) (by omega) hv ⟨rfl, by simp [T.get_set, t0], by simp [T.get_set, t2], by simp [T.get_set, t3], by simp [T.get_set]; rfl, hk7, v7, by simp [T.get_set, t5], ho7⟩
  · rintro e tm df H ⟨rfl, rest⟩; exact ⟨rfl, rest⟩
  rintro ex tm df H8 ⟨rfl, ⟨hdf, t0, t2, t3, t6, hk8, ⟨v8, t5, ho8⟩⟩⟩
  subst hdf
  simp only [↓evD, evD, evU, evF, reduceCtorEq, evB]
  obtain ⟨m1, hm1⟩ : ∃ m1, n4 + 1 + m3 + 8 = 64 * m1 := ⟨(n4 + 1 + m3 + 8) / 64, by omega⟩
  have hL1 : LastV h H8 v8 (64 * m1 - 64 * 0) := by
    rw [hm1] at ho8
    rcases ho8 with ⟨h1, _⟩ | ⟨b, vs, rfl, h2, h3, h4, h5, h6⟩
    · omega
    · refine ⟨b, 0, rfl, fun _ => ⟨?_, by omega, hk8.wf.lt h5⟩⟩
      have := h5.byT h4
      rw [h3] at this
      exact this
  refine After.exK (φ := fun e tm df H => e = .normal ∧ L1 m1 h m1 tm df H) (After.exK (φ := fun e tm df H => e = .exit 6 ∧ L1 m1 h m1 tm df H) ?_ ?_) ?_
  · exact sum_l1 hblk (by omega) ⟨rfl, by simp [T.get_set, t2], by simp [T.get_set, t3], hk8, v8, by simp [T.get_set, t5], hL1⟩
  · rintro e tm df H ⟨rfl, rest⟩; exact ⟨rfl, rest⟩
  rintro ex tm df H9 ⟨rfl, ⟨hdf, t2, t3, hk9, _⟩⟩
  subst hdf
  simp only [↓evD, evD, evU, evF, reduceCtorEq, evB]
  have hl9 := hk9.ls
  have hb9 : H9.base ≤ h.next := by rw [hk9.kp.base]; exact hb
  refine After.exK (φ := fun e tm df H => e = .normal ∧ S0 (h.next + 1) H9.next h.next (H9.new (rowL z32l 32 45 true)) 32 tm df H) (After.exK (φ := fun e tm df H => e = .exit 8 ∧ S0 (h.next + 1) H9.next h.next (H9.new (rowL z32l 32 45 true)) 32 tm df H) ?_ ?_) ?_
  · refine sum_l0 (e := 62) ?_ (by omega) (by rw [z_new_base]; omega) (by rw [z_new_next]; omega) ⟨rfl, by simp [T.get_set, t2], by simp [T.get_set, t3], by simp [T.get_set], by simp [T.get_set], Else.refl _ _, ?_⟩
    · rw [z_at_new, if_neg (by omega)]; exact hk9.rs
    · rw [z_at_new, if_pos rfl]
      refine ⟨_, _, rfl, fun k hk => ⟨0, by omega, ?_⟩⟩
      rw [z_stget, if_pos ⟨by omega, by show k < 0 + 32; omega⟩]
      have : z32l = List.replicate 32 (Value.int .u8 (.ofNat 0)) := rfl
      show z32l[k - 0]? = _
      rw [this, List.getElem?_replicate, if_pos (by omega)]
  · rintro e tm df H ⟨rfl, rest⟩; exact ⟨rfl, rest⟩
  rintro ex tm df H10 ⟨rfl, ⟨hdf, t2, t3, t7, t50, hels, hrow⟩⟩
  subst hdf
  obtain ⟨c, cl, hat, hk⟩ := hrow
  obtain ⟨vs, hl, hbs, hlo, hget⟩ := cells_list (c := c) (o := 0) (n := 32) (fun k hk' => by rw [Nat.zero_add]; exact hk k hk')
  have hat2 : H10.at h.next = some (rowL z32l 32 45 true) := by
    rw [hels.at_ _ (by omega), z_at_new, if_neg (by omega)]; exact hk9.r2
  have hone := hbs.one
  have q32 : Nat.ble 32 32 = true := rfl
  simp only [↓evD, evD, evU, evF, reduceCtorEq, evB, t2, t3, t7, hat, hat2, hlo, hl, hone, q32, Nat.zero_add]
  refine .ret ?_
  rw [exR_cell (l := vs) t2 (by rw [z_at_put, if_pos rfl]) (Nat.le_refl _) ?_]
  · refine ⟨⟨vs, rfl, hl, hbs⟩, ?_⟩
    rw [z_put_log (by rw [hels.base, z_new_base]; exact hb9), hels.log, z_new_log, hk9.kp.log]
  · have := loadN_eq (c := storeL vs 0 (storeL z32l 0 .nil fun t => t) fun t => t) (o := 0) 32 vs [] hl fun j hj => by rw [z_stget, if_pos ⟨by omega, by omega⟩]; congr 1; omega
    rw [List.append_nil] at this
    exact this
end Abs
end Go
