/-
Symbolic runs: Same of the references.
Conditions: none.
-/
import Derived.Test.YtgamdeginkngaaaGreatDoorRunL
set_option linter.unusedVariables false
set_option linter.unusedSimpArgs false
namespace Go
namespace Abs
theorem z_boolEq (neg : Bool) (x y : OD) (lo : List Value) (tm : T Value) : oBoolEq neg x y lo tm = vBool (rdO x lo tm) (fun a => vBool (rdO y lo tm) (fun b => some (.bool (bEqB neg (!bEqB a b)))) none) none := by
  unfold oBoolEq; simp only [gB_eq]
theorem nth_app (a b : List Value) (v : Value) : nth (a ++ v :: b) a.length = v := by
  induction a with
  | nil => rfl
  | cons x a ih => exact ih
theorem leaf_ints {kd : IntKind} : ∀ (a b : List Int) (k : Nat) (pa pb : List Value), pa.length = k → pb.length = k → a.length = b.length →
    leafEq ((List.range' k a.length).map fun i => (i, 2)) (pa ++ a.map fun x => Value.int kd x) (pb ++ b.map fun x => Value.int kd x) = some (decide (a = b)) := by
  intro a
  induction a with
  | nil =>
    intro b k pa pb _ _ hl
    have : b = [] := List.length_eq_zero_iff.1 hl.symm
    subst this; rfl
  | cons x a ih =>
    intro b k pa pb h1 h2 hl
    cases b with
    | nil => simp at hl
    | cons y b =>
      have e1 : nth (pa ++ (x :: a).map fun x => Value.int kd x) k = .int kd x := by subst h1; exact nth_app _ _ _
      have e2 : nth (pb ++ (y :: b).map fun x => Value.int kd x) k = .int kd y := by subst h2; exact nth_app _ _ _
      have ih' := ih b (k + 1) (pa ++ [.int kd x]) (pb ++ [.int kd y]) (by simp [h1]) (by simp [h2]) (by simpa using hl)
      rw [List.append_assoc, List.append_assoc] at ih'
      show oEl (sEqT 2 (nth (pa ++ (x :: a).map fun x => Value.int kd x) k) (nth (pb ++ (y :: b).map fun x => Value.int kd x) k)) (fun t => Bool.rec (motive := fun _ => Option Bool) (some false) (leafEq ((List.range' (k + 1) a.length).map fun i => (i, 2)) (pa ++ (x :: a).map fun x => Value.int kd x) (pb ++ (y :: b).map fun x => Value.int kd x)) t) none = _
      rw [e1, e2]
      show oEl (bif kEq kd kd then some (ieq x y) else none) _ none = _
      rw [z_kEq, cond_true, z_oEl, ieq_eq]
      by_cases hxy : x = y
      · subst hxy
        rw [decide_eq_true rfl]
        refine Eq.trans ih' ?_
        simp
      · rw [decide_eq_false hxy, decide_eq_false (by simp [hxy])]
theorem leaf9 {a b : List Int} (ha : a.length = 9) (hb : b.length = 9) : leafEq [(0, 2), (1, 2), (2, 2), (3, 2), (4, 2), (5, 2), (6, 2), (7, 2), (8, 2)] (a.map fun x => Value.int .i64 x) (b.map fun x => Value.int .i64 x) = some (decide (a = b)) := by
  have := leaf_ints (kd := .i64) a b 0 [] [] rfl rfl (ha.trans hb.symm)
  rw [ha] at this; exact this
theorem leaf32 {a b : List Nat} (ha : a.length = 32) (hb : b.length = 32) : leafEq [(0, 2), (1, 2), (2, 2), (3, 2), (4, 2), (5, 2), (6, 2), (7, 2), (8, 2), (9, 2), (10, 2), (11, 2), (12, 2), (13, 2), (14, 2), (15, 2), (16, 2), (17, 2), (18, 2), (19, 2), (20, 2), (21, 2), (22, 2), (23, 2), (24, 2), (25, 2), (26, 2), (27, 2), (28, 2), (29, 2), (30, 2), (31, 2)]
    (a.map fun x => Value.int .u8 (.ofNat x)) (b.map fun x => Value.int .u8 (.ofNat x)) = some (decide (a = b)) := by
  have := leaf_ints (kd := .u8) (a.map Int.ofNat) (b.map Int.ofNat) 0 [] [] rfl rfl (by simp [ha, hb])
  rw [List.length_map, ha, List.nil_append, List.nil_append, List.map_map, List.map_map] at this
  refine Eq.trans this ?_
  have : (a.map Int.ofNat = b.map Int.ofNat) ↔ a = b := ⟨fun h => by
    have := congrArg (List.map Int.toNat) h
    rw [List.map_map, List.map_map] at this
    have e : (Int.toNat ∘ Int.ofNat) = id := rfl
    rwa [e, List.map_id, List.map_id] at this, fun h => by rw [h]⟩
  simp only [this]
noncomputable def sameS (va vb : Nat) (sa sb ka kb : List (ByteArray × ByteArray)) : Bool := decide (va = vb) && sameL sa sb && sameL ka kb
theorem same23_run {call : Call} {cd : CallD} {h : Hp} {va vb : Nat} {vo ko wo lo' : Value} {sa sb ka kb : List (ByteArray × ByteArray)} (hw : Wf h) (h1 : SlP h vo sa) (h2 : SlP h ko ka) (h3 : SlP h wo sb) (h4 : SlP h lo' kb) (n1 : sa.length < 1000) (n2 : ka.length < 1000) (n3 : sb.length < 1000) (n4 : kb.length < 1000)
    (hcall46 : ∀ (H : Hp) (v u : Value) (l m : List (ByteArray × ByteArray)), SlP H v l → SlP H u m → l.length < 1000 → m.length < 1000 → call 46 [v, u] H = .val (.bool (sameL l m)) H) :
    Yields (runF cf21 call cd [.agg ⟨[.int .i64 (.ofNat va), vo, ko]⟩, .agg ⟨[.int .i64 (.ofNat vb), wo, lo']⟩] h) (QuietR (.bool (sameS va vb sa sb ka kb)) h) := by
  refine runF_yields rfl ?_
  have hb0 : Nat.blt 0 3 = true := rfl
  have hb1 : Nat.blt 1 3 = true := rfl
  have hb2 : Nat.blt 2 3 = true := rfl
  have g0 : (storeL [Value.int .i64 (.ofNat va), vo, ko] 0 .nil fun t => t).get (path 0) = some (.int .i64 (.ofNat va)) := rfl
  have g1 : (storeL [Value.int .i64 (.ofNat va), vo, ko] 0 .nil fun t => t).get (path 1) = some vo := rfl
  have g2 : (storeL [Value.int .i64 (.ofNat va), vo, ko] 0 .nil fun t => t).get (path 2) = some ko := rfl
  have k0 : (storeL [Value.int .i64 (.ofNat vb), wo, lo'] 0 .nil fun t => t).get (path 0) = some (.int .i64 (.ofNat vb)) := rfl
  have k1 : (storeL [Value.int .i64 (.ofNat vb), wo, lo'] 0 .nil fun t => t).get (path 1) = some wo := rfl
  have k2 : (storeL [Value.int .i64 (.ofNat vb), wo, lo'] 0 .nil fun t => t).get (path 2) = some lo' := rfl
  have hw' := hw.new (rowL [Value.int .i64 (.ofNat va), vo, ko] 3 34 true)
  have c1 := hcall46 ((h.new (rowL [Value.int .i64 (.ofNat va), vo, ko] 3 34 true)).new (rowL [Value.int .i64 (.ofNat vb), wo, lo'] 3 34 true)) vo wo sa sb ((h1.new hw _).new hw' _) ((h3.new hw _).new hw' _) n1 n3
  have c2 := hcall46 ((h.new (rowL [Value.int .i64 (.ofNat va), vo, ko] 3 34 true)).new (rowL [Value.int .i64 (.ofNat vb), wo, lo'] 3 34 true)) ko lo' ka kb ((h2.new hw _).new hw' _) ((h4.new hw _).new hw' _) n2 n4
  unfold sameS
  by_cases hv : va = vb
  · have e0 : Nat.beq va vb = true := by rw [hv]; exact Nat.beq_refl _
    rw [decide_eq_true hv, Bool.true_and]
    cases hs : sameL sa sb with
    | true =>
      rw [hs] at c1
      simp only [↓evD, evD, evU, evF, reduceCtorEq, evB, hb0, hb1, hb2, g0, g1, g2, k0, k1, k2, c1, c2, e0]
      refine .ret ?_
      simp only [↓evD, evD, evU, evF, reduceCtorEq, evB]
      exact ⟨rfl, rfl⟩
    | false =>
      rw [hs] at c1
      simp only [↓evD, evD, evU, evF, reduceCtorEq, evB, hb0, hb1, hb2, g0, g1, g2, k0, k1, k2, c1, c2, e0]
      refine .ret ?_
      simp only [↓evD, evD, evU, evF, reduceCtorEq, evB]
      exact ⟨rfl, rfl⟩
  · have e0 : Nat.beq va vb = false := by
      cases e : Nat.beq va vb with
      | false => rfl
      | true => exact absurd (Nat.eq_of_beq_eq_true e) hv
    rw [decide_eq_false hv]
    simp only [↓evD, evD, evU, evF, reduceCtorEq, evB, hb0, hb1, hb2, g0, g1, g2, k0, k1, k2, c1, c2, e0]
    refine .ret ?_
    simp only [↓evD, evD, evU, evF, reduceCtorEq, evB]
    exact ⟨rfl, rfl⟩
noncomputable def sameR (a b : Rep) : Bool := decide (a.st = b.st) && decide (a.torn = b.torn) && decide (a.img = b.img) && (a.sane == b.sane) && sameS a.ver b.ver a.s b.s a.k b.k
theorem ld_st {r : Rep} (hr : RepOk r) (vo ko : Value) : loadN (storeL (repC r vo ko) 0 .nil fun t => t) 0 9 [] = some (r.st.map fun x => Value.int .i64 x) := by
  have hlen : (r.st.map fun x => Value.int .i64 x).length = 9 := by rw [List.length_map]; exact hr.st
  have := loadN_eq (c := storeL (repC r vo ko) 0 .nil fun t => t) (o := 0) 9 (r.st.map fun x => Value.int .i64 x) [] hlen (fun j hj => by
    rw [Nat.zero_add, rowL_get (repC_st hr vo ko hj)]
    have := hr.st
    unfold stG
    simp [List.getElem?_eq_getElem (show j < r.st.length by omega)])
  rw [this, List.append_nil]
theorem ld_img {r : Rep} (hr : RepOk r) (vo ko : Value) : loadN (storeL (repC r vo ko) 0 .nil fun t => t) 10 32 [] = some (r.img.map fun x => Value.int .u8 (.ofNat x)) := by
  have hlen : (r.img.map fun x => Value.int .u8 (.ofNat x)).length = 32 := by rw [List.length_map]; exact hr.img
  have := loadN_eq (c := storeL (repC r vo ko) 0 .nil fun t => t) (o := 10) 32 (r.img.map fun x => Value.int .u8 (.ofNat x)) [] hlen (fun j hj => by
    have h2 := hr.img
    have hj' : r.img[j]? = some (r.img[j]'(by omega)) := List.getElem?_eq_getElem (by omega)
    rw [rowL_get (repC_img hr vo ko hj'), List.getElem?_map, hj']
    rfl)
  rw [this, List.append_nil]
theorem z_bEqBB (a b : Bool) : bEqB false (!bEqB a b) = (a == b) := by cases a <;> cases b <;> rfl
theorem same32_run {call : Call} {cd : CallD} {h : Hp} {a b : Rep} {vo ko wo lo' : Value} (ra : RepOk a) (rb : RepOk b) (hw : Wf h) (h1 : SlP h vo a.s) (h2 : SlP h ko a.k) (h3 : SlP h wo b.s) (h4 : SlP h lo' b.k)
    (hcall21 : ∀ H, Wf H → SlP H vo a.s → SlP H ko a.k → SlP H wo b.s → SlP H lo' b.k → call 21 [.agg ⟨[.int .i64 (.ofNat a.ver), vo, ko]⟩, .agg ⟨[.int .i64 (.ofNat b.ver), wo, lo']⟩] H = .val (.bool (sameS a.ver b.ver a.s b.s a.k b.k)) H) :
    Yields (runF cf7 call cd [.agg ⟨repC a vo ko⟩, .agg ⟨repC b wo lo'⟩] h) (QuietR (.bool (sameR a b)) h) := by
  refine runF_yields rfl ?_
  have q1 : Nat.ble 9 46 = true := rfl
  have q2 : Nat.blt 9 46 = true := rfl
  have q3 : Nat.ble 42 46 = true := rfl
  have q4 : Nat.blt 45 46 = true := rfl
  have q5 : Nat.ble 45 46 = true := rfl
  have la := repC_len ra vo ko
  have lb := repC_len rb wo lo'
  have a1 := ld_st ra vo ko
  have a2 := ld_img ra vo ko
  have a3 := rowL_get (repC_torn ra vo ko)
  have a4 := rowL_get (repC_end ra vo ko).1
  have a5 := rowL_get (repC_end ra vo ko).2.1
  have a6 := rowL_get (repC_end ra vo ko).2.2.1
  have a7 := rowL_get (repC_end ra vo ko).2.2.2
  have b1 := ld_st rb wo lo'
  have b2 := ld_img rb wo lo'
  have b3 := rowL_get (repC_torn rb wo lo')
  have b4 := rowL_get (repC_end rb wo lo').1
  have b5 := rowL_get (repC_end rb wo lo').2.1
  have b6 := rowL_get (repC_end rb wo lo').2.2.1
  have b7 := rowL_get (repC_end rb wo lo').2.2.2
  have e1 := leaf9 ra.st rb.st
  have e2 := ieq_eq a.torn b.torn
  have e3 := leaf32 ra.img rb.img
  have hw' := hw.new (rowL (repC a vo ko) 46 39 true)
  have c1 := hcall21 ((h.new (rowL (repC a vo ko) 46 39 true)).new (rowL (repC b wo lo') 46 39 true)) (hw'.new _) ((h1.new hw _).new hw' _) ((h2.new hw _).new hw' _) ((h3.new hw _).new hw' _) ((h4.new hw _).new hw' _)
  unfold sameR
  cases d1 : decide (a.st = b.st) with
  | false =>
    simp only [↓evD, evD, evU, evF, reduceCtorEq, evB, Nat.reduceAdd, Nat.reduceLT, Nat.reduceMul, Nat.reduceSub, la, lb, q1, a1, b1, e1, d1]
    refine .ret ?_
    simp only [↓evD, evD, evU, evF, reduceCtorEq, evB]
    exact ⟨rfl, rfl⟩
  | true =>
  cases d2 : decide (a.torn = b.torn) with
  | false =>
    simp only [↓evD, evD, evU, evF, reduceCtorEq, evB, Nat.reduceAdd, Nat.reduceLT, Nat.reduceMul, Nat.reduceSub, la, lb, q1, q2, a1, b1, a3, b3, e1, e2, d1, d2]
    refine .ret ?_
    simp only [↓evD, evD, evU, evF, reduceCtorEq, evB]
    exact ⟨rfl, rfl⟩
  | true =>
  cases d3 : decide (a.img = b.img) with
  | false =>
    simp only [↓evD, evD, evU, evF, reduceCtorEq, evB, Nat.reduceAdd, Nat.reduceLT, Nat.reduceMul, Nat.reduceSub, la, lb, q1, q2, q3, a1, b1, a2, b2, a3, b3, e1, e2, e3, d1, d2, d3]
    refine .ret ?_
    simp only [↓evD, evD, evU, evF, reduceCtorEq, evB]
    exact ⟨rfl, rfl⟩
  | true =>
  cases d4 : (a.sane == b.sane) with
  | false =>
    simp only [↓evD, evD, evU, evF, reduceCtorEq, evB, Nat.reduceAdd, Nat.reduceLT, Nat.reduceMul, Nat.reduceSub, z_boolEq, ↓z_bEqBB, la, lb, q1, q2, q3, q4, a1, b1, a2, b2, a3, b3, a7, b7, e1, e2, e3, d1, d2, d3, d4]
    refine .ret ?_
    simp only [↓evD, evD, evU, evF, reduceCtorEq, evB]
    exact ⟨rfl, rfl⟩
  | true =>
    simp only [↓evD, evD, evU, evF, reduceCtorEq, evB, Nat.reduceAdd, Nat.reduceLT, Nat.reduceMul, Nat.reduceSub, z_boolEq, ↓z_bEqBB, z_ld3, la, lb, q1, q2, q3, q4, q5, a1, b1, a2, b2, a3, b3, a4, b4, a5, b5, a6, b6, a7, b7, e1, e2, e3, d1, d2, d3, d4, c1]
    refine .ret ?_
    simp only [↓evD, evD, evU, evF, reduceCtorEq, evB]
    exact ⟨rfl, rfl⟩
end Abs
end Go
