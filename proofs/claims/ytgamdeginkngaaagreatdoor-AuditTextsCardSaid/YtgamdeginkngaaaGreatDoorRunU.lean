/-
Symbolic runs: AuditTexts, the second part.
Conditions: none.
-/
import Derived.Test.YtgamdeginkngaaaGreatDoorRunT
set_option linter.unusedVariables false
set_option linter.unusedSimpArgs false
namespace Go
namespace Abs
theorem set_mid (P I T : List Value) (k : Nat) (v : Value) (hP : P.length = 10) (hI : I.length = 32) (hk : k < 32) : P ++ I.set k v ++ T = (P ++ I ++ T).set (10 + k) v := by
  rw [List.set_append_left _ _ (by rw [List.length_append]; omega), List.set_append_right _ _ (by omega), hP, Nat.add_sub_cancel_left]
theorem repC_set {r : Rep} {vo ko : Value} {k : Nat} (hst : r.st.length = 9) (him : r.img.length = 32) (hk : k < 32) :
    repC { r with img := r.img.set k 1 } vo ko = (repC r vo ko).set (10 + k) (.int .u8 (.ofNat 1)) := by
  have hm : (r.st.map fun x => Value.int .i64 x).length = 9 := by rw [List.length_map]; exact hst
  unfold repC
  rw [← set_mid _ _ _ _ _ (by simp [hst]) (by simp [him]) hk]
  show _ ++ ((r.img.set k 1).map fun x => Value.int .u8 (.ofNat x)) ++ _ = _
  rw [List.map_set]
theorem cells_set {c : T Value} {r : Rep} {vo ko : Value} {k : Nat} (hst : r.st.length = 9) (him : r.img.length = 32) (hk : k < 32) (hc : CellsR c r vo ko) :
    CellsR (storeL [.int .u8 (.ofNat 1)] (10 + k) c fun t => t) { r with img := r.img.set k 1 } vo ko := fun j hj => by
  rw [repC_set hst him hk, List.getElem?_set]
  by_cases h : 10 + k = j
  · subst h
    rw [if_pos rfl, if_pos (by rw [repC_len' hst him]; omega), cell1']
  · rw [if_neg h, cell1 _ _ _ _ (fun e => h e.symm)]
    exact hc j hj
theorem cell0_int {c : T Value} {r : Rep} {vo ko : Value} (hst : r.st.length = 9) (hc : CellsR c r vo ko) : ∃ n, c.get (path 0) = some (.int .i64 n) := by
  refine ⟨r.st[0]'(by omega), ?_⟩
  rw [hc 0 (by omega)]
  unfold repC
  rw [List.append_assoc, List.append_assoc, List.getElem?_append_left (by simp; omega), List.getElem?_map, List.getElem?_eq_getElem (by omega)]; rfl
theorem SlP.put {H : Hp} {b : Nat} {c c' : T Value} {v : Value} {l : List (ByteArray × ByteArray)} (hat : H.at b = some (.row c 46 39 true false)) (h0 : ∃ n, c.get (path 0) = some (.int .i64 n)) (hv : SlP H v l) : SlP (H.put b (some (.row c' 46 39 true false))) v l := by
  rcases hv with hh | ⟨y, cp, rfl, cc, m, e, cl, ro, h1, h2, h3⟩
  · exact .inl hh
  · by_cases hy : b = y
    · subst hy
      rw [hat] at h1
      cases h1
      cases l with
      | nil => exact .inr ⟨b, cp, rfl, c', 46, 39, true, false, by rw [z_at_put, if_pos rfl], by simp, fun j x hx => by simp at hx⟩
      | cons x r =>
        obtain ⟨n, hn⟩ := h0
        have := (h3 0 x rfl).1
        rw [Nat.zero_mul, hn] at this
        cases this
    · exact .inr ⟨y, cp, rfl, cc, m, e, cl, ro, by rw [z_at_put, if_neg hy]; exact h1, h2, h3⟩
noncomputable def repA1 (A : Arg) : Rep := { repA A with img := img1 (A.w0 % 32) }
noncomputable def repB1 (A : Arg) : Rep := { repB A with img := img1 (A.w1 % 32) }
variable {A : Arg} {h : Hp} {tm : T Value} {df : Df} {H : Hp} {call : Call} {cd : CallD}
theorem s3_4 {ba bb : Nat} {va ka vb kb : Value} (hw : Wf h) (ok : ArgOk A h) (S : S3 A h tm df H) (t8 : tm.get [false, true, true] = some (ptrV ba 0)) (t9 : tm.get [true, false, true] = some (ptrV bb 0)) (ra : RepAt H ba (repA A) va ka) (rb : RepAt H bb (repB A) vb kb) (h1 : h.next + 3 ≤ ba) (h2 : ba < bb) :
    After (exC r3_4 call tm df H) (fun e tm' df' H' => e = .normal ∧ S3 A h tm' df' H' ∧ tm'.get [false, true, true] = some (ptrV ba 0) ∧ tm'.get [true, false, true] = some (ptrV bb 0) ∧ RepAt H' ba (repA1 A) va ka ∧ RepAt H' bb (repB1 A) vb kb) := by
  obtain ⟨at0, at1, at2⟩ := S.ats
  obtain ⟨rfl, t3, t4, t5, t7, wf, kp⟩ := S
  obtain ⟨⟨ca, hca, cea⟩, sa, ka'⟩ := ra
  obtain ⟨⟨cb, hcb, ceb⟩, sb, kb'⟩ := rb
  have lb := wf.lt hcb
  have k0 : (storeL A.c2 0 .nil fun t => t).get (path 0) = some (.int .u8 (.ofNat A.w0)) := rfl
  have k1 : (storeL A.c2 0 .nil fun t => t).get (path 1) = some (.int .u8 (.ofNat A.w1)) := rfl
  have i1 : Nat.blt 0 3 = true := rfl
  have i2 : Nat.blt 1 3 = true := rfl
  have r0 : gRem .u8 (.ofNat A.w0) (.ofNat 32) = some (.int .u8 (.ofNat (A.w0 % 32))) := z_remG .u8 A.w0 32 rfl
  have r1 : gRem .u8 (.ofNat A.w1) (.ofNat 32) = some (.int .u8 (.ofNat (A.w1 % 32))) := z_remG .u8 A.w1 32 rfl
  have j0 : Nat.blt (A.w0 % 32) 32 = true := z_blt (by omega)
  have j1 : Nat.blt (A.w1 % 32) 32 = true := z_blt (by omega)
  have l0 : Nat.ble (10 + A.w0 % 32 * 1 + 1) 46 = true := z_ble (by omega)
  have l1 : Nat.ble (10 + A.w1 % 32 * 1 + 1) 46 = true := z_ble (by omega)
  have hbase : H.base ≤ h.next := by
    have := kp.base
    unfold Arg.h3 at this
    simp only [z_new_base] at this
    rw [this]
    exact hw.base
  have la := wf.lt hca
  have hne : ba ≠ bb := by omega
  have beqF : ∀ a b : Nat, a < b → Nat.beq a b = false := fun a b hab => by cases e : Nat.beq a b with | false => rfl | true => have := Nat.eq_of_beq_eq_true e; omega
  have m1 := beqF (h.next + 1 + 1) ba (by omega)
  have m2 := beqF (h.next + 1 + 1) bb (by omega)
  obtain ⟨ca', hca'⟩ : ∃ c, (storeL [Value.int .u8 (.ofNat 1)] (10 + A.w0 % 32 * 1) ca fun t => t) = c := ⟨_, rfl⟩
  obtain ⟨cb', hcb'⟩ : ∃ c, (storeL [Value.int .u8 (.ofNat 1)] (10 + A.w1 % 32 * 1) cb fun t => t) = c := ⟨_, rfl⟩
  obtain ⟨H1, hH1⟩ : ∃ G, H.put ba (some (.row ca' 46 39 true false)) = G := ⟨_, rfl⟩
  obtain ⟨H2, hH2⟩ : ∃ G, H1.put bb (some (.row cb' 46 39 true false)) = G := ⟨_, rfl⟩
  have wf1 : Wf H1 := by rw [← hH1]; exact wf.put1 la _
  have n1 : H1.next = H.next := by rw [← hH1]; rfl
  have b1 : H1.base = H.base := by rw [← hH1]; rfl
  have wf2 : Wf H2 := by rw [← hH2]; exact wf1.put1 (by omega) _
  have kp1 : Keeps ba H H1 := by rw [← hH1]; exact Keeps.put _ (Nat.le_refl _) (by omega)
  have kp2 : Keeps bb H1 H2 := by rw [← hH2]; exact Keeps.put _ (Nat.le_refl _) (by omega)
  have hcb1 : H1.at bb = some (.row cb 46 39 true false) := by rw [← hH1, z_at_put, if_neg hne]; exact hcb
  have p1 : Nat.ble H.next ba = false := z_bleF la
  have p2 : Nat.ble H.next bb = false := z_bleF lb
  have q1 : logs H.next [] ba = [ba] := z_logs1 (z_blt la)
  have q2 : logs H.next [] bb = [bb] := z_logs1 (z_blt lb)
  have q3 : below H.base [ba] H.log = H.log := z_be1 (by omega)
  have q4 : below H1.base [bb] H1.log = H1.log := z_be1 (by omega)
  have q5 : setBase H1 H.base H.log = H1 := by rw [← hH1]; exact sb_put (by omega)
  have q6 : setBase H2 H1.base H1.log = H2 := by rw [← hH2]; exact sb_put (by omega)
  have two1 : H1.at (h.next + 1 + 1) = some (rowL A.c2 3 30 true) := by rw [kp1.at_ _ (by omega)]; exact at2
  simp only [↓evD, evD, evU, evF, reduceCtorEq, evB, Nat.reduceAdd, Nat.reduceLT, Nat.reduceMul, Nat.reduceSub, r3_4, t3, t4, t5, t8, t9, at2, two1, k0, k1, i1, i2, r0, r1, j0, j1, l0, l1, hca, hcb1, hca', hcb', hH1, hH2, n1, m1, m2, p1, p2, q1, q2, q3, q4, q5, q6]
  have hcx : CellsR ca' (repA1 A) va ka := by
    rw [← hca', Nat.mul_one]
    exact cells_set (r := repA A) ok.sa rfl (by omega) cea
  have hcy : CellsR cb' (repB1 A) vb kb := by
    rw [← hcb', Nat.mul_one]
    exact cells_set (r := repB A) ok.sb rfl (by omega) ceb
  have za := cell0_int (r := repA A) ok.sa cea
  have zb := cell0_int (r := repB A) ok.sb ceb
  have up : ∀ {v : Value} {l : List (ByteArray × ByteArray)}, SlP H v l → SlP H2 v l := fun hv => by
    rw [← hH2]
    refine SlP.put hcb1 zb ?_
    rw [← hH1]
    exact SlP.put hca za hv
  refine ⟨⟨rfl, t3, t4, t5, t7, wf2, kp.trans ((kp1.less h1).trans (kp2.less (by omega)))⟩, ⟨⟨ca', ?_, hcx⟩, up sa, up ka'⟩, ⟨⟨cb', ?_, hcy⟩, up sb, up kb'⟩⟩
  · rw [kp2.at_ ba h2, ← hH1, z_at_put, if_pos rfl]
  · rw [← hH2, z_at_put, if_pos rfl]

def H6 (call : Call) : Prop := ∀ (H : Hp) (r : Rep) (vo ko : Value), Wf H → Base H → RepOk r → SlP H vo r.s → SlP H ko r.k → call 6 [.agg ⟨repC r vo ko⟩] H = .val (.string (mkS (repT r))) H
def H8 (call : Call) : Prop := ∀ (H : Hp) (r : Rep) (vo ko : Value), Wf H → RepOk r → SlP H vo r.s → SlP H ko r.k → call 8 [.agg ⟨repC r vo ko⟩] H = .val (.string (mkS (repT r))) H
def H7 (call : Call) : Prop := ∀ (H : Hp) (a b : Rep) (vo ko wo lo : Value), Wf H → RepOk a → RepOk b → SlP H vo a.s → SlP H ko a.k → SlP H wo b.s → SlP H lo b.k → call 7 [.agg ⟨repC a vo ko⟩, .agg ⟨repC b wo lo⟩] H = .val (.bool (sameR a b)) H
theorem s3_5 {ba bb : Nat} {va ka vb kb : Value} {a b : Rep} (hB : Base h) (S : S3 A h tm df H) (oka : RepOk a) (okb : RepOk b) (t8 : tm.get [false, true, true] = some (ptrV ba 0)) (t9 : tm.get [true, false, true] = some (ptrV bb 0)) (ra : RepAt H ba a va ka) (rb : RepAt H bb b vb kb)
    (hpl : lEq (repT a) (repT b) = sameR a b) (h6 : H6 call) (h7 : H7 call) (h8 : H8 call) :
    After (exC r3_5 call tm df H) (fun e tm' df' H' => e = .normal ∧ df' = [] ∧ tm'.get [false, false] = some (.bool true) ∧ H' = H) := by
  obtain ⟨rfl, _, _, _, t7, wf, kp⟩ := S
  have hBH : Base H := Base.keep (h := A.h3 h) (((hB.new _).new _).new _) kp (by have := hB.next; omega)
  obtain ⟨⟨ca, hca, cea⟩, sa, ka'⟩ := ra
  obtain ⟨⟨cb, hcb, ceb⟩, sb, kb'⟩ := rb
  have i6 : Nat.ble 46 46 = true := rfl
  have lda : loadN ca 0 46 [] = some (repC a va ka) := by
    have := loadN_eq (c := ca) (o := 0) 46 (repC a va ka) [] (repC_len oka _ _) (fun j hj => by rw [Nat.zero_add]; exact cea j hj)
    rw [this, List.append_nil]
  have ldb : loadN cb 0 46 [] = some (repC b vb kb) := by
    have := loadN_eq (c := cb) (o := 0) 46 (repC b vb kb) [] (repC_len okb _ _) (fun j hj => by rw [Nat.zero_add]; exact ceb j hj)
    rw [this, List.append_nil]
  have c1 := h6 (setBase H H.next []) a va ka (wf.sb []) (hBH.sb _ _) oka (by exact sa) (by exact ka')
  have c2 := h6 (setBase H H.next []) b vb kb (wf.sb []) (hBH.sb _ _) okb (by exact sb) (by exact kb')
  have c3 := h7 (setBase H H.next []) a b va ka vb kb (wf.sb []) oka okb (by exact sa) (by exact ka') (by exact sb) (by exact kb')
  have c4 := h8 (setBase H H.next []) a va ka (wf.sb []) oka (by exact sa) (by exact ka')
  have e1 : lEq (repT a) (repT a) = true := by rw [lEq_eq]; simp
  have e2 : ∀ t : Bool, bEqB false (!bEqB t t) = true := fun t => by cases t <;> rfl
  simp only [↓evD, evD, evU, evF, reduceCtorEq, evB, Nat.reduceAdd, Nat.reduceLT, Nat.reduceMul, Nat.reduceSub, z_DGG, z_boolEq, r3_5, t7, t8, t9, hca, hcb, i6, lda, ldb, c1, c2, c3, c4, hpl, e1, ↓e2]
theorem audit_run (hw : Wf h) (hB : Base h) (ok : ArgOk A h) (h4 : call 4 [] (A.h3 h) = .val (.bool true) (A.h3 h)) (h5 : H5 call) (h6 : H6 call) (h7 : H7 call) (h8 : H8 call)
    (oka : RepOk (repA1 A)) (okb : RepOk (repB1 A)) (hpl : lEq (repT (repA1 A)) (repT (repB1 A)) = sameR (repA1 A) (repB1 A)) :
    Yields (runF cf3 call cd [.agg ⟨A.c0⟩, .agg ⟨A.c1⟩, .agg ⟨A.c2⟩] h) (fun v H => v = .bool true ∧ H.log = h.log) := by
  rw [cf3_eq]
  refine runF_yields rfl ?_
  have l0 : A.c0.length = 18 := by unfold Arg.c0; simp [ok.sa, ok.sb]
  have l1 : A.c1.length = 6 := rfl
  have l2 : A.c2.length = 3 := rfl
  have hh : ((h.new (rowL A.c0 18 24 true)).new (rowL A.c1 6 29 true)).new (rowL A.c2 3 30 true) = A.h3 h := rfl
  have c4 := h4
  rw [z_seq, show exC r3_0 call (storeL [.agg ⟨A.c0⟩, .agg ⟨A.c1⟩, .agg ⟨A.c2⟩] 0 .nil fun t => t) [] h = .ok .normal
      (T.set [true, true] (T.set [false, true] (T.set [true, false] (T.set [false, false] (storeL [.agg ⟨A.c0⟩, .agg ⟨A.c1⟩, .agg ⟨A.c2⟩] 0 .nil fun t => t) (some (.bool false))) (some (ptrV (h.next + 1 + 1) 0))) (some (ptrV (h.next + 1) 0))) (some (ptrV h.next 0))) [] (A.h3 h) from by simp only [↓evD, evD, evU, evF, reduceCtorEq, evB, Nat.reduceAdd, Nat.reduceLT, Nat.reduceMul, Nat.reduceSub, r3_0, l0, l1, l2, hh], z_kn]
  rw [z_seq]
  refine After.exK (φ := fun e tm df H => e = .normal ∧ S3 A h tm df H) ?_ ?_
  · simp only [↓evD, evD, evU, evF, reduceCtorEq, evB, Nat.reduceAdd, Nat.reduceLT, Nat.reduceMul, Nat.reduceSub, r3_1, c4]
    refine ⟨rfl, ?_, ?_, ?_, ?_, ((hw.new _).new _).new _, Keeps.refl _ _⟩ <;> simp [T.get_set]
  rintro e tm df H ⟨rfl, S⟩
  have hn : h.next + 3 ≤ H.next := by have := S.kp.next; unfold Arg.h3 at this; simp only [z_new_next] at this; omega
  rw [z_kn, z_seq]
  refine After.exK (s3_2 hw ok h5 S) ?_
  rintro e tm df H1 ⟨rfl, S1, kp1, ba, va, ka, hba, t8, ra⟩
  have hba1 : ba < H1.next := by obtain ⟨⟨c, hc, _⟩, _⟩ := ra; exact S1.wf.lt hc
  rw [z_kn, z_seq]
  refine After.exK (s3_3 hw ok h5 S1) ?_
  rintro e tm df H2 ⟨rfl, S2, kp2, bb, vb, kb, hbb, t9, t8', rb⟩
  rw [t8] at t8'
  rw [z_kn, z_seq]
  refine After.exK (s3_4 hw ok S2 t8' t9 (ra.keep S1.wf kp2) rb (by omega) (by omega)) ?_
  rintro e tm df H3 ⟨rfl, S3', t8, t9, ra, rb⟩
  have hl3 : H3.log = h.log := by rw [S3'.kp.log]; rfl
  rw [z_kn, z_seq]
  refine After.exK (s3_5 hB S3' oka okb t8 t9 ra rb hpl h6 h7 h8) ?_
  rintro e tm df H4 ⟨rfl, rfl, t6, rfl⟩
  rw [z_kn]
  refine FEnd.ret ?_
  rw [z_exR1, t6]
  exact ⟨rfl, hl3⟩
end Abs
end Go
