/-
Symbolic runs: Made, whole; Call and Value.
Conditions: none.
-/
import Derived.Test.YtgamdeginkngaaaGreatDoorRunF
set_option linter.unusedVariables false
set_option linter.unusedSimpArgs false
namespace Go
namespace Abs
def MadeR (ver : Nat) (lv lk : List (Nat × Nat)) (h : Hp) (v : Value) (H : Hp) : Prop :=
  ∃ vo ko, v = .agg ⟨[.int .i64 (.ofNat (ver % 60001)), vo, ko]⟩ ∧ SlP H vo (madeVals lv) ∧ SlP H ko (madeKept lk) ∧ Wf H ∧ Keeps h.next h H
theorem made_run {call : Call} {cd : CallD} {h : Hp} {ver : Nat} {rv rk : Value} {lv lk : List (Nat × Nat)} (hw : Wf h) (hv : SlU h rv lv) (hk : SlU h rk lk) (hver : ver < 65536)
    (hcall15 : ∀ (x : Nat × Nat) (H : Hp), call 15 [.agg ⟨[.int .u8 (.ofNat x.1), .int .u8 (.ofNat x.2)]⟩] H = .val (.agg ⟨[.string (valueOf x).1, .string (valueOf x).2]⟩) H)
    (hcall16 : ∀ (H : Hp) (v : Value) (l : List (ByteArray × ByteArray)) (nm : ByteArray), SlP H v l → l.length < 1000 → call 16 [v, .string nm] H = .val (.int .i64 (findAt nm l 0)) H)
    (hcall17 : ∀ (H : Hp) (v : Value) (l : List (ByteArray × ByteArray)) (p q : ByteArray), Wf H → SlP H v l → l.length < 400 → Yields (call 17 [v, .agg ⟨[.string p, .string q]⟩] H) (IntoR l p q H)) :
    Yields (runF cf5 call cd [.agg ⟨[.int .u16 (.ofNat ver), rv, rk]⟩] h) (MadeR ver lv lk h) := by
  refine runF_yields rfl ?_
  have hg0 : (storeL [Value.int .u16 (.ofNat ver), rv, rk] 0 .nil fun t => t).get (path (0 + 0)) = some (.int .u16 (.ofNat ver)) := rfl
  have hb0 : Nat.blt (0 + 0) 3 = true := rfl
  have hb1 : Nat.ble (0 + 1) 3 = true := rfl
  have hb3 : Nat.ble (0 + 3) 3 = true := rfl
  have hver1 : fwrap .i64 (.ofNat ver) = .ofNat ver := z_wrapN (by omega)
  simp only [↓evD, evD, evU, evF, reduceCtorEq, evB, hg0, hb0, hb1, hb3, hver1]
  have hrow := madeH_at (h := h) (ver := ver) (rv := rv) (rk := rk) (h.next + 1 + 1)
  rw [if_pos rfl] at hrow
  have hwm : Wf (madeH h ver rv rk) := madeH_wf hw
  refine After.exK (φ := MadeE rv rk lv ver h .normal) (After.exK (φ := MadeE rv rk lv ver h (.exit 0)) ?_ ?_) ?_
  · refine made_loop1 hw hv hcall15 hcall16 hcall17 ⟨.slice none 0 0, rfl, by simp [T.get_set], by simp [T.get_set], by simp [T.get_set], by simp [T.get_set], hwm, Keeps.refl _ _, ⟨⟨_, hrow, rfl, rfl, rfl⟩, .inl ⟨rfl, .inr rfl⟩, fun _ => rfl, .inl ⟨rfl, .inr rfl⟩, fun _ => rfl⟩, by simp⟩
  · rintro e tm df H ⟨rfl, rest⟩
    exact ⟨rfl, rest⟩
  · rintro e tm df Hs ⟨rfl, vo, rfl, h1, h2, h3, hwf, hkp, hs⟩
    obtain ⟨c0, hr, hr0, hr1, hr2⟩ := hs.row
    have hn2 := hwf.lt hr
    have hsx : Hs.at h.next = some (rowL [Value.int .u16 (Int.ofNat ver), rv, rk] 3 28 true) := by
      rw [hkp.at_ h.next (by omega), madeH_at, if_neg (by omega), if_neg (by omega), if_pos rfl]
    have hsz : Hs.at (h.next + 1) = some (rowL [Value.int .i64 (Int.ofNat 0), Value.slice none 0 0, Value.slice none 0 0] 3 34 true) := by
      rw [hkp.at_ (h.next + 1) (by omega), madeH_at, if_neg (by omega), if_pos rfl]
    have hsb : ∀ b, b < h.next → Hs.at b = h.at b := fun b hb => by
      rw [hkp.at_ b (by omega), madeH_at, if_neg (by omega), if_neg (by omega), if_neg (by omega)]
    have hbs : Hs.base = h.base := by rw [hkp.base]; rfl
    have hbs' : Hs.base ≤ h.next := by rw [hbs]; exact hw.base
    have hls : Hs.log = h.log := by rw [hkp.log]; exact (madeH_keeps hw).log
    simp only [↓evD, evD, evU, evF, reduceCtorEq, evB]
    refine After.exK (φ := MadeE2 lk (.ofNat (ver % 60001)) vo h.next Hs .normal) (After.exK (φ := MadeE2 lk (.ofNat (ver % 60001)) vo h.next Hs (.exit 2)) ?_ ?_) ?_
    · exact made_loop2 hw hwf hk hsx hsb hn2 hbs' hcall15 ⟨.slice none 0 0, c0, rfl, by simp [T.get_set, h1], by simp [T.get_set, h2], by simp [T.get_set, h3], by simp [T.get_set], hwf, Kex.refl _ _, hr, hr0, hr1, hr2, .inl ⟨rfl, .inr rfl⟩, fun _ => rfl⟩
    · rintro e tm df H ⟨rfl, rest⟩
      exact ⟨rfl, rest⟩
    · rintro e tm df H ⟨rfl, ko, c, rfl, t2, t3, hwH, hkx, hat, hc0, hc1, hc2, hko, hkn⟩
      have hnH := hkx.next
      have hatz : H.at (h.next + 1) = some (rowL [Value.int .i64 (Int.ofNat 0), Value.slice none 0 0, Value.slice none 0 0] 3 34 true) := by rw [hkx.at_ _ (by omega) (by omega)]; exact hsz
      have g0 : c.get (path (0 + 0)) = some (.int .i64 (.ofNat (ver % 60001))) := hc0
      have g1 : c.get (path (0 + 1)) = some vo := hc1
      have g2 : c.get (path (0 + 2)) = some ko := hc2
      have one : ∀ v : Value, (∃ l, SlP H v l ∨ (∃ b, v = slV b 0 0 0)) → ∀ r, allOne (v :: r) = allOne r := fun v hv r => by
        obtain ⟨l, hv | ⟨b, rfl⟩⟩ := hv
        · rcases hv with ⟨rfl, _⟩ | ⟨b, c, rfl, _⟩ <;> rfl
        · rfl
      have hvoS : SlP H vo (madeVals lv) := by
        rcases hs.vals with ⟨e1, _⟩ | ⟨b, e1, e2, e3, e4⟩
        · exact .inl ⟨hs.vnil e1, e1⟩
        · refine .inr ⟨b, _, e1, e3.pairs.keep (hkx.at_ b ?_ (by omega))⟩
          exact hwf.lt e3
      have hone1 := one vo ⟨_, .inl hvoS⟩
      have hone2 := one ko ⟨_, .inl (hko.slP' hkn)⟩
      have q0 : (storeL [Value.int .i64 (.ofNat (ver % 60001)), vo, ko] 0 (storeL [Value.int .i64 (Int.ofNat 0), Value.slice none 0 0, Value.slice none 0 0] 0 .nil fun t => t) fun t => t).get (path (0 + 0)) = some (.int .i64 (.ofNat (ver % 60001))) := rfl
      have q1 : (storeL [Value.int .i64 (.ofNat (ver % 60001)), vo, ko] 0 (storeL [Value.int .i64 (Int.ofNat 0), Value.slice none 0 0, Value.slice none 0 0] 0 .nil fun t => t) fun t => t).get (path (0 + 1)) = some vo := rfl
      have q2 : (storeL [Value.int .i64 (.ofNat (ver % 60001)), vo, ko] 0 (storeL [Value.int .i64 (Int.ofNat 0), Value.slice none 0 0, Value.slice none 0 0] 0 .nil fun t => t) fun t => t).get (path (0 + 2)) = some ko := rfl
      simp only [↓evD, evD, evU, evF, reduceCtorEq, evB, t2, t3, hat, hb3, g0, g1, g2, hatz, hone1, hone2]
      refine .ret ?_
      simp only [z_exRc, ↓evD, evD, evU, evF, reduceCtorEq, evB, t2, hb3, q0, q1, q2]
      refine ⟨vo, ko, rfl, ?_, ?_, hwH.put _ (by omega), ?_⟩
      · rcases hvoS with e1 | ⟨b, c', e1, e2⟩
        · exact .inl e1
        · refine .inr ⟨b, c', e1, e2.keep ?_⟩
          rw [z_at_put, if_neg ?_]
          rcases hs.vals with ⟨_, f1 | f1⟩ | ⟨b', f1, _, _, f4⟩
          · obtain ⟨b', f1⟩ := f1
            rw [hs.vnil (by assumption)] at e1; cases e1
          · rw [f1] at e1; cases e1
          · rw [f1] at e1
            unfold slV at e1
            injection e1 with e1; injection e1 with e1; injection e1 with e1
            omega
      · exact (hko.put (n := h.next + 1) (by omega)).slP' hkn
      · refine ⟨?_, ?_, ?_, fun b hb => ?_⟩
        · show H.base = h.base
          rw [hkx.base, hbs]
        · rw [z_put_log (by rw [hkx.base]; omega), hkx.log, hls]
        · show h.next ≤ H.next
          omega
        · rw [z_at_put, if_neg (by omega), hkx.at_ b (by omega) (by omega), hsb b hb]
/- ===== Call, Value ===== -/
theorem callS_mod (n : Nat) : callS (n % 8) = callS n := by unfold callS; rw [Nat.mod_mod]
theorem valS_mod (n : Nat) : valS (n % 4) = valS n := by unfold valS; rw [Nat.mod_mod]
noncomputable def L8 : List Value := [.string (mkS [97]), .string (mkS [98]), .string (mkS [99]), .string (mkS [100]), .string (mkS [101, 49]), .string (mkS [70]), .string (mkS [103, 103]), .string (mkS [104])]
theorem L8_get (k : Nat) (hk : k < 8) : (storeL L8 0 .nil fun t => t).get (path (0 + k * 1)) = some (.string (callS k)) := by
  match k with
  | 0 => rfl | 1 => rfl | 2 => rfl | 3 => rfl | 4 => rfl | 5 => rfl | 6 => rfl | 7 => rfl
  | k + 8 => omega
noncomputable def L4 : List Value := [.string (mkS []), .string (mkS [49]), .string (mkS [120, 32, 121]), .string (mkS [126])]
theorem L4_get (k : Nat) (hk : k < 4) : (storeL L4 0 .nil fun t => t).get (path (0 + k * 1)) = some (.string (valS k)) := by
  match k with
  | 0 => rfl | 1 => rfl | 2 => rfl | 3 => rfl
  | k + 4 => omega
/-- a value, and nothing of what was there is touched -/
def QuietR (X : Value) (h : Hp) (v : Value) (H : Hp) : Prop := v = X ∧ H.log = h.log
theorem quiet_of {r : Res} {X : Value} {H : Hp} (hy : Yields r (QuietR X (setBase H H.next []))) (hp : plainA X = true) : quiet r H = .val X H := by
  obtain ⟨v, h1, rfl, rfl, hl⟩ := hy.get
  show (bif plainA v then (match h1.log with | [] => Res.val v H | _ => .none) else .none) = _
  have hl' : h1.log = [] := hl
  rw [hp, hl']; rfl
theorem call39_run {call : Call} {cd : CallD} {h : Hp} {n : Nat} : Yields (runF cf39 call cd [.int .u8 (.ofNat n)] h) (QuietR (.string (callS n)) h) := by
  refine runF_yields rfl ?_
  have hk := Nat.mod_lt n (show 8 > 0 by omega)
  have hg := L8_get (n % 8) hk
  have hb1 := z_blt hk
  have hb2 : Nat.blt (0 + n % 8 * 1) 8 = true := z_blt (by omega)
  have hb : ∀ (p : List (Nat × Nat × OD)) (call : Call) (lo : List Value) (tm : T Value) (h : Hp), p = [(0, (1, (.val (.string (mkS [97]))))), (1, (1, (.val (.string (mkS [98]))))), (2, (1, (.val (.string (mkS [99]))))), (3, (1, (.val (.string (mkS [100]))))), (4, (1, (.val (.string (mkS [101, 49]))))), (5, (1, (.val (.string (mkS [70]))))), (6, (1, (.val (.string (mkS [103, 103]))))), (7, (1, (.val (.string (mkS [104])))))] →
      oBuildS 9 8 [.string (mkS []), .string (mkS []), .string (mkS []), .string (mkS []), .string (mkS []), .string (mkS []), .string (mkS []), .string (mkS [])] p call lo tm h = .val (slV h.next 0 8 8) (h.new (rowL L8 8 9 true)) := fun p call lo tm h e => by
    subst e
    rw [z_buildS]; rfl
  simp only [↓evD, evD, evU, evF, reduceCtorEq, hb, hg, hb1, hb2]
  refine .ret ?_
  simp only [↓evD, evD, evU, evF, reduceCtorEq]
  exact ⟨by rw [callS_mod], rfl⟩
theorem call15_run {call : Call} {cd : CallD} {h : Hp} (hw : h.base ≤ h.next) {x : Nat × Nat} (hcall39 : ∀ (n : Nat) (H : Hp), call 39 [.int .u8 (.ofNat n)] H = .val (.string (callS n)) H) :
    Yields (runF cf15 call cd [.agg ⟨[.int .u8 (.ofNat x.1), .int .u8 (.ofNat x.2)]⟩] h) (QuietR (.agg ⟨[.string (valueOf x).1, .string (valueOf x).2]⟩) h) := by
  refine runF_yields rfl ?_
  have hk := Nat.mod_lt x.2 (show 4 > 0 by omega)
  have hg := L4_get (x.2 % 4) hk
  have hb1 := z_blt hk
  have hb2 : Nat.blt (0 + x.2 % 4 * 1) 4 = true := z_blt (by omega)
  have hb : ∀ (p : List (Nat × Nat × OD)) (call : Call) (lo : List Value) (tm : T Value) (h : Hp), p = [(0, (1, (.val (.string (mkS []))))), (1, (1, (.val (.string (mkS [49]))))), (2, (1, (.val (.string (mkS [120, 32, 121]))))), (3, (1, (.val (.string (mkS [126])))))] →
      oBuildS 9 4 [.string (mkS []), .string (mkS []), .string (mkS []), .string (mkS [])] p call lo tm h = .val (slV h.next 0 4 4) (h.new (rowL L4 4 9 true)) := fun p call lo tm h e => by
    subst e
    rw [z_buildS]; rfl
  have hbuild : ∀ (a : ByteArray) (k : List Value → Option Value) (no : Option Value), fill1 0 1 (.string a) [.string (mkS []), .string (mkS [])] k no = k [.string a, .string (mkS [])] := fun _ _ _ => rfl
  have hbuild2 : ∀ (a b : ByteArray) (k : List Value → Option Value) (no : Option Value), fill1 1 1 (.string b) [.string a, .string (mkS [])] k no = k [.string a, .string b] := fun _ _ _ _ => rfl
  have i0 : Nat.blt 0 2 = true := rfl
  have i1 : Nat.blt 1 2 = true := rfl
  have j0 : Nat.blt (0 + 0 * 1) 2 = true := rfl
  have j1 : Nat.blt (0 + 1 * 1) 2 = true := rfl
  have g0 : (storeL [Value.int .u8 (.ofNat x.1), .int .u8 (.ofNat x.2)] 0 .nil fun t => t).get (path (0 + 0 * 1)) = some (.int .u8 (.ofNat x.1)) := rfl
  have g1 : (storeL [Value.int .u8 (.ofNat x.1), .int .u8 (.ofNat x.2)] 0 .nil fun t => t).get (path (0 + 1 * 1)) = some (.int .u8 (.ofNat x.2)) := rfl
  have q1 : Nat.ble (h.next + 1 + 1) (h.next + 1) = false := z_bleF (by omega)
  have q2 : Nat.beq h.next (h.next + 1) = false := by cases e : Nat.beq h.next (h.next + 1) with | false => rfl | true => have := Nat.eq_of_beq_eq_true e; omega
  have q3 : Nat.beq (h.next + 1 + 1) (h.next + 1) = false := by cases e : Nat.beq (h.next + 1 + 1) (h.next + 1) with | false => rfl | true => have := Nat.eq_of_beq_eq_true e; omega
  have q4 : logs (h.next + 1 + 1 + 1) [] (h.next + 1) = [h.next + 1] := z_logs1 (z_blt (by omega))
  have q5 : below h.base [h.next + 1] h.log = h.log := z_be1 (by omega)
  have b2 : Nat.ble (0 + 2) 2 = true := rfl
  simp only [↓evD, evD, evU, evF, reduceCtorEq, hb, hg, hb1, hb2, i0, i1, j0, j1, g0, g1, hcall39, z_fillC, hbuild, hbuild2, q1, q2, q3, q4, q5, b2]
  refine .ret ?_
  simp only [z_exRc, ↓evD, evD, evU, evF, reduceCtorEq, b2]
  exact ⟨by rw [valS_mod]; rfl, rfl⟩
end Abs
end Go
