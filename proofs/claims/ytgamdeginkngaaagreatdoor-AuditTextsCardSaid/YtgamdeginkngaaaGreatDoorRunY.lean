/-
AuditTexts: the calls, put together.
Conditions: none.
-/
import Derived.Test.YtgamdeginkngaaaGreatDoorRunSane
import Derived.Test.YtgamdeginkngaaaGreatDoorRunTab
set_option linter.unusedVariables false
set_option linter.unusedSimpArgs false
namespace Go
namespace Abs
/- ===== the table ===== -/
theorem isT_val {r : Res} (h : isT r = true) : ∃ h1, r = .val (.bool true) h1 := by
  cases r with
  | none => cases h
  | panic c h1 => cases h
  | val v h1 =>
    cases v <;> try cases h
    rename_i b
    cases b with
    | false => cases h
    | true => exact ⟨h1, rfl⟩
theorem isN_val {r : Res} (h : isN r = true) : ∃ h1, r = .val (.int .i64 (.negSucc 0)) h1 := by
  cases r with
  | none => cases h
  | panic c h1 => cases h
  | val v h1 =>
    cases v <;> try cases h
    rename_i k n
    cases k <;> try cases h
    cases n with
    | ofNat n => cases h
    | negSucc n => cases n with
      | zero => exact ⟨h1, rfl⟩
      | succ n => cases h
theorem leaf_eq {g : FuncId} {args : List Value} {H h1 : Hp} {v : Value} (hp : args.all plainA = true) (hr : callL g args emp = .val v h1) (hv : plainA v = true) : leaf callL g args H = .val v H := by
  unfold leaf
  rw [hp, cond_true]
  change callL g args ⟨.nil, 0, 0, []⟩ = _ at hr
  rw [hr]
  show (bif plainA v then Res.val v H else .none) = _
  rw [hv]; rfl
theorem leaf79 {x : ByteArray × ByteArray} (hx : Tab x) (H : Hp) : leaf callL 79 [.agg ⟨[.string x.1, .string x.2]⟩] H = .val (.bool true) H := by
  obtain ⟨n, m, rfl⟩ := hx
  have h := List.all_eq_true.1 tab79 (n % 8) (List.mem_range.2 (Nat.mod_lt _ (by omega)))
  have h := List.all_eq_true.1 h (m % 4) (List.mem_range.2 (Nat.mod_lt _ (by omega)))
  rw [callS_mod, valS_mod] at h
  obtain ⟨h1, e⟩ := isT_val h
  exact leaf_eq rfl e rfl
theorem leaf74 {x : ByteArray × ByteArray} (hx : Tab x) (H : Hp) : leaf callL 74 [.agg ⟨[.string x.1, .string x.2]⟩] H = .val (.bool true) H := by
  obtain ⟨n, m, rfl⟩ := hx
  have h := List.all_eq_true.1 tab74 (n % 8) (List.mem_range.2 (Nat.mod_lt _ (by omega)))
  have h := List.all_eq_true.1 h (m % 4) (List.mem_range.2 (Nat.mod_lt _ (by omega)))
  rw [callS_mod, valS_mod] at h
  obtain ⟨h1, e⟩ := isT_val h
  exact leaf_eq rfl e rfl
theorem leaf75 {x y : ByteArray × ByteArray} (hx : Tab x) (hy : Tab y) (hlt : lLt (bl x.1) (bl y.1) = true) (H : Hp) : leaf callL 75 [.agg ⟨[.string x.1, .string x.2]⟩, .string y.1] H = .val (.int .i64 (.negSucc 0)) H := by
  obtain ⟨n, m, rfl⟩ := hx
  obtain ⟨k, l, rfl⟩ := hy
  have h := List.all_eq_true.1 tab75 (n % 8) (List.mem_range.2 (Nat.mod_lt _ (by omega)))
  have h := List.all_eq_true.1 h (m % 4) (List.mem_range.2 (Nat.mod_lt _ (by omega)))
  have h := List.all_eq_true.1 h (k % 8) (List.mem_range.2 (Nat.mod_lt _ (by omega)))
  rw [callS_mod, valS_mod, callS_mod, hlt, cond_true] at h
  obtain ⟨h1, e⟩ := isN_val h
  exact leaf_eq rfl e rfl
/- ===== the contracts ===== -/
inductive Rel : FuncId → List Value → Hp → Res → Prop where
  | sane (H : Hp) (hB : Base H) : Rel 4 [] H (.val (.bool true) H)
  | itoa (n : Int) (H : Hp) (hn : I64 n) (hB : Base H) : Rel 40 [.int .i64 n] H (.val (.string (mkS (Lib.itoa n))) H)
  | join (b c : Nat) (l : List (List UInt8)) (H : Hp) (hs : Strs H b l) (h0 : 0 < l.length) (hn : l.length ≤ 10) (hl : ∀ x ∈ l, x.length ≤ 100) : Rel 41 [slV b 0 l.length c, .string (mkS [32])] H (.val (.string (mkS (joinS l))) H)
  | leaf (g : FuncId) (args : List Value) (H : Hp) (hg : g = 74 ∨ g = 75 ∨ g = 79) : Rel g args H (leaf callL g args H)
theorem strs_uniq {H : Hp} {b : Nat} {l m : List (List UInt8)} (h1 : Strs H b l) (h2 : Strs H b m) (hlen : l.length = m.length) : l = m := by
  obtain ⟨c, n, e, cl, ro, hat, _, hc⟩ := h1
  obtain ⟨c', n', e', cl', ro', hat', _, hc'⟩ := h2
  rw [hat] at hat'
  cases hat'
  refine List.ext_getElem? fun j => ?_
  by_cases hj : j < l.length
  · have e1 := hc j _ (List.getElem?_eq_getElem hj)
    have e2 := hc' j _ (List.getElem?_eq_getElem (by omega : j < m.length))
    rw [e1] at e2
    rw [List.getElem?_eq_getElem hj, List.getElem?_eq_getElem (by omega : j < m.length)]
    have := congrArg (fun o => o.map fun v => match v with | .string s => bl s | _ => []) e2
    simpa [bl_mkS] using this
  · rw [List.getElem?_eq_none (by omega), List.getElem?_eq_none (by omega)]
theorem Rel.uniq {g : FuncId} {args : List Value} {H : Hp} {r r' : Res} (h : Rel g args H r) (h' : Rel g args H r') : r = r' := by
  generalize hg : g = g' at h'
  generalize ha : args = args' at h'
  cases h with
  | sane _ hB =>
    cases h' with
    | sane _ _ => rfl
    | itoa n _ _ _ => cases hg
    | join b c l _ _ _ _ _ => cases hg
    | leaf _ _ _ hl => subst hg; rcases hl with h | h | h <;> cases h
  | itoa n _ _ _ =>
    cases h' with
    | sane _ _ => cases hg
    | itoa m _ _ _ => cases ha; rfl
    | join b c l _ _ _ _ _ => cases hg
    | leaf _ _ _ hl => subst hg; rcases hl with h | h | h <;> cases h
  | join b c l _ hs _ _ _ =>
    cases h' with
    | sane _ _ => cases hg
    | itoa m _ _ _ => cases hg
    | join b' c' l' _ hs' _ _ _ =>
      have e1 := (List.cons.inj ha).1
      unfold slV at e1
      injection e1 with e2 e3 e4
      injection e2 with e5
      injection e5 with e6 e7 e8
      subst e6
      rw [strs_uniq hs hs' e3]
    | leaf _ _ _ hl => subst hg; rcases hl with h | h | h <;> cases h
  | leaf _ _ _ hl =>
    cases h' with
    | sane _ _ => subst hg; rcases hl with h | h | h <;> cases h
    | itoa m _ _ _ => subst hg; rcases hl with h | h | h <;> cases h
    | join b c l _ _ _ _ _ => subst hg; rcases hl with h | h | h <;> cases h
    | leaf _ _ _ hl => subst hg; subst ha; rfl
theorem gs32 : ∀ g ∈ cx32.gs, g < 16 := by
  show ∀ g ∈ [0, 2, 3, 4, 5], g < 16
  decide
theorem gs32_3 : 3 ∈ cx32.gs := by
  show 3 ∈ [0, 2, 3, 4, 5]
  decide
open Classical in
noncomputable def ovA (g : FuncId) (args : List Value) (H : Hp) : Option Res := if h : ∃ r, Rel g args H r then some h.choose else none
theorem ovA_some {g : FuncId} {args : List Value} {H : Hp} {r : Res} (h : Rel g args H r) : ovA g args H = some r := by
  have hx : ∃ r, Rel g args H r := ⟨r, h⟩
  unfold ovA
  rw [dif_pos hx]
  exact congrArg some (hx.choose_spec.uniq h)
theorem ovA_rel {g : FuncId} {args : List Value} {H : Hp} {r : Res} (h : ovA g args H = some r) : Rel g args H r := by
  unfold ovA at h
  split at h
  · rename_i hx
    cases h
    exact hx.choose_spec
  · cases h
theorem ovA_none {g : FuncId} {args : List Value} {H : Hp} (h : [4, 40, 41, 74, 75, 79].any (Nat.beq g) = false) : ovA g args H = none := by
  unfold ovA
  rw [dif_neg]
  rintro ⟨r, hr⟩
  cases hr with
  | sane _ _ => cases h
  | itoa _ _ _ _ => cases h
  | join _ _ _ _ _ _ _ _ => cases h
  | leaf _ _ _ hl => rcases hl with rfl | rfl | rfl <;> cases h
set_option maxRecDepth 100000 in
theorem drawA : DrawOk Proofs.Tryz.prog cx32 := draw_ok xok32 mixed32
set_option maxRecDepth 100000 in
theorem drawL : DrawOk Proofs.Tryz.prog ⟨[], xs32⟩ := draw_ok xok32 mixed32
set_option maxRecDepth 100000 in
theorem ovA_ok : ∀ g args h r, ovA g args h = some r → CallAt Proofs.Tryz.prog cx32.gs g args h r := by
  intro g args h r hr
  cases ovA_rel hr with
  | sane _ hB =>
    obtain ⟨h1, e1, e2⟩ := sane_run
    exact base_at gs32 (callN_sound xok32 drawA 100) rfl e1 e2 rfl hB
  | itoa n _ hn hB => exact itoa_at gs32_3 hB hn
  | join b c l _ hs h0 hn hl => exact join_at hs h0 hn hl
  | leaf _ _ _ hl => exact leaf_at (callN_sound (cx := ⟨[], xs32⟩) xok32 drawL 50) g args h
def qA : List Nat := [39, 15, 48, 24, 21, 7, 8, 6, 18, 19, 20, 42, 76]
noncomputable def CA (n : Nat) : Call := callX Proofs.Tryz.prog cx32 ovA qA n
set_option maxRecDepth 100000 in
theorem CA_ok (n : Nat) : CallOk Proofs.Tryz.prog cx32.gs (CA n) := callX_ok xok32 drawA ovA_ok n
theorem callX_ov {P : Program} {cx : Cx} {ov : FuncId → List Value → Hp → Option Res} {q : List Nat} {n : Nat} {g : FuncId} {args : List Value} {H : Hp} {r : Res} (h : ov g args H = some r) : callX P cx ov q (n + 1) g args H = r := by
  show Option.rec (motive := fun _ => Res) _ (fun r => r) (ov g args H) = r
  rw [h]
theorem callX_plain {P : Program} {cx : Cx} {ov : FuncId → List Value → Hp → Option Res} {q : List Nat} {n : Nat} {g : FuncId} {args : List Value} {H : Hp} (h : ov g args H = none) (h2 : q.any (Nat.beq g) = false) :
    callX P cx ov q (n + 1) g args H = runF (cF P cx g) (callX P cx ov q n) (fun g => runD (cFD P cx g) (callX P cx ov q n)) args H := by
  show Option.rec (motive := fun _ => Res) (bif q.any (Nat.beq g) then _ else _) (fun r => r) (ov g args H) = _
  rw [h, h2]; rfl
theorem callX_quiet {P : Program} {cx : Cx} {ov : FuncId → List Value → Hp → Option Res} {q : List Nat} {n : Nat} {g : FuncId} {args : List Value} {H : Hp} (h : ov g args H = none) (h2 : q.any (Nat.beq g) = true) :
    callX P cx ov q (n + 1) g args H = quiet (runF (cF P cx g) (callX P cx ov q n) (fun g => runD (cFD P cx g) (callX P cx ov q n)) args (setBase H H.next [])) H := by
  show Option.rec (motive := fun _ => Res) (bif q.any (Nat.beq g) then _ else _) (fun r => r) (ov g args H) = _
  rw [h, h2]; rfl
theorem CA_ov {n : Nat} {g : FuncId} {args : List Value} {H : Hp} {r : Res} (h : Rel g args H r) : CA (n + 1) g args H = r := callX_ov (ovA_some h)
theorem CA_plain {n : Nat} {g : FuncId} {args : List Value} {H : Hp} {c : CF} (h1 : [4, 40, 41, 74, 75, 79].any (Nat.beq g) = false) (h2 : qA.any (Nat.beq g) = false) (hc : cF Proofs.Tryz.prog cx32 g = c) : CA (n + 1) g args H = runF c (CA n) (fun g => runD (cFD Proofs.Tryz.prog cx32 g) (CA n)) args H := by
  subst hc
  exact callX_plain (ovA_none h1) h2
theorem CA_quiet {n : Nat} {g : FuncId} {args : List Value} {H : Hp} {c : CF} (h1 : [4, 40, 41, 74, 75, 79].any (Nat.beq g) = false) (h2 : qA.any (Nat.beq g) = true) (hc : cF Proofs.Tryz.prog cx32 g = c) : CA (n + 1) g args H = quiet (runF c (CA n) (fun g => runD (cFD Proofs.Tryz.prog cx32 g) (CA n)) args (setBase H H.next [])) H := by
  subst hc
  exact callX_quiet (ovA_none h1) h2
theorem same_of {r : Res} {X : Value} {H : Hp} (h : Yields r (SameR' X H)) : r = .val X H := by
  obtain ⟨v, h1, e, rfl, rfl⟩ := h.get
  exact e

/- ===== level by level ===== -/
/-- from some depth on -/
def Lv (L : Nat) (φ : Call → Prop) : Prop := ∀ n, L ≤ n → φ (CA n)
theorem Lv.mono {L M : Nat} {φ : Call → Prop} (h : Lv L φ) (hl : L ≤ M) : Lv M φ := fun n hn => h n (by omega)
theorem lv_succ {L : Nat} {φ : Call → Prop} (h : ∀ n, L ≤ n → φ (CA (n + 1))) : Lv (L + 1) φ := fun n hn => by
  obtain ⟨m, rfl⟩ : ∃ m, n = m + 1 := ⟨n - 1, by omega⟩
  exact h m (by omega)
/-- a quiet call -/
theorem lv_quiet {n : Nat} {g : FuncId} {args : List Value} {H : Hp} {X : Value} {c : CF} (h1 : [4, 40, 41, 74, 75, 79].any (Nat.beq g) = false) (h2 : qA.any (Nat.beq g) = true) (hc : cF Proofs.Tryz.prog cx32 g = c) (hX : plainA X = true)
    (h : ∀ cd, Yields (runF c (CA n) cd args (setBase H H.next [])) (QuietR X (setBase H H.next []))) : CA (n + 1) g args H = .val X H := by
  rw [CA_quiet h1 h2 hc]
  exact quiet_of (h _) hX
theorem lv_same {n : Nat} {g : FuncId} {args : List Value} {H : Hp} {X : Value} {c : CF} (h1 : [4, 40, 41, 74, 75, 79].any (Nat.beq g) = false) (h2 : qA.any (Nat.beq g) = false) (hc : cF Proofs.Tryz.prog cx32 g = c)
    (h : ∀ cd, Yields (runF c (CA n) cd args H) (SameR' X H)) : CA (n + 1) g args H = .val X H := by
  rw [CA_plain h1 h2 hc]
  exact same_of (h _)
theorem lv_yields {n : Nat} {g : FuncId} {args : List Value} {H : Hp} {φ : Value → Hp → Prop} {c : CF} (h1 : [4, 40, 41, 74, 75, 79].any (Nat.beq g) = false) (h2 : qA.any (Nat.beq g) = false) (hc : cF Proofs.Tryz.prog cx32 g = c)
    (h : ∀ cd, Yields (runF c (CA n) cd args H) φ) : Yields (CA (n + 1) g args H) φ := by
  rw [CA_plain h1 h2 hc]
  exact h _
def H39 (call : Call) : Prop := ∀ (n : Nat) (H : Hp), call 39 [.int .u8 (.ofNat n)] H = .val (.string (callS n)) H
theorem lv39 : Lv 1 H39 := lv_succ fun n _ m H => lv_quiet rfl rfl cfE39 rfl fun cd => call39_run
def H15 (call : Call) : Prop := ∀ (x : Nat × Nat) (H : Hp), call 15 [.agg ⟨[.int .u8 (.ofNat x.1), .int .u8 (.ofNat x.2)]⟩] H = .val (.agg ⟨[.string (valueOf x).1, .string (valueOf x).2]⟩) H
theorem lv15 : Lv 2 H15 := lv_succ fun n hn x H => lv_quiet rfl rfl cfE15 rfl fun cd => call15_run (Nat.le_refl _) (lv39 n hn)
def H16 (call : Call) : Prop := ∀ (H : Hp) (v : Value) (l : List (ByteArray × ByteArray)) (nm : ByteArray), SlP H v l → l.length < 1000 → call 16 [v, .string nm] H = .val (.int .i64 (findAt nm l 0)) H
theorem lv16 : Lv 1 H16 := lv_succ fun n _ H v l nm hv hn => lv_same rfl rfl cfE16 fun cd => find_run hv hn
def H17 (call : Call) : Prop := ∀ (H : Hp) (v : Value) (l : List (ByteArray × ByteArray)) (p q : ByteArray), Wf H → SlP H v l → l.length < 400 → Yields (call 17 [v, .agg ⟨[.string p, .string q]⟩] H) (IntoR l p q H)
theorem lv17 : Lv 1 H17 := lv_succ fun n _ H v l p q hw hv hn => lv_yields rfl rfl cfE17 fun cd => into_run hw hv hn
theorem lv5 : Lv 3 H5 := lv_succ fun n hn H ver rv rk lv lk hw hv hk hver => lv_yields rfl rfl cfE5 fun cd => made_run hw hv hk hver (lv15 n hn) (lv16 n (by omega)) (lv17 n (by omega))
def H46 (call : Call) : Prop := ∀ (H : Hp) (v u : Value) (l m : List (ByteArray × ByteArray)), SlP H v l → SlP H u m → l.length < 1000 → m.length < 1000 → call 46 [v, u] H = .val (.bool (sameL l m)) H
theorem lv46 : Lv 1 H46 := lv_succ fun n _ H v u l m hv hu hn hm => lv_same rfl rfl cfE46 fun cd => sameVals_run hv hu hn hm
def H79 (call : Call) : Prop := ∀ (x : ByteArray × ByteArray) (H : Hp), Tab x → call 79 [.agg ⟨[.string x.1, .string x.2]⟩] H = .val (.bool true) H
theorem lv79 : Lv 1 H79 := lv_succ fun n _ x H hx => (CA_ov (Rel.leaf 79 _ H (.inr (.inr rfl)))).trans (leaf79 hx H)
theorem lv74 : Lv 1 H74 := lv_succ fun n _ x H hx => (CA_ov (Rel.leaf 74 _ H (.inl rfl))).trans (leaf74 hx H)
theorem lv75 : Lv 1 H75 := lv_succ fun n _ x y H hx hy hlt => (CA_ov (Rel.leaf 75 _ H (.inr (.inl rfl)))).trans (leaf75 hx hy hlt H)
theorem call49_run {call : Call} {cd : CallD} {h : Hp} {a : Nat} (ha : a ≤ 60000) : Yields (runF cf49 call cd [.int .i64 (.ofNat a), .int .i64 (.ofNat 0), .int .i64 (.ofNat 60000)] h) (SameR' (.bool true) h) := by
  refine runF_yields rfl ?_
  have e1 : Nat.blt a 0 = false := z_bltF (by omega)
  have e2 : Nat.blt 60000 a = false := z_bltF ha
  have g1 : (storeL [Value.int .i64 (.ofNat a), .int .i64 (.ofNat 0), .int .i64 (.ofNat 60000)] 0 .nil fun t => t).get [] = some (.int .i64 (.ofNat a)) := rfl
  have g2 : (storeL [Value.int .i64 (.ofNat a), .int .i64 (.ofNat 0), .int .i64 (.ofNat 60000)] 0 .nil fun t => t).get [true] = some (.int .i64 (.ofNat 0)) := rfl
  have g3 : (storeL [Value.int .i64 (.ofNat a), .int .i64 (.ofNat 0), .int .i64 (.ofNat 60000)] 0 .nil fun t => t).get [false] = some (.int .i64 (.ofNat 60000)) := rfl
  simp only [↓evD, evD, evU, evF, reduceCtorEq, evB, g1, g2, g3, e1, e2]
  refine .ret ?_
  simp only [↓evD, evD, evU, evF, reduceCtorEq, evB]
  exact ⟨rfl, rfl⟩
def H49 (call : Call) : Prop := ∀ (a : Nat) (H : Hp), a ≤ 60000 → call 49 [.int .i64 (.ofNat a), .int .i64 (.ofNat 0), .int .i64 (.ofNat 60000)] H = .val (.bool true) H
theorem lv49 : Lv 1 H49 := lv_succ fun n _ a H ha => lv_same rfl rfl cfE49 fun cd => call49_run ha

theorem dec47 : ∀ (k n : Nat), k ≤ n → ∀ (x : Int) (H : Hp), I64 x → x.natAbs < 10 ^ (k + 1) → CA (n + 1) 47 [.int .i64 x] H = .val (.string (mkS (Lib.itoa x))) H := by
  intro k
  induction k with
  | zero =>
    intro n _ x H hx hk
    refine lv_same rfl rfl cfE47 fun cd => decimal_run hx.1 hx.2 fun hne => ?_
    rw [itdiv_eq] at hne
    refine absurd ?_ hne
    have hd : (x.tdiv 10).natAbs = x.natAbs / 10 := by rw [Int.natAbs_tdiv]; rfl
    have hk' : x.natAbs < 10 := by simpa using hk
    omega
  | succ k ih =>
    intro n hn x H hx hk
    refine lv_same rfl rfl cfE47 fun cd => decimal_run hx.1 hx.2 fun hne => ?_
    obtain ⟨m, rfl⟩ : ∃ m, n = m + 1 := ⟨n - 1, by omega⟩
    have hd : (itdiv x 10).natAbs = x.natAbs / 10 := by rw [itdiv_eq, Int.natAbs_tdiv]; rfl
    refine ih m (by omega) _ H ?_ ?_
    · have h1 := hx.1
      have h2 := hx.2
      constructor <;> omega
    · rw [hd]
      rw [Nat.pow_succ] at hk
      omega

def H47 (call : Call) : Prop := ∀ (n : Int) (H : Hp), -9223372036854775808 ≤ n → n ≤ 9223372036854775807 → call 47 [.int .i64 n] H = .val (.string (mkS (Lib.itoa n))) H
theorem lv47 : Lv 19 H47 := lv_succ fun n hn x H h0 h1 => dec47 18 n hn x H ⟨h0, h1⟩ (by omega)
theorem lv48 {ver : Nat} {s k : List (ByteArray × ByteArray)} {vo ko : Value} (hs : ValidS ver s k) : Lv 2 fun call => ∀ H, Wf H → SlP H vo s → SlP H ko k → call 48 [.agg ⟨[.int .i64 (.ofNat ver), vo, ko]⟩] H = .val (.bool true) H :=
  lv_succ fun n hn H hw hv hk => lv_quiet rfl rfl cfE48 rfl fun cd => valid_run (hw.sb []) hv hk hs (lv79 n hn) (lv49 n hn)
theorem lv24 {ver : Nat} {s k : List (ByteArray × ByteArray)} {vo ko : Value} (hs : ValidS ver s k) : Lv 20 fun call => ∀ H, Wf H → SlP H vo s → SlP H ko k → call 24 [.agg ⟨[.int .i64 (.ofNat ver), vo, ko]⟩] H = .val (.string (mkS (text23 ver s k))) H :=
  lv_succ fun n hn H hw hv hk => lv_quiet rfl rfl cfE24 rfl fun cd => print23_run (hw.sb []) hv hk hs (lv48 hs n (by omega)) (lv47 n hn)
theorem lv22 : Lv 20 H22 := lv_succ fun n hn => by
  refine ⟨fun H b1 b2 a b c x y z h1 h2 ha hb hc hx hy hz => lv_same rfl rfl cfE22 fun cd => ?_, fun H b1 b2 a b c d x y z u h1 h2 ha hb hc hd hx hy hz hu => lv_same rfl rfl cfE22 fun cd => ?_⟩
  · haveI : BL a 10 := ⟨ha⟩
    haveI : BL b 10 := ⟨hb⟩
    haveI : BL c 10 := ⟨hc⟩
    exact fields3_run h1 h2 hx hy hz (lv47 n hn)
  · haveI : BL a 10 := ⟨ha⟩
    haveI : BL b 10 := ⟨hb⟩
    haveI : BL c 10 := ⟨hc⟩
    haveI : BL d 10 := ⟨hd⟩
    exact fields4_run h1 h2 hx hy hz hu (lv47 n hn)
theorem lv23 : Lv 1 H23 := lv_succ fun n _ H b o c l hl hb h256 => lv_same rfl rfl cfE23 fun cd => by
  rw [← hl]
  exact hex23_run hb (by omega) h256
theorem lv8 : Lv 21 H8 := lv_succ fun n hn H r vo ko hw ok hv hk => lv_quiet rfl rfl cfE8 rfl fun cd => print32_run ok (hw.sb []) hv hk (lv22 n (by omega)) (lv23 n (by omega)) (lv24 ok.set n (by omega))
theorem lv21 : Lv 2 fun call => ∀ (H : Hp) (va vb : Nat) (vo ko wo lo : Value) (sa sb ka kb : List (ByteArray × ByteArray)), Wf H → SlP H vo sa → SlP H ko ka → SlP H wo sb → SlP H lo kb → sa.length < 1000 → ka.length < 1000 → sb.length < 1000 → kb.length < 1000 →
    call 21 [.agg ⟨[.int .i64 (.ofNat va), vo, ko]⟩, .agg ⟨[.int .i64 (.ofNat vb), wo, lo]⟩] H = .val (.bool (sameS va vb sa sb ka kb)) H :=
  lv_succ fun n hn H va vb vo ko wo lo sa sb ka kb hw h1 h2 h3 h4 n1 n2 n3 n4 => lv_quiet rfl rfl cfE21 rfl fun cd => same23_run (hw.sb []) h1 h2 h3 h4 n1 n2 n3 n4 (lv46 n hn)
theorem lv7 : Lv 3 H7 := lv_succ fun n hn H a b vo ko wo lo hw oka okb h1 h2 h3 h4 => lv_quiet rfl rfl cfE7 rfl fun cd => same32_run oka okb (hw.sb []) h1 h2 h3 h4
  fun H' hw' g1 g2 g3 g4 => lv21 n hn H' a.ver b.ver vo ko wo lo a.s b.s a.k b.k hw' g1 g2 g3 g4 (by have := oka.set.vals; omega) (by have := oka.set.kept; omega) (by have := okb.set.vals; omega) (by have := okb.set.kept; omega)
theorem lv76 : Lv 2 H76 := lv_succ fun n hn x H hx => lv_quiet rfl rfl cfE76 rfl fun cd => call76_run (lv74 n hn) hx
theorem lv111 : Lv 3 H111 := lv_succ fun n hn H v l hv hl hx => lv_same rfl rfl cfE111 fun cd => call111_run hv hl hx (lv76 n hn)
theorem lv77 : Lv 4 H77 := lv_succ fun n hn H v l hv hl hx => lv_same rfl rfl cfE77 fun cd => call77_run hv hl hx (lv111 n hn)
theorem lv42 {ver : Nat} {s k : List (ByteArray × ByteArray)} {vo ko : Value} (hs : ValidS ver s k) : Lv 5 (H42 ver s k vo ko) :=
  lv_succ fun n hn H hw hv hk => lv_quiet rfl rfl cfE42 rfl fun cd => valid42_run (hw.sb []) hv hk hs (lv74 n (by omega)) (lv75 n (by omega)) (lv77 n hn)
theorem lv40 : Lv 1 H40 := lv_succ fun n _ x H hx hB => CA_ov (Rel.itoa x H hx hB)
theorem lv41 : Lv 1 H41 := lv_succ fun n _ H b c l hs h0 hn hl => CA_ov (Rel.join b c l H hs h0 hn hl)
theorem lv18 : Lv 2 H18 := lv_succ fun n hn H ab ac its hw hB hok h0 h8 hat => lv_quiet rfl rfl cfE18 rfl fun cd => line_run (hw.sb []) (hB.sb _ _) (lv40 n hn) (lv41 n hn) hok h0 h8 hat
theorem lv19 : Lv 1 H19 := lv_succ fun n _ H b o c l hw hl hb h256 => lv_quiet rfl rfl cfE19 rfl fun cd => hex19_run (hw.sb []) hb hl h256
theorem lv78 : Lv 1 H78 := lv_succ fun n _ H lim bB p acc hb hp hw hl hbase => lv_yields rfl rfl cfE78 fun cd => call78_run hb hp hw hl hbase
theorem lv44 : Lv 2 H44 := lv_succ fun n hn H lim bB p acc new hb hp hw hl hbase h0 hn' => lv_yields rfl rfl cfE44 fun cd => call44_run (lv78 n hn) hb hp hw hl hbase h0 hn'
theorem lv43 : Lv 3 H43 := lv_succ fun n hn H lim bB b c p acc ws hb hp hw hl hbase hs h0 h8 hlen hacc => lv_yields rfl rfl cfE43 fun cd => call43_run (lv41 n (by omega)) (lv44 n hn) hb hp hw hl hbase hs h0 h8 hlen hacc
theorem lv45 : Lv 1 H45 := lv_succ fun n _ H lim bB p acc hb hw hl hbase h0 hn => lv_yields rfl rfl cfE45 fun cd => call45_run hb hw hl hbase h0 hn
theorem lv20 {r : Rep} {vo ko : Value} (ok : RepOk r) : Lv 6 (H20 r vo ko) := lv_succ fun n hn H hw hB hv hk => lv_quiet rfl rfl cfE20 rfl fun cd => print20_run (hw.sb []) (hB.sb _ _) hv hk ok.set (lv40 n (by omega)) (lv42 ok.set n hn) (lv43 n (by omega)) (lv45 n (by omega))
theorem lv6 : Lv 7 H6 := lv_succ fun n hn H r vo ko hw hB ok hv hk => lv_quiet rfl rfl cfE6 rfl fun cd => print6_run ok (hw.sb []) (hB.sb _ _) hv hk (lv18 n (by omega)) (lv19 n (by omega)) (lv20 ok n hn)
theorem audit_all {A : Arg} {h : Hp} (hw : Wf h) (hB : Base h) (ok : ArgOk A h) : ∃ H, CA 22 3 [.agg ⟨A.c0⟩, .agg ⟨A.c1⟩, .agg ⟨A.c2⟩] h = .val (.bool true) H ∧ H.log = h.log := by
  have h4 : CA 21 4 [] (A.h3 h) = .val (.bool true) (A.h3 h) := CA_ov (Rel.sane (A.h3 h) (((hB.new _).new _).new _))
  have := lv_yields (n := 21) (g := 3) (args := [.agg ⟨A.c0⟩, .agg ⟨A.c1⟩, .agg ⟨A.c2⟩]) (H := h) rfl rfl cfE3 fun cd => audit_run (cd := cd) hw hB ok h4 (lv5 21 (by omega)) (lv6 21 (by omega)) (lv7 21 (by omega)) (lv8 21 (by omega)) (repA_ok ok) (repB_ok ok) (plain_law (repA_ok ok) (repB_ok ok))
  obtain ⟨v, H, e, rfl, hl⟩ := this.get
  exact ⟨H, e, hl⟩
end Abs
end Go
