/-
ConsoleHashes: the law's call, whole, in the evaluator.
Conditions: none.
-/
import Derived.Test.YtkondgccabcabaaGreatDoorHashLaw
import Derived.Test.YtkondgccabcabaaGreatDoorHashSane
import Derived.Test.YtkondgccabcabaaGreatDoorRunLitE
set_option linter.unusedVariables false
set_option linter.unusedSimpArgs false
set_option maxRecDepth 10000
namespace Go
namespace Abs
/- ===== the sum, by its body ===== -/
noncomputable def CN (n : Nat) : Call := callN Proofs.Tryz.prog cx35 n
theorem CN_body {n : Nat} {g : FuncId} {args : List Value} {H : Hp} {c : CF} (hc : cF Proofs.Tryz.prog cx35 g = c) : CN (n + 1) g args H = runF c (CN n) (fun g => runD (cFD Proofs.Tryz.prog cx35 g) (CN n)) args H := by
  subst hc; rfl
theorem ror_call (n : Nat) {x k : Nat} {H : Hp} (hx : x < 4294967296) (hk : k ≤ 32) : CN (n + 1) 25 [.int .u32 (.ofNat x), .int .i64 (.ofNat k)] H = .val (.int .u32 (.ofNat (rorM x k))) H := by
  rw [CN_body cfE25]
  exact ror_run hx hk
theorem blk_call (n : Nat) {h : Hp} (hb : h.base ≤ h.next) (hB : Base h) : BlkC (CN (n + 2)) h := by
  intro bb o l cp H hk hby hl hne hlt
  obtain ⟨g1, g2, g3⟩ := hB.g1
  have h16 := hB.next
  have hls := hk.ls
  obtain ⟨v, H', e, rfl, hn, hbs, hlg, hat, hrow⟩ := (block_run (call := CN (n + 1)) (cd := fun g => runD (cFD Proofs.Tryz.prog cx35 g) (CN (n + 1))) (h := H) (bs := h.next + 1) (bb := bb) (o := o) (l := l) (cp := cp) (e := 62) (fun x k H hx hk => ror_call n hx hk)
    hk.wf.base hk.rs hby hl hne (by rw [hk.kp.base]; omega) (by omega) hlt (by rw [hk.kp.at_ 1 (by omega)]; exact g1) (Nat.le_refl _) g2 g3 (by omega) (by omega)).get
  refine ⟨H', by rw [CN_body cfE13]; exact e, ⟨⟨fun b hb => ?_, by rw [hbs, hn]; have := hk.wf.base; omega⟩, ⟨hbs.trans hk.kp.base, hlg.trans hk.kp.log, by rw [hn]; omega, fun b hb => ?_⟩, hrow, ?_, by omega⟩, hn, hat⟩
  · rw [hat b (by omega) (by omega)]; exact hk.wf.dead b (by omega)
  · rw [hat b (by omega) (by omega)]; exact hk.kp.at_ b hb
  · rw [hat _ (by omega) (by omega)]; exact hk.r2
theorem clone_call (n : Nat) (h : Hp) : CloneC (CN (n + 1)) h := by
  intro v k H hk hw hkp hv
  obtain ⟨v', H', e, h1⟩ := (clone_run (call := CN n) (cd := fun g => runD (cFD Proofs.Tryz.prog cx35 g) (CN n)) hk hw hkp hv).get
  exact ⟨v', H', by rw [CN_body cfE14]; exact e, h1⟩
/-- what the sum is, over the law's memory -/
def SumIs (h0 : Hp) (v : Value) (xs : List Nat) : Prop := ∃ H1, CN 10 6 [v] h0 = .val (.agg ⟨u8L xs⟩) H1 ∧ H1.log = []
theorem sum_is {h0 : Hp} {v : Value} {n : Nat} (hw : Wf h0) (hB : Base h0) (hlog : h0.log = []) (hv : RestV h0 v n) (hn : n ≤ 200) : ∃ xs, SumIs h0 v xs ∧ xs.length = 32 ∧ ∀ x ∈ xs, x < 256 := by
  obtain ⟨g1, g2, g3⟩ := hB.g0
  have h16 := hB.next
  obtain ⟨r, H1, e, ⟨l, rfl, hl, hb⟩, hlg⟩ := (sum_run (call := CN 9) (cd := fun g => runD (cFD Proofs.Tryz.prog cx35 g) (CN 9)) hw hn hv (blk_call 7 hw.base hB) (clone_call 8 h0) g1 (Nat.le_refl _) g2 g3 (by omega)).get
  obtain ⟨xs, h1, rfl⟩ := b8_nat hb
  exact ⟨xs, ⟨H1, by rw [CN_body cfE6]; exact e, by rw [hlg, hlog]⟩, by rw [u8_len] at hl; exact hl, h1⟩
/- ===== calls that are known by a contract ===== -/
inductive Rel (h0 : Hp) (v : Value) (xs : List Nat) : FuncId → List Value → Hp → Res → Prop where
  | sane (H : Hp) (hB : Base H) : Rel h0 v xs 4 [] H (.val (.bool true) H)
  | sum (H : Hp) (hs : SumIs h0 v xs) (hg : Good h0 H) : Rel h0 v xs 6 [v] H (.val (.agg ⟨u8L xs⟩) H)
theorem Rel.uniq {h0 : Hp} {v : Value} {xs : List Nat} {g : FuncId} {args : List Value} {H : Hp} {r r' : Res} (h : Rel h0 v xs g args H r) (h' : Rel h0 v xs g args H r') : r = r' := by
  cases h with
  | sane _ _ => cases h'; rfl
  | sum _ _ _ => cases h'; rfl
open Classical in
noncomputable def ovH (h0 : Hp) (v : Value) (xs : List Nat) (g : FuncId) (args : List Value) (H : Hp) : Option Res := if h : ∃ r, Rel h0 v xs g args H r then some h.choose else none
theorem ovH_some {h0 : Hp} {v : Value} {xs : List Nat} {g : FuncId} {args : List Value} {H : Hp} {r : Res} (h : Rel h0 v xs g args H r) : ovH h0 v xs g args H = some r := by
  have hx : ∃ r, Rel h0 v xs g args H r := ⟨r, h⟩
  unfold ovH
  rw [dif_pos hx]
  exact congrArg some (hx.choose_spec.uniq h)
theorem ovH_rel {h0 : Hp} {v : Value} {xs : List Nat} {g : FuncId} {args : List Value} {H : Hp} {r : Res} (h : ovH h0 v xs g args H = some r) : Rel h0 v xs g args H r := by
  unfold ovH at h
  split at h
  · rename_i hx
    cases h
    exact hx.choose_spec
  · cases h
theorem ovH_none {h0 : Hp} {v : Value} {xs : List Nat} {g : FuncId} {args : List Value} {H : Hp} (h : [4, 6].any (Nat.beq g) = false) : ovH h0 v xs g args H = none := by
  unfold ovH
  rw [dif_neg]
  rintro ⟨r, hr⟩
  cases hr with
  | sane _ _ => cases h
  | sum _ _ _ => cases h
theorem u8_plain (xs : List Nat) : plainA (.agg ⟨u8L xs⟩) = true := by
  show ((u8L xs).all plainC) = true
  exact List.all_eq_true.2 fun v hv => by
    obtain ⟨x, _, rfl⟩ := List.mem_map.1 hv
    rfl
theorem gs35 {N : Nat} (h : 16 ≤ N) : ∀ g ∈ cx35.gs, g < N := by
  have : ∀ g ∈ [0, 1], g < 2 := by decide
  intro g hg
  have := this g hg
  omega
theorem ovH_ok {h0 : Hp} {v : Value} {xs : List Nat} (hl : LowH h0.next h0) (hv : Low h0.next v) (h16 : 16 ≤ h0.next) : ∀ g args h r, ovH h0 v xs g args h = some r → CallAt Proofs.Tryz.prog cx35.gs g args h r := by
  intro g args h r hr
  cases ovH_rel hr with
  | sane _ hB =>
    obtain ⟨h1, e1, e2⟩ := sane_run
    exact cut_at (gs35 (Nat.le_refl _)) (callN_sound cxok35 draw35 100) hpG_low (fun a ha => by cases ha) e1 e2 rfl hB.at_
  | sum _ hs hg =>
    obtain ⟨h1, e1, e2⟩ := hs
    exact cut_at (gs35 h16) (callN_sound cxok35 draw35 10) hl (fun a ha => by rw [List.mem_singleton] at ha; subst ha; exact hv) e1 e2 (u8_plain xs) hg
theorem callX_ov {P : Program} {cx : Cx} {ov : FuncId → List Value → Hp → Option Res} {q : List Nat} {n : Nat} {g : FuncId} {args : List Value} {H : Hp} {r : Res} (h : ov g args H = some r) : callX P cx ov q (n + 1) g args H = r := by
  show Option.rec (motive := fun _ => Res) _ (fun r => r) (ov g args H) = r
  rw [h]
theorem callX_plain {P : Program} {cx : Cx} {ov : FuncId → List Value → Hp → Option Res} {q : List Nat} {n : Nat} {g : FuncId} {args : List Value} {H : Hp} (h : ov g args H = none) (h2 : q.any (Nat.beq g) = false) :
    callX P cx ov q (n + 1) g args H = runF (cF P cx g) (callX P cx ov q n) (fun g => runD (cFD P cx g) (callX P cx ov q n)) args H := by
  show Option.rec (motive := fun _ => Res) (bif q.any (Nat.beq g) then _ else _) (fun r => r) (ov g args H) = _
  rw [h, h2]; rfl
theorem callX_quiet {P : Program} {cx : Cx} {ov : FuncId → List Value → Hp → Option Res} {q : List Nat} {n : Nat} {g : FuncId} {args : List Value} {H : Hp} (h : ov g args H = none) (h2 : q.any (Nat.beq g) = true) :
    callX P cx ov q (n + 1) g args H = quiet (runF (cF P cx g) (callX P cx ov q n) (fun g => runD (cFD P cx g) (callX P cx ov q n)) args (setBase H H.next [])) H := by
  show Option.rec (motive := fun _ => Res) (bif q.any (Nat.beq g) then _ else _) (fun r => r) (ov g args H) = _
  rw [h, h2]; rfl
section
variable {h0 : Hp} {v : Value} {xs : List Nat}
/-- the calls -/
noncomputable def CA (h0 : Hp) (v : Value) (xs : List Nat) (n : Nat) : Call := callX Proofs.Tryz.prog cx35 (ovH h0 v xs) [113] n
theorem CA_plain {n : Nat} {g : FuncId} {args : List Value} {H : Hp} {c : CF} (h1 : [4, 6].any (Nat.beq g) = false) (h2 : [113].any (Nat.beq g) = false) (hc : cF Proofs.Tryz.prog cx35 g = c) : CA h0 v xs (n + 1) g args H = runF c (CA h0 v xs n) (fun g => runD (cFD Proofs.Tryz.prog cx35 g) (CA h0 v xs n)) args H := by
  subst hc
  exact callX_plain (ovH_none h1) h2
theorem cd60 (call : Call) (b : Nat) (H : Hp) : runD (cFD Proofs.Tryz.prog cx35 60) call [ptrV b 0] .ret H = .ok .ret H := by kernel_rfl
theorem ca_sane (n : Nat) (hB : Base h0) (h16 : 16 ≤ h0.next) : SaneC (CA h0 v xs (n + 1)) h0 := fun H hg hn => callX_ov (ovH_some (.sane H ⟨by omega, fun b hb => by rw [hg b (by omega), hB.at_ b hb]⟩))
theorem ca_sum (n : Nat) (hs : SumIs h0 v xs) : SumC (CA h0 v xs (n + 1)) h0 v xs := fun H hg hn => callX_ov (ovH_some (.sum H hs hg))
theorem ca_same (n : Nat) (hx : xs.length = 32) : SameC (CA h0 v xs (n + 1)) xs := fun H b1 b2 c1 c2 h1 h2 => by
  rw [CA_plain rfl rfl cfE7]
  obtain ⟨v', H', e, rfl, rfl⟩ := (same7_run (call := CA h0 v xs n) (cd := fun g => runD (cFD Proofs.Tryz.prog cx35 g) (CA h0 v xs n)) (c1 := c1) (c2 := c2) h1 h2 hx).get
  exact e
theorem ca_hex (n : Nat) (hx : xs.length = 32) (h256 : ∀ x ∈ xs, x < 256) : HexC (CA h0 v xs (n + 1)) xs := fun H b hd hb => by
  refine (callX_quiet (ovH_none rfl) rfl).trans ?_
  rw [cfE113]
  exact quiet_of (hex113_run ⟨hd, Nat.le_refl _⟩ hb hx h256) rfl
theorem ca_59 (n : Nat) (hx : xs.length = 32) (h256 : ∀ x ∈ xs, x < 256) (hs : SumIs h0 v xs) : ∀ H, Wf H → Good h0 H → h0.next ≤ H.next → Yields (CA h0 v xs (n + 2) 59 [.agg ⟨nil3⟩, .agg ⟨cmdL v⟩] H) (AnsR xs H) := fun H hw hg hn => by
  rw [CA_plain rfl rfl cfE59]
  exact askHash_run hx h256 hw hg hn (ca_sum n hs) (ca_hex n hx h256)
theorem ca_24 (n : Nat) (hx : xs.length = 32) (h256 : ∀ x ∈ xs, x < 256) (hs : SumIs h0 v xs) : ∀ H, Wf H → Good h0 H → h0.next ≤ H.next → Yields (CA h0 v xs (n + 3) 24 [.agg ⟨nil3⟩, .agg ⟨cmdL v⟩, fn59] H) (AnsR xs H) := fun H hw hg hn => by
  rw [CA_plain rfl rfl cfE24]
  exact answer_run hw hg hn (fun b H => cd60 _ b H) (ca_59 n hx h256 hs)
theorem ca_23 (n : Nat) : ∀ H, H.base ≤ H.next → Yields (CA h0 v xs (n + 1) 23 [] H) (QsR H) := fun H hb => by
  rw [CA_plain rfl rfl cfE23]
  exact questions_run hb
theorem ca_12 (n : Nat) (hx : xs.length = 32) (h256 : ∀ x ∈ xs, x < 256) (hs : SumIs h0 v xs) : ∀ H, Wf H → Good h0 H → h0.next ≤ H.next → Yields (CA h0 v xs (n + 4) 12 [.agg ⟨nil3⟩, .agg ⟨cmdL v⟩] H) (DoR xs H) := fun H hw hg hn => by
  rw [CA_plain rfl rfl cfE12]
  exact do_run hw hg hn (ca_23 (n + 2)) (ca_24 n hx h256 hs)
theorem ca_5 (n : Nat) (hx : xs.length = 32) (h256 : ∀ x ∈ xs, x < 256) (hs : SumIs h0 v xs) : ∀ H, Wf H → Good h0 H → h0.next ≤ H.next → Yields (CA h0 v xs (n + 5) 5 [.agg ⟨nil3⟩, .agg ⟨cmdL v⟩] H) (AnsR xs H) := fun H hw hg hn => by
  rw [CA_plain rfl rfl cfE5]
  exact ask_run hw hg hn (ca_12 n hx h256 hs)
end
/-- the law answers true -/
theorem law_all {h0 : Hp} {v : Value} {n : Nat} (hw : Wf h0) (hB : Base h0) (hlog : h0.log = []) (hv : RestV h0 v n) : ∃ xs H, CA h0 v xs 6 3 [v] h0 = .val (.bool true) H ∧ H.log = [] := by
  by_cases hn : n ≤ 200
  · obtain ⟨xs, hs, hx, h256⟩ := sum_is hw hB hlog hv hn
    obtain ⟨r, H, e, rfl, hl⟩ := (law_run (call := CA h0 v xs 5) (cd := fun g => runD (cFD Proofs.Tryz.prog cx35 g) (CA h0 v xs 5)) hw hv hn hx h256 (ca_sane 4 hB hB.next) (ca_sum 4 hs) (ca_same 4 hx) (ca_5 0 hx h256 hs)).get
    exact ⟨xs, H, by rw [CA_plain rfl rfl cfE3]; exact e, by rw [hl, hlog]⟩
  · obtain ⟨r, H, e, rfl, hl⟩ := (law_long (call := CA h0 v [] 5) (cd := fun g => runD (cFD Proofs.Tryz.prog cx35 g) (CA h0 v [] 5)) hv (by omega) (ca_sane 4 hB hB.next)).get
    exact ⟨[], H, by rw [CA_plain rfl rfl cfE3]; exact e, by rw [hl, hlog]⟩
end Abs
end Go
