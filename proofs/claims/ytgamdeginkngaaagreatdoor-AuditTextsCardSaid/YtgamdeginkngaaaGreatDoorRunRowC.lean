/-
The row of AuditTexts: whatever the input, the law's answer is true, and the input reads as it did.
Conditions: none beyond the row's own.
-/
import Derived.Test.YtgamdeginkngaaaGreatDoorCards
import Derived.Test.YtgamdeginkngaaaGreatDoorTie
import Derived.ProofKit
import Derived.Lay
import Derived.LaidOnce
import Derived.SevenTiedAt
import Derived.Stop.Joined
import Derived.Test.YtgamdeginkngaaaGreatDoorRunRowB
set_option linter.unusedVariables false
set_option linter.unusedSimpArgs false
set_option maxRecDepth 100000
namespace Go.Proofs.YtgamdeginkngaaaGreatDoor
open Go.ChangeShapes Go.WideShapes Go.ChangeAt Go.RowKit
theorem Tryz.own : ownKnob Tryz.prog.godebug = none := by kernel_rfl
theorem Tryz.laidOut : laidOutB Tryz.prog = true := by kernel_rfl
theorem lifted (os : Os) (started : os.Started) (H : Type) (enc : TypeId × Value → H) :
    ReturnsInHanded {} Tryz.checked os 3 .any (fun w args => (Rows.auditTextsSpec.pre enc Tryz.prog Tryz.f3 [] false w args ∧ laidMetH Tryz.prog Rows.auditTextsRow.laid w) ∧ sizedMet enc Tryz.prog Tryz.f3 (OpenSpec.ofChange Rows.auditTextsSpec) false w args)
      (Rows.auditTextsSpec.post enc Tryz.prog Tryz.f3 false true false false) := by
  refine returnsInHanded_of_change_and (C := Tryz.checked) (X := fun w _ => laidMetH Tryz.prog Rows.auditTextsRow.laid w) (fun _ _ _ hh h => h.of_heap hh) Tryz.own started (by kernel_rfl) Tryz.func3
    (ChangeSpec.witness_shaped (enc := enc) (C := Tryz.checked) (os := os) (X := fun w _ => laidMetH Tryz.prog Rows.auditTextsRow.laid w) false (World.laidAll Tryz.prog os Rows.auditTextsRow.laid)
      #[.agg #[.int .i64 0, .int .i64 0, .int .i64 0, .int .i64 0, .int .i64 0, .int .i64 0, .int .i64 0, .int .i64 0, .int .i64 0, .int .i64 0, .int .i64 0, .int .i64 0, .int .i64 0, .int .i64 0, .int .i64 0, .int .i64 0, .int .i64 0, .int .i64 0],
        .agg #[.int .u16 0, .slice none 0 0, .slice none 0 0, .int .u16 0, .slice none 0 0, .slice none 0 0], .agg #[.int .u8 0, .int .u8 0, .int .u8 0]] 8 (World.laidAll_os _ _ _)
      (World.shaped_of_ZipB (by kernel_rfl) (by kernel_rfl)) (by kernel_rfl) (by kernel_rfl) (by kernel_rfl)
      (by rw [MakeChecks.laidMetH_plain _ _ _ (by kernel_rfl)]; exact laidMet_laidAll _ (by kernel_rfl) (by kernel_rfl))) ?_
  intro W base args ds gs before hval0 hW _ _ hL _
  have hval : ∀ (j : Nat) t v, Tryz.f3.params[j]? = some t → args[j]? = some v → Value.okWide Tryz.prog W .any base t v := hval0
  have hW' := hW
  obtain ⟨p, q, hA0, hV, rfl, hfz, hnd⟩ := hW
  have hA : DataW.TrodAll enc Tryz.prog W 0 (fun _ => true) true Tryz.f3.params.toList args.toList ds p := hA0
  rw [Tryz.params3] at hA hval
  obtain ⟨v0, v1, v2, d0, d1, d2, p0, p1, p2, rfl, rfl, rfl, h0, h1, h2⟩ := trodAll_three hA
  obtain ⟨rfl, rfl⟩ := trodVars_none hV
  rw [MakeChecks.laidMetH_plain _ _ _ (by kernel_rfl)] at hL
  have h0k := h0
  have h1k := h1
  have h2k := h2
  have agg : ∀ {t : TypeId} {n e : Nat} {v : Value}, Tryz.prog.underlying t = some (.array n e) → Value.okWide Tryz.prog W .any base t v → ∃ cs, v = .agg cs ∧ Row.okWide Tryz.prog W .any base t cs := fun {t n e v} hu h => by
    unfold Value.okWide at h
    rw [hu] at h
    obtain ⟨cs, h1, _, h3⟩ := h
    exact ⟨cs, h1, h3⟩
  obtain ⟨cs0, rfl, _⟩ := agg Tryz.underlying24 (hval 0 24 v0 rfl rfl)
  obtain ⟨cs1, rfl, ok1⟩ := agg Tryz.underlying29 (hval 1 29 v1 rfl rfl)
  obtain ⟨cs2, rfl, _⟩ := agg Tryz.underlying30 (hval 2 30 v2 rfl rfl)
  obtain ⟨f0, t0⟩ := h0
  obtain ⟨f1, t1⟩ := h1
  obtain ⟨f2, t2⟩ := h2
  obtain ⟨l, hl, hl64, e0⟩ := Abs.open24 (show DataW.trod enc Tryz.prog W 0 (fun _ => true) true f0 24 cs0.toList = some (d0, p0) from t0)
  obtain ⟨va, vb, rva, rka, rvb, rkb, lva, lka, lvb, lkb, hva, hvb, e1, s1, s2, s3, s4⟩ := Abs.open29 (show DataW.trod enc Tryz.prog W 0 (fun _ => true) true f1 29 cs1.toList = some (d1, p1) from t1) ok1
  obtain ⟨w0, w1, w2, hw0, hw1, hw2, e2⟩ := Abs.open30 (show DataW.trod enc Tryz.prog W 0 (fun _ => true) true f2 30 cs2.toList = some (d2, p2) from t2)
  obtain ⟨x, y, hg⟩ := Abs.globW hL
  let A : Abs.Arg := ⟨l.take 9, l.drop 9, va, vb, Abs.absS rva, Abs.absS rka, Abs.absS rvb, Abs.absS rkb, lva, lka, lvb, lkb, w0, w1, w2⟩
  have ha : Abs.ArgW W A rva rka rvb rkb := ⟨by show (l.take 9).length = 9; rw [List.length_take]; omega, by show (l.drop 9).length = 9; rw [List.length_drop]; omega, fun z hz => hl64 z (List.mem_of_mem_take hz), fun z hz => hl64 z (List.mem_of_mem_drop hz), hva, hvb, hw0, hw1, hw2, ⟨s1, rfl⟩, ⟨s2, rfl⟩, ⟨s3, rfl⟩, ⟨s4, rfl⟩⟩
  have a0 : cs0 = ⟨A.c0⟩ := by
    obtain ⟨c⟩ := cs0
    have : A.c0 = l.map fun z => Value.int .i64 z := by
      show ((l.take 9 ++ l.drop 9).map fun z => Value.int .i64 z) = _
      rw [List.take_append_drop]
    rw [this]; exact congrArg Array.mk e0
  have a1 : cs1 = ⟨[.int .u16 (.ofNat va), rva, rka, .int .u16 (.ofNat vb), rvb, rkb]⟩ := by
    obtain ⟨c⟩ := cs1
    exact congrArg Array.mk e1
  have a2 : cs2 = ⟨A.c2⟩ := by
    obtain ⟨c⟩ := cs2
    exact congrArg Array.mk e2
  have walk := Abs.audit_W hg ha
  rw [a0, a1, a2] at hW'
  rw [a0] at h0k ⊢
  rw [a1] at h1k ⊢
  rw [a2] at h2k ⊢
  refine walk.mono fun e W' ⟨he, hb⟩ => ?_
  subst he
  have hlt : ∀ z ∈ p0 ++ p1 ++ p2, z.block < W.heap.size := fun z hz => by simpa using hW'.lt z (by simpa using hz)
  exact ⟨_, rfl, _, _, _, [], p0 ++ (p1 ++ p2), [], hW', trodAll_mk1 (shut_bool (by kernel_rfl) _),
    trodAll_mk3 (Below.trod Tryz.laidOut (by kernel_rfl) (of_decide_eq_true (by kernel_rfl)) h0k hb fun z hz => hlt z (by simp [hz])) (Below.trod Tryz.laidOut (by kernel_rfl) (of_decide_eq_true (by kernel_rfl)) h1k hb fun z hz => hlt z (by simp [hz]))
      (Below.trod Tryz.laidOut (by kernel_rfl) (of_decide_eq_true (by kernel_rfl)) h2k hb fun z hz => hlt z (by simp [hz])), rfl, hb.frame _, fun h => by cases h⟩
theorem auditTexts_holds : Rows.AuditTextsSaid :=
  OpenClaim.holds_of_wide 3 Tryz.f3 rfl rfl rfl rfl rfl rfl rfl ⟨rfl, rfl, rfl, rfl, rfl⟩ rfl rfl rfl rfl rfl (by kernel_rfl) Tryz.func3 (by kernel_rfl)
    (of_decide_eq_true (by kernel_rfl)) (by unfold Func.isWrapper; first | (rw [if_pos (by decide +kernel)]; kernel_rfl) | (rw [if_neg (by decide +kernel)]; exact ⟨rfl, rfl⟩))
    (fun os started H enc _ => lifted os started H enc)
end Go.Proofs.YtgamdeginkngaaaGreatDoor
