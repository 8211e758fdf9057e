/-
The row of ConsoleHashes: whatever the input, the law's answer is true, and the input reads as it did.
Conditions: none beyond the row's own.
-/
import Derived.Test.YtkondgccabcabaaGreatDoorHashW
import Derived.Test.YtkondgccabcabaaGreatDoorHashS11
set_option linter.unusedVariables false
set_option linter.unusedSimpArgs false
set_option maxRecDepth 100000
namespace Go.Proofs.YtkondgccabcabaaGreatDoor
open Go.ChangeShapes Go.WideShapes Go.ChangeAt Go.RowKit Go.Clock
theorem read22 : Tryz.prog.readableRec 22 = true := by kernel_rfl
theorem lt22 : decide (22 < Tryz.prog.types.size) = true := by kernel_rfl
theorem slice_of {P : Program} {W : World} {base : Nat} {t e : TypeId} {v : Value} (hu : P.underlying t = some (.slice e)) (h : Value.okWide P W .any base t v) : (∃ a l c, v = .slice a l c) ∧ Cell.okWide P W .any base t v := by
  unfold Value.okWide at h
  rw [hu] at h
  have h' : Cell.okWide P W .any base t v := h
  refine ⟨?_, h'⟩
  unfold Cell.okWide at h'
  rw [hu] at h'
  unfold Cell.ok at h'
  rw [hu] at h'
  cases v <;> first | exact ⟨_, _, _, rfl⟩ | exact absurd h' (fun h => h)
theorem wD_shaped (os : Os) : (wD os).Shaped Tryz.checked.prog := World.shaped_of_ZipB (wD_vars os) (wD_rows os)
theorem wD_metH (os : Os) : laidMetH Tryz.prog Rows.consoleHashesRow.laid (wD os).memory := by
  rw [MakeChecks.laidMetH_plain _ _ _ Tryz.plain10]
  exact wC_met os _
theorem lifted (os : Os) (started : os.Started) (H : Type) (enc : TypeId × Value → H) (F : Stop.Interp) :
    ReturnsInHanded { calm := true } Tryz.checked os 3 .any (fun w args => (Rows.consoleHashesSpec.pre enc Tryz.prog Tryz.f3 [] false w args ∧ laidMetH Tryz.prog Rows.consoleHashesRow.laid w) ∧ sizedMet enc Tryz.prog Tryz.f3 (OpenSpec.ofChange Rows.consoleHashesSpec) false w args)
      ((OpenSpec.ofChange Rows.consoleHashesSpec).postWith enc Tryz.prog Tryz.f3 F (outsideKept [.timePasses]) false true false) := by
  refine returns_of_change (C := Tryz.checked) (X := fun w _ => laidMetH Tryz.prog Rows.consoleHashesRow.laid w) (fun _ _ _ hh h => h.of_heap hh) Tryz.own started Tryz.noInit Tryz.func3
    (witness_at (enc := enc) (C := Tryz.checked) (X := fun w _ => laidMetH Tryz.prog Rows.consoleHashesRow.laid w) (wC os) #[.slice none 0 0] 8 (wC_os os) (wD_shaped os) (wD_ok os) (wD_pre enc os) (wD_sized enc os) (wD_metH os)) ?_
  intro W base args ds gs before hval0 hW _ _ hL hsh
  have hval : ∀ (j : Nat) t v, Tryz.f3.params[j]? = some t → args[j]? = some v → Value.okWide Tryz.prog W .any base t v := hval0
  have hW' := hW
  obtain ⟨p, q, hA0, hV, rfl, hfz, hnd⟩ := hW
  have hA : DataW.TrodAll enc Tryz.prog W 0 (fun _ => true) true Tryz.f3.params.toList args.toList ds p := hA0
  rw [Tryz.params3] at hA hval
  obtain ⟨v0, d0, rfl, rfl, h0⟩ := trodAll_one hA
  obtain ⟨rfl, rfl⟩ := trodVars_none hV
  rw [MakeChecks.laidMetH_plain _ _ _ Tryz.plain10] at hL
  have h0k := h0
  obtain ⟨⟨a, n, c, rfl⟩, ok0⟩ := slice_of Abs.underB (hval 0 22 v0 rfl rfl)
  obtain ⟨f0, t0⟩ := h0
  have t0' : DataW.trod enc Tryz.prog W 0 (fun _ => true) true f0 22 [.slice a n c] = some (d0, p) := t0
  obtain ⟨l, hl⟩ := Abs.openB t0' ok0
  have walk := Abs.law_W (globW hL) hl
  refine walk.mono fun e W' ⟨he, hb⟩ => ?_
  subst he
  have hlt : ∀ z ∈ p, z.block < W.heap.size := fun z hz => by simpa using hW'.lt z (by simpa using hz)
  have hs := Since.of_below hb
  exact ⟨_, rfl, ⟨_, _, _, [], p, [], hW', trodAll_mk1 (shut_bool Tryz.shut4 _),
    trodAll_mk1 (Below.trod Tryz.laidOut read22 (of_decide_eq_true lt22) h0k hs.2 hlt), rfl, hs.2.frame _, fun h => by cases h⟩, hs.1⟩
theorem consoleHashes_holds : Rows.ConsoleHashesSaid :=
  holds_of_wide_time 3 Tryz.f3 rfl rfl rfl rfl rfl rfl rfl ⟨rfl, rfl, rfl, rfl, rfl⟩ rfl rfl rfl rfl rfl Tryz.named3 Tryz.func3 joined3 inst3 wrap3
    (fun os started H enc _ F => lifted os started H enc F)
end Go.Proofs.YtkondgccabcabaaGreatDoor
