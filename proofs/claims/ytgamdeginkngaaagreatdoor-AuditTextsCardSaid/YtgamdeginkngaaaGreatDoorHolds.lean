/-
The card of AuditTexts holds: reports with valid settings have the same text exactly if they are equal, at every input, with what the row lists tied to the program's text.
Conditions: none beyond the card's own.
-/
import Derived.Test.YtgamdeginkngaaaGreatDoorRunRowC
set_option linter.unusedVariables false
set_option linter.unusedSimpArgs false
set_option maxRecDepth 100000
namespace Go.Proofs.YtgamdeginkngaaaGreatDoor
theorem auditTexts_card : Rows.AuditTextsCardSaid :=
  Claim7.holds_tied_plain_at .later [] [.data, .data, .data, .data, .sentinel, .sentinel, .data, .data, .pinned] true (true, "c3b78642e6cc10f4ff2ae73d48540859637aaf098e6fad0c9f64fec838a2f8d5") true
    auditTexts_holds (fun _ h => by cases h) (by kernel_rfl) (fun _ h => by cases h) auditTexts_row_tie rfl ⟨rfl, rfl⟩ (by kernel_rfl) rfl
    (fun f fn hf hfn => by
      obtain rfl : f = 3 := Option.some.inj ((show _ = some 3 by kernel_rfl).symm.trans hf) |>.symm
      obtain rfl : fn = Tryz.f3 := (Option.some.inj (Tryz.func3.symm.trans hfn)).symm
      exact ⟨by kernel_rfl, fun j t ht => by
        rw [Tryz.params3] at ht
        have hm : t ∈ [24, 29, 30] := by simpa using Array.mem_of_getElem? ht
        have hall : ([24, 29, 30].all fun u => !Tryz.prog.wantsStandIn u) = true := by kernel_rfl
        exact (show Tryz.prog.wantsStandIn t = false by simpa using List.all_eq_true.1 hall t hm)⟩)
    (by kernel_rfl)
#print axioms auditTexts_card
end Go.Proofs.YtgamdeginkngaaaGreatDoor
