/-
  DERIVED. GIVEN WITH THE SEED: THE CARDS: each row of YtgamdeginkngaaaGreatDoorRows.lean that lists a variable, with what it lists TIED to the program's text (the seventh form; the later family's looks); each row that meets fmt, with fmt's text TOLD by the authors' own Lean function (tested against real Go, not proved from fmt's source: count such statements apart). THE CARD IS WHAT COUNTS. Prove the row's statement (the work); the ties are given (YtgamdeginkngaaaGreatDoorTie.lean); close each card by the builder's one call (the guide's Derived/Test/ToyasCard.lean, 'card_holds'). Laid BY PROGRAM, IN A SANDBOX (cutbox-door.mjs). By AI agents, Wed Nov 11 2026. No macro, syntax, notation, axiom, sorry.
-/
import Derived.Test.YtgamdeginkngaaaGreatDoorRows
import GoSem.ClaimSeven
namespace Go.Proofs.YtgamdeginkngaaaGreatDoor
namespace Rows

/-- THE TIED CARD OF 'inlaylaw32.AuditTexts'. -/
def auditTextsCard : Claim7 := { stood := { row := auditTextsRow, standIns := [], harness := (true, "c3b78642e6cc10f4ff2ae73d48540859637aaf098e6fad0c9f64fec838a2f8d5"), looks := true }, kinds := [], alts := [], laidByText := true, laidKinds := [.data, .data, .data, .data, .sentinel, .sentinel, .data, .data, .pinned], laidTests := true, laidLooks := .later }
def AuditTextsCardSaid : Prop := Claim7.holds Tryz.pinned (.plain (OpenSpec.ofChange auditTextsSpec)) auditTextsCard

/-- THE SECOND FORM's CARD OF 'inlaylaw32.AuditTexts'. -/
def auditTextsUptoCard : Claim7 := { stood := { row := auditTextsUptoRow, standIns := [], harness := (true, "c3b78642e6cc10f4ff2ae73d48540859637aaf098e6fad0c9f64fec838a2f8d5"), looks := true }, kinds := [], alts := [], laidByText := true, laidKinds := [.data, .data, .data, .data, .sentinel, .sentinel, .data, .data, .pinned], laidTests := true, laidLooks := .later }
def AuditTextsUptoCardSaid : Prop := Claim7.holds Tryz.pinned (.plain (OpenSpec.upto auditTextsSpec)) auditTextsUptoCard
end Rows
end Go.Proofs.YtgamdeginkngaaaGreatDoor
