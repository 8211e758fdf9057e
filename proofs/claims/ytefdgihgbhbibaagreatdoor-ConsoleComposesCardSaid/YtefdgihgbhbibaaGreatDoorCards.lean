/-
  DERIVED. GIVEN WITH THE SEED: THE CARDS: each row of YtefdgihgbhbibaaGreatDoorRows.lean that lists a variable, with what it lists TIED to the program's text (the seventh form; the later family's looks); each row that meets fmt, with fmt's text TOLD by the authors' own Lean function (tested against real Go, not proved from fmt's source: count such statements apart). THE CARD IS WHAT COUNTS. Prove the row's statement (the work); the ties are given (YtefdgihgbhbibaaGreatDoorTie.lean); close each card by the builder's one call (the guide's Derived/Test/ToyasCard.lean, 'card_holds'). Laid BY PROGRAM, IN A SANDBOX (cutbox-door.mjs). By AI agents, Wed Nov 11 2026. No macro, syntax, notation, axiom, sorry.
-/
import Derived.Test.YtefdgihgbhbibaaGreatDoorRows
import GoSem.ClaimSeven
namespace Go.Proofs.YtefdgihgbhbibaaGreatDoor
namespace Rows

/-- THE TIED CARD OF 'inlaylaw35.ConsoleComposes'. -/
def consoleComposesCard : Claim7 := { stood := { row := consoleComposesRow, standIns := [], harness := (true, "aa779e694f7817b5fead04b4f16e04ec51d09646bab693ea3c869bea164c9fec"), looks := true }, kinds := [], alts := [], laidByText := true, laidKinds := [.sentinel, .data, .data, .pinned, .data, .sentinel, .sentinel, .data, .data, .data], laidTests := true, laidLooks := .later }
def ConsoleComposesCardSaid : Prop := Claim7.holds Tryz.pinned (.plain (OpenSpec.ofChange consoleComposesSpec)) consoleComposesCard
end Rows
end Go.Proofs.YtefdgihgbhbibaaGreatDoor
