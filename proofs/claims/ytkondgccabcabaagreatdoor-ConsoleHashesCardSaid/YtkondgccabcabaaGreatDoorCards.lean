/-
  DERIVED. GIVEN WITH THE SEED: THE CARDS: each row of YtkondgccabcabaaGreatDoorRows.lean that lists a variable, with what it lists TIED to the program's text (the seventh form; the later family's looks); each row that meets fmt, with fmt's text TOLD by the authors' own Lean function (tested against real Go, not proved from fmt's source: count such statements apart). THE CARD IS WHAT COUNTS. Prove the row's statement (the work); the ties are given (YtkondgccabcabaaGreatDoorTie.lean); close each card by the builder's one call (the guide's Derived/Test/ToyasCard.lean, 'card_holds'). Laid BY PROGRAM, IN A SANDBOX (cutbox-door.mjs). By AI agents, Wed Nov 11 2026. No macro, syntax, notation, axiom, sorry.
-/
import Derived.Test.YtkondgccabcabaaGreatDoorRows
import GoSem.ClaimSeven
namespace Go.Proofs.YtkondgccabcabaaGreatDoor
namespace Rows

/-- THE TIED CARD OF 'inlaylaw35.ConsoleHashes'. -/
def consoleHashesCard : Claim7 := { stood := { row := consoleHashesRow, standIns := [], harness := (true, "558d8f25546736c65cf1f18abe886272c5b9f1a2e82540657d2a0776918688bb"), looks := true }, kinds := [], alts := [], laidByText := true, laidKinds := [.sentinel, .data, .data, .pinned, .data, .sentinel, .sentinel, .data, .data, .data], laidTests := true, laidLooks := .later }
def ConsoleHashesCardSaid : Prop := Claim7.holds Tryz.pinned (.plain (OpenSpec.ofChange consoleHashesSpec)) consoleHashesCard
end Rows
end Go.Proofs.YtkondgccabcabaaGreatDoor
