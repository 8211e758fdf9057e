/-
  DERIVED. GIVEN WITH THE SEED: THE CARDS: each row of YtekknahndoonjaaGreatDoorRows.lean that lists a variable, with what it lists TIED to the program's text (the seventh form; the later family's looks); each row that meets fmt, with fmt's text TOLD by the authors' own Lean function (tested against real Go, not proved from fmt's source: count such statements apart). THE CARD IS WHAT COUNTS. Prove the row's statement (the work); the ties are given (YtekknahndoonjaaGreatDoorTie.lean); close each card by the builder's one call (the guide's Derived/Test/ToyasCard.lean, 'card_holds'). Laid BY PROGRAM, IN A SANDBOX (cutbox-door.mjs). By AI agents, Wed Nov 11 2026. No macro, syntax, notation, axiom, sorry.
-/
import Derived.Test.YtekknahndoonjaaGreatDoorRows
import GoSem.ClaimSeven
namespace Go.Proofs.YtekknahndoonjaaGreatDoor
namespace Rows

/-- THE TIED CARD OF 'inlaylaw25.DeviceNews'. -/
def deviceNewsCard : Claim7 := { stood := { row := deviceNewsRow, standIns := [], harness := (true, "323e93ef0a4ff5048d56b3c70efb26435510d8942fc1cdd09bbe0b844ec5c69b"), looks := true }, kinds := [], alts := [], laidByText := true, laidKinds := [.data, .data, .data, .data, .sentinel, .sentinel, .funcs, .pinned], laidTests := true, laidLooks := .later }
def DeviceNewsCardSaid : Prop := Claim7.holds Tryz.pinned (.plain (OpenSpec.ofChange deviceNewsSpec)) deviceNewsCard

/-- THE SECOND FORM's CARD OF 'inlaylaw25.DeviceNews'. -/
def deviceNewsUptoCard : Claim7 := { stood := { row := deviceNewsUptoRow, standIns := [], harness := (true, "323e93ef0a4ff5048d56b3c70efb26435510d8942fc1cdd09bbe0b844ec5c69b"), looks := true }, kinds := [], alts := [], laidByText := true, laidKinds := [.data, .data, .data, .data, .sentinel, .sentinel, .funcs, .pinned], laidTests := true, laidLooks := .later }
def DeviceNewsUptoCardSaid : Prop := Claim7.holds Tryz.pinned (.plain (OpenSpec.upto deviceNewsSpec)) deviceNewsUptoCard
end Rows
end Go.Proofs.YtekknahndoonjaaGreatDoor
