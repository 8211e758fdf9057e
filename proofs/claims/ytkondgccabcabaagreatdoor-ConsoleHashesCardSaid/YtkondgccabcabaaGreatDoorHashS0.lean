/-
ConsoleHashes: a world in which the law can be called.
Conditions: none.
-/
import Derived.Test.YtkondgccabcabaaGreatDoorCards
import Derived.Lay
import Derived.LaidOnce
import Derived.SevenTiedAt
import Derived.Stop.Joined
import Derived.Clock
import Derived.Test.YtkondgccabcabaaGreatDoorHashRowA
set_option linter.unusedVariables false
set_option linter.unusedSimpArgs false
set_option maxRecDepth 100000
namespace Go.Proofs.YtkondgccabcabaaGreatDoor
open Go.ChangeShapes Go.WideShapes Go.ChangeAt Go.RowKit
noncomputable def wA (os : Os) : World := World.laidAll Tryz.prog os Rows.consoleHashesRow.laid
noncomputable def wB (os : Os) : World := (wA os).forCall (fun _ _ => 0) ⟨#[], #[.slice none 0 0], []⟩
end Go.Proofs.YtkondgccabcabaaGreatDoor
