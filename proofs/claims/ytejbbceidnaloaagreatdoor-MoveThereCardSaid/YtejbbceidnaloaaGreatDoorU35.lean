import Derived.Test.YtejbbceidnaloaaGreatDoorCards
import Derived.ProofKit
namespace Go.Proofs.YtejbbceidnaloaaGreatDoor.moveThere
open Go.ChangeShapes Go.WideShapes Go.ChangeAt Go.RowKit
set_option linter.unusedVariables false
set_option linter.unusedSimpArgs false
section
set_option maxRecDepth 100000
theorem goes : false = Rows.moveThereRow.goesBy Tryz.pinned.checked.prog := by kernel_rfl
end
end Go.Proofs.YtejbbceidnaloaaGreatDoor.moveThere
