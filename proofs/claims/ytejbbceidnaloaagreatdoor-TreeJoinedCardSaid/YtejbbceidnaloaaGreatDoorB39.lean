import Derived.Test.YtejbbceidnaloaaGreatDoorCards
import Derived.ProofKit
set_option linter.unusedVariables false
set_option linter.unusedSimpArgs false
set_option maxRecDepth 100000
set_option maxHeartbeats 8000000
namespace Go.Proofs.YtejbbceidnaloaaGreatDoor.treeJoined
open Go.ChangeShapes Go.WideShapes Go.ChangeAt Go.RowKit
section
theorem goes : false = Rows.treeJoinedRow.goesBy Tryz.pinned.checked.prog := by kernel_rfl
end
end Go.Proofs.YtejbbceidnaloaaGreatDoor.treeJoined
