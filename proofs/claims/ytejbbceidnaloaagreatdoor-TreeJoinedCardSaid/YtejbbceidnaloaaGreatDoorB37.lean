import Derived.Test.YtejbbceidnaloaaGreatDoorCards
import Derived.ProofKit
set_option linter.unusedVariables false
set_option linter.unusedSimpArgs false
set_option maxRecDepth 100000
set_option maxHeartbeats 8000000
namespace Go.Proofs.YtejbbceidnaloaaGreatDoor.treeJoined
open Go.ChangeShapes Go.WideShapes Go.ChangeAt Go.RowKit
section
theorem fa : (Rows.treeJoinedRow.inPlace == Tryz.pinned.checked.prog.inPlace 10) = true := by kernel_rfl
theorem fb : (Rows.treeJoinedRow.named == Tryz.pinned.checked.prog.varsNamed 10) = true := by kernel_rfl
theorem fc : (Rows.treeJoinedRow.unfollowed == Tryz.pinned.checked.prog.unfollowed 10) = true := by kernel_rfl
theorem fd : (Rows.treeJoinedRow.recurses == Tryz.pinned.checked.prog.recurses 10) = true := by kernel_rfl
end
end Go.Proofs.YtejbbceidnaloaaGreatDoor.treeJoined
