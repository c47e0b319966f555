import Derived.Test.YtejbbceidnaloaaGreatDoorCards
import Derived.ProofKit
set_option linter.unusedVariables false
set_option linter.unusedSimpArgs false
set_option maxRecDepth 100000
set_option maxHeartbeats 8000000
namespace Go.Proofs.YtejbbceidnaloaaGreatDoor.treeKids
open Go.ChangeShapes Go.WideShapes Go.ChangeAt Go.RowKit
section
theorem fa : (Rows.treeKidsRow.inPlace == Tryz.pinned.checked.prog.inPlace 8) = true := by kernel_rfl
theorem fb : (Rows.treeKidsRow.named == Tryz.pinned.checked.prog.varsNamed 8) = true := by kernel_rfl
theorem fc : (Rows.treeKidsRow.unfollowed == Tryz.pinned.checked.prog.unfollowed 8) = true := by kernel_rfl
theorem fd : (Rows.treeKidsRow.recurses == Tryz.pinned.checked.prog.recurses 8) = true := by kernel_rfl
end
end Go.Proofs.YtejbbceidnaloaaGreatDoor.treeKids
