import Derived.Test.YtejbbceidnaloaaGreatDoorCards
import Derived.ProofKit
set_option linter.unusedVariables false
set_option linter.unusedSimpArgs false
set_option maxRecDepth 100000
set_option maxHeartbeats 8000000
namespace Go.Proofs.YtejbbceidnaloaaGreatDoor.treeFresh
open Go.ChangeShapes Go.WideShapes Go.ChangeAt Go.RowKit
section
theorem fa : (Rows.treeFreshRow.inPlace == Tryz.pinned.checked.prog.inPlace 9) = true := by kernel_rfl
theorem fb : (Rows.treeFreshRow.named == Tryz.pinned.checked.prog.varsNamed 9) = true := by kernel_rfl
theorem fc : (Rows.treeFreshRow.unfollowed == Tryz.pinned.checked.prog.unfollowed 9) = true := by kernel_rfl
theorem fd : (Rows.treeFreshRow.recurses == Tryz.pinned.checked.prog.recurses 9) = true := by kernel_rfl
end
end Go.Proofs.YtejbbceidnaloaaGreatDoor.treeFresh
