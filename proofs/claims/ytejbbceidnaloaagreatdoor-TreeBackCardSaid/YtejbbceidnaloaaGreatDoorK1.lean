import Derived.Test.YtejbbceidnaloaaGreatDoorCards
import Derived.ProofKit
namespace Go.Proofs.YtejbbceidnaloaaGreatDoor.treeBack
open Go.ChangeShapes Go.WideShapes Go.ChangeAt Go.RowKit
set_option linter.unusedVariables false
set_option linter.unusedSimpArgs false
section
set_option maxRecDepth 100000
theorem fa : (Rows.treeBackRow.inPlace == Tryz.pinned.checked.prog.inPlace 5) = true := by kernel_rfl
theorem fb : (Rows.treeBackRow.named == Tryz.pinned.checked.prog.varsNamed 5) = true := by kernel_rfl
theorem fc : (Rows.treeBackRow.unfollowed == Tryz.pinned.checked.prog.unfollowed 5) = true := by kernel_rfl
theorem fd : (Rows.treeBackRow.recurses == Tryz.pinned.checked.prog.recurses 5) = true := by kernel_rfl
end
end Go.Proofs.YtejbbceidnaloaaGreatDoor.treeBack
