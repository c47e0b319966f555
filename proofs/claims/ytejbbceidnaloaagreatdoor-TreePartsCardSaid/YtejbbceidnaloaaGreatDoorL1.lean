import Derived.Test.YtejbbceidnaloaaGreatDoorCards
import Derived.ProofKit
namespace Go.Proofs.YtejbbceidnaloaaGreatDoor.treeParts
open Go.ChangeShapes Go.WideShapes Go.ChangeAt Go.RowKit
set_option linter.unusedVariables false
set_option linter.unusedSimpArgs false
section
set_option maxRecDepth 100000
theorem fa : (Rows.treePartsRow.inPlace == Tryz.pinned.checked.prog.inPlace 11) = true := by kernel_rfl
theorem fb : (Rows.treePartsRow.named == Tryz.pinned.checked.prog.varsNamed 11) = true := by kernel_rfl
theorem fc : (Rows.treePartsRow.unfollowed == Tryz.pinned.checked.prog.unfollowed 11) = true := by kernel_rfl
theorem fd : (Rows.treePartsRow.recurses == Tryz.pinned.checked.prog.recurses 11) = true := by kernel_rfl
end
end Go.Proofs.YtejbbceidnaloaaGreatDoor.treeParts
