import Derived.Test.YtejbbceidnaloaaGreatDoorCards
import Derived.ProofKit
namespace Go.Proofs.YtejbbceidnaloaaGreatDoor.moveThere
open Go.ChangeShapes Go.WideShapes Go.ChangeAt Go.RowKit
set_option linter.unusedVariables false
set_option linter.unusedSimpArgs false
section
set_option maxRecDepth 100000
theorem fa : (Rows.moveThereRow.inPlace == Tryz.pinned.checked.prog.inPlace 15) = true := by kernel_rfl
theorem fb : (Rows.moveThereRow.named == Tryz.pinned.checked.prog.varsNamed 15) = true := by kernel_rfl
theorem fc : (Rows.moveThereRow.unfollowed == Tryz.pinned.checked.prog.unfollowed 15) = true := by kernel_rfl
theorem fd : (Rows.moveThereRow.recurses == Tryz.pinned.checked.prog.recurses 15) = true := by kernel_rfl
end
end Go.Proofs.YtejbbceidnaloaaGreatDoor.moveThere
