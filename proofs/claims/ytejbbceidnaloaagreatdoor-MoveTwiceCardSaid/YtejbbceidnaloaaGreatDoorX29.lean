import Derived.Test.YtejbbceidnaloaaGreatDoorCards
import Derived.ProofKit
namespace Go.Proofs.YtejbbceidnaloaaGreatDoor.moveTwice
open Go.ChangeShapes Go.WideShapes Go.ChangeAt Go.RowKit
set_option linter.unusedVariables false
set_option linter.unusedSimpArgs false
section
set_option maxRecDepth 100000
theorem fa : (Rows.moveTwiceRow.inPlace == Tryz.pinned.checked.prog.inPlace 16) = true := by kernel_rfl
theorem fb : (Rows.moveTwiceRow.named == Tryz.pinned.checked.prog.varsNamed 16) = true := by kernel_rfl
theorem fc : (Rows.moveTwiceRow.unfollowed == Tryz.pinned.checked.prog.unfollowed 16) = true := by kernel_rfl
theorem fd : (Rows.moveTwiceRow.recurses == Tryz.pinned.checked.prog.recurses 16) = true := by kernel_rfl
end
end Go.Proofs.YtejbbceidnaloaaGreatDoor.moveTwice
