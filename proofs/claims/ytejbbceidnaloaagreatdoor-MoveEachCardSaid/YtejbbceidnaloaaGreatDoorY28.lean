import Derived.Test.YtejbbceidnaloaaGreatDoorCards
import Derived.ProofKit
namespace Go.Proofs.YtejbbceidnaloaaGreatDoor.moveEach
open Go.ChangeShapes Go.WideShapes Go.ChangeAt Go.RowKit
set_option linter.unusedVariables false
set_option linter.unusedSimpArgs false
section
set_option maxRecDepth 100000
theorem fa : (Rows.moveEachRow.inPlace == Tryz.pinned.checked.prog.inPlace 20) = true := by kernel_rfl
theorem fb : (Rows.moveEachRow.named == Tryz.pinned.checked.prog.varsNamed 20) = true := by kernel_rfl
theorem fc : (Rows.moveEachRow.unfollowed == Tryz.pinned.checked.prog.unfollowed 20) = true := by kernel_rfl
theorem fd : (Rows.moveEachRow.recurses == Tryz.pinned.checked.prog.recurses 20) = true := by kernel_rfl
end
end Go.Proofs.YtejbbceidnaloaaGreatDoor.moveEach
