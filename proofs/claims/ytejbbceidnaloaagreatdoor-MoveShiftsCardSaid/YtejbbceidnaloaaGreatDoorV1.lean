import Derived.Test.YtejbbceidnaloaaGreatDoorCards
import Derived.ProofKit
set_option linter.unusedVariables false
set_option linter.unusedSimpArgs false
set_option maxRecDepth 100000
set_option maxHeartbeats 8000000
namespace Go.Proofs.YtejbbceidnaloaaGreatDoor.moveShifts
open Go.ChangeShapes Go.WideShapes Go.ChangeAt Go.RowKit
section
theorem fa : (Rows.moveShiftsRow.inPlace == Tryz.pinned.checked.prog.inPlace 13) = true := by kernel_rfl
theorem fb : (Rows.moveShiftsRow.named == Tryz.pinned.checked.prog.varsNamed 13) = true := by kernel_rfl
theorem fc : (Rows.moveShiftsRow.unfollowed == Tryz.pinned.checked.prog.unfollowed 13) = true := by kernel_rfl
theorem fd : (Rows.moveShiftsRow.recurses == Tryz.pinned.checked.prog.recurses 13) = true := by kernel_rfl
end
end Go.Proofs.YtejbbceidnaloaaGreatDoor.moveShifts
