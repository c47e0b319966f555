import Derived.Test.YtejbbceidnaloaaGreatDoorCards
import Derived.ProofKit
set_option linter.unusedVariables false
set_option linter.unusedSimpArgs false
set_option maxRecDepth 100000
set_option maxHeartbeats 8000000
namespace Go.Proofs.YtejbbceidnaloaaGreatDoor.treeJoined
open Go.ChangeShapes Go.WideShapes Go.ChangeAt Go.RowKit
section
theorem fe : (Rows.treeJoinedRow.plainKeys == Tryz.pinned.checked.prog.plainKeys) = true := by kernel_rfl
theorem ff : Tryz.pinned.checked.prog.stopsHeard = true := by kernel_rfl
theorem fg : Tryz.pinned.checked.prog.mayEnter = true := by kernel_rfl
theorem fh : (Rows.treeJoinedRow.lifted == Tryz.pinned.checked.prog.liftsFinal) = true := by kernel_rfl
theorem fi : laidOutB Tryz.pinned.checked.prog = true := by kernel_rfl
theorem fj : mapsRowed Tryz.pinned.checked.prog = true := by kernel_rfl
end
end Go.Proofs.YtejbbceidnaloaaGreatDoor.treeJoined
