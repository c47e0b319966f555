import Derived.Test.YtejbbceidnaloaaGreatDoorCards
import Derived.ProofKit
namespace Go.Proofs.YtejbbceidnaloaaGreatDoor.moveRefs
open Go.ChangeShapes Go.WideShapes Go.ChangeAt Go.RowKit
set_option linter.unusedVariables false
set_option linter.unusedSimpArgs false
section
set_option maxRecDepth 100000
theorem fa : (Rows.moveRefsRow.inPlace == Tryz.pinned.checked.prog.inPlace 17) = true := by kernel_rfl
theorem fb : (Rows.moveRefsRow.named == Tryz.pinned.checked.prog.varsNamed 17) = true := by kernel_rfl
theorem fc : (Rows.moveRefsRow.unfollowed == Tryz.pinned.checked.prog.unfollowed 17) = true := by kernel_rfl
theorem fd : (Rows.moveRefsRow.recurses == Tryz.pinned.checked.prog.recurses 17) = true := by kernel_rfl
end
end Go.Proofs.YtejbbceidnaloaaGreatDoor.moveRefs
