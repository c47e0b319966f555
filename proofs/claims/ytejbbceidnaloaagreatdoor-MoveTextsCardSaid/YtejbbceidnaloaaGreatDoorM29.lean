import Derived.Test.YtejbbceidnaloaaGreatDoorCards
import Derived.ProofKit
namespace Go.Proofs.YtejbbceidnaloaaGreatDoor.moveTexts
open Go.ChangeShapes Go.WideShapes Go.ChangeAt Go.RowKit
set_option linter.unusedVariables false
set_option linter.unusedSimpArgs false
section
set_option maxRecDepth 100000
theorem fa : (Rows.moveTextsRow.inPlace == Tryz.pinned.checked.prog.inPlace 18) = true := by kernel_rfl
theorem fb : (Rows.moveTextsRow.named == Tryz.pinned.checked.prog.varsNamed 18) = true := by kernel_rfl
theorem fc : (Rows.moveTextsRow.unfollowed == Tryz.pinned.checked.prog.unfollowed 18) = true := by kernel_rfl
theorem fd : (Rows.moveTextsRow.recurses == Tryz.pinned.checked.prog.recurses 18) = true := by kernel_rfl
end
end Go.Proofs.YtejbbceidnaloaaGreatDoor.moveTexts
