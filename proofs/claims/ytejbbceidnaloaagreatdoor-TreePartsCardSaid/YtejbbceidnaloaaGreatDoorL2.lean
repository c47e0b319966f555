import Derived.Test.YtejbbceidnaloaaGreatDoorL1
import Derived.Test.YtejbbceidnaloaaGreatDoorL0
namespace Go.Proofs.YtejbbceidnaloaaGreatDoor.treeParts
open Go.ChangeShapes Go.WideShapes Go.ChangeAt Go.RowKit
set_option linter.unusedVariables false
set_option linter.unusedSimpArgs false
section
set_option maxRecDepth 100000
theorem closed : joinedFacts Tryz.pinned.checked.prog 11 Tryz.f11 (OpenSpec.ofChange Rows.treePartsSpec).bare Rows.treePartsRow = true := by
  unfold joinedFacts
  rw [fa, fb, fc, fd, fe, ff, fg, fh, fi, fj]
  kernel_rfl
end
end Go.Proofs.YtejbbceidnaloaaGreatDoor.treeParts
