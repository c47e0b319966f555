import Derived.Test.YtejbbceidnaloaaGreatDoorK1
import Derived.Test.YtejbbceidnaloaaGreatDoorK0
namespace Go.Proofs.YtejbbceidnaloaaGreatDoor.treeBack
open Go.ChangeShapes Go.WideShapes Go.ChangeAt Go.RowKit
set_option linter.unusedVariables false
set_option linter.unusedSimpArgs false
section
set_option maxRecDepth 100000
theorem closed : joinedFacts Tryz.pinned.checked.prog 5 Tryz.f5 (OpenSpec.ofChange Rows.treeBackSpec).bare Rows.treeBackRow = true := by
  unfold joinedFacts
  rw [fa, fb, fc, fd, fe, ff, fg, fh, fi, fj]
  kernel_rfl
end
end Go.Proofs.YtejbbceidnaloaaGreatDoor.treeBack
