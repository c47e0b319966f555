import Derived.Test.YtejbbceidnaloaaGreatDoorK50
import Derived.Test.YtejbbceidnaloaaGreatDoorK49
namespace Go.Proofs.YtejbbceidnaloaaGreatDoor.treeOneForm
open Go.ChangeShapes Go.WideShapes Go.ChangeAt Go.RowKit
set_option linter.unusedVariables false
set_option linter.unusedSimpArgs false
section
set_option maxRecDepth 100000
theorem closed : joinedFacts Tryz.pinned.checked.prog 6 Tryz.f6 (OpenSpec.ofChange Rows.treeOneFormSpec).bare Rows.treeOneFormRow = true := by
  unfold joinedFacts
  rw [fa, fb, fc, fd, fe, ff, fg, fh, fi, fj]
  kernel_rfl
end
end Go.Proofs.YtejbbceidnaloaaGreatDoor.treeOneForm
