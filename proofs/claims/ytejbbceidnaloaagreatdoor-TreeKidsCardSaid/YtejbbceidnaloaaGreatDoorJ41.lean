import Derived.Test.YtejbbceidnaloaaGreatDoorJ40
import Derived.Test.YtejbbceidnaloaaGreatDoorJ39
set_option linter.unusedVariables false
set_option linter.unusedSimpArgs false
set_option maxRecDepth 100000
set_option maxHeartbeats 8000000
namespace Go.Proofs.YtejbbceidnaloaaGreatDoor.treeKids
open Go.ChangeShapes Go.WideShapes Go.ChangeAt Go.RowKit
section
theorem closed : joinedFacts Tryz.pinned.checked.prog 8 Tryz.f8 (OpenSpec.ofChange Rows.treeKidsSpec).bare Rows.treeKidsRow = true := by
  unfold joinedFacts
  rw [fa, fb, fc, fd, fe, ff, fg, fh, fi, fj]
  kernel_rfl
end
end Go.Proofs.YtejbbceidnaloaaGreatDoor.treeKids
