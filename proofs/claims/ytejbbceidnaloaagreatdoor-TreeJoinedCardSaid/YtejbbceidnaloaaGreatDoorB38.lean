import Derived.Test.YtejbbceidnaloaaGreatDoorB37
import Derived.Test.YtejbbceidnaloaaGreatDoorB36
set_option linter.unusedVariables false
set_option linter.unusedSimpArgs false
set_option maxRecDepth 100000
set_option maxHeartbeats 8000000
namespace Go.Proofs.YtejbbceidnaloaaGreatDoor.treeJoined
open Go.ChangeShapes Go.WideShapes Go.ChangeAt Go.RowKit
section
theorem closed : joinedFacts Tryz.pinned.checked.prog 10 Tryz.f10 (OpenSpec.ofChange Rows.treeJoinedSpec).bare Rows.treeJoinedRow = true := by
  unfold joinedFacts
  rw [fa, fb, fc, fd, fe, ff, fg, fh, fi, fj]
  kernel_rfl
end
end Go.Proofs.YtejbbceidnaloaaGreatDoor.treeJoined
