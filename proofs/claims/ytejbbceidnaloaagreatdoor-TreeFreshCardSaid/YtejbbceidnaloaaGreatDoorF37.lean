import Derived.Test.YtejbbceidnaloaaGreatDoorF36
import Derived.Test.YtejbbceidnaloaaGreatDoorF35
set_option linter.unusedVariables false
set_option linter.unusedSimpArgs false
set_option maxRecDepth 100000
set_option maxHeartbeats 8000000
namespace Go.Proofs.YtejbbceidnaloaaGreatDoor.treeFresh
open Go.ChangeShapes Go.WideShapes Go.ChangeAt Go.RowKit
section
theorem closed : joinedFacts Tryz.pinned.checked.prog 9 Tryz.f9 (OpenSpec.ofChange Rows.treeFreshSpec).bare Rows.treeFreshRow = true := by
  unfold joinedFacts
  rw [fa, fb, fc, fd, fe, ff, fg, fh, fi, fj]
  kernel_rfl
end
end Go.Proofs.YtejbbceidnaloaaGreatDoor.treeFresh
