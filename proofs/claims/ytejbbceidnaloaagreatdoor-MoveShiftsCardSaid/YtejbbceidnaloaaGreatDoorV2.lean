import Derived.Test.YtejbbceidnaloaaGreatDoorV1
import Derived.Test.YtejbbceidnaloaaGreatDoorV0
set_option linter.unusedVariables false
set_option linter.unusedSimpArgs false
set_option maxRecDepth 100000
set_option maxHeartbeats 8000000
namespace Go.Proofs.YtejbbceidnaloaaGreatDoor.moveShifts
open Go.ChangeShapes Go.WideShapes Go.ChangeAt Go.RowKit
section
theorem closed : joinedFacts Tryz.pinned.checked.prog 13 Tryz.f13 (OpenSpec.ofChange Rows.moveShiftsSpec).bare Rows.moveShiftsRow = true := by
  unfold joinedFacts
  rw [fa, fb, fc, fd, fe, ff, fg, fh, fi, fj]
  kernel_rfl
end
end Go.Proofs.YtejbbceidnaloaaGreatDoor.moveShifts
