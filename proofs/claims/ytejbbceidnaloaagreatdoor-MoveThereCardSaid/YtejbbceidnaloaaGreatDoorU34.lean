import Derived.Test.YtejbbceidnaloaaGreatDoorU33
import Derived.Test.YtejbbceidnaloaaGreatDoorU32
namespace Go.Proofs.YtejbbceidnaloaaGreatDoor.moveThere
open Go.ChangeShapes Go.WideShapes Go.ChangeAt Go.RowKit
set_option linter.unusedVariables false
set_option linter.unusedSimpArgs false
section
set_option maxRecDepth 100000
theorem closed : joinedFacts Tryz.pinned.checked.prog 15 Tryz.f15 (OpenSpec.ofChange Rows.moveThereSpec).bare Rows.moveThereRow = true := by
  unfold joinedFacts
  rw [fa, fb, fc, fd, fe, ff, fg, fh, fi, fj]
  kernel_rfl
end
end Go.Proofs.YtejbbceidnaloaaGreatDoor.moveThere
