import Derived.Test.YtejbbceidnaloaaGreatDoorX29
import Derived.Test.YtejbbceidnaloaaGreatDoorX28
namespace Go.Proofs.YtejbbceidnaloaaGreatDoor.moveTwice
open Go.ChangeShapes Go.WideShapes Go.ChangeAt Go.RowKit
set_option linter.unusedVariables false
set_option linter.unusedSimpArgs false
section
set_option maxRecDepth 100000
theorem closed : joinedFacts Tryz.pinned.checked.prog 16 Tryz.f16 (OpenSpec.ofChange Rows.moveTwiceSpec).bare Rows.moveTwiceRow = true := by
  unfold joinedFacts
  rw [fa, fb, fc, fd, fe, ff, fg, fh, fi, fj]
  kernel_rfl
end
end Go.Proofs.YtejbbceidnaloaaGreatDoor.moveTwice
