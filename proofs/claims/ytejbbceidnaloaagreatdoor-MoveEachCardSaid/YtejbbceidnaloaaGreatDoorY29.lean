import Derived.Test.YtejbbceidnaloaaGreatDoorY28
import Derived.Test.YtejbbceidnaloaaGreatDoorY27
namespace Go.Proofs.YtejbbceidnaloaaGreatDoor.moveEach
open Go.ChangeShapes Go.WideShapes Go.ChangeAt Go.RowKit
set_option linter.unusedVariables false
set_option linter.unusedSimpArgs false
section
set_option maxRecDepth 100000
theorem closed : joinedFacts Tryz.pinned.checked.prog 20 Tryz.f20 (OpenSpec.ofChange Rows.moveEachSpec).bare Rows.moveEachRow = true := by
  unfold joinedFacts
  rw [fa, fb, fc, fd, fe, ff, fg, fh, fi, fj]
  kernel_rfl
end
end Go.Proofs.YtejbbceidnaloaaGreatDoor.moveEach
