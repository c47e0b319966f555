import Derived.Test.YtejbbceidnaloaaGreatDoorU27
import Derived.Test.YtejbbceidnaloaaGreatDoorU26
namespace Go.Proofs.YtejbbceidnaloaaGreatDoor.moveRefs
open Go.ChangeShapes Go.WideShapes Go.ChangeAt Go.RowKit
set_option linter.unusedVariables false
set_option linter.unusedSimpArgs false
section
set_option maxRecDepth 100000
theorem closed : joinedFacts Tryz.pinned.checked.prog 17 Tryz.f17 (OpenSpec.ofChange Rows.moveRefsSpec).bare Rows.moveRefsRow = true := by
  unfold joinedFacts
  rw [fa, fb, fc, fd, fe, ff, fg, fh, fi, fj]
  kernel_rfl
end
end Go.Proofs.YtejbbceidnaloaaGreatDoor.moveRefs
