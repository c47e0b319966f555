import Derived.Test.YtejbbceidnaloaaGreatDoorM29
import Derived.Test.YtejbbceidnaloaaGreatDoorM28
namespace Go.Proofs.YtejbbceidnaloaaGreatDoor.moveTexts
open Go.ChangeShapes Go.WideShapes Go.ChangeAt Go.RowKit
set_option linter.unusedVariables false
set_option linter.unusedSimpArgs false
section
set_option maxRecDepth 100000
theorem closed : joinedFacts Tryz.pinned.checked.prog 18 Tryz.f18 (OpenSpec.ofChange Rows.moveTextsSpec).bare Rows.moveTextsRow = true := by
  unfold joinedFacts
  rw [fa, fb, fc, fd, fe, ff, fg, fh, fi, fj]
  kernel_rfl
end
end Go.Proofs.YtejbbceidnaloaaGreatDoor.moveTexts
