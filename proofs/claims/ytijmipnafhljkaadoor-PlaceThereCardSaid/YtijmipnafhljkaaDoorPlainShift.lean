/-
  Shift, plainly.
-/
import Derived.Test.YtijmipnafhljkaaDoorPlain
import Derived.Test.YtijmipnafhljkaaDoorPx53
namespace Go.Proofs.YtijmipnafhljkaaDoor.P
open Go.RowKit Go.Proofs.YtijmipnafhljkaaDoorW.PrintWords Go.Proofs.YtijmipnafhljkaaDoorW.PrintLast Go.Proofs.YtijmipnafhljkaaDoorW.PrintMore
set_option linter.unusedVariables false
set_option linter.unusedSimpArgs false

/-- May a cell be moved so far, and where does it come to? -/
def shiftP (s r c x y : Int) : Prop := cellP s r c ∧ -65536 ≤ x ∧ x ≤ 65536 ∧ -256 ≤ y ∧ y ≤ 256 ∧ cellP s (r + x) (c + y)
instance (s r c x y : Int) : Decidable (shiftP s r c x y) := by unfold shiftP; infer_instance
theorem Shift_f (k : Nat) (s r c x y : Int) : place_Shift.f (k + 1) s r c x y = some (if shiftP s r c x y then (s, r + x, c + y, true) else (0, 0, 0, false)) := by
  unfold place_Shift.f
  simp only [Right_f, Option.bind_some, decide_eq_true_eq, place_Shift.j0]
  by_cases h : cellP s r c
  · by_cases h1 : x < -65536
    · rw [if_pos h, if_pos h1, if_pos trivial, if_neg (by unfold shiftP; omega)]
    · by_cases h2 : x > 65536
      · rw [if_pos h, if_neg h1, if_pos h2, if_pos trivial, if_neg (by unfold shiftP; omega)]
      · by_cases h3 : y < -256
        · rw [if_pos h, if_neg h1, if_neg h2, if_pos h3, if_pos trivial, if_neg (by unfold shiftP; omega)]
        · rw [if_pos h, if_neg h1, if_neg h2, if_neg h3]
          by_cases h4 : y > 256
          · rw [if_pos h4, if_neg (by unfold shiftP; omega)]
          · have e1 : wrap64 (r + x) = r + x := by unfold cellP at h; unfold wrap64; omega
            have e2 : wrap64 (c + y) = c + y := by unfold cellP at h; unfold wrap64; omega
            rw [if_neg h4, e1, e2]
            by_cases h5 : cellP s (r + x) (c + y)
            · rw [if_pos h5, if_pos (by unfold shiftP; exact ⟨h, by omega, by omega, by omega, by omega, h5⟩)]
            · rw [if_neg h5, if_neg (by unfold shiftP; exact fun z => h5 z.2.2.2.2.2)]
  · rw [if_neg h, if_pos trivial, if_neg (by unfold shiftP; exact fun z => h z.1)]
end Go.Proofs.YtijmipnafhljkaaDoor.P
