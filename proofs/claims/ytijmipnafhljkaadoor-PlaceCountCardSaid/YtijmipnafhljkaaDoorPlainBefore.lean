/-
  Before, plainly.
-/
import Derived.Test.YtijmipnafhljkaaDoorPlain
import Derived.Test.YtijmipnafhljkaaDoorPx51
namespace Go.Proofs.YtijmipnafhljkaaDoor.P
open Go.RowKit Go.Proofs.YtijmipnafhljkaaDoorW.PrintWords Go.Proofs.YtijmipnafhljkaaDoorW.PrintLast Go.Proofs.YtijmipnafhljkaaDoorW.PrintMore
set_option linter.unusedVariables false
set_option linter.unusedSimpArgs false

def beforeP (a b c d e f : Int) : Prop := a < d ∨ a = d ∧ (b < e ∨ b = e ∧ c < f)
instance (a b c d e f : Int) : Decidable (beforeP a b c d e f) := by unfold beforeP; infer_instance
theorem Before_f (a b c d e f : Int) : place_Before.f a b c d e f = some (decide (beforeP a b c d e f)) := by
  unfold place_Before.f beforeP
  by_cases h : a = d <;> by_cases h' : b = e <;> simp [h, h']
end Go.Proofs.YtijmipnafhljkaaDoor.P
