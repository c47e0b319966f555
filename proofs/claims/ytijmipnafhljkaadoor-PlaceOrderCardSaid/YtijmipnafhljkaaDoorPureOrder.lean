/-
  PlaceOrder: Before is an order of cells: the plain law.
-/
import Derived.Test.YtijmipnafhljkaaDoorPx52
import Derived.Test.YtijmipnafhljkaaDoorPlain
namespace Go.Proofs.YtijmipnafhljkaaDoor.P
open Go.RowKit Go.Proofs.YtijmipnafhljkaaDoorW.PrintWords Go.Proofs.YtijmipnafhljkaaDoorW.PrintLast Go.Proofs.YtijmipnafhljkaaDoorW.PrintMore
set_option linter.unusedVariables false
set_option linter.unusedSimpArgs false

def beforeP (a b c d e f : Int) : Prop := a < d ∨ a = d ∧ (b < e ∨ b = e ∧ c < f)
instance (a b c d e f : Int) : Decidable (beforeP a b c d e f) := by unfold beforeP; infer_instance
theorem Before_f (a b c d e f : Int) : place_Before.f a b c d e f = some (decide (beforeP a b c d e f)) := by
  unfold place_Before.f beforeP
  by_cases h : a = d <;> by_cases h' : b = e <;> simp [h, h']

theorem order_true (a0 a1 a2 b0 b1 b2 c0 c1 c2 : Int) : whittlelaw3_PlaceOrder.f 9 a0 a1 a2 b0 b1 b2 c0 c1 c2 = some true := by
  unfold whittlelaw3_PlaceOrder.f
  have n0 : ¬ beforeP a0 a1 a2 a0 a1 a2 := by unfold beforeP; omega
  simp only [able_true, Option.bind_some, Before_f, decide_eq_true_eq, if_true, n0, if_false, whittlelaw3_PlaceOrder.j0, whittlelaw3_PlaceOrder.j1]
  by_cases h1 : beforeP a0 a1 a2 b0 b1 b2
  · have n1 : ¬ beforeP b0 b1 b2 a0 a1 a2 := by unfold beforeP at *; omega
    simp only [h1, n1, if_true, if_false, decide_false, Bool.false_eq_true]
    by_cases h2 : beforeP b0 b1 b2 c0 c1 c2
    · have h3 : beforeP a0 a1 a2 c0 c1 c2 := by unfold beforeP at *; omega
      simp [h2, h3]
    · simp [h2]
  · by_cases h2 : beforeP b0 b1 b2 a0 a1 a2
    · simp [h1, h2]
    · have e : a0 = b0 ∧ a1 = b1 ∧ a2 = b2 := by unfold beforeP at *; omega
      obtain ⟨rfl, rfl, rfl⟩ := e
      simp [h1, n0]

theorem order_calls (W : World) (a0 a1 a2 : Int) (u0 : -9223372036854775808 ≤ a0 ∧ a0 ≤ 9223372036854775807) (u1 : -9223372036854775808 ≤ a1 ∧ a1 ≤ 9223372036854775807) (u2 : -9223372036854775808 ≤ a2 ∧ a2 ≤ 9223372036854775807)
    (b0 b1 b2 : Int) (v0 : -9223372036854775808 ≤ b0 ∧ b0 ≤ 9223372036854775807) (v1 : -9223372036854775808 ≤ b1 ∧ b1 ≤ 9223372036854775807) (v2 : -9223372036854775808 ≤ b2 ∧ b2 ≤ 9223372036854775807)
    (c0 c1 c2 : Int) (w0 : -9223372036854775808 ≤ c0 ∧ c0 ≤ 9223372036854775807) (w1 : -9223372036854775808 ≤ c1 ∧ c1 ≤ 9223372036854775807) (w2 : -9223372036854775808 ≤ c2 ∧ c2 ≤ 9223372036854775807) :
    Calls Tryd.prog 5 #[.agg #[.int .i64 a0, .int .i64 a1, .int .i64 a2], .agg #[.int .i64 b0, .int .i64 b1, .int .i64 b2], .agg #[.int .i64 c0, .int .i64 c1, .int .i64 c2]] W fun e w' => e = .returned (.bool true) ∧ Below W.heap.size W w' :=
  whittlelaw3_PlaceOrder.calls 9 _ _ _ _ _ _ _ _ _ true W (order_true _ _ _ _ _ _ _ _ _)
end Go.Proofs.YtijmipnafhljkaaDoor.P
