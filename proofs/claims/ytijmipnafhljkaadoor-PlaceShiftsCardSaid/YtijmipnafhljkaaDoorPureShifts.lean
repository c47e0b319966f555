/-
  PlaceShifts: Shift and Before as the document has them: the plain law and the contract.
-/
import Derived.Test.YtijmipnafhljkaaDoorPlainShift
import Derived.Test.YtijmipnafhljkaaDoorPlainBefore
import Derived.Test.YtijmipnafhljkaaDoorPx61
namespace Go.Proofs.YtijmipnafhljkaaDoor.P
open Go.RowKit Go.Proofs.YtijmipnafhljkaaDoorW.PrintWords Go.Proofs.YtijmipnafhljkaaDoorW.PrintLast Go.Proofs.YtijmipnafhljkaaDoorW.PrintMore
set_option linter.unusedVariables false
set_option linter.unusedSimpArgs false

theorem refRight_f (s r c : Int) : whittleref3_Right.f s r c = some (decide (cellP s r c)) := by
  unfold whittleref3_Right.f
  by_cases h : cellP s r c
  · obtain ⟨h1, h2, h3, h4, h5, h6⟩ := h
    simp [cellP, h1, h2, h3, h4, h5, h6]
  · rw [decide_eq_false h]
    unfold cellP at h
    by_cases h1 : s ≥ 0 <;> by_cases h2 : s < 16 <;> by_cases h3 : r ≥ 0 <;> by_cases h4 : r < 65536 <;> by_cases h5 : c ≥ 0 <;> by_cases h6 : c < 256 <;> simp [h1, h2, h3, h4, h5, h6] <;> omega
theorem refShift_eq (k : Nat) (s r c x y : Int) : whittleref3_Shift.f (k + 1) s r c x y = place_Shift.f (k + 1) s r c x y := by
  unfold whittleref3_Shift.f place_Shift.f
  simp only [Right_f, refRight_f, place_Shift.j0, whittleref3_Shift.j0]
theorem refBefore_eq (a b c d e f : Int) : whittleref3_Before.f a b c d e f = place_Before.f a b c d e f := rfl
theorem shifts_true (a0 a1 a2 b0 b1 b2 x y : Int) : whittlelaw3_PlaceShifts.f 1 a0 a1 a2 b0 b1 b2 x y = some true := by
  unfold whittlelaw3_PlaceShifts.f
  rw [refShift_eq 0, refBefore_eq, refBefore_eq, Shift_f, Before_f, Before_f, able_true]
  simp
theorem shifts_calls (W : World) (a0 a1 a2 : Int) (u0 : -9223372036854775808 ≤ a0 ∧ a0 ≤ 9223372036854775807) (u1 : -9223372036854775808 ≤ a1 ∧ a1 ≤ 9223372036854775807) (u2 : -9223372036854775808 ≤ a2 ∧ a2 ≤ 9223372036854775807)
    (b0 b1 b2 : Int) (v0 : -9223372036854775808 ≤ b0 ∧ b0 ≤ 9223372036854775807) (v1 : -9223372036854775808 ≤ b1 ∧ b1 ≤ 9223372036854775807) (v2 : -9223372036854775808 ≤ b2 ∧ b2 ≤ 9223372036854775807)
    (x : Int) (w0 : -9223372036854775808 ≤ x ∧ x ≤ 9223372036854775807) (y : Int) (w1 : -9223372036854775808 ≤ y ∧ y ≤ 9223372036854775807) :
    Calls Tryd.prog 8 #[.agg #[.int .i64 a0, .int .i64 a1, .int .i64 a2], .agg #[.int .i64 b0, .int .i64 b1, .int .i64 b2], .int .i64 x, .int .i64 y] W fun e w' => e = .returned (.bool true) ∧ Below W.heap.size W w' :=
  whittlelaw3_PlaceShifts.calls 1 _ _ _ _ _ _ _ _ true W (shifts_true _ _ _ _ _ _ _ _)
end Go.Proofs.YtijmipnafhljkaaDoor.P
