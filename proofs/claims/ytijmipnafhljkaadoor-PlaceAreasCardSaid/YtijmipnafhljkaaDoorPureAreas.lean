/-
  PlaceAreas: One, Meet, Size, Has, At, Index as the document has them: the plain law and the contract.
-/
import Derived.Test.YtijmipnafhljkaaDoorPlainRef
import Derived.Test.YtijmipnafhljkaaDoorPlainHull
import Derived.Test.YtijmipnafhljkaaDoorPxAreas
namespace Go.Proofs.YtijmipnafhljkaaDoor.P
open Go.RowKit Go.Proofs.YtijmipnafhljkaaDoorW.PrintWords Go.Proofs.YtijmipnafhljkaaDoorW.PrintLast Go.Proofs.YtijmipnafhljkaaDoorW.PrintMore
set_option linter.unusedVariables false
set_option linter.unusedSimpArgs false

theorem One_f (k : Nat) (s r c : Int) : place_One.f (k + 2) s r c = some (if cellP s r c then (s, r, c, r, c, true) else (0, 0, 0, 0, 0, false)) := by
  unfold place_One.f
  rw [Hull_f _ (by simp) _ (by simp)]
  unfold hullV
  simp only [hullGo, Option.bind_some]
  by_cases h : cellP s r c
  · rw [if_pos ⟨h, trivial⟩, if_pos h]
    simp [hullStep, mn, mx]
  · rw [if_neg (fun z => h z.1), if_neg h]
theorem areas_true (a0 a1 a2 a3 a4 b0 b1 b2 b3 b4 c0 c1 c2 n : Int) : whittlelaw3_PlaceAreas.f 2 a0 a1 a2 a3 a4 b0 b1 b2 b3 b4 c0 c1 c2 n = some true := by
  unfold whittlelaw3_PlaceAreas.f
  rw [One_f 0, refOne_f, Meet_f, refMeet_f, At_f, refAt_f, Index_f, refIndex_f]
  simp only [Option.bind_some, beq_self_eq_true, Bool.not_true, Bool.or_self, Bool.false_eq_true, if_false, bne_self_eq_false, if_true]
  simp only [whittlelaw3_PlaceAreas.j0, able_true, Size_f, refSize_f, Has_f, refHas_f, Option.bind_some, Bool.false_eq_true, if_false, if_true, beq_self_eq_true]
theorem areas_calls (W : World) (a0 a1 a2 a3 a4 : Int) (u0 : -9223372036854775808 ≤ a0 ∧ a0 ≤ 9223372036854775807) (u1 : -9223372036854775808 ≤ a1 ∧ a1 ≤ 9223372036854775807) (u2 : -9223372036854775808 ≤ a2 ∧ a2 ≤ 9223372036854775807) (u3 : -9223372036854775808 ≤ a3 ∧ a3 ≤ 9223372036854775807) (u4 : -9223372036854775808 ≤ a4 ∧ a4 ≤ 9223372036854775807)
    (b0 b1 b2 b3 b4 : Int) (x0 : -9223372036854775808 ≤ b0 ∧ b0 ≤ 9223372036854775807) (x1 : -9223372036854775808 ≤ b1 ∧ b1 ≤ 9223372036854775807) (x2 : -9223372036854775808 ≤ b2 ∧ b2 ≤ 9223372036854775807) (x3 : -9223372036854775808 ≤ b3 ∧ b3 ≤ 9223372036854775807) (x4 : -9223372036854775808 ≤ b4 ∧ b4 ≤ 9223372036854775807)
    (c0 c1 c2 : Int) (w0 : -9223372036854775808 ≤ c0 ∧ c0 ≤ 9223372036854775807) (w1 : -9223372036854775808 ≤ c1 ∧ c1 ≤ 9223372036854775807) (w2 : -9223372036854775808 ≤ c2 ∧ c2 ≤ 9223372036854775807) (n : Int) (v : -9223372036854775808 ≤ n ∧ n ≤ 9223372036854775807) :
    Calls Tryd.prog 13 #[.agg #[.int .i64 a0, .int .i64 a1, .int .i64 a2, .int .i64 a3, .int .i64 a4], .agg #[.int .i64 b0, .int .i64 b1, .int .i64 b2, .int .i64 b3, .int .i64 b4], .agg #[.int .i64 c0, .int .i64 c1, .int .i64 c2], .int .i64 n] W fun e w' => e = .returned (.bool true) ∧ Below W.heap.size W w' :=
  whittlelaw3_PlaceAreas.calls 2 _ _ _ _ _ _ _ _ _ _ _ _ _ _ true W (areas_true _ _ _ _ _ _ _ _ _ _ _ _ _ _)
end Go.Proofs.YtijmipnafhljkaaDoor.P
