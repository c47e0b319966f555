/-
  PlaceThere: there and back: the plain law and the contract.
-/
import Derived.Test.YtijmipnafhljkaaDoorPlainShift
import Derived.Test.YtijmipnafhljkaaDoorPtThere
namespace Go.Proofs.YtijmipnafhljkaaDoor.P
open Go.RowKit Go.Proofs.YtijmipnafhljkaaDoorW.PrintWords Go.Proofs.YtijmipnafhljkaaDoorW.PrintLast Go.Proofs.YtijmipnafhljkaaDoorW.PrintMore
set_option linter.unusedVariables false
set_option linter.unusedSimpArgs false

theorem there_true (s r c x y m : Int) (hm : -9223372036854775808 ≤ m ∧ m ≤ 9223372036854775807) : whittlelaw3_PlaceThere.f 2 s r c x y m = some true := by
  unfold whittlelaw3_PlaceThere.f
  simp only [able_true, Option.bind_some, if_true, Shift_f]
  by_cases h : shiftP s r c x y
  · have h' := h
    obtain ⟨h1, h2, h3, h4, h5, h6⟩ := h'
    have h1' := h1
    have h6' := h6
    unfold cellP at h1' h6'
    have e1 : wrap64 (r + x) = r + x := by unfold wrap64; omega
    have e2 : wrap64 (c + y) = c + y := by unfold wrap64; omega
    have e3 : wrap64 (-x) = -x := by unfold wrap64; omega
    have e4 : wrap64 (-y) = -y := by unfold wrap64; omega
    have hb : shiftP s (r + x) (c + y) (-x) (-y) := by
      refine ⟨h6, by omega, by omega, by omega, by omega, ?_⟩
      unfold cellP; omega
    have f1 : r + x + -x = r := by omega
    have f2 : c + y + -y = c := by omega
    rw [if_pos h]
    simp only [if_true, e1, e2, Right_f, Option.bind_some, h6, decide_true, Bool.not_true, whittlelaw3_PlaceThere.j0, Bool.false_eq_true, if_false, Shift_f, e3, e4, hb, f1, f2, beq_self_eq_true, Bool.and_self]
    by_cases k1 : m > -200000
    · by_cases k2 : m < 200000
      · have e5 : wrap64 (x + m) = x + m := by unfold wrap64; omega
        rw [if_pos k1, if_pos k2, e5]
        by_cases hz : shiftP s (r + x) (c + y) m 0
        · have hw : shiftP s r c (x + m) y := by
            obtain ⟨z1, z2, z3, z4, z5, z6⟩ := hz
            unfold cellP at z6
            refine ⟨h1, by omega, by omega, h4, h5, ?_⟩
            unfold cellP; omega
          rw [if_pos hz, if_pos hw]
          have g1 : r + x + m = r + (x + m) := by omega
          simp [g1]
        · have hw : ¬ shiftP s r c (x + m) y := by
            intro z
            apply hz
            obtain ⟨z1, z2, z3, z4, z5, z6⟩ := z
            unfold cellP at z6
            refine ⟨h6, by omega, by omega, by omega, by omega, ?_⟩
            unfold cellP; omega
          rw [if_neg hz, if_neg hw]
          simp
      · have hz : ¬ shiftP s (r + x) (c + y) m 0 := fun z => by have := z.2.2.1; omega
        rw [if_pos k1, if_neg k2, if_neg hz]
        simp
    · have hz : ¬ shiftP s (r + x) (c + y) m 0 := fun z => by have := z.2.1; omega
      rw [if_neg k1, if_neg hz]
      simp
  · rw [if_neg h]
    simp
theorem there_calls (W : World) (a0 a1 a2 : Int) (u0 : -9223372036854775808 ≤ a0 ∧ a0 ≤ 9223372036854775807) (u1 : -9223372036854775808 ≤ a1 ∧ a1 ≤ 9223372036854775807) (u2 : -9223372036854775808 ≤ a2 ∧ a2 ≤ 9223372036854775807)
    (x : Int) (w0 : -9223372036854775808 ≤ x ∧ x ≤ 9223372036854775807) (y : Int) (w1 : -9223372036854775808 ≤ y ∧ y ≤ 9223372036854775807) (m : Int) (w2 : -9223372036854775808 ≤ m ∧ m ≤ 9223372036854775807) :
    Calls Tryd.prog 6 #[.agg #[.int .i64 a0, .int .i64 a1, .int .i64 a2], .int .i64 x, .int .i64 y, .int .i64 m] W fun e w' => e = .returned (.bool true) ∧ Below W.heap.size W w' :=
  whittlelaw3_PlaceThere.calls 2 _ _ _ _ _ _ true W ⟨rfl⟩ (there_true _ _ _ _ _ _ w2)
end Go.Proofs.YtijmipnafhljkaaDoor.P
