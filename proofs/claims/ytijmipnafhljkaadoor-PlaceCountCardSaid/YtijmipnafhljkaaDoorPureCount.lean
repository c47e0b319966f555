/-
  PlaceCount: At and Index undo one another, and tell the order of cells: the plain law and the contract.
-/
import Derived.Test.YtijmipnafhljkaaDoorPlainAt
import Derived.Test.YtijmipnafhljkaaDoorPlainBefore
import Derived.Test.YtijmipnafhljkaaDoorPx64
namespace Go.Proofs.YtijmipnafhljkaaDoor.P
open Go.RowKit Go.Proofs.YtijmipnafhljkaaDoorW.PrintWords Go.Proofs.YtijmipnafhljkaaDoorW.PrintLast Go.Proofs.YtijmipnafhljkaaDoorW.PrintMore
set_option linter.unusedVariables false
set_option linter.unusedSimpArgs false

theorem count_true (a0 a1 a2 a3 a4 n c0 c1 c2 : Int) : whittlelaw3_PlaceCount.f 3 a0 a1 a2 a3 a4 n c0 c1 c2 = some true := by
  have tail : ∀ k, whittlelaw3_PlaceCount.j1 (k + 2) a0 a1 a2 a3 a4 c0 c1 c2 = some true := by
    intro k
    simp only [whittlelaw3_PlaceCount.j1, Index_f, Has_f, At_f, Option.bind_some]
    by_cases h : hasP a0 a1 a2 a3 a4 c0 c1 c2
    · have e : indexV a0 a1 a2 a3 a4 c0 c1 c2 = ((c1 - a1) * (a4 - a2 + 1) + c2 - a2, true) := by unfold indexV; rw [if_pos h]
      rw [e]
      simp only
      rw [at_index h]
      simp [h]
    · have e : indexV a0 a1 a2 a3 a4 c0 c1 c2 = (0, false) := by unfold indexV; rw [if_neg h]
      rw [e]
      simp [h]
  unfold whittlelaw3_PlaceCount.f
  simp only [able_true, At_f, Size_f, Option.bind_some, if_true]
  by_cases h : 0 ≤ n ∧ n < sizeV a0 a1 a2 a3 a4
  · have e : atV a0 a1 a2 a3 a4 n = (a0, a1 + n / (a4 - a2 + 1), a2 + n % (a4 - a2 + 1), true) := by unfold atV; rw [if_pos h]
    obtain ⟨h0, h1⟩ := h
    obtain ⟨hh, hb⟩ := index_at h0 h1
    have ei : indexV a0 a1 a2 a3 a4 a0 (a1 + n / (a4 - a2 + 1)) (a2 + n % (a4 - a2 + 1)) = (n, true) := by unfold indexV; rw [if_pos hh, hb]
    have hz := sizeV_le a0 a1 a2 a3 a4
    have ew : wrap64 (n + 1) = n + 1 := by unfold wrap64; omega
    have hc : cellP a0 (a1 + n / (a4 - a2 + 1)) (a2 + n % (a4 - a2 + 1)) := by
      obtain ⟨ha, _, x1, x2, x3, x4⟩ := hh
      unfold areaP at ha; unfold cellP; omega
    rw [if_pos (by omega), e]
    simp only [whittlelaw3_PlaceCount.j0, h1, decide_true, bne_self_eq_false, Bool.false_eq_true, if_false, if_true, Index_f, ei, Option.bind_some, At_f, ew, Has_f, hh, Right_f, hc, tail]
    by_cases h2 : 0 ≤ n + 1 ∧ n + 1 < sizeV a0 a1 a2 a3 a4
    · have e2 : atV a0 a1 a2 a3 a4 (n + 1) = (a0, a1 + (n + 1) / (a4 - a2 + 1), a2 + (n + 1) % (a4 - a2 + 1), true) := by unfold atV; rw [if_pos h2]
      have hn := at_next (n := n) (w := a4 - a2 + 1) (area_wide hh.1).1
      have hb : beforeP a0 (a1 + n / (a4 - a2 + 1)) (a2 + n % (a4 - a2 + 1)) a0 (a1 + (n + 1) / (a4 - a2 + 1)) (a2 + (n + 1) % (a4 - a2 + 1)) := by
        unfold beforeP; omega
      rw [e2]
      simp [Before_f, hb]
    · have e2 : atV a0 a1 a2 a3 a4 (n + 1) = (0, 0, 0, false) := by unfold atV; rw [if_neg h2]
      rw [e2]
      simp
  · have e : atV a0 a1 a2 a3 a4 n = (0, 0, 0, false) := by unfold atV; rw [if_neg h]
    rw [e]
    by_cases h0 : n ≥ 0
    · have h1 : ¬ n < sizeV a0 a1 a2 a3 a4 := fun z => h ⟨h0, z⟩
      rw [if_pos h0]
      simp only [whittlelaw3_PlaceCount.j0, h1, decide_false, bne_self_eq_false, Bool.false_eq_true, if_false, tail]
    · rw [if_neg h0]
      simp only [whittlelaw3_PlaceCount.j0, bne_self_eq_false, Bool.false_eq_true, if_false, tail]
theorem count_calls (W : World) (a0 a1 a2 a3 a4 : Int) (u0 : -9223372036854775808 ≤ a0 ∧ a0 ≤ 9223372036854775807) (u1 : -9223372036854775808 ≤ a1 ∧ a1 ≤ 9223372036854775807) (u2 : -9223372036854775808 ≤ a2 ∧ a2 ≤ 9223372036854775807) (u3 : -9223372036854775808 ≤ a3 ∧ a3 ≤ 9223372036854775807) (u4 : -9223372036854775808 ≤ a4 ∧ a4 ≤ 9223372036854775807)
    (n : Int) (v : -9223372036854775808 ≤ n ∧ n ≤ 9223372036854775807)
    (c0 c1 c2 : Int) (w0 : -9223372036854775808 ≤ c0 ∧ c0 ≤ 9223372036854775807) (w1 : -9223372036854775808 ≤ c1 ∧ c1 ≤ 9223372036854775807) (w2 : -9223372036854775808 ≤ c2 ∧ c2 ≤ 9223372036854775807) :
    Calls Tryd.prog 9 #[.agg #[.int .i64 a0, .int .i64 a1, .int .i64 a2, .int .i64 a3, .int .i64 a4], .int .i64 n, .agg #[.int .i64 c0, .int .i64 c1, .int .i64 c2]] W fun e w' => e = .returned (.bool true) ∧ Below W.heap.size W w' :=
  whittlelaw3_PlaceCount.calls 3 _ _ _ _ _ _ _ _ _ true W (count_true _ _ _ _ _ _ _ _ _)
end Go.Proofs.YtijmipnafhljkaaDoor.P
