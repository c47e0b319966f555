/-
  The document's own answers of chapter 3, plainly: cells and areas.
-/
import Derived.Test.YtijmipnafhljkaaDoorPlainAt
import Derived.Test.YtijmipnafhljkaaDoorPlainMeet
import Derived.Test.YtijmipnafhljkaaDoorPxRef
namespace Go.Proofs.YtijmipnafhljkaaDoor.P
open Go.RowKit Go.Proofs.YtijmipnafhljkaaDoorW.PrintWords Go.Proofs.YtijmipnafhljkaaDoorW.PrintLast Go.Proofs.YtijmipnafhljkaaDoorW.PrintMore
set_option linter.unusedVariables false
set_option linter.unusedSimpArgs false

theorem refRight_f (s r c : Int) : whittleref3_Right.f s r c = some (decide (cellP s r c)) := by
  unfold whittleref3_Right.f
  by_cases h : cellP s r c
  · obtain ⟨h1, h2, h3, h4, h5, h6⟩ := h
    simp [cellP, h1, h2, h3, h4, h5, h6]
  · rw [decide_eq_false h]
    unfold cellP at h
    by_cases h1 : s ≥ 0 <;> by_cases h2 : s < 16 <;> by_cases h3 : r ≥ 0 <;> by_cases h4 : r < 65536 <;> by_cases h5 : c ≥ 0 <;> by_cases h6 : c < 256 <;> simp [h1, h2, h3, h4, h5, h6] <;> omega
theorem refRightArea_f (s t l b r : Int) : whittleref3_RightArea.f s t l b r = some (decide (areaP s t l b r)) := by
  unfold whittleref3_RightArea.f
  by_cases h : areaP s t l b r
  · obtain ⟨h1, h2, h3, h4, h5, h6, h7, h8⟩ := h
    simp [areaP, h1, h2, h3, h4, h5, h6, h7, h8]
  · rw [decide_eq_false h]
    unfold areaP at h
    by_cases h1 : s ≥ 0
    · by_cases h2 : s < 16
      · by_cases h3 : t ≥ 0
        · by_cases h4 : t ≤ b
          · by_cases h5 : b < 65536
            · by_cases h6 : l ≥ 0
              · by_cases h7 : l ≤ r
                · simp [h1, h2, h3, h4, h5, h6, h7]; omega
                · simp [h1, h2, h3, h4, h5, h6, h7]
              · simp [h1, h2, h3, h4, h5, h6]
            · simp [h1, h2, h3, h4, h5]
          · simp [h1, h2, h3, h4]
        · simp [h1, h2, h3]
      · simp [h1, h2]
    · simp [h1]
theorem refOne_f (s r c : Int) : whittleref3_One.f s r c = some (if cellP s r c then (s, r, c, r, c, true) else (0, 0, 0, 0, 0, false)) := by
  unfold whittleref3_One.f
  simp only [refRight_f, Option.bind_some, decide_eq_true_eq]
  split <;> rfl
theorem refSize_f (s t l b r : Int) : whittleref3_Size.f s t l b r = some (sizeV s t l b r) := by
  unfold whittleref3_Size.f sizeV
  simp only [refRightArea_f, Option.bind_some, decide_eq_true_eq]
  by_cases h : areaP s t l b r
  · rw [if_pos h, if_pos h]
    unfold areaP at h
    have z := size_range (t := t) (l := l) (b := b) (r := r) (by omega) (by omega) (by omega) (by omega) (by omega) (by omega)
    have e : wrap64 (wrap64 (b - t) + 1) = b - t + 1 := by unfold wrap64; omega
    have e' : wrap64 (wrap64 (r - l) + 1) = r - l + 1 := by unfold wrap64; omega
    rw [e, e', Int.mul_comm]
    unfold wrap64
    congr 1; omega
  · rw [if_neg h, if_neg h]
theorem refHas_f (s t l b r cs cr cc : Int) : whittleref3_Has.f s t l b r cs cr cc = some (decide (hasP s t l b r cs cr cc)) := by
  unfold whittleref3_Has.f
  simp only [refRightArea_f, Option.bind_some, decide_eq_true_eq]
  unfold hasP
  by_cases a : areaP s t l b r
  · by_cases h2 : cs = s <;> by_cases h3 : cr ≥ t <;> by_cases h4 : cr ≤ b <;> by_cases h5 : cc ≥ l <;> simp [a, h2, h3, h4, h5]
  · simp [a]
theorem refMeet_f (k : Nat) (a0 a1 a2 a3 a4 b0 b1 b2 b3 b4 : Int) : whittleref3_Meet.f (k + 1) a0 a1 a2 a3 a4 b0 b1 b2 b3 b4 = some (meetV a0 a1 a2 a3 a4 b0 b1 b2 b3 b4) := by
  unfold whittleref3_Meet.f meetV
  simp only [refRightArea_f, Option.bind_some, decide_eq_true_eq, whittleref3_Meet.j0]
  by_cases ha : areaP a0 a1 a2 a3 a4
  · by_cases hb : areaP b0 b1 b2 b3 b4
    · by_cases e : a0 = b0
      · by_cases h1 : mx a1 b1 > mn a3 b3
        · have hm : ¬ meetP a0 a1 a2 a3 a4 b0 b1 b2 b3 b4 := fun z => by have := z.2.2.2.1; omega
          rw [if_pos ha, if_pos hb, if_neg (by simp [e]), if_pos h1, if_neg hm]
        · by_cases h2 : mx a2 b2 > mn a4 b4
          · have hm : ¬ meetP a0 a1 a2 a3 a4 b0 b1 b2 b3 b4 := fun z => by have := z.2.2.2.2; omega
            rw [if_pos ha, if_pos hb, if_neg (by simp [e]), if_neg h1, if_pos h2, if_neg hm]
          · have hm : meetP a0 a1 a2 a3 a4 b0 b1 b2 b3 b4 := ⟨ha, hb, e, by omega, by omega⟩
            rw [if_pos ha, if_pos hb, if_neg (by simp [e]), if_neg h1, if_neg h2, if_pos hm]
      · have hm : ¬ meetP a0 a1 a2 a3 a4 b0 b1 b2 b3 b4 := fun z => e z.2.2.1
        rw [if_pos ha, if_pos hb, if_pos (by simp [e]), if_neg hm]
    · have hm : ¬ meetP a0 a1 a2 a3 a4 b0 b1 b2 b3 b4 := fun z => hb z.2.1
      rw [if_pos ha, if_neg hb, if_pos trivial, if_neg hm]
  · have hm : ¬ meetP a0 a1 a2 a3 a4 b0 b1 b2 b3 b4 := fun z => ha z.1
    rw [if_neg ha, if_pos trivial, if_neg hm]
theorem refAt_f (s t l b r n : Int) : whittleref3_At.f s t l b r n = some (atV s t l b r n) := by
  unfold whittleref3_At.f atV
  by_cases h0 : n < 0
  · rw [if_pos h0, if_neg (by omega)]
  · rw [if_neg h0]
    simp only [refSize_f, Option.bind_some]
    by_cases h1 : n ≥ sizeV s t l b r
    · rw [if_pos h1, if_neg (by omega)]
    · have ha := sizeV_area (s := s) (t := t) (l := l) (b := b) (r := r) (by omega)
      obtain ⟨w1, w2, w3, w4⟩ := area_wide ha
      have hr := row_lt (n := n) (w := r - l + 1) (h := b - t + 1) w1 (by omega) (by rw [← sizeV_pos ha]; omega)
      have hm := Int.emod_lt_of_pos n (show 0 < r - l + 1 by omega)
      have hm0 := Int.emod_nonneg n (show r - l + 1 ≠ 0 by omega)
      have ha' := ha
      unfold areaP at ha'
      have ew : wrap64 (wrap64 (r - l) + 1) = r - l + 1 := by unfold wrap64; omega
      rw [if_neg h1, ew, if_neg (show ¬ r - l + 1 = 0 by omega), if_pos (show 0 ≤ n ∧ n < sizeV s t l b r by omega), Int.tdiv_eq_ediv_of_nonneg (by omega), Int.tmod_eq_emod_of_nonneg (by omega)]
      have e1 : wrap64 (n / (r - l + 1)) = n / (r - l + 1) := by unfold wrap64; omega
      rw [e1]
      have e2 : wrap64 (t + n / (r - l + 1)) = t + n / (r - l + 1) := by unfold wrap64; omega
      have e3 : wrap64 (l + n % (r - l + 1)) = l + n % (r - l + 1) := by unfold wrap64; omega
      rw [e2, e3]
theorem refIndex_f (s t l b r cs cr cc : Int) : whittleref3_Index.f s t l b r cs cr cc = some (indexV s t l b r cs cr cc) := by
  unfold whittleref3_Index.f indexV
  simp only [refHas_f, Option.bind_some, decide_eq_true_eq]
  by_cases h : hasP s t l b r cs cr cc
  · have hi := index_range h
    have hz := sizeV_le s t l b r
    rw [if_pos h, if_pos h]
    obtain ⟨ha, _, h1, h2, h3, h4⟩ := h
    unfold areaP at ha
    have e0 : wrap64 (wrap64 (r - l) + 1) = r - l + 1 := by unfold wrap64; omega
    have e1 : wrap64 (cr - t) = cr - t := by unfold wrap64; omega
    rw [e0, e1]
    have e2 : wrap64 ((cr - t) * (r - l + 1)) = (cr - t) * (r - l + 1) := by unfold wrap64; omega
    rw [e2]
    have e3 : wrap64 ((cr - t) * (r - l + 1) + cc) = (cr - t) * (r - l + 1) + cc := by unfold wrap64; omega
    rw [e3]
    have e4 : wrap64 ((cr - t) * (r - l + 1) + cc - l) = (cr - t) * (r - l + 1) + cc - l := by unfold wrap64; omega
    rw [e4]
  · rw [if_neg h, if_neg h]
end Go.Proofs.YtijmipnafhljkaaDoor.P
