/-
  Plain facts on the printed functions of chapter 3: no memory, no Go.
-/
import Derived.Test.YtijmipnafhljkaaDoorPx40
namespace Go.Proofs.YtijmipnafhljkaaDoor.P
open Go.RowKit Go.Proofs.YtijmipnafhljkaaDoorW.PrintWords Go.Proofs.YtijmipnafhljkaaDoorW.PrintLast Go.Proofs.YtijmipnafhljkaaDoorW.PrintMore
set_option linter.unusedVariables false
set_option linter.unusedSimpArgs false

def cellP (s r c : Int) : Prop := 0 ≤ s ∧ s < 16 ∧ 0 ≤ r ∧ r < 65536 ∧ 0 ≤ c ∧ c < 256
instance (s r c : Int) : Decidable (cellP s r c) := by unfold cellP; infer_instance
def areaP (s t l b r : Int) : Prop := 0 ≤ s ∧ s < 16 ∧ 0 ≤ t ∧ t ≤ b ∧ b < 65536 ∧ 0 ≤ l ∧ l ≤ r ∧ r < 256
instance (s t l b r : Int) : Decidable (areaP s t l b r) := by unfold areaP; infer_instance
theorem ite_some {α : Type} (p : Prop) [Decidable p] (a b : α) : (if p then some a else some b) = some (if p then a else b) := by split <;> rfl
theorem ite_dec (p q : Prop) [Decidable p] [Decidable q] : (if p then decide q else false) = decide (p ∧ q) := by by_cases h : p <;> simp [h]
theorem Right_f (s r c : Int) : place_Right.f s r c = some (decide (cellP s r c)) := by
  unfold place_Right.f place_sheet.f place_row.f place_column.f
  by_cases h : cellP s r c
  · obtain ⟨h1, h2, h3, h4, h5, h6⟩ := h
    simp [cellP, h1, h2, h3, h4, h5, h6]
  · rw [decide_eq_false h]
    unfold cellP at h
    by_cases h1 : s ≥ 0 <;> by_cases h2 : s < 16 <;> by_cases h3 : r ≥ 0 <;> by_cases h4 : r < 65536 <;> by_cases h5 : c ≥ 0 <;> by_cases h6 : c < 256 <;> simp [h1, h2, h3, h4, h5, h6] <;> omega
theorem RightArea_f (s t l b r : Int) : place_RightArea.f s t l b r = some (decide (areaP s t l b r)) := by
  unfold place_RightArea.f place_first.f place_last.f
  simp only [Option.bind_some, Right_f, decide_eq_true_eq]
  by_cases h : areaP s t l b r
  · have h' := h
    obtain ⟨h1, h2, h3, h4, h5, h6, h7, h8⟩ := h'
    rw [if_pos (by unfold cellP; omega), if_pos (by unfold cellP; omega), if_pos h4, decide_eq_true h, decide_eq_true h7]
  · rw [decide_eq_false h]
    by_cases a : cellP s t l
    · by_cases b' : cellP s b r
      · by_cases c : t ≤ b
        · rw [if_pos a, if_pos b', if_pos c]
          unfold areaP at h; unfold cellP at a b'
          rw [decide_eq_false (by omega)]
        · rw [if_pos a, if_pos b', if_neg c]
      · rw [if_pos a, if_neg b']
    · rw [if_neg a]
def hasP (s t l b r cs cr cc : Int) : Prop := areaP s t l b r ∧ cs = s ∧ t ≤ cr ∧ cr ≤ b ∧ l ≤ cc ∧ cc ≤ r
instance (s t l b r cs cr cc : Int) : Decidable (hasP s t l b r cs cr cc) := by unfold hasP; infer_instance
theorem Has_f (s t l b r cs cr cc : Int) : place_Has.f s t l b r cs cr cc = some (decide (hasP s t l b r cs cr cc)) := by
  unfold place_Has.f
  simp only [RightArea_f, Option.bind_some, decide_eq_true_eq]
  unfold hasP
  by_cases a : areaP s t l b r
  · by_cases h2 : cs = s <;> by_cases h3 : cr ≥ t <;> by_cases h4 : cr ≤ b <;> by_cases h5 : cc ≥ l <;> simp [a, h2, h3, h4, h5]
  · simp [a]
theorem width_f {s t l b r : Int} (h : areaP s t l b r) : place_width.f s t l b r = some (r - l + 1) := by
  unfold areaP at h
  unfold place_width.f wrap64
  congr 1; omega
def sizeV (s t l b r : Int) : Int := if areaP s t l b r then (r - l + 1) * (b - t + 1) else 0
theorem size_range {t l b r : Int} (h1 : 0 ≤ t) (h2 : t ≤ b) (h3 : b < 65536) (h4 : 0 ≤ l) (h5 : l ≤ r) (h6 : r < 256) : 1 ≤ (r - l + 1) * (b - t + 1) ∧ (r - l + 1) * (b - t + 1) ≤ 16777216 := by
  have a : 1 ≤ r - l + 1 := by omega
  have c : 1 ≤ b - t + 1 := by omega
  constructor
  · have := Int.mul_le_mul a c (by omega) (by omega)
    omega
  · have := Int.mul_le_mul (show r - l + 1 ≤ 256 by omega) (show b - t + 1 ≤ 65536 by omega) (by omega) (by omega)
    omega
theorem Size_f (s t l b r : Int) : place_Size.f s t l b r = some (sizeV s t l b r) := by
  unfold place_Size.f sizeV
  simp only [RightArea_f, Option.bind_some, decide_eq_true_eq]
  by_cases h : areaP s t l b r
  · rw [if_pos h, if_pos h, width_f h]
    unfold areaP at h
    have z := size_range (t := t) (l := l) (b := b) (r := r) (by omega) (by omega) (by omega) (by omega) (by omega) (by omega)
    have e : wrap64 (wrap64 (b - t) + 1) = b - t + 1 := by unfold wrap64; omega
    rw [Option.bind_some, e]
    unfold wrap64
    congr 1; omega
  · rw [if_neg h, if_neg h]

theorem able_true : whittlelaw3_able.f = some true := by
  have h1 : place_Read.f (⟨#[66, 51]⟩ : ByteArray) = some (2, 1, true) := by unfold place_Read.f; rw [if_pos rfl]
  have h2 : strconv_Itoa_64.f (wrap64 (2 + 1)) = some ⟨#[51]⟩ := by
    have e : wrap64 (2 + 1) = 3 := by unfold wrap64; omega
    rw [e]
    unfold strconv_Itoa_64.f
    rw [if_pos (by omega)]
    have d : Lib.decDigits (Int.toNat 3) = [51] := by
      show Lib.decDigits 3 = [51]
      unfold Lib.decDigits; rfl
    rw [d]
  have h3 : place_Name.f 0 2 1 = some ⟨#[66, 51]⟩ := by
    unfold place_Name.f place_Col.f
    rw [Right_f, h2]
    have c : colB 1 = ⟨#[66]⟩ := by decide +kernel
    rw [c]
    decide +kernel
  unfold whittlelaw3_able.f
  rw [h1, h3]
  simp only [Option.bind_some, Right_f, Has_f, Size_f]
  decide +kernel
end Go.Proofs.YtijmipnafhljkaaDoor.P
