/-
  Names, plainly: a cell's, an area's, a column's; the document's own.
-/
import Derived.Test.YtijmipnafhljkaaDoorPlain
import Derived.Test.YtijmipnafhljkaaDoorPtNameG
import Derived.Test.YtijmipnafhljkaaDoorPtNAG
import Derived.Lib.ItoaNum
namespace Go.Proofs.YtijmipnafhljkaaDoor.P
open Go.RowKit Go.Proofs.YtijmipnafhljkaaDoorW.PrintWords Go.Proofs.YtijmipnafhljkaaDoorW.PrintLast Go.Proofs.YtijmipnafhljkaaDoorW.PrintMore
set_option linter.unusedVariables false
set_option linter.unusedSimpArgs false

theorem dec_len : ∀ (u : Nat), (Lib.decDigits u).length ≤ u + 1 := by
  intro u
  induction u using Nat.strongRecOn with
  | _ u ih =>
    unfold Lib.decDigits
    split
    · simp
    · rename_i h
      have := ih (u / 10) (by omega)
      simp only [List.length_append, List.length_cons, List.length_nil]
      omega
def digB (n : Int) : ByteArray := ⟨(Lib.decDigits n.toNat).toArray⟩
theorem itoa_dig {n : Int} (h : 0 ≤ n) : (⟨(Lib.itoa n).toArray⟩ : ByteArray) = digB n := by
  unfold Lib.itoa digB; rw [if_neg (by omega)]
theorem digB_size (n : Int) (h : 0 ≤ n) (h1 : n ≤ 1000000) : (digB n).size ≤ 1000001 := by
  have := dec_len n.toNat
  show (Lib.decDigits n.toNat).toArray.size ≤ _
  rw [List.size_toArray]; omega
theorem colB_size (n : Int) : (colB n).size ≤ 2 := by
  unfold colB
  split
  · decide
  · split
    · decide
    · split
      · show (1 : Nat) ≤ 2; omega
      · rw [ByteArray.size_append]; show (1 + 1 : Nat) ≤ 2; omega
/-- A cell's name. -/
def nameB (s r c : Int) : ByteArray := if cellP s r c then colB c ++ digB (r + 1) else ⟨#[]⟩
theorem nameB_size (s r c : Int) : (nameB s r c).size ≤ 1000003 := by
  unfold nameB
  split
  · rename_i h
    unfold cellP at h
    rw [ByteArray.size_append]
    have := colB_size c
    have := digB_size (r + 1) (by omega) (by omega)
    omega
  · show (0 : Nat) ≤ _; omega
theorem Name_f (s r c : Int) : place_Name_g.f s r c = some (nameB s r c) := by
  unfold place_Name_g.f nameB
  rw [Right_f]
  simp only [Option.bind_some, decide_eq_true_eq]
  by_cases h : cellP s r c
  · rw [if_pos h, if_pos h]
    have h' := h
    unfold cellP at h'
    have ew : wrap64 (r + 1) = r + 1 := by unfold wrap64; omega
    unfold place_Col.f strconv_Itoa_g.f
    rw [ew, if_pos (by omega), itoa_dig (by omega)]
    simp only [Option.bind_some]
    have := colB_size c
    have := digB_size (r + 1) (by omega) (by omega)
    rw [if_pos (by omega)]
  · rw [if_neg h, if_neg h]
/-- An area's name. -/
def nameAreaB (s t l b r : Int) : ByteArray := if areaP s t l b r then nameB s t l ++ ⟨#[58]⟩ ++ nameB s b r else ⟨#[]⟩
theorem NameArea_f (s t l b r : Int) : place_NameArea_g.f s t l b r = some (nameAreaB s t l b r) := by
  unfold place_NameArea_g.f nameAreaB
  rw [RightArea_f]
  simp only [Option.bind_some, decide_eq_true_eq]
  by_cases h : areaP s t l b r
  · rw [if_pos h, if_pos h]
    unfold place_first.f place_last.f
    simp only [Option.bind_some, Name_f]
    have h1 := nameB_size s t l
    have h2 := nameB_size s b r
    rw [if_pos (by omega), if_pos (by rw [ByteArray.size_append]; show _ + 1 + _ ≤ _; omega)]
  · rw [if_neg h, if_neg h]
end Go.Proofs.YtijmipnafhljkaaDoor.P
