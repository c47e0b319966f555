/-
  ReadArea, plainly, on the list of a text's bytes.
-/
import Derived.Test.YtijmipnafhljkaaDoorPlainReadL
import Derived.Test.YtijmipnafhljkaaDoorPtRAG
import Derived.Lib.IndexLaws
namespace Go.Proofs.YtijmipnafhljkaaDoor.P
open Go.RowKit Go.Proofs.YtijmipnafhljkaaDoorW.PrintWords Go.Proofs.YtijmipnafhljkaaDoorW.PrintLast Go.Proofs.YtijmipnafhljkaaDoorW.PrintMore
set_option linter.unusedVariables false
set_option linter.unusedSimpArgs false

def pairV (x y : Int × Int × Bool) : Int × Int × Int × Int × Bool := if x.2.2 = true then (if y.2.2 = true then (mn x.1 y.1, mn x.2.1 y.2.1, mx x.1 y.1, mx x.2.1 y.2.1, true) else (0, 0, 0, 0, false)) else (0, 0, 0, 0, false)
/-- The first colon cuts a text in two; without one the second part is empty. -/
def cutA (l : List UInt8) : List UInt8 := if Lib.indexByte l 58 = -1 then l else l.take (Lib.indexByte l 58).toNat
def cutB (l : List UInt8) : List UInt8 := if Lib.indexByte l 58 = -1 then [] else l.drop ((Lib.indexByte l 58).toNat + 1)
noncomputable def raL (l : List UInt8) : Int × Int × Int × Int × Bool := pairV (readL (cutA l)) (readL (cutB l))
theorem take_list (l : List UInt8) (n : Nat) : (⟨l.toArray⟩ : ByteArray).extract 0 n = ⟨(l.take n).toArray⟩ := by
  apply ByteArray.ext
  rw [ByteArray.data_extract]
  apply Array.toList_inj.mp
  rw [Array.toList_extract, List.extract_eq_take_drop]
  simp
theorem drop_list' (l : List UInt8) (n : Nat) : (⟨l.toArray⟩ : ByteArray).extract n (⟨l.toArray⟩ : ByteArray).size = ⟨(l.drop n).toArray⟩ := by
  apply ByteArray.ext
  apply Array.toList_inj.mp
  rw [drop_list]
theorem Read_f (l : List UInt8) (h : l.length ≤ 140737488351232) : place_Read_g.f ⟨l.toArray⟩ = some (readL l) := by
  unfold place_Read_g.f
  rw [size_list, if_pos h, readF_list]
theorem cut_f (l : List UInt8) (h : l.length ≤ 140737488351232) : strings_Cut.f ⟨l.toArray⟩ ⟨#[58]⟩ = some (⟨(cutA l).toArray⟩, ⟨(cutB l).toArray⟩, decide (Lib.indexByte l 58 ≠ -1)) := by
  unfold strings_Cut.f stringslite_Cut.f stringslite_Index_g.f cutA cutB
  have e1 : (⟨#[58]⟩ : ByteArray).size = 1 := rfl
  have e2 : (⟨#[58]⟩ : ByteArray).data.toList.headD 0 = 58 := rfl
  have e3 : (⟨l.toArray⟩ : ByteArray).data.toList = l := by simp
  rw [e1, if_pos rfl, e2, e3, size_list]
  simp only [Option.bind_some]
  have hg := Lib.indexByte_ge l 58
  by_cases hn : Lib.indexByte l 58 = -1
  · rw [hn, if_neg (by omega)]
    simp
  · obtain ⟨o, ho⟩ : ∃ o : Nat, Lib.indexByte l 58 = o := ⟨(Lib.indexByte l 58).toNat, by omega⟩
    have hs := (Lib.indexByte_some ho).1
    have hlt : o < l.length := by
      rcases Nat.lt_or_ge o l.length with q | q
      · exact q
      · rw [List.getElem?_eq_none q] at hs; cases hs
    rw [ho]
    have ew : wrap64 ((o : Int) + ((1 : Nat) : Int)) = ((o + 1 : Nat) : Int) := by unfold wrap64; omega
    rw [if_pos (by omega), if_pos (by omega), if_pos (by omega), ew, if_pos (by omega), if_pos (by omega), if_neg (by omega), if_neg (by omega)]
    simp only [Option.bind_some, Int.toNat_natCast]
    have z := drop_list' l (o + 1)
    rw [size_list] at z
    rw [take_list, z]
    simp
theorem cut_len (l : List UInt8) : (cutA l).length ≤ l.length ∧ (cutB l).length ≤ l.length := by
  unfold cutA cutB
  split
  · simp
  · simp only [List.length_take, List.length_drop]; omega
theorem ReadArea_f (l : List UInt8) (h : l.length ≤ 140737488351232) : place_ReadArea_g.f ⟨l.toArray⟩ = some (raL l) := by
  unfold place_ReadArea_g.f raL pairV
  have z := cut_len l
  rw [cut_f l h]
  simp only [Option.bind_some]
  rw [Read_f _ (by omega)]
  simp only [Option.bind_some]
  rw [Read_f _ (by omega)]
  simp only [Option.bind_some]
  split
  · split <;> rfl
  · rfl
theorem index_app : ∀ (l m : List UInt8), (∀ c ∈ l, c ≠ 58) → Lib.indexByte (l ++ 58 :: m) 58 = (l.length : Int) := by
  intro l
  induction l with
  | nil => intro m _; rw [List.nil_append, Lib.indexByte]; simp
  | cons c l ih =>
    intro m h
    have hc := h c (List.mem_cons_self ..)
    have e := ih m (fun d hd => h d (List.mem_cons_of_mem _ hd))
    rw [List.cons_append, Lib.indexByte, if_neg (by simpa using hc), e, if_neg (by simp), List.length_cons]
    omega
theorem cut_app (l m : List UInt8) (h : ∀ c ∈ l, c ≠ 58) : cutA (l ++ 58 :: m) = l ∧ cutB (l ++ 58 :: m) = m := by
  unfold cutA cutB
  rw [index_app l m h, if_neg (by omega), if_neg (by omega)]
  simp
end Go.Proofs.YtijmipnafhljkaaDoor.P
