/-
  Read's answer on the list of a text's bytes; a name is read as its cell.
-/
import Derived.Test.YtijmipnafhljkaaDoorPlainRead
namespace Go.Proofs.YtijmipnafhljkaaDoor.P
open Go.RowKit Go.Proofs.YtijmipnafhljkaaDoorW.PrintWords Go.Proofs.YtijmipnafhljkaaDoorW.PrintLast Go.Proofs.YtijmipnafhljkaaDoorW.PrintMore
set_option linter.unusedVariables false
set_option linter.unusedSimpArgs false

noncomputable instance (l : List UInt8) : Decidable (rowP l) := Classical.propDecidable _
def upL (c : UInt8) : Prop := 65 ≤ c.toNat ∧ c.toNat ≤ 90
instance (c : UInt8) : Decidable (upL c) := by unfold upL; infer_instance
noncomputable def rowL (l : List UInt8) (C : Int) : Int × Int × Bool := if rowP l ∧ 0 ≤ C ∧ C < 256 then ((decVal 0 l : Int) - 1, C, true) else (0, 0, false)
/-- Read, on the bytes. -/
noncomputable def readL : List UInt8 → Int × Int × Bool
  | [] => (0, 0, false)
  | [a] => if upL a then rowL [] ((a.toNat : Int) - 65) else (0, 0, false)
  | a :: b :: r => if upL a then (if upL b then rowL r (26 * ((a.toNat : Int) - 65 + 1) + ((b.toNat : Int) - 65)) else rowL (b :: r) ((a.toNat : Int) - 65)) else (0, 0, false)
theorem readL_one (a : UInt8) : readL [a] = if upL a then rowL [] ((a.toNat : Int) - 65) else (0, 0, false) := by rw [readL]
theorem readL_two (a b : UInt8) (r : List UInt8) : readL (a :: b :: r) = if upL a then (if upL b then rowL r (26 * ((a.toNat : Int) - 65 + 1) + ((b.toNat : Int) - 65)) else rowL (b :: r) ((a.toNat : Int) - 65)) else (0, 0, false) := by rw [readL]
theorem tailF_rowL (T : ByteArray) (C : Int) : tailF T C = rowL T.data.toList C := by
  unfold rowL
  by_cases h : rowP T.data.toList ∧ 0 ≤ C ∧ C < 256
  · rw [if_pos h, tailF_yes h.1 h.2.1 h.2.2]
  · rw [if_neg h, tailF_no h]
theorem rowL_neg (l : List UInt8) : rowL l (-1) = (0, 0, false) := by unfold rowL; rw [if_neg (by omega)]
theorem not_rowP_nil : ¬ rowP [] := by
  rintro ⟨⟨_, c, r, h, _⟩, _⟩
  cases h
theorem bt0 (a : UInt8) (l : List UInt8) : bt ⟨(a :: l).toArray⟩ 0 = (a.toNat : Int) := by
  unfold bt
  rw [dif_pos (show (0 : Int).toNat < (⟨(a :: l).toArray⟩ : ByteArray).size by show 0 < (a :: l).toArray.size; simp)]
  rfl
theorem bt1 (a b : UInt8) (l : List UInt8) : bt ⟨(a :: b :: l).toArray⟩ 1 = (b.toNat : Int) := by
  unfold bt
  rw [dif_pos (show (1 : Int).toNat < (⟨(a :: b :: l).toArray⟩ : ByteArray).size by show 1 < (a :: b :: l).toArray.size; simp)]
  rfl
theorem drop_list (l : List UInt8) (n : Nat) : ((⟨l.toArray⟩ : ByteArray).extract n (⟨l.toArray⟩ : ByteArray).size).data.toList = l.drop n := by
  have e : (⟨l.toArray⟩ : ByteArray).size = l.length := by show l.toArray.size = _; simp
  rw [e, ByteArray.data_extract, Array.toList_extract, List.extract_eq_take_drop]
  simp only
  rw [List.take_of_length_le (by simp)]
theorem size_list (l : List UInt8) : (⟨l.toArray⟩ : ByteArray).size = l.length := by show l.toArray.size = _; simp
theorem readF_list (l : List UInt8) : readF ⟨l.toArray⟩ = readL l := by
  rw [readF_eq, tailF_rowL, drop_list]
  match l with
  | [] =>
    have h := head_none (s := ⟨([] : List UInt8).toArray⟩) (by rw [size_list]; simp)
    rw [h.1, h.2, rowL_neg]
    rfl
  | [a] =>
    have e := bt0 a []
    by_cases u : upL a
    · have h := head_one (s := ⟨[a].toArray⟩) (by rw [e]; unfold upL at u; omega) (by rw [e]; unfold upL at u; omega) (by rw [size_list]; simp) (by rw [size_list]; simp)
      rw [h.1, h.2, e]
      rw [readL_one, if_pos u]
      rfl
    · have h := head_none (s := ⟨[a].toArray⟩) (by rw [e]; unfold upL at u; omega)
      rw [h.1, h.2, rowL_neg]
      rw [readL_one, if_neg u]
  | a :: b :: r =>
    have e := bt0 a (b :: r)
    have e1 := bt1 a b r
    by_cases u : upL a
    · by_cases v : upL b
      · have h := head_two (s := ⟨(a :: b :: r).toArray⟩) (by rw [e]; unfold upL at u; omega) (by rw [e]; unfold upL at u; omega) (by rw [size_list]; simp only [List.length_cons]; omega) (by rw [e1]; unfold upL at v; omega) (by rw [e1]; unfold upL at v; omega)
        rw [h.1, h.2, e, e1]
        rw [readL_two, if_pos u, if_pos v]
        rfl
      · have h := head_one (s := ⟨(a :: b :: r).toArray⟩) (by rw [e]; unfold upL at u; omega) (by rw [e]; unfold upL at u; omega) (by rw [size_list]; simp only [List.length_cons]; omega) (by rw [e1]; unfold upL at v; omega)
        rw [h.1, h.2, e]
        rw [readL_two, if_pos u, if_neg v]
        rfl
    · have h := head_none (s := ⟨(a :: b :: r).toArray⟩) (by rw [e]; unfold upL at u; omega)
      rw [h.1, h.2, rowL_neg]
      rw [readL_two, if_neg u]
/-- A column's letters. -/
def colL (n : Int) : List UInt8 := if n < 26 then [UInt8.ofNat (65 + n).toNat] else [UInt8.ofNat (65 + n / 26 - 1).toNat, UInt8.ofNat (65 + n % 26).toNat]
theorem colB_list (n : Int) (h0 : 0 ≤ n) (h1 : n < 256) : colB n = ⟨(colL n).toArray⟩ := by
  unfold colB colL
  rw [if_neg (by omega), if_neg (by omega)]
  split <;> rfl
theorem nat8 {n : Nat} (h : n < 256) : (UInt8.ofNat n).toNat = n := by rw [UInt8.toNat_ofNat']; omega
theorem read_name (r c : Int) (h0 : 0 ≤ r) (h1 : r < 65536) (h2 : 0 ≤ c) (h3 : c < 256) : readL (colL c ++ Lib.decDigits (r + 1).toNat) = (r, c, true) := by
  obtain ⟨d, v, cn⟩ := dec_canon (r + 1).toNat
  have cn := cn (by omega)
  have hr : rowP (Lib.decDigits (r + 1).toNat) := ⟨cn, by omega⟩
  obtain ⟨_, x, l, hx, hn⟩ := cn
  have hd := d x (by rw [hx]; exact List.mem_cons_self ..)
  unfold isDig at hd
  unfold colL
  by_cases a : c < 26
  · rw [if_pos a]
    have e := nat8 (n := (65 + c).toNat) (by omega)
    rw [List.singleton_append, hx]
    rw [readL_two, if_pos (by unfold upL; omega), if_neg (by unfold upL; omega), ← hx]
    unfold rowL
    rw [if_pos ⟨hr, by omega, by omega⟩, v, e]
    refine Prod.ext ?_ (Prod.ext ?_ rfl) <;> simp only <;> omega
  · rw [if_neg a]
    have e1 := nat8 (n := (65 + c / 26 - 1).toNat) (by omega)
    have e2 := nat8 (n := (65 + c % 26).toNat) (by omega)
    rw [List.cons_append, List.singleton_append]
    rw [readL_two, if_pos (by unfold upL; omega), if_pos (by unfold upL; omega)]
    unfold rowL
    rw [if_pos ⟨hr, by omega, by omega⟩, v, e1, e2]
    refine Prod.ext ?_ (Prod.ext ?_ rfl) <;> simp only <;> omega
/-- A text is the list of its bytes. -/
theorem list_text (s : ByteArray) : s = ⟨s.data.toList.toArray⟩ := by cases s; rfl
theorem append_list (l m : List UInt8) : (⟨l.toArray⟩ : ByteArray) ++ ⟨m.toArray⟩ = ⟨(l ++ m).toArray⟩ := by
  apply ByteArray.ext
  rw [ByteArray.data_append]
  simp
end Go.Proofs.YtijmipnafhljkaaDoor.P
