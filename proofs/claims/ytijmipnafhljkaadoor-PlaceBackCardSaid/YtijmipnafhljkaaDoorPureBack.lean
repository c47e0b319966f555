/-
  PlaceBack: a right cell's name is read as it, an area's likewise, from any two of its corners: the plain law and the contract.
-/
import Derived.Test.YtijmipnafhljkaaDoorPlainName
import Derived.Test.YtijmipnafhljkaaDoorPlainRA
import Derived.Test.YtijmipnafhljkaaDoorPtBack
namespace Go.Proofs.YtijmipnafhljkaaDoor.P
open Go.RowKit Go.Proofs.YtijmipnafhljkaaDoorW.PrintWords Go.Proofs.YtijmipnafhljkaaDoorW.PrintLast Go.Proofs.YtijmipnafhljkaaDoorW.PrintMore
set_option linter.unusedVariables false
set_option linter.unusedSimpArgs false

/-- A name's bytes. -/
def nameL (r c : Int) : List UInt8 := colL c ++ Lib.decDigits (r + 1).toNat
theorem nameB_list {s r c : Int} (h : cellP s r c) : nameB s r c = ⟨(nameL r c).toArray⟩ := by
  unfold nameB nameL digB
  rw [if_pos h]
  unfold cellP at h
  rw [colB_list c (by omega) (by omega), append_list]
theorem nameL_read {s r c : Int} (h : cellP s r c) : readL (nameL r c) = (r, c, true) := by
  unfold cellP at h
  exact read_name r c (by omega) (by omega) (by omega) (by omega)
theorem nameL_no {s r c : Int} (h : cellP s r c) : ∀ x ∈ nameL r c, x ≠ 58 := by
  unfold cellP at h
  intro x hx e
  subst e
  unfold nameL colL at hx
  rcases List.mem_append.mp hx with hx | hx
  · split at hx
    · rw [List.mem_singleton] at hx
      have := congrArg UInt8.toNat hx
      rw [nat8 (by omega)] at this
      have q : (58 : UInt8).toNat = 58 := rfl
      omega
    · rw [List.mem_cons, List.mem_singleton] at hx
      have q : (58 : UInt8).toNat = 58 := rfl
      rcases hx with hx | hx
      · have := congrArg UInt8.toNat hx
        rw [nat8 (by omega)] at this
        omega
      · have := congrArg UInt8.toNat hx
        rw [nat8 (by omega)] at this
        omega
  · have := (dec_canon (r + 1).toNat).1 _ hx
    unfold isDig at this
    have q : (58 : UInt8).toNat = 58 := rfl
    omega
theorem nameL_len {s r c : Int} (h : cellP s r c) : (nameL r c).length ≤ 1000003 := by
  have := nameB_size s r c
  rw [nameB_list h, size_list] at this
  exact this
theorem two_names {s r c r' c' : Int} (h : cellP s r c) (h' : cellP s r' c') : place_ReadArea_g.f (nameB s r c ++ ⟨#[58]⟩ ++ nameB s r' c') = some (mn r r', mn c c', mx r r', mx c c', true) := by
  have e : nameB s r c ++ ⟨#[58]⟩ ++ nameB s r' c' = ⟨(nameL r c ++ 58 :: nameL r' c').toArray⟩ := by
    rw [nameB_list h, nameB_list h']
    have q : (⟨#[58]⟩ : ByteArray) = ⟨[(58 : UInt8)].toArray⟩ := rfl
    rw [q, append_list, append_list, List.append_assoc]
    rfl
  have l1 := nameL_len h
  have l2 := nameL_len h'
  rw [e, ReadArea_f _ (by simp only [List.length_append, List.length_cons]; omega)]
  unfold raL
  obtain ⟨a, b⟩ := cut_app (nameL r c) (nameL r' c') (nameL_no h)
  rw [a, b, nameL_read h, nameL_read h']
  rfl
theorem area_cells {s t l b r : Int} (h : areaP s t l b r) : cellP s t l ∧ cellP s b r ∧ cellP s b l ∧ cellP s t r := by
  unfold areaP at h
  unfold cellP
  omega
theorem back_j0 (k : Nat) (s t l b r : Int) : whittlelaw3_PlaceBack_g.j0 (k + 1) s t l b r = some true := by
  rw [whittlelaw3_PlaceBack_g.j0, RightArea_f]
  simp only [Option.bind_some, decide_eq_true_eq]
  by_cases h : areaP s t l b r
  · rw [if_pos h]
    obtain ⟨c1, c2, c3, c4⟩ := area_cells h
    have ho := h
    unfold areaP at ho
    have z0 : ∀ r' c', cellP s r' c' → nameB 0 r' c' = nameB s r' c' := by
      intro r' c' hc
      have h' : cellP 0 r' c' := by unfold cellP at hc ⊢; omega
      unfold nameB; rw [if_pos hc, if_pos h']
    simp only [NameArea_f, Name_f, Option.bind_some]
    rw [z0 _ _ c3, z0 _ _ c4]
    unfold nameAreaB
    rw [if_pos h, two_names c1 c2]
    simp only [Option.bind_some]
    have s1 := nameB_size s b l
    have s2 := nameB_size s t r
    rw [if_pos (by omega), if_pos (by rw [ByteArray.size_append]; show _ + 1 + _ ≤ _; omega), two_names c3 c4]
    simp only [Option.bind_some, if_true]
    have m1 : mn t b = t := by unfold mn; rw [if_neg (by omega)]
    have m2 : mn l r = l := by unfold mn; rw [if_neg (by omega)]
    have m3 : mx t b = b := by unfold mx; split <;> omega
    have m4 : mx l r = r := by unfold mx; split <;> omega
    have m5 : mn b t = t := by unfold mn; split <;> omega
    have m6 : mx b t = b := by unfold mx; rw [if_neg (by omega)]
    rw [m1, m2, m3, m4, m5, m6]
    simp
  · rw [if_neg h]
    simp only [NameArea_f, Option.bind_some, Size_f]
    unfold nameAreaB sizeV
    rw [if_neg h, if_neg h]
    have e : (⟨#[]⟩ : ByteArray).toList = [] := by decide +kernel
    rw [if_pos e]
    rfl
theorem back_true (s r c : Int) (b0 b1 b2 b3 b4 : Int) : whittlelaw3_PlaceBack_g.f 1 s r c b0 b1 b2 b3 b4 = some true := by
  unfold whittlelaw3_PlaceBack_g.f
  simp only [able_true, Option.bind_some, if_true, Right_f, decide_eq_true_eq, Name_f]
  by_cases h : cellP s r c
  · rw [if_pos h]
    have l1 := nameL_len h
    have e1 : place_Read_g.f (nameB s r c) = some (r, c, true) := by rw [nameB_list h, Read_f _ (by omega), nameL_read h]
    rw [e1]
    simp only [Option.bind_some, if_true]
    unfold place_Col.f
    simp only [Option.bind_some]
    have ho := h
    unfold cellP at ho
    have h0 : cellP 0 r 0 := by unfold cellP; omega
    have en : nameB 0 r 0 = ⟨#[65]⟩ ++ digB (r + 1) := by
      unfold nameB
      rw [if_pos h0]
      congr 1
    have es : (nameB 0 r 0).size = 1 + (digB (r + 1)).size := by rw [en, ByteArray.size_append]; rfl
    have ex : (nameB 0 r 0).extract 1 (nameB 0 r 0).size = digB (r + 1) := by
      have a : nameB 0 r 0 = ⟨(65 :: Lib.decDigits (r + 1).toNat).toArray⟩ := by
        rw [en]
        have q : (⟨#[65]⟩ : ByteArray) = ⟨[(65 : UInt8)].toArray⟩ := rfl
        unfold digB
        rw [q, append_list]
        rfl
      rw [a, drop_list']
      rfl
    have z1 := colB_size c
    have z2 := digB_size (r + 1) (by omega) (by omega)
    rw [ex, if_pos (by rw [es]; omega), if_pos (by omega)]
    have ee : nameB s r c = colB c ++ digB (r + 1) := by unfold nameB; rw [if_pos h]
    rw [ee, if_pos rfl]
    exact back_j0 0 b0 b1 b2 b3 b4
  · rw [if_neg h]
    exact back_j0 0 b0 b1 b2 b3 b4
theorem back_calls (W : World) (a0 a1 a2 : Int) (u0 : -9223372036854775808 ≤ a0 ∧ a0 ≤ 9223372036854775807) (u1 : -9223372036854775808 ≤ a1 ∧ a1 ≤ 9223372036854775807) (u2 : -9223372036854775808 ≤ a2 ∧ a2 ≤ 9223372036854775807)
    (b0 b1 b2 b3 b4 : Int) (v0 : -9223372036854775808 ≤ b0 ∧ b0 ≤ 9223372036854775807) (v1 : -9223372036854775808 ≤ b1 ∧ b1 ≤ 9223372036854775807) (v2 : -9223372036854775808 ≤ b2 ∧ b2 ≤ 9223372036854775807) (v3 : -9223372036854775808 ≤ b3 ∧ b3 ≤ 9223372036854775807) (v4 : -9223372036854775808 ≤ b4 ∧ b4 ≤ 9223372036854775807) (hG : GL W) :
    Calls Tryd.prog 15 #[.agg #[.int .i64 a0, .int .i64 a1, .int .i64 a2], .agg #[.int .i64 b0, .int .i64 b1, .int .i64 b2, .int .i64 b3, .int .i64 b4]] W fun e w' => e = .returned (.bool true) ∧ Below W.heap.size W w' :=
  whittlelaw3_PlaceBack_g.calls 1 _ _ _ _ _ _ _ _ true W hG ⟨rfl⟩ (back_true _ _ _ _ _ _ _ _)
end Go.Proofs.YtijmipnafhljkaaDoor.P
