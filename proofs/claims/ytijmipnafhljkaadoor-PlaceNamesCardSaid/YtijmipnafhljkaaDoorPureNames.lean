/-
  PlaceNames: every name, and which are right: the plain law and the contract.
-/
import Derived.Test.YtijmipnafhljkaaDoorPlainName
import Derived.Test.YtijmipnafhljkaaDoorPtNames
namespace Go.Proofs.YtijmipnafhljkaaDoor.P
open Go.RowKit Go.Proofs.YtijmipnafhljkaaDoorW.PrintWords Go.Proofs.YtijmipnafhljkaaDoorW.PrintLast Go.Proofs.YtijmipnafhljkaaDoorW.PrintMore
set_option linter.unusedVariables false
set_option linter.unusedSimpArgs false

theorem refRight_f (s r c : Int) : whittleref3_Right.f s r c = some (decide (cellP s r c)) := by
  unfold whittleref3_Right.f
  by_cases h : cellP s r c
  · obtain ⟨h1, h2, h3, h4, h5, h6⟩ := h
    simp [cellP, h1, h2, h3, h4, h5, h6]
  · rw [decide_eq_false h]
    unfold cellP at h
    by_cases h1 : s ≥ 0 <;> by_cases h2 : s < 16 <;> by_cases h3 : r ≥ 0 <;> by_cases h4 : r < 65536 <;> by_cases h5 : c ≥ 0 <;> by_cases h6 : c < 256 <;> simp [h1, h2, h3, h4, h5, h6] <;> omega
theorem refRightArea_f (s t l b r : Int) : whittleref3_RightArea.f s t l b r = some (decide (areaP s t l b r)) := by
  unfold whittleref3_RightArea.f
  by_cases h : areaP s t l b r
  · obtain ⟨h1, h2, h3, h4, h5, h6, h7, h8⟩ := h
    simp [areaP, h1, h2, h3, h4, h5, h6, h7, h8]
  · rw [decide_eq_false h]
    unfold areaP at h
    by_cases h1 : s ≥ 0
    · by_cases h2 : s < 16
      · by_cases h3 : t ≥ 0
        · by_cases h4 : t ≤ b
          · by_cases h5 : b < 65536
            · by_cases h6 : l ≥ 0
              · by_cases h7 : l ≤ r
                · simp [h1, h2, h3, h4, h5, h6, h7]; omega
                · simp [h1, h2, h3, h4, h5, h6, h7]
              · simp [h1, h2, h3, h4, h5, h6]
            · simp [h1, h2, h3, h4, h5]
          · simp [h1, h2, h3, h4]
        · simp [h1, h2, h3]
      · simp [h1, h2]
    · simp [h1]
theorem refCol_f (k : Nat) (n : Int) (h0 : -9223372036854775808 ≤ n) (h1 : n ≤ 9223372036854775807) : whittleref3_Col.f (k + 1) n = some (colB n) := by
  unfold whittleref3_Col.f
  by_cases a : n < 0
  · rw [if_pos a, whittleref3_Col.j0, if_pos rfl]
    unfold colB
    rw [if_pos a]
  · rw [if_neg a, whittleref3_Col.j0]
    by_cases b : 256 ≤ n
    · rw [if_pos (by simp; omega)]
      unfold colB
      rw [if_neg a, if_pos b]
    · rw [if_neg (by simp; omega)]
      unfold colB
      rw [if_neg a, if_neg b]
      by_cases c : n < 26
      · rw [if_pos c, if_pos c]
        have e : wrap64 (65 + n) % 256 = 65 + n := by unfold wrap64; omega
        rw [e]
        rfl
      · rw [if_neg c, if_neg c]
        have d1 : Int.tdiv n 26 = n / 26 := Int.tdiv_eq_ediv_of_nonneg (by omega)
        have d2 : Int.tmod n 26 = n % 26 := Int.tmod_eq_emod_of_nonneg (by omega)
        rw [d1, d2]
        have e1 : wrap64 (wrap64 (65 + wrap64 (n / 26)) - 1) % 256 = 65 + n / 26 - 1 := by unfold wrap64; omega
        have e2 : wrap64 (65 + n % 26) % 256 = 65 + n % 26 := by unfold wrap64; omega
        rw [e1, e2]
        rfl
theorem digits_l0 : ∀ (u k : Nat) (acc : ByteArray), u < k → u ≤ 1000000 → acc.size + u ≤ 2000000 → whittleref3_digits.l0 k (u : Int) acc = some (⟨(Lib.decDigits u).toArray⟩ ++ acc) := by
  intro u
  induction u using Nat.strongRecOn with
  | _ u ih =>
    intro k acc hk hu ha
    obtain ⟨k, rfl⟩ : ∃ m, k = m + 1 := ⟨k - 1, by omega⟩
    rw [whittleref3_digits.l0]
    have d2 : Int.tmod (u : Int) 10 = ((u % 10 : Nat) : Int) := by rw [Int.tmod_eq_emod_of_nonneg (by omega)]; omega
    have d1 : Int.tdiv (u : Int) 10 = ((u / 10 : Nat) : Int) := by rw [Int.tdiv_eq_ediv_of_nonneg (by omega)]; omega
    have e1 : wrap64 (48 + ((u % 10 : Nat) : Int)) % 256 = ((48 + u % 10 : Nat) : Int) := by unfold wrap64; omega
    have e2 : wrap64 ((u / 10 : Nat) : Int) = ((u / 10 : Nat) : Int) := by unfold wrap64; omega
    rw [d1, d2, e1, e2]
    simp only [Option.bind_some]
    have es : strOfNums [((48 + u % 10 : Nat) : Int)] = ⟨#[UInt8.ofNat (48 + u % 10)]⟩ := by
      unfold strOfNums
      rw [List.map_cons, List.map_nil, Int.toNat_natCast]
    rw [es]
    have hs : ((⟨#[UInt8.ofNat (48 + u % 10)]⟩ : ByteArray)).size = 1 := rfl
    rw [if_pos (by rw [hs]; omega)]
    rw [Lib.decDigits]
    by_cases h : u < 10
    · rw [if_pos (by omega), dif_pos h]
      have : u % 10 = u := by omega
      rw [this]
    · rw [if_neg (by omega), dif_neg h, ih (u / 10) (by omega) k _ (by omega) (by omega) (by rw [ByteArray.size_append, hs]; omega)]
      congr 1
      rw [← ByteArray.append_assoc]
      congr 1
theorem digits_f (k : Nat) (n : Int) (h : 0 ≤ n) (h1 : n ≤ 1000000) (hk : 1000000 < k) : whittleref3_digits.f k n = some (digB n) := by
  obtain ⟨u, rfl⟩ := Int.eq_ofNat_of_zero_le h
  unfold whittleref3_digits.f
  rw [digits_l0 u k _ (by omega) (by omega) (by show 0 + u ≤ _; omega)]
  unfold digB
  congr 1
  apply ByteArray.ext
  simp
theorem refName_f (k : Nat) (s r c : Int) (hk : 1000000 < k) : whittleref3_Name.f k s r c = some (nameB s r c) := by
  obtain ⟨k, rfl⟩ : ∃ m, k = m + 1 := ⟨k - 1, by omega⟩
  unfold whittleref3_Name.f nameB
  rw [refRight_f]
  simp only [Option.bind_some, decide_eq_true_eq]
  by_cases h : cellP s r c
  · rw [if_pos h, if_pos h]
    have h' := h
    unfold cellP at h'
    have ew : wrap64 (r + 1) = r + 1 := by unfold wrap64; omega
    rw [ew, refCol_f k c (by omega) (by omega), digits_f _ _ (by omega) (by omega) hk]
    simp only [Option.bind_some]
    have := colB_size c
    have := digB_size (r + 1) (by omega) (by omega)
    rw [if_pos (by omega)]
  · rw [if_neg h, if_neg h]
theorem refNameArea_f (k : Nat) (s t l b r : Int) (hk : 1000000 < k) : whittleref3_NameArea.f k s t l b r = some (nameAreaB s t l b r) := by
  unfold whittleref3_NameArea.f nameAreaB
  rw [refRightArea_f]
  simp only [Option.bind_some, decide_eq_true_eq]
  by_cases h : areaP s t l b r
  · rw [if_pos h, if_pos h]
    have h' := h
    unfold areaP at h'
    simp only [refName_f k _ _ _ hk, Option.bind_some]
    have z1 : nameB 0 t l = nameB s t l := by
      unfold nameB; rw [if_pos (show cellP 0 t l from ⟨by omega, by omega, by omega, by omega, by omega, by omega⟩), if_pos (show cellP s t l from ⟨by omega, by omega, by omega, by omega, by omega, by omega⟩)]
    have z2 : nameB 0 b r = nameB s b r := by
      unfold nameB; rw [if_pos (show cellP 0 b r from ⟨by omega, by omega, by omega, by omega, by omega, by omega⟩), if_pos (show cellP s b r from ⟨by omega, by omega, by omega, by omega, by omega, by omega⟩)]
    rw [z1, z2]
    have h1 := nameB_size s t l
    have h2 := nameB_size s b r
    rw [if_pos (by omega), if_pos (by rw [ByteArray.size_append]; show _ + 1 + _ ≤ _; omega)]
  · rw [if_neg h, if_neg h]
theorem names_true (a0 a1 a2 b0 b1 b2 b3 b4 n : Int) (h0 : -9223372036854775808 ≤ n) (h1 : n ≤ 9223372036854775807) : whittlelaw3_PlaceNames_g.f 1000001 a0 a1 a2 b0 b1 b2 b3 b4 n = some true := by
  unfold whittlelaw3_PlaceNames_g.f place_Col.f
  simp only [able_true, Option.bind_some, if_true, Right_f, refRight_f, RightArea_f, refRightArea_f, beq_self_eq_true, Name_f, NameArea_f]
  rw [refName_f _ _ _ _ (by omega)]
  simp only [Option.bind_some, if_true]
  rw [refNameArea_f _ _ _ _ _ _ (by omega)]
  simp only [Option.bind_some, if_true]
  rw [refCol_f 1000000 n h0 h1]
  simp
theorem names_calls (W : World) (a0 a1 a2 : Int) (u0 : -9223372036854775808 ≤ a0 ∧ a0 ≤ 9223372036854775807) (u1 : -9223372036854775808 ≤ a1 ∧ a1 ≤ 9223372036854775807) (u2 : -9223372036854775808 ≤ a2 ∧ a2 ≤ 9223372036854775807)
    (b0 b1 b2 b3 b4 : Int) (v0 : -9223372036854775808 ≤ b0 ∧ b0 ≤ 9223372036854775807) (v1 : -9223372036854775808 ≤ b1 ∧ b1 ≤ 9223372036854775807) (v2 : -9223372036854775808 ≤ b2 ∧ b2 ≤ 9223372036854775807) (v3 : -9223372036854775808 ≤ b3 ∧ b3 ≤ 9223372036854775807) (v4 : -9223372036854775808 ≤ b4 ∧ b4 ≤ 9223372036854775807)
    (n : Int) (w0 : -9223372036854775808 ≤ n ∧ n ≤ 9223372036854775807) (hG : GL W) :
    Calls Tryd.prog 3 #[.agg #[.int .i64 a0, .int .i64 a1, .int .i64 a2], .agg #[.int .i64 b0, .int .i64 b1, .int .i64 b2, .int .i64 b3, .int .i64 b4], .int .i64 n] W fun e w' => e = .returned (.bool true) ∧ Below W.heap.size W w' :=
  whittlelaw3_PlaceNames_g.calls _ _ _ _ _ _ _ _ _ _ true W hG ⟨rfl⟩ (names_true _ _ _ _ _ _ _ _ _ w0.1 w0.2)
end Go.Proofs.YtijmipnafhljkaaDoor.P
