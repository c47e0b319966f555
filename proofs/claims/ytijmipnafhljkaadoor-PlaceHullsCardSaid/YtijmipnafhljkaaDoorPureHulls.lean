/-
  PlaceHulls: Hull of any cells as the document has it; the list stays, and what stands behind it: the plain law and the contract.
-/
import Derived.Test.YtijmipnafhljkaaDoorPlainHull
import Derived.Test.YtijmipnafhljkaaDoorPtHulls
namespace Go.Proofs.YtijmipnafhljkaaDoor.P
open Go.RowKit Go.Proofs.YtijmipnafhljkaaDoorW.PrintWords Go.Proofs.YtijmipnafhljkaaDoorW.PrintLast Go.Proofs.YtijmipnafhljkaaDoorW.PrintMore
set_option linter.unusedVariables false
set_option linter.unusedSimpArgs false

theorem refRight_f (s r c : Int) : whittleref3_Right.f s r c = some (decide (cellP s r c)) := by
  unfold whittleref3_Right.f
  by_cases h : cellP s r c
  · obtain ⟨h1, h2, h3, h4, h5, h6⟩ := h
    simp [cellP, h1, h2, h3, h4, h5, h6]
  · rw [decide_eq_false h]
    unfold cellP at h
    by_cases h1 : s ≥ 0 <;> by_cases h2 : s < 16 <;> by_cases h3 : r ≥ 0 <;> by_cases h4 : r < 65536 <;> by_cases h5 : c ≥ 0 <;> by_cases h6 : c < 256 <;> simp [h1, h2, h3, h4, h5, h6] <;> omega
theorem refOne_f (s r c : Int) : whittleref3_One.f s r c = some (if cellP s r c then (s, r, c, r, c, true) else (0, 0, 0, 0, 0, false)) := by
  unfold whittleref3_One.f
  rw [refRight_f]
  by_cases h : cellP s r c <;> simp [h]
/-- One cell of the document's own loop. -/
theorem refHull_step (l : List S23) (hl : l.length ≤ 9223372036854775806) (i k : Nat) (s t lf b r : Int) (hlt : i < l.length) :
    whittleref3_Hull.l0 (k + 2) l (i : Int) s t lf b r = if cellP l[i].f0 l[i].f1 l[i].f2 ∧ l[i].f0 = (l[0]'(by omega)).f0 then (if i = 0 then whittleref3_Hull.l0 k l 1 l[i].f0 (mn l[i].f1 l[i].f1) (mn l[i].f2 l[i].f2) (mx l[i].f1 l[i].f1) (mx l[i].f2 l[i].f2) else whittleref3_Hull.l0 k l ((i + 1 : Nat) : Int) s (mn t l[i].f1) (mn lf l[i].f2) (mx b l[i].f1) (mx r l[i].f2)) else some (0, 0, 0, 0, 0, false) := by
  have e0 : rd_T23 l (0 : Int) = l[0]'(by omega) := rd_T23_nat l 0 (by omega)
  have ew : wrap64 ((i : Int) + 1) = ((i + 1 : Nat) : Int) := by unfold wrap64; omega
  rw [whittleref3_Hull.l0, if_pos (by omega), if_pos (by omega), refRight_f, rd_T23_nat l i hlt, e0]
  simp only [Option.bind_some, decide_eq_true_eq]
  have h0 : 0 < l.length := by omega
  by_cases h : cellP l[i].f0 l[i].f1 l[i].f2
  · rw [if_pos h, if_pos (by omega), whittleref3_Hull.j1]
    by_cases e : l[i].f0 = (l[0]'h0).f0
    · rw [if_neg (show ¬ ((l[i].f0 != (l[0]'h0).f0) = true) by simp [e]), if_pos (show cellP l[i].f0 l[i].f1 l[i].f2 ∧ l[i].f0 = (l[0]'h0).f0 from ⟨h, e⟩)]
      by_cases z : i = 0
      · subst z
        rw [if_pos (show (((0 : Nat) : Int) = 0) from rfl), if_pos (show (0 : Nat) = 0 from rfl), refOne_f, if_pos h, ew]
        simp only [Option.bind_some]
        rfl
      · rw [if_neg (show ¬ ((i : Int) = 0) by omega), if_neg (show ¬ (i = 0) from z), ew]
    · rw [if_pos (show ((l[i].f0 != (l[0]'h0).f0) = true) by simp [e]), if_neg (fun z : cellP l[i].f0 l[i].f1 l[i].f2 ∧ l[i].f0 = (l[0]'h0).f0 => e z.2)]
  · rw [if_neg h, whittleref3_Hull.j1, if_pos rfl, if_neg (fun z : cellP l[i].f0 l[i].f1 l[i].f2 ∧ l[i].f0 = (l[0]'h0).f0 => h z.1)]
theorem refHull_l0 (l : List S23) (hl : l.length ≤ 9223372036854775806) (h0 : 0 < l.length) : ∀ (d i k : Nat) (t lf b r : Int), l.length - i = d → 1 ≤ i → i ≤ l.length → 2 * d < k →
    whittleref3_Hull.l0 k l (i : Int) l[0].f0 t lf b r = some (match hullGo l[0].f0 (t, lf, b, r) (l.drop i) with | some q => (l[0].f0, q.1, q.2.1, q.2.2.1, q.2.2.2, true) | none => (0, 0, 0, 0, 0, false)) := by
  intro d
  induction d with
  | zero =>
    intro i k t lf b r hd h1 hi hk
    obtain ⟨k, rfl⟩ : ∃ m, k = m + 1 := ⟨k - 1, by omega⟩
    rw [whittleref3_Hull.l0, if_neg (by omega), List.drop_eq_nil_of_le (by omega), decide_eq_true (by omega)]
    rfl
  | succ d ih =>
    intro i k t lf b r hd h1 hi hk
    obtain ⟨k, rfl⟩ : ∃ m, k = m + 2 := ⟨k - 2, by omega⟩
    have hlt : i < l.length := by omega
    rw [refHull_step l hl i k _ _ _ _ _ hlt, List.drop_eq_getElem_cons hlt]
    simp only [hullGo]
    by_cases h : cellP l[i].f0 l[i].f1 l[i].f2 ∧ l[i].f0 = l[0].f0
    · rw [if_pos h, if_pos h, if_neg (by omega), ih (i + 1) k _ _ _ _ (by omega) (by omega) (by omega) (by omega)]
      rfl
    · rw [if_neg h, if_neg h]
theorem refHull_f (l : List S23) (hl : l.length ≤ 9223372036854775806) (k : Nat) (hk : 2 * l.length + 2 < k) : whittleref3_Hull.f k l = some (hullV l) := by
  unfold whittleref3_Hull.f
  cases l with
  | nil =>
    obtain ⟨k, rfl⟩ : ∃ m, k = m + 1 := ⟨k - 1, by omega⟩
    rw [whittleref3_Hull.l0]
    simp [hullV]
  | cons c l =>
    obtain ⟨k, rfl⟩ : ∃ m, k = m + 2 := ⟨k - 2, by omega⟩
    have hs := refHull_step (c :: l) hl 0 k 0 0 0 0 0 (by simp)
    rw [show ((0 : Nat) : Int) = 0 from rfl] at hs
    rw [hs, if_pos rfl]
    simp only [List.getElem_cons_zero, hullV, hullGo]
    by_cases h : cellP c.f0 c.f1 c.f2
    · rw [if_pos (show cellP c.f0 c.f1 c.f2 ∧ True from ⟨h, trivial⟩), if_pos (show cellP c.f0 c.f1 c.f2 ∧ True from ⟨h, trivial⟩)]
      have hr := refHull_l0 (c :: l) hl (by simp) l.length 1 k (mn c.f1 c.f1) (mn c.f2 c.f2) (mx c.f1 c.f1) (mx c.f2 c.f2) (by simp) (by omega) (by simp) (by simp only [List.length_cons] at hk; omega)
      exact hr
    · rw [if_neg (fun z : cellP c.f0 c.f1 c.f2 ∧ True => h z.1), if_neg (fun z : cellP c.f0 c.f1 c.f2 ∧ True => h z.1)]
theorem rd_T23_left (l m : List S23) (k : Nat) (h : k < l.length) : rd_T23 (l ++ m) (k : Int) = l[k] := by
  rw [rd_T23_nat (l ++ m) k (by simp; omega), List.getElem_append_left h]
theorem hulls_l0 (l : List S23) (hl : l.length ≤ 9223372036854775000) (x : Bool) (a b c d e : Int) : ∀ (n i k : Nat), l.length - i = n → i ≤ l.length → n < k →
    whittlelaw3_PlaceHulls.l0 k l (l ++ [(⟨0, (-77), 0⟩ : S23), (⟨0, (-78), 0⟩ : S23)]) x x (i : Int) a b c d e a b c d e = some true := by
  intro n
  induction n with
  | zero =>
    intro i k hd hi hk
    obtain ⟨k, rfl⟩ : ∃ m, k = m + 1 := ⟨k - 1, by omega⟩
    have e1 : rd_T23 (l ++ [(⟨0, (-77), 0⟩ : S23), (⟨0, (-78), 0⟩ : S23)]) (l.length : Int) = ⟨0, (-77), 0⟩ := by rw [rd_T23_nat _ _ (by simp)]; simp
    have ew : wrap64 ((l.length : Int) + 1) = ((l.length + 1 : Nat) : Int) := by unfold wrap64; omega
    have e2 : rd_T23 (l ++ [(⟨0, (-77), 0⟩ : S23), (⟨0, (-78), 0⟩ : S23)]) ((l.length + 1 : Nat) : Int) = ⟨0, (-78), 0⟩ := by rw [rd_T23_nat _ _ (by simp)]; simp
    rw [whittlelaw3_PlaceHulls.l0, if_neg (by omega), able_true]
    simp only [Option.bind_some, if_true, beq_self_eq_true, Bool.and_self]
    rw [if_pos (by omega), if_pos (by simp only [List.length_append, List.length_cons, List.length_nil]; omega), e1, if_pos rfl, ew, if_pos (by omega), if_pos (by simp only [List.length_append, List.length_cons, List.length_nil]; omega), e2]
    rfl
  | succ n ih =>
    intro i k hd hi hk
    obtain ⟨k, rfl⟩ : ∃ m, k = m + 1 := ⟨k - 1, by omega⟩
    have hlt : i < l.length := by omega
    have ew : wrap64 ((i : Int) + 1) = ((i + 1 : Nat) : Int) := by unfold wrap64; omega
    rw [whittlelaw3_PlaceHulls.l0, if_pos (by omega), if_pos (by omega), if_pos (by simp only [List.length_append, List.length_cons, List.length_nil]; omega), rd_T23_left l _ i hlt, rd_T23_nat l i hlt, if_neg (by simp), ew]
    exact ih (i + 1) k (by omega) (by omega) (by omega)
theorem hulls_true (l : List S23) (hl : l.length ≤ 5864062014790) : whittlelaw3_PlaceHulls.f (2 * l.length + 3) l = some true := by
  unfold whittlelaw3_PlaceHulls.f
  simp only [Option.bind_some, List.length_nil, List.nil_append, List.length_append, List.length_cons]
  rw [if_pos (by omega), if_pos (by omega), if_pos (by omega), if_pos (by omega)]
  rw [Int.toNat_natCast, List.take_left, Hull_f l (by omega) _ (by omega), refHull_f l (by omega) _ (by omega)]
  simp only [Option.bind_some]
  exact hulls_l0 l (by omega) _ _ _ _ _ _ l.length 0 _ (by omega) (by omega) (by omega)
theorem hulls_calls (W : World) (A : Option Addr) (c : Nat) (l : List S23) (hr : Kd.C k23 W A l.length l) (hc : l.length ≤ c) (hz : l.length * 24 ≤ 140737488351232) (hu : ∀ x ∈ l, (-9223372036854775808 ≤ x.f0 ∧ x.f0 ≤ 9223372036854775807) ∧ (-9223372036854775808 ≤ x.f1 ∧ x.f1 ≤ 9223372036854775807) ∧ (-9223372036854775808 ≤ x.f2 ∧ x.f2 ≤ 9223372036854775807)) :
    Calls Tryd.prog 7 #[.slice A l.length c] W fun e w' => e = .returned (.bool true) ∧ Below W.heap.size W w' :=
  whittlelaw3_PlaceHulls.calls (2 * l.length + 3) A c l true W hr hc ⟨rfl⟩ (hulls_true l (by omega))
end Go.Proofs.YtijmipnafhljkaaDoor.P
