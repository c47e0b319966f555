/-
  Hull, plainly.
-/
import Derived.Test.YtijmipnafhljkaaDoorPlain
import Derived.Test.YtijmipnafhljkaaDoorPx55
namespace Go.Proofs.YtijmipnafhljkaaDoor.P
open Go.RowKit Go.Proofs.YtijmipnafhljkaaDoorW.PrintWords Go.Proofs.YtijmipnafhljkaaDoorW.PrintLast Go.Proofs.YtijmipnafhljkaaDoorW.PrintMore
set_option linter.unusedVariables false
set_option linter.unusedSimpArgs false

def hullStep (q : Int × Int × Int × Int) (c : S23) : Int × Int × Int × Int := (mn q.1 c.f1, mn q.2.1 c.f2, mx q.2.2.1 c.f1, mx q.2.2.2 c.f2)
/-- Over the cells of a list, from four numbers on; none: one of them is no cell, or of another sheet. -/
def hullGo (s : Int) : Int × Int × Int × Int → List S23 → Option (Int × Int × Int × Int)
  | q, [] => some q
  | q, c :: l => if cellP c.f0 c.f1 c.f2 ∧ c.f0 = s then hullGo s (hullStep q c) l else none
def hullV (l : List S23) : Int × Int × Int × Int × Int × Bool :=
  match l with
  | [] => (0, 0, 0, 0, 0, false)
  | c :: _ => match hullGo c.f0 (c.f1, c.f2, c.f1, c.f2) l with
    | some q => (c.f0, q.1, q.2.1, q.2.2.1, q.2.2.2, true)
    | none => (0, 0, 0, 0, 0, false)
theorem rd_T23_nat (l : List S23) (k : Nat) (h : k < l.length) : rd_T23 l (k : Int) = l[k] := by
  unfold rd_T23; rw [Int.toNat_natCast, List.getD_eq_getElem?_getD, List.getElem?_eq_getElem h]; rfl
theorem hull_l0 (l : List S23) (hl : l.length ≤ 9223372036854775806) : ∀ (d i k : Nat) (s t lf b r : Int), l.length - i = d → i ≤ l.length → d < k →
    place_Hull.l0 k l (l.length : Int) (i : Int) s t lf b r = some (match hullGo s (t, lf, b, r) (l.drop i) with | some q => (s, q.1, q.2.1, q.2.2.1, q.2.2.2, true) | none => (0, 0, 0, 0, 0, false)) := by
  intro d
  induction d with
  | zero =>
    intro i k s t lf b r hd hi hk
    obtain ⟨k, rfl⟩ : ∃ m, k = m + 1 := ⟨k - 1, by omega⟩
    simp only [place_Hull.l0]
    rw [if_neg (by omega), List.drop_eq_nil_of_le (by omega)]
    rfl
  | succ d ih =>
    intro i k s t lf b r hd hi hk
    obtain ⟨k, rfl⟩ : ∃ m, k = m + 1 := ⟨k - 1, by omega⟩
    have hlt : i < l.length := by omega
    simp only [place_Hull.l0]
    rw [if_pos (by omega), if_pos (by omega), if_pos (by omega), Right_f, rd_T23_nat l i hlt, List.drop_eq_getElem_cons hlt]
    simp only [Option.bind_some, decide_eq_true_eq]
    have ew : wrap64 ((i : Int) + 1) = ((i + 1 : Nat) : Int) := by unfold wrap64; omega
    rw [ew, ih (i + 1) k _ _ _ _ _ (by omega) (by omega) (by omega)]
    by_cases h : cellP l[i].f0 l[i].f1 l[i].f2
    · by_cases e : l[i].f0 = s
      · rw [if_pos h, if_pos e]
        simp only [hullGo]
        rw [if_pos ⟨h, e⟩]
        rfl
      · rw [if_pos h, if_neg e]
        simp only [hullGo]
        rw [if_neg (fun z => e z.2)]
    · rw [if_neg h]
      simp only [hullGo]
      rw [if_neg (fun z => h z.1)]
theorem Hull_f (l : List S23) (hl : l.length ≤ 9223372036854775806) (k : Nat) (hk : l.length < k) : place_Hull.f k l = some (hullV l) := by
  unfold place_Hull.f
  cases l with
  | nil => rfl
  | cons c l =>
    rw [if_neg (by simp only [List.length_cons]; omega), if_pos (by simp only [List.length_cons]; omega)]
    have h := hull_l0 (c :: l) hl ((c :: l).length) 0 k c.f0 c.f1 c.f2 c.f1 c.f2 (by simp) (by simp) hk
    have e : rd_T23 (c :: l) 0 = c := rfl
    rw [e]
    exact h
end Go.Proofs.YtijmipnafhljkaaDoor.P
