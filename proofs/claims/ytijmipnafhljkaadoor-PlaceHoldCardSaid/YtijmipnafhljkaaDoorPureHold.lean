/-
  PlaceHold: a hull has all the cells, and is the least that has them: the plain law and the contract.
-/
import Derived.Test.YtijmipnafhljkaaDoorPlainHold
import Derived.Test.YtijmipnafhljkaaDoorPlainMeet
import Derived.Test.YtijmipnafhljkaaDoorPx65
namespace Go.Proofs.YtijmipnafhljkaaDoor.P
open Go.RowKit Go.Proofs.YtijmipnafhljkaaDoorW.PrintWords Go.Proofs.YtijmipnafhljkaaDoorW.PrintLast Go.Proofs.YtijmipnafhljkaaDoorW.PrintMore
set_option linter.unusedVariables false
set_option linter.unusedSimpArgs false

theorem hold_l0 (l : List S23) (hl : l.length ≤ 9223372036854775806) (a0 a1 a2 a3 a4 s t lf b r : Int) (hv : hullV l = (s, t, lf, b, r, true)) : ∀ (d i k : Nat) (all : Bool), l.length - i = d → i ≤ l.length → d < k →
    (all = true → ∀ c ∈ l.take i, hasP a0 a1 a2 a3 a4 c.f0 c.f1 c.f2) →
    whittlelaw3_PlaceHold.l0 k l all (i : Int) a0 a1 a2 a3 a4 s t lf b r = some true := by
  obtain ⟨ha, hc, hne, hm⟩ := hull_has hv
  intro d
  induction d with
  | zero =>
    intro i k all hd hi hk hall
    obtain ⟨k, rfl⟩ : ∃ m, k = m + 1 := ⟨k - 1, by omega⟩
    simp only [whittlelaw3_PlaceHold.l0]
    rw [if_neg (by omega), Meet_f]
    simp only [Option.bind_some]
    cases all with
    | false => simp
    | true =>
      have hh := hall rfl
      rw [List.take_of_length_le (by omega)] at hh
      obtain ⟨xa, e, x1, x2, x3, x4⟩ := hm a0 a1 a2 a3 a4 hh
      have ha' := ha
      have e1 : mx t a1 = t := by unfold mx; omega
      have e2 : mx lf a2 = lf := by unfold mx; omega
      have e3 : mn b a3 = b := by unfold mn; omega
      have e4 : mn r a4 = r := by unfold mn; omega
      have hp : meetP s t lf b r a0 a1 a2 a3 a4 := by
        unfold meetP
        rw [e1, e2, e3, e4]
        unfold areaP at ha'
        exact ⟨ha, xa, e.symm, by omega, by omega⟩
      have ev : meetV s t lf b r a0 a1 a2 a3 a4 = (s, t, lf, b, r, true) := by unfold meetV; rw [if_pos hp, e1, e2, e3, e4]
      rw [ev]
      simp
  | succ d ih =>
    intro i k all hd hi hk hall
    obtain ⟨k, rfl⟩ : ∃ m, k = m + 1 := ⟨k - 1, by omega⟩
    have hlt : i < l.length := by omega
    simp only [whittlelaw3_PlaceHold.l0]
    rw [if_pos (by omega), if_pos (by omega), rd_T23_nat l i hlt, Has_f, Has_f]
    have ew : wrap64 ((i : Int) + 1) = ((i + 1 : Nat) : Int) := by unfold wrap64; omega
    simp only [Option.bind_some, hc l[i] (List.getElem_mem hlt), decide_true, if_true, ew]
    cases all with
    | false =>
      rw [if_neg (by simp)]
      exact ih (i + 1) k false (by omega) (by omega) (by omega) (fun h => by cases h)
    | true =>
      rw [if_pos rfl]
      refine ih (i + 1) k _ (by omega) (by omega) (by omega) (fun h c hcc => ?_)
      rw [List.take_succ_eq_append_getElem hlt, List.mem_append, List.mem_singleton] at hcc
      rcases hcc with hcc | rfl
      · exact hall rfl c hcc
      · exact of_decide_eq_true h
theorem hold_true (l : List S23) (hl : l.length < 5864062014805) (a0 a1 a2 a3 a4 : Int) : whittlelaw3_PlaceHold.f (l.length + 1) l a0 a1 a2 a3 a4 = some true := by
  unfold whittlelaw3_PlaceHold.f
  simp only [able_true, Option.bind_some, if_true, List.length_nil, List.nil_append]
  rw [if_pos (by omega), Hull_f l (by omega) _ (by omega)]
  obtain ⟨s, t, lf, b, r, is, hv⟩ : ∃ s t lf b r is, hullV l = (s, t, lf, b, r, is) := ⟨_, _, _, _, _, _, rfl⟩
  rw [hv]
  simp only [Option.bind_some]
  cases is with
  | true =>
    rw [if_pos rfl]
    exact hold_l0 l (by omega) a0 a1 a2 a3 a4 s t lf b r hv l.length 0 (l.length + 1) true (by omega) (by omega) (by omega) (fun _ c hc => by simp at hc)
  | false =>
    obtain ⟨rfl, rfl, rfl, rfl, rfl⟩ := hull_no hv
    simp
theorem hold_calls (W : World) (A : Option Addr) (c : Nat) (l : List S23) (hr : Kd.C k23 W A l.length l) (hc : l.length ≤ c) (hz : l.length * 24 ≤ 140737488351232) (hu : ∀ x ∈ l, (-9223372036854775808 ≤ x.f0 ∧ x.f0 ≤ 9223372036854775807) ∧ (-9223372036854775808 ≤ x.f1 ∧ x.f1 ≤ 9223372036854775807) ∧ (-9223372036854775808 ≤ x.f2 ∧ x.f2 ≤ 9223372036854775807))
    (a0 a1 a2 a3 a4 : Int) (u0 : -9223372036854775808 ≤ a0 ∧ a0 ≤ 9223372036854775807) (u1 : -9223372036854775808 ≤ a1 ∧ a1 ≤ 9223372036854775807) (u2 : -9223372036854775808 ≤ a2 ∧ a2 ≤ 9223372036854775807) (u3 : -9223372036854775808 ≤ a3 ∧ a3 ≤ 9223372036854775807) (u4 : -9223372036854775808 ≤ a4 ∧ a4 ≤ 9223372036854775807) :
    Calls Tryd.prog 10 #[.slice A l.length c, .agg #[.int .i64 a0, .int .i64 a1, .int .i64 a2, .int .i64 a3, .int .i64 a4]] W fun e w' => e = .returned (.bool true) ∧ Below W.heap.size W w' :=
  whittlelaw3_PlaceHold.calls (l.length + 1) A c l _ _ _ _ _ true W hr hc (hold_true l (by omega) _ _ _ _ _)
end Go.Proofs.YtijmipnafhljkaaDoor.P
