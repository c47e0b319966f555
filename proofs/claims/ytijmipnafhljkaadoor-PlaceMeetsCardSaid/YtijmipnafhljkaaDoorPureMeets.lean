/-
  PlaceMeets: Meet has just what both have, whatever the order, however three are grouped: the plain law and the contract.
-/
import Derived.Test.YtijmipnafhljkaaDoorPlainMeet
import Derived.Test.YtijmipnafhljkaaDoorPtMeets
namespace Go.Proofs.YtijmipnafhljkaaDoor.P
open Go.RowKit Go.Proofs.YtijmipnafhljkaaDoorW.PrintWords Go.Proofs.YtijmipnafhljkaaDoorW.PrintLast Go.Proofs.YtijmipnafhljkaaDoorW.PrintMore
set_option linter.unusedVariables false
set_option linter.unusedSimpArgs false

theorem mx_le (a b c : Int) : mx a b ≤ c ↔ a ≤ c ∧ b ≤ c := by unfold mx; split <;> omega
theorem le_mn (a b c : Int) : c ≤ mn a b ↔ c ≤ a ∧ c ≤ b := by unfold mn; split <;> omega
theorem le_mx (a b c : Int) : c ≤ mx a b ↔ c ≤ a ∨ c ≤ b := by unfold mx; split <;> omega
theorem mn_le (a b c : Int) : mn a b ≤ c ↔ a ≤ c ∨ b ≤ c := by unfold mn; split <;> omega
theorem mx_comm (a b : Int) : mx a b = mx b a := by unfold mx; split <;> split <;> omega
theorem mn_comm (a b : Int) : mn a b = mn b a := by unfold mn; split <;> split <;> omega
theorem mx_assoc (a b c : Int) : mx (mx a b) c = mx a (mx b c) := by unfold mx; (repeat' split) <;> omega
theorem mn_assoc (a b c : Int) : mn (mn a b) c = mn a (mn b c) := by unfold mn; (repeat' split) <;> omega
theorem mx_self (a : Int) : mx a a = a := by unfold mx; split <;> rfl
theorem mn_self (a : Int) : mn a a = a := by unfold mn; split <;> rfl
section
variable (a0 a1 a2 a3 a4 b0 b1 b2 b3 b4 d0 d1 d2 d3 d4 : Int)
theorem meet_comm : meetV b0 b1 b2 b3 b4 a0 a1 a2 a3 a4 = meetV a0 a1 a2 a3 a4 b0 b1 b2 b3 b4 := by
  unfold meetV
  have e : meetP b0 b1 b2 b3 b4 a0 a1 a2 a3 a4 ↔ meetP a0 a1 a2 a3 a4 b0 b1 b2 b3 b4 := by
    unfold meetP; simp only [mx_le, le_mn]; constructor <;> (intro h; obtain ⟨h1, h2, h3, h4, h5⟩ := h; exact ⟨h2, h1, h3.symm, by omega, by omega⟩)
  by_cases h : meetP a0 a1 a2 a3 a4 b0 b1 b2 b3 b4
  · rw [if_pos h, if_pos (e.mpr h), mx_comm a1 b1, mx_comm a2 b2, mn_comm a3 b3, mn_comm a4 b4, h.2.2.1]
  · rw [if_neg h, if_neg (fun z => h (e.mp z))]
theorem meet_self : meetV a0 a1 a2 a3 a4 a0 a1 a2 a3 a4 = if areaP a0 a1 a2 a3 a4 then (a0, a1, a2, a3, a4, true) else (0, 0, 0, 0, 0, false) := by
  unfold meetV
  by_cases h : areaP a0 a1 a2 a3 a4
  · have hm : meetP a0 a1 a2 a3 a4 a0 a1 a2 a3 a4 := by
      refine ⟨h, h, rfl, ?_, ?_⟩ <;> (simp only [mx_self, mn_self]; unfold areaP at h; omega)
    rw [if_pos hm, if_pos h, mx_self, mx_self, mn_self, mn_self]
  · rw [if_neg (fun z => h z.1), if_neg h]
theorem meet_has (c0 c1 c2 : Int) (h : meetP a0 a1 a2 a3 a4 b0 b1 b2 b3 b4) : hasP a0 (mx a1 b1) (mx a2 b2) (mn a3 b3) (mn a4 b4) c0 c1 c2 ↔ hasP a0 a1 a2 a3 a4 c0 c1 c2 ∧ hasP b0 b1 b2 b3 b4 c0 c1 c2 := by
  have ha := meet_area h
  obtain ⟨h1, h2, h3, h4, h5⟩ := h
  unfold hasP
  simp only [mx_le, le_mn]
  constructor
  · intro z; refine ⟨⟨h1, ?_⟩, ⟨h2, ?_⟩⟩ <;> omega
  · intro z; refine ⟨ha, ?_⟩; obtain ⟨⟨_, z1⟩, ⟨_, z2⟩⟩ := z; omega
theorem meet_not (c0 c1 c2 : Int) (h : ¬ meetP a0 a1 a2 a3 a4 b0 b1 b2 b3 b4) : ¬ (hasP a0 a1 a2 a3 a4 c0 c1 c2 ∧ hasP b0 b1 b2 b3 b4 c0 c1 c2) := by
  intro z
  apply h
  unfold hasP at z
  obtain ⟨⟨z1, z2⟩, ⟨z3, z4⟩⟩ := z
  refine ⟨z1, z3, by omega, ?_, ?_⟩ <;> (simp only [mx_le, le_mn]; unfold areaP at z1 z3; omega)
theorem assoc_p (h : meetP a0 a1 a2 a3 a4 b0 b1 b2 b3 b4) (hd : meetP b0 b1 b2 b3 b4 d0 d1 d2 d3 d4) :
    meetP a0 (mx a1 b1) (mx a2 b2) (mn a3 b3) (mn a4 b4) d0 d1 d2 d3 d4 ↔ meetP a0 a1 a2 a3 a4 b0 (mx b1 d1) (mx b2 d2) (mn b3 d3) (mn b4 d4) := by
  have e1 := meet_area h
  have e2 := meet_area hd
  obtain ⟨h1, h2, h3, h4, h5⟩ := h
  obtain ⟨k1, k2, k3, k4, k5⟩ := hd
  unfold meetP
  rw [mx_assoc, mx_assoc, mn_assoc, mn_assoc]
  constructor
  · intro z; exact ⟨h1, e2, h3, z.2.2.2.1, z.2.2.2.2⟩
  · intro z; exact ⟨e1, k2, by omega, z.2.2.2.1, z.2.2.2.2⟩
theorem assoc_l (h : meetP a0 a1 a2 a3 a4 b0 b1 b2 b3 b4) (hz : meetP a0 (mx a1 b1) (mx a2 b2) (mn a3 b3) (mn a4 b4) d0 d1 d2 d3 d4) : meetP b0 b1 b2 b3 b4 d0 d1 d2 d3 d4 := by
  obtain ⟨h1, h2, h3, h4, h5⟩ := h
  unfold meetP at hz ⊢
  simp only [mx_le, le_mn] at hz ⊢
  obtain ⟨k1, k2, k3, k4, k5⟩ := hz
  exact ⟨h2, k2, by omega, by omega, by omega⟩
theorem assoc_r (hd : meetP b0 b1 b2 b3 b4 d0 d1 d2 d3 d4) (hz : meetP a0 a1 a2 a3 a4 b0 (mx b1 d1) (mx b2 d2) (mn b3 d3) (mn b4 d4)) : meetP a0 a1 a2 a3 a4 b0 b1 b2 b3 b4 := by
  obtain ⟨h1, h2, h3, h4, h5⟩ := hd
  unfold meetP at hz ⊢
  simp only [mx_le, le_mn] at hz ⊢
  obtain ⟨k1, k2, k3, k4, k5⟩ := hz
  exact ⟨k1, h1, by omega, by omega, by omega⟩
theorem meetV_b (x0 x1 x2 x3 x4 : Int) : (meetV x0 x1 x2 x3 x4 d0 d1 d2 d3 d4).2.2.2.2.2 = decide (meetP x0 x1 x2 x3 x4 d0 d1 d2 d3 d4) := by
  unfold meetV; split <;> rename_i h <;> simp [h]
theorem meets_j3 (k : Nat) (p : Bool) (l0 l1 l2 l3 l4 r0 r1 r2 r3 r4 : Int) (h : p = true → l0 = r0 ∧ l1 = r1 ∧ l2 = r2 ∧ l3 = r3 ∧ l4 = r4) :
    whittlelaw3_PlaceMeets.j3 (k + 1) p p a0 a1 a2 a3 a4 l0 l1 l2 l3 l4 r0 r1 r2 r3 r4 = some true := by
  rw [whittlelaw3_PlaceMeets.j3, Meet_f, meet_self]
  simp only [Option.bind_some, beq_self_eq_true, if_true, RightArea_f]
  have A : (if ((if areaP a0 a1 a2 a3 a4 then (a0, a1, a2, a3, a4, true) else (0, 0, 0, 0, 0, false) : Int × Int × Int × Int × Int × Bool).2.2.2.2.2 == decide (areaP a0 a1 a2 a3 a4)) = true then
      if (if areaP a0 a1 a2 a3 a4 then (a0, a1, a2, a3, a4, true) else (0, 0, 0, 0, 0, false) : Int × Int × Int × Int × Int × Bool).2.2.2.2.2 = true then
        some ((if areaP a0 a1 a2 a3 a4 then (a0, a1, a2, a3, a4, true) else (0, 0, 0, 0, 0, false) : Int × Int × Int × Int × Int × Bool).1 == a0 && ((if areaP a0 a1 a2 a3 a4 then (a0, a1, a2, a3, a4, true) else (0, 0, 0, 0, 0, false) : Int × Int × Int × Int × Int × Bool).2.1 == a1 && ((if areaP a0 a1 a2 a3 a4 then (a0, a1, a2, a3, a4, true) else (0, 0, 0, 0, 0, false) : Int × Int × Int × Int × Int × Bool).2.2.1 == a2 && ((if areaP a0 a1 a2 a3 a4 then (a0, a1, a2, a3, a4, true) else (0, 0, 0, 0, 0, false) : Int × Int × Int × Int × Int × Bool).2.2.2.1 == a3 && ((if areaP a0 a1 a2 a3 a4 then (a0, a1, a2, a3, a4, true) else (0, 0, 0, 0, 0, false) : Int × Int × Int × Int × Int × Bool).2.2.2.2.1 == a4)))))
      else some true else some false) = some true := by
    by_cases ha : areaP a0 a1 a2 a3 a4 <;> simp [ha]
  cases p with
  | true =>
    obtain ⟨rfl, rfl, rfl, rfl, rfl⟩ := h rfl
    simp only [if_true, beq_self_eq_true, Bool.and_self]
    exact A
  | false =>
    simp only [Bool.false_eq_true, if_false]
    exact A
theorem meets_j2 (k : Nat) (p q s : Bool) (l0 l1 l2 l3 l4 r0 r1 r2 r3 r4 : Int) (e : p = (s && q)) (h : p = true → l0 = r0 ∧ l1 = r1 ∧ l2 = r2 ∧ l3 = r3 ∧ l4 = r4) :
    whittlelaw3_PlaceMeets.j2 (k + 2) p q s a0 a1 a2 a3 a4 l0 l1 l2 l3 l4 r0 r1 r2 r3 r4 = some true := by
  rw [whittlelaw3_PlaceMeets.j2]
  cases s with
  | true =>
    rw [if_pos rfl]
    rw [Bool.true_and] at e
    subst e
    exact meets_j3 a0 a1 a2 a3 a4 k p l0 l1 l2 l3 l4 r0 r1 r2 r3 r4 h
  | false =>
    rw [if_neg (by simp)]
    rw [Bool.false_and] at e
    subst e
    exact meets_j3 a0 a1 a2 a3 a4 k false l0 l1 l2 l3 l4 r0 r1 r2 r3 r4 h
theorem meets_j1 (k : Nat) (x0 x1 x2 x3 x4 : Int) (is : Bool) (hx : meetV a0 a1 a2 a3 a4 b0 b1 b2 b3 b4 = (x0, x1, x2, x3, x4, is)) :
    whittlelaw3_PlaceMeets.j1 (k + 3) is false a0 a1 a2 a3 a4 b0 b1 b2 b3 b4 d0 d1 d2 d3 d4 x0 x1 x2 x3 x4 = some true := by
  rw [whittlelaw3_PlaceMeets.j1, if_neg (by simp), Meet_f, Meet_f]
  simp only [Option.bind_some]
  rw [Meet_f]
  simp only [Option.bind_some]
  obtain ⟨m0, m1, m2, m3, m4, q, hm⟩ : ∃ m0 m1 m2 m3 m4 q, meetV b0 b1 b2 b3 b4 d0 d1 d2 d3 d4 = (m0, m1, m2, m3, m4, q) := ⟨_, _, _, _, _, _, rfl⟩
  obtain ⟨l0, l1, l2, l3, l4, p, hl⟩ : ∃ m0 m1 m2 m3 m4 q, meetV x0 x1 x2 x3 x4 d0 d1 d2 d3 d4 = (m0, m1, m2, m3, m4, q) := ⟨_, _, _, _, _, _, rfl⟩
  rw [hm, hl]
  simp only
  obtain ⟨r0, r1, r2, r3, r4, s, hr⟩ : ∃ r0 r1 r2 r3 r4 s, meetV a0 a1 a2 a3 a4 m0 m1 m2 m3 m4 = (r0, r1, r2, r3, r4, s) := ⟨_, _, _, _, _, _, rfl⟩
  rw [hr]
  simp only
  have goal : (p && is) = (s && q) ∧ ((p && is) = true → l0 = r0 ∧ l1 = r1 ∧ l2 = r2 ∧ l3 = r3 ∧ l4 = r4) := by
    by_cases h : meetP a0 a1 a2 a3 a4 b0 b1 b2 b3 b4
    · unfold meetV at hx
      rw [if_pos h] at hx
      simp only [Prod.mk.injEq] at hx
      obtain ⟨rfl, rfl, rfl, rfl, rfl, rfl⟩ := hx
      by_cases hd : meetP b0 b1 b2 b3 b4 d0 d1 d2 d3 d4
      · unfold meetV at hm
        rw [if_pos hd] at hm
        simp only [Prod.mk.injEq] at hm
        obtain ⟨rfl, rfl, rfl, rfl, rfl, rfl⟩ := hm
        have e := assoc_p a0 a1 a2 a3 a4 b0 b1 b2 b3 b4 d0 d1 d2 d3 d4 h hd
        unfold meetV at hl hr
        by_cases z : meetP a0 (mx a1 b1) (mx a2 b2) (mn a3 b3) (mn a4 b4) d0 d1 d2 d3 d4
        · rw [if_pos z] at hl
          rw [if_pos (e.mp z)] at hr
          simp only [Prod.mk.injEq] at hl hr
          obtain ⟨rfl, rfl, rfl, rfl, rfl, rfl⟩ := hl
          obtain ⟨rfl, rfl, rfl, rfl, rfl, rfl⟩ := hr
          exact ⟨rfl, fun _ => ⟨rfl, mx_assoc _ _ _, mx_assoc _ _ _, mn_assoc _ _ _, mn_assoc _ _ _⟩⟩
        · rw [if_neg z] at hl
          rw [if_neg (fun y => z (e.mpr y))] at hr
          simp only [Prod.mk.injEq] at hl hr
          obtain ⟨rfl, rfl, rfl, rfl, rfl, rfl⟩ := hl
          obtain ⟨rfl, rfl, rfl, rfl, rfl, rfl⟩ := hr
          exact ⟨rfl, fun y => by simp at y⟩
      · have hq : q = false := by
          unfold meetV at hm
          rw [if_neg hd] at hm
          simp only [Prod.mk.injEq] at hm
          exact hm.2.2.2.2.2.symm
        have hp : p = false := by
          unfold meetV at hl
          rw [if_neg (fun z => hd (assoc_l a0 a1 a2 a3 a4 b0 b1 b2 b3 b4 d0 d1 d2 d3 d4 h z))] at hl
          simp only [Prod.mk.injEq] at hl
          exact hl.2.2.2.2.2.symm
        subst hq hp
        simp
    · have hi : is = false := by
        unfold meetV at hx
        rw [if_neg h] at hx
        simp only [Prod.mk.injEq] at hx
        exact hx.2.2.2.2.2.symm
      have hs : (s && q) = false := by
        by_cases hd : meetP b0 b1 b2 b3 b4 d0 d1 d2 d3 d4
        · unfold meetV at hm
          rw [if_pos hd] at hm
          simp only [Prod.mk.injEq] at hm
          obtain ⟨rfl, rfl, rfl, rfl, rfl, rfl⟩ := hm
          unfold meetV at hr
          rw [if_neg (fun z => h (assoc_r a0 a1 a2 a3 a4 b0 b1 b2 b3 b4 d0 d1 d2 d3 d4 hd z))] at hr
          simp only [Prod.mk.injEq] at hr
          rw [← hr.2.2.2.2.2]
          rfl
        · unfold meetV at hm
          rw [if_neg hd] at hm
          simp only [Prod.mk.injEq] at hm
          rw [← hm.2.2.2.2.2, Bool.and_false]
      subst hi
      rw [hs, Bool.and_false]
      exact ⟨rfl, fun y => by simp at y⟩
  cases p with
  | true =>
    rw [if_pos rfl]
    rw [Bool.true_and] at goal
    exact meets_j2 a0 a1 a2 a3 a4 k is q s _ _ _ _ _ _ _ _ _ _ goal.1 goal.2
  | false =>
    rw [if_neg (by simp)]
    rw [Bool.false_and] at goal
    exact meets_j2 a0 a1 a2 a3 a4 k false q s _ _ _ _ _ _ _ _ _ _ goal.1 goal.2
theorem meets_true (c0 c1 c2 : Int) : whittlelaw3_PlaceMeets.f 4 a0 a1 a2 a3 a4 b0 b1 b2 b3 b4 d0 d1 d2 d3 d4 c0 c1 c2 = some true := by
  unfold whittlelaw3_PlaceMeets.f
  simp only [able_true, Option.bind_some, if_true, Meet_f]
  rw [meet_comm a0 a1 a2 a3 a4 b0 b1 b2 b3 b4]
  obtain ⟨x0, x1, x2, x3, x4, is, hx⟩ : ∃ m0 m1 m2 m3 m4 q, meetV a0 a1 a2 a3 a4 b0 b1 b2 b3 b4 = (m0, m1, m2, m3, m4, q) := ⟨_, _, _, _, _, _, rfl⟩
  rw [hx]
  simp only [beq_self_eq_true, Bool.not_true, Bool.or_self, Bool.false_eq_true, if_false, bne_self_eq_false, Has_f, Option.bind_some, decide_eq_true_eq]
  have key : (is = true → (hasP x0 x1 x2 x3 x4 c0 c1 c2 ↔ hasP a0 a1 a2 a3 a4 c0 c1 c2 ∧ hasP b0 b1 b2 b3 b4 c0 c1 c2)) ∧ (is = false → ¬ (hasP a0 a1 a2 a3 a4 c0 c1 c2 ∧ hasP b0 b1 b2 b3 b4 c0 c1 c2)) := by
    by_cases h : meetP a0 a1 a2 a3 a4 b0 b1 b2 b3 b4
    · have hx' := hx
      unfold meetV at hx'
      rw [if_pos h] at hx'
      simp only [Prod.mk.injEq] at hx'
      obtain ⟨rfl, rfl, rfl, rfl, rfl, rfl⟩ := hx'
      exact ⟨fun _ => meet_has a0 a1 a2 a3 a4 b0 b1 b2 b3 b4 c0 c1 c2 h, fun y => by simp at y⟩
    · have hx' := hx
      unfold meetV at hx'
      rw [if_neg h] at hx'
      simp only [Prod.mk.injEq] at hx'
      obtain ⟨rfl, rfl, rfl, rfl, rfl, rfl⟩ := hx'
      exact ⟨fun y => by simp at y, fun _ => meet_not a0 a1 a2 a3 a4 b0 b1 b2 b3 b4 c0 c1 c2 h⟩
  have j0 : whittlelaw3_PlaceMeets.j0 4 is false a0 a1 a2 a3 a4 b0 b1 b2 b3 b4 d0 d1 d2 d3 d4 c0 c1 c2 x0 x1 x2 x3 x4 = some true := by
    rw [whittlelaw3_PlaceMeets.j0, if_neg (by simp)]
    simp only [Has_f, Option.bind_some, decide_eq_true_eq]
    have e1 := meets_j1 a0 a1 a2 a3 a4 b0 b1 b2 b3 b4 d0 d1 d2 d3 d4 0 x0 x1 x2 x3 x4 is hx
    cases is with
    | true =>
      have k1 := key.1 rfl
      rw [if_pos rfl]
      by_cases ha : hasP a0 a1 a2 a3 a4 c0 c1 c2
      · by_cases hb : hasP b0 b1 b2 b3 b4 c0 c1 c2
        · have hc := k1.mpr ⟨ha, hb⟩
          rw [if_pos ha, decide_eq_true hc, decide_eq_true hb, if_neg (by simp)]
          exact e1
        · have hc : ¬ hasP x0 x1 x2 x3 x4 c0 c1 c2 := fun z => hb (k1.mp z).2
          rw [if_pos ha, decide_eq_false hc, decide_eq_false hb, if_neg (by simp)]
          exact e1
      · have hc : ¬ hasP x0 x1 x2 x3 x4 c0 c1 c2 := fun z => ha (k1.mp z).1
        rw [if_neg ha, decide_eq_false hc, if_neg (by simp)]
        exact e1
    | false =>
      have k2 := key.2 rfl
      rw [if_neg (by simp)]
      by_cases ha : hasP a0 a1 a2 a3 a4 c0 c1 c2
      · have hb : ¬ hasP b0 b1 b2 b3 b4 c0 c1 c2 := fun z => k2 ⟨ha, z⟩
        rw [if_pos ha, decide_eq_false hb]
        exact e1
      · rw [if_neg ha]
        exact e1
  by_cases hc : hasP x0 x1 x2 x3 x4 c0 c1 c2
  · rw [if_pos hc]
    by_cases ha : hasP a0 a1 a2 a3 a4 c0 c1 c2
    · rw [if_pos ha]
      cases is with
      | true => rw [decide_eq_true ((key.1 rfl).mp hc).2]; exact j0
      | false => rw [decide_eq_false (fun z => key.2 rfl ⟨ha, z⟩)]; exact j0
    · rw [if_neg ha]
      cases is with
      | true => exact absurd ((key.1 rfl).mp hc).1 ha
      | false => exact j0
  · rw [if_neg hc]
    exact j0
end
theorem meets_calls (W : World) (a0 a1 a2 a3 a4 : Int) (ua0 : -9223372036854775808 ≤ a0 ∧ a0 ≤ 9223372036854775807) (ua1 : -9223372036854775808 ≤ a1 ∧ a1 ≤ 9223372036854775807) (ua2 : -9223372036854775808 ≤ a2 ∧ a2 ≤ 9223372036854775807) (ua3 : -9223372036854775808 ≤ a3 ∧ a3 ≤ 9223372036854775807) (ua4 : -9223372036854775808 ≤ a4 ∧ a4 ≤ 9223372036854775807)
    (b0 b1 b2 b3 b4 : Int) (ub0 : -9223372036854775808 ≤ b0 ∧ b0 ≤ 9223372036854775807) (ub1 : -9223372036854775808 ≤ b1 ∧ b1 ≤ 9223372036854775807) (ub2 : -9223372036854775808 ≤ b2 ∧ b2 ≤ 9223372036854775807) (ub3 : -9223372036854775808 ≤ b3 ∧ b3 ≤ 9223372036854775807) (ub4 : -9223372036854775808 ≤ b4 ∧ b4 ≤ 9223372036854775807)
    (d0 d1 d2 d3 d4 : Int) (ud0 : -9223372036854775808 ≤ d0 ∧ d0 ≤ 9223372036854775807) (ud1 : -9223372036854775808 ≤ d1 ∧ d1 ≤ 9223372036854775807) (ud2 : -9223372036854775808 ≤ d2 ∧ d2 ≤ 9223372036854775807) (ud3 : -9223372036854775808 ≤ d3 ∧ d3 ≤ 9223372036854775807) (ud4 : -9223372036854775808 ≤ d4 ∧ d4 ≤ 9223372036854775807)
    (c0 c1 c2 : Int) (uc0 : -9223372036854775808 ≤ c0 ∧ c0 ≤ 9223372036854775807) (uc1 : -9223372036854775808 ≤ c1 ∧ c1 ≤ 9223372036854775807) (uc2 : -9223372036854775808 ≤ c2 ∧ c2 ≤ 9223372036854775807) :
    Calls Tryd.prog 4 #[.agg #[.int .i64 a0, .int .i64 a1, .int .i64 a2, .int .i64 a3, .int .i64 a4], .agg #[.int .i64 b0, .int .i64 b1, .int .i64 b2, .int .i64 b3, .int .i64 b4], .agg #[.int .i64 d0, .int .i64 d1, .int .i64 d2, .int .i64 d3, .int .i64 d4], .agg #[.int .i64 c0, .int .i64 c1, .int .i64 c2]] W fun e w' => e = .returned (.bool true) ∧ Below W.heap.size W w' :=
  whittlelaw3_PlaceMeets.calls 4 _ _ _ _ _ _ _ _ _ _ _ _ _ _ _ _ _ _ true W ⟨rfl⟩ (meets_true _ _ _ _ _ _ _ _ _ _ _ _ _ _ _ _ _ _)
end Go.Proofs.YtijmipnafhljkaaDoor.P
