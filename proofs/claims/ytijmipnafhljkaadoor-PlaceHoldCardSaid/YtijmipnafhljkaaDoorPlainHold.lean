/-
  What a hull is.
-/
import Derived.Test.YtijmipnafhljkaaDoorPlainHull
namespace Go.Proofs.YtijmipnafhljkaaDoor.P
open Go.RowKit Go.Proofs.YtijmipnafhljkaaDoorW.PrintWords Go.Proofs.YtijmipnafhljkaaDoorW.PrintLast Go.Proofs.YtijmipnafhljkaaDoorW.PrintMore
set_option linter.unusedVariables false
set_option linter.unusedSimpArgs false

theorem hullGo_cells {s : Int} : ∀ {l : List S23} {q q' : Int × Int × Int × Int}, hullGo s q l = some q' → ∀ c ∈ l, cellP c.f0 c.f1 c.f2 ∧ c.f0 = s := by
  intro l
  induction l with
  | nil => intro q q' h c hc; cases hc
  | cons d l ih =>
    intro q q' h c hc
    simp only [hullGo] at h
    by_cases e : cellP d.f0 d.f1 d.f2 ∧ d.f0 = s
    · rw [if_pos e] at h
      rcases List.mem_cons.1 hc with rfl | hc
      · exact e
      · exact ih h c hc
    · rw [if_neg e] at h; cases h
theorem hullGo_grow {s : Int} : ∀ {l : List S23} {q q' : Int × Int × Int × Int}, hullGo s q l = some q' → q'.1 ≤ q.1 ∧ q'.2.1 ≤ q.2.1 ∧ q.2.2.1 ≤ q'.2.2.1 ∧ q.2.2.2 ≤ q'.2.2.2 ∧ ∀ c ∈ l, q'.1 ≤ c.f1 ∧ q'.2.1 ≤ c.f2 ∧ c.f1 ≤ q'.2.2.1 ∧ c.f2 ≤ q'.2.2.2 := by
  intro l
  induction l with
  | nil => intro q q' h; simp only [hullGo, Option.some.injEq] at h; subst h; exact ⟨by omega, by omega, by omega, by omega, fun c hc => by cases hc⟩
  | cons d l ih =>
    intro q q' h
    simp only [hullGo] at h
    by_cases e : cellP d.f0 d.f1 d.f2 ∧ d.f0 = s
    · rw [if_pos e] at h
      obtain ⟨h1, h2, h3, h4, h5⟩ := ih h
      have m1 : (hullStep q d).1 ≤ q.1 ∧ (hullStep q d).1 ≤ d.f1 := by unfold hullStep mn; simp only; omega
      have m2 : (hullStep q d).2.1 ≤ q.2.1 ∧ (hullStep q d).2.1 ≤ d.f2 := by unfold hullStep mn; simp only; omega
      have m3 : q.2.2.1 ≤ (hullStep q d).2.2.1 ∧ d.f1 ≤ (hullStep q d).2.2.1 := by unfold hullStep mx; simp only; omega
      have m4 : q.2.2.2 ≤ (hullStep q d).2.2.2 ∧ d.f2 ≤ (hullStep q d).2.2.2 := by unfold hullStep mx; simp only; omega
      refine ⟨by omega, by omega, by omega, by omega, fun c hc => ?_⟩
      rcases List.mem_cons.1 hc with rfl | hc
      · exact ⟨by omega, by omega, by omega, by omega⟩
      · exact h5 c hc
    · rw [if_neg e] at h; cases h
theorem hullGo_in {s t lf b r : Int} : ∀ {l : List S23} {q q' : Int × Int × Int × Int}, hullGo s q l = some q' → t ≤ q.1 → lf ≤ q.2.1 → q.2.2.1 ≤ b → q.2.2.2 ≤ r → (∀ c ∈ l, t ≤ c.f1 ∧ lf ≤ c.f2 ∧ c.f1 ≤ b ∧ c.f2 ≤ r) →
    t ≤ q'.1 ∧ lf ≤ q'.2.1 ∧ q'.2.2.1 ≤ b ∧ q'.2.2.2 ≤ r := by
  intro l
  induction l with
  | nil => intro q q' h h1 h2 h3 h4 _; simp only [hullGo, Option.some.injEq] at h; subst h; exact ⟨h1, h2, h3, h4⟩
  | cons d l ih =>
    intro q q' h h1 h2 h3 h4 h5
    simp only [hullGo] at h
    by_cases e : cellP d.f0 d.f1 d.f2 ∧ d.f0 = s
    · rw [if_pos e] at h
      obtain ⟨d1, d2, d3, d4⟩ := h5 d (List.mem_cons_self ..)
      refine ih h ?_ ?_ ?_ ?_ (fun c hc => h5 c (List.mem_cons_of_mem _ hc))
      · unfold hullStep mn; simp only; omega
      · unfold hullStep mn; simp only; omega
      · unfold hullStep mx; simp only; omega
      · unfold hullStep mx; simp only; omega
    · rw [if_neg e] at h; cases h
/-- What a hull is: an area that has all the cells, and lies in each area that has them. -/
theorem hull_has {l : List S23} {s t lf b r : Int} (h : hullV l = (s, t, lf, b, r, true)) :
    areaP s t lf b r ∧ (∀ c ∈ l, hasP s t lf b r c.f0 c.f1 c.f2) ∧ l ≠ [] ∧ ∀ a0 a1 a2 a3 a4, (∀ c ∈ l, hasP a0 a1 a2 a3 a4 c.f0 c.f1 c.f2) → areaP a0 a1 a2 a3 a4 ∧ a0 = s ∧ a1 ≤ t ∧ a2 ≤ lf ∧ b ≤ a3 ∧ r ≤ a4 := by
  cases l with
  | nil => simp [hullV] at h
  | cons d l =>
    unfold hullV at h
    simp only at h
    cases hg : hullGo d.f0 (d.f1, d.f2, d.f1, d.f2) (d :: l) with
    | none => rw [hg] at h; simp at h
    | some q =>
      rw [hg] at h
      simp only [Prod.mk.injEq, and_true] at h
      obtain ⟨rfl, rfl, rfl, rfl, rfl⟩ := h
      have hc := hullGo_cells hg
      obtain ⟨g1, g2, g3, g4, g5⟩ := hullGo_grow hg
      have hd := hc d (List.mem_cons_self ..)
      have hd1 := hd.1
      unfold cellP at hd1
      have hb := hullGo_in (t := 0) (lf := 0) (b := 65535) (r := 255) hg (by simp only; omega) (by simp only; omega) (by simp only; omega) (by simp only; omega) (fun c hcc => by
        have := (hc c hcc).1; unfold cellP at this; omega)
      simp only at g1 g2 g3 g4
      have ha : areaP d.f0 q.1 q.2.1 q.2.2.1 q.2.2.2 := by unfold areaP; omega
      refine ⟨ha, fun c hcc => ⟨ha, (hc c hcc).2, ?_⟩, by simp, fun a0 a1 a2 a3 a4 hh => ?_⟩
      · have := g5 c hcc; omega
      · have hh0 := hh d (List.mem_cons_self ..)
        obtain ⟨x1, x2, x3, x4, x5, x6⟩ := hh0
        have hi := hullGo_in (t := a1) (lf := a2) (b := a3) (r := a4) hg (by simp only; omega) (by simp only; omega) (by simp only; omega) (by simp only; omega) (fun c hcc => by
          obtain ⟨y1, y2, y3, y4, y5, y6⟩ := hh c hcc; omega)
        exact ⟨x1, by omega, hi.1, hi.2.1, hi.2.2.1, hi.2.2.2⟩
theorem hull_no {l : List S23} {s t lf b r : Int} (h : hullV l = (s, t, lf, b, r, false)) : s = 0 ∧ t = 0 ∧ lf = 0 ∧ b = 0 ∧ r = 0 := by
  cases l with
  | nil => simp [hullV] at h; omega
  | cons d l =>
    unfold hullV at h
    simp only at h
    cases hg : hullGo d.f0 (d.f1, d.f2, d.f1, d.f2) (d :: l) with
    | none => rw [hg] at h; simp at h; omega
    | some q => rw [hg] at h; simp at h
end Go.Proofs.YtijmipnafhljkaaDoor.P
