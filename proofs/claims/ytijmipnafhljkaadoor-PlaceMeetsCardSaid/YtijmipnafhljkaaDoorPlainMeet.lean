/-
  Meet, plainly.
-/
import Derived.Test.YtijmipnafhljkaaDoorPlain
import Derived.Test.YtijmipnafhljkaaDoorPx49
namespace Go.Proofs.YtijmipnafhljkaaDoor.P
open Go.RowKit Go.Proofs.YtijmipnafhljkaaDoorW.PrintWords Go.Proofs.YtijmipnafhljkaaDoorW.PrintLast Go.Proofs.YtijmipnafhljkaaDoorW.PrintMore
set_option linter.unusedVariables false
set_option linter.unusedSimpArgs false

/-- Do two areas meet? -/
def meetP (a0 a1 a2 a3 a4 b0 b1 b2 b3 b4 : Int) : Prop := areaP a0 a1 a2 a3 a4 ∧ areaP b0 b1 b2 b3 b4 ∧ a0 = b0 ∧ mx a1 b1 ≤ mn a3 b3 ∧ mx a2 b2 ≤ mn a4 b4
instance (a0 a1 a2 a3 a4 b0 b1 b2 b3 b4 : Int) : Decidable (meetP a0 a1 a2 a3 a4 b0 b1 b2 b3 b4) := by unfold meetP; infer_instance
def meetV (a0 a1 a2 a3 a4 b0 b1 b2 b3 b4 : Int) : Int × Int × Int × Int × Int × Bool := if meetP a0 a1 a2 a3 a4 b0 b1 b2 b3 b4 then (a0, mx a1 b1, mx a2 b2, mn a3 b3, mn a4 b4, true) else (0, 0, 0, 0, 0, false)
theorem meet_area {a0 a1 a2 a3 a4 b0 b1 b2 b3 b4 : Int} (h : meetP a0 a1 a2 a3 a4 b0 b1 b2 b3 b4) : areaP a0 (mx a1 b1) (mx a2 b2) (mn a3 b3) (mn a4 b4) := by
  unfold meetP at h
  obtain ⟨ha, hb, e, h1, h2⟩ := h
  unfold areaP at *
  unfold mx mn at *
  omega
theorem Meet_f (a0 a1 a2 a3 a4 b0 b1 b2 b3 b4 : Int) : place_Meet.f a0 a1 a2 a3 a4 b0 b1 b2 b3 b4 = some (meetV a0 a1 a2 a3 a4 b0 b1 b2 b3 b4) := by
  unfold place_Meet.f meetV
  simp only [RightArea_f, Option.bind_some, decide_eq_true_eq]
  by_cases ha : areaP a0 a1 a2 a3 a4
  · by_cases hb : areaP b0 b1 b2 b3 b4
    · by_cases e : a0 = b0
      · by_cases h : areaP a0 (mx a1 b1) (mx a2 b2) (mn a3 b3) (mn a4 b4)
        · have hm : meetP a0 a1 a2 a3 a4 b0 b1 b2 b3 b4 := ⟨ha, hb, e, h.2.2.2.1, h.2.2.2.2.2.2.1⟩
          simp [ha, hb, e.symm ▸ e, h, hm]
          simp [e] at *
        · have hm : ¬ meetP a0 a1 a2 a3 a4 b0 b1 b2 b3 b4 := fun z => h (meet_area z)
          rw [if_pos ha, if_pos hb, if_pos e, if_neg h, if_neg hm]
      · have hm : ¬ meetP a0 a1 a2 a3 a4 b0 b1 b2 b3 b4 := fun z => e z.2.2.1
        rw [if_pos ha, if_pos hb, if_neg e, if_neg hm]
    · have hm : ¬ meetP a0 a1 a2 a3 a4 b0 b1 b2 b3 b4 := fun z => hb z.2.1
      rw [if_pos ha, if_neg hb, if_neg hm]
  · have hm : ¬ meetP a0 a1 a2 a3 a4 b0 b1 b2 b3 b4 := fun z => ha z.1
    rw [if_neg ha, if_neg hm]
end Go.Proofs.YtijmipnafhljkaaDoor.P
