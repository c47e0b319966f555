-- Written by a program of this session (it drives the kit's print.py, with the contracts of some functions given by hand). Not trusted: Lean checks it.
import Derived.Test.YtijmipnafhljkaaDoorPx0
import Derived.Test.YtijmipnafhljkaaDoorPx2
import Derived.Test.YtijmipnafhljkaaDoorPx23
import Derived.Test.YtijmipnafhljkaaDoorPx24
import Derived.Test.YtijmipnafhljkaaDoorPx40
import Derived.Test.YtijmipnafhljkaaDoorPx49
namespace Go.Proofs.YtijmipnafhljkaaDoor.P
open Go.RowKit Go.Proofs.YtijmipnafhljkaaDoorW.PrintWords Go.Proofs.YtijmipnafhljkaaDoorW.PrintLast Go.Proofs.YtijmipnafhljkaaDoorW.PrintMore
attribute [local go_sem] max2_int min2_int max_two min_two max_three min_three max_four min_four   -- for this text's walks alone
set_option linter.unusedVariables false
set_option linter.unusedSimpArgs false

attribute [local go_sem high] eqA25
/-! ### whittlelaw3_PlaceMeets: function 4 -/
mutual
def whittlelaw3_PlaceMeets.j0 : Nat → Bool → Bool → Int → Int → Int → Int → Int → Int → Int → Int → Int → Int → Int → Int → Int → Int → Int → Int → Int → Int → Int → Int → Int → Int → Int → Option (Bool)
  | 0, _, _, _, _, _, _, _, _, _, _, _, _, _, _, _, _, _, _, _, _, _, _, _, _, _ => none
  | k + 1, x10, x59, x179000, x179001, x179002, x179003, x179004, x180000, x180001, x180002, x180003, x180004, x181000, x181001, x181002, x181003, x181004, x182000, x182001, x182002, x190000, x190001, x190002, x190003, x190004 => if x59 = true then (some false) else (if x10 = true then ((place_Has.f x190000 x190001 x190002 x190003 x190004 x182000 x182001 x182002).bind fun t200 => ((place_Has.f x179000 x179001 x179002 x179003 x179004 x182000 x182001 x182002).bind fun t201 => (if t201 = true then ((place_Has.f x180000 x180001 x180002 x180003 x180004 x182000 x182001 x182002).bind fun t202 => (if (t200 != t202) = true then (whittlelaw3_PlaceMeets.j1 k x10 true x179000 x179001 x179002 x179003 x179004 x180000 x180001 x180002 x180003 x180004 x181000 x181001 x181002 x181003 x181004 x190000 x190001 x190002 x190003 x190004) else (whittlelaw3_PlaceMeets.j1 k x10 false x179000 x179001 x179002 x179003 x179004 x180000 x180001 x180002 x180003 x180004 x181000 x181001 x181002 x181003 x181004 x190000 x190001 x190002 x190003 x190004))) else (if (t200 != false) = true then (whittlelaw3_PlaceMeets.j1 k x10 true x179000 x179001 x179002 x179003 x179004 x180000 x180001 x180002 x180003 x180004 x181000 x181001 x181002 x181003 x181004 x190000 x190001 x190002 x190003 x190004) else (whittlelaw3_PlaceMeets.j1 k x10 false x179000 x179001 x179002 x179003 x179004 x180000 x180001 x180002 x180003 x180004 x181000 x181001 x181002 x181003 x181004 x190000 x190001 x190002 x190003 x190004))))) else ((place_Has.f x179000 x179001 x179002 x179003 x179004 x182000 x182001 x182002).bind fun t203 => (if t203 = true then ((place_Has.f x180000 x180001 x180002 x180003 x180004 x182000 x182001 x182002).bind fun t204 => (whittlelaw3_PlaceMeets.j1 k x10 t204 x179000 x179001 x179002 x179003 x179004 x180000 x180001 x180002 x180003 x180004 x181000 x181001 x181002 x181003 x181004 x190000 x190001 x190002 x190003 x190004)) else (whittlelaw3_PlaceMeets.j1 k x10 false x179000 x179001 x179002 x179003 x179004 x180000 x180001 x180002 x180003 x180004 x181000 x181001 x181002 x181003 x181004 x190000 x190001 x190002 x190003 x190004))))
def whittlelaw3_PlaceMeets.j1 : Nat → Bool → Bool → Int → Int → Int → Int → Int → Int → Int → Int → Int → Int → Int → Int → Int → Int → Int → Int → Int → Int → Int → Int → Option (Bool)
  | 0, _, _, _, _, _, _, _, _, _, _, _, _, _, _, _, _, _, _, _, _, _, _ => none
  | k + 1, x10, x88, x179000, x179001, x179002, x179003, x179004, x180000, x180001, x180002, x180003, x180004, x181000, x181001, x181002, x181003, x181004, x190000, x190001, x190002, x190003, x190004 => if x88 = true then (some false) else ((place_Meet.f x190000 x190001 x190002 x190003 x190004 x181000 x181001 x181002 x181003 x181004).bind fun bt205 => ((place_Meet.f x180000 x180001 x180002 x180003 x180004 x181000 x181001 x181002 x181003 x181004).bind fun bt212 => ((place_Meet.f x179000 x179001 x179002 x179003 x179004 bt212.1 bt212.2.1 bt212.2.2.1 bt212.2.2.2.1 bt212.2.2.2.2.1).bind fun bt219 => (if bt205.2.2.2.2.2 = true then (whittlelaw3_PlaceMeets.j2 k x10 bt212.2.2.2.2.2 bt219.2.2.2.2.2 x179000 x179001 x179002 x179003 x179004 bt205.1 bt205.2.1 bt205.2.2.1 bt205.2.2.2.1 bt205.2.2.2.2.1 bt219.1 bt219.2.1 bt219.2.2.1 bt219.2.2.2.1 bt219.2.2.2.2.1) else (whittlelaw3_PlaceMeets.j2 k false bt212.2.2.2.2.2 bt219.2.2.2.2.2 x179000 x179001 x179002 x179003 x179004 bt205.1 bt205.2.1 bt205.2.2.1 bt205.2.2.2.1 bt205.2.2.2.2.1 bt219.1 bt219.2.1 bt219.2.2.1 bt219.2.2.2.1 bt219.2.2.2.2.1)))))
def whittlelaw3_PlaceMeets.j2 : Nat → Bool → Bool → Bool → Int → Int → Int → Int → Int → Int → Int → Int → Int → Int → Int → Int → Int → Int → Int → Option (Bool)
  | 0, _, _, _, _, _, _, _, _, _, _, _, _, _, _, _, _, _, _ => none
  | k + 1, x14, x16, x18, x179000, x179001, x179002, x179003, x179004, x212000, x212001, x212002, x212003, x212004, x226000, x226001, x226002, x226003, x226004 => if x18 = true then (whittlelaw3_PlaceMeets.j3 k x14 x16 x179000 x179001 x179002 x179003 x179004 x212000 x212001 x212002 x212003 x212004 x226000 x226001 x226002 x226003 x226004) else (whittlelaw3_PlaceMeets.j3 k x14 false x179000 x179001 x179002 x179003 x179004 x212000 x212001 x212002 x212003 x212004 x226000 x226001 x226002 x226003 x226004)
def whittlelaw3_PlaceMeets.j3 : Nat → Bool → Bool → Int → Int → Int → Int → Int → Int → Int → Int → Int → Int → Int → Int → Int → Int → Int → Option (Bool)
  | 0, _, _, _, _, _, _, _, _, _, _, _, _, _, _, _, _, _ => none
  | k + 1, x14, x18, x179000, x179001, x179002, x179003, x179004, x212000, x212001, x212002, x212003, x212004, x226000, x226001, x226002, x226003, x226004 => (place_Meet.f x179000 x179001 x179002 x179003 x179004 x179000 x179001 x179002 x179003 x179004).bind fun bt226 => (if (x14 == x18) = true then (if x14 = true then (if (x212000 == x226000 && (x212001 == x226001 && (x212002 == x226002 && (x212003 == x226003 && (x212004 == x226004))))) = true then ((place_RightArea.f x179000 x179001 x179002 x179003 x179004).bind fun t233 => (if (bt226.2.2.2.2.2 == t233) = true then (if bt226.2.2.2.2.2 = true then (some (bt226.1 == x179000 && (bt226.2.1 == x179001 && (bt226.2.2.1 == x179002 && (bt226.2.2.2.1 == x179003 && (bt226.2.2.2.2.1 == x179004)))))) else (some true)) else (some false))) else (some false)) else ((place_RightArea.f x179000 x179001 x179002 x179003 x179004).bind fun t234 => (if (bt226.2.2.2.2.2 == t234) = true then (if bt226.2.2.2.2.2 = true then (some (bt226.1 == x179000 && (bt226.2.1 == x179001 && (bt226.2.2.1 == x179002 && (bt226.2.2.2.1 == x179003 && (bt226.2.2.2.2.1 == x179004)))))) else (some true)) else (some false)))) else (some false))
end
def whittlelaw3_PlaceMeets.f (k : Nat) (a0_0 : Int) (a0_1 : Int) (a0_2 : Int) (a0_3 : Int) (a0_4 : Int) (a1_0 : Int) (a1_1 : Int) (a1_2 : Int) (a1_3 : Int) (a1_4 : Int) (a2_0 : Int) (a2_1 : Int) (a2_2 : Int) (a2_3 : Int) (a2_4 : Int) (a3_0 : Int) (a3_1 : Int) (a3_2 : Int) : Option (Bool) := (whittlelaw3_able.f).bind fun t182 => (if t182 = true then ((place_Meet.f a0_0 a0_1 a0_2 a0_3 a0_4 a1_0 a1_1 a1_2 a1_3 a1_4).bind fun bt183 => ((place_Meet.f a1_0 a1_1 a1_2 a1_3 a1_4 a0_0 a0_1 a0_2 a0_3 a0_4).bind fun bt190 => (if (!(bt183.1 == bt190.1) || (!(bt183.2.1 == bt190.2.1) || (!(bt183.2.2.1 == bt190.2.2.1) || (!(bt183.2.2.2.1 == bt190.2.2.2.1) || (!(bt183.2.2.2.2.1 == bt190.2.2.2.2.1)))))) = true then (whittlelaw3_PlaceMeets.j0 k bt183.2.2.2.2.2 true a0_0 a0_1 a0_2 a0_3 a0_4 a1_0 a1_1 a1_2 a1_3 a1_4 a2_0 a2_1 a2_2 a2_3 a2_4 a3_0 a3_1 a3_2 bt183.1 bt183.2.1 bt183.2.2.1 bt183.2.2.2.1 bt183.2.2.2.2.1) else (if (bt183.2.2.2.2.2 != bt190.2.2.2.2.2) = true then (whittlelaw3_PlaceMeets.j0 k bt183.2.2.2.2.2 true a0_0 a0_1 a0_2 a0_3 a0_4 a1_0 a1_1 a1_2 a1_3 a1_4 a2_0 a2_1 a2_2 a2_3 a2_4 a3_0 a3_1 a3_2 bt183.1 bt183.2.1 bt183.2.2.1 bt183.2.2.2.1 bt183.2.2.2.2.1) else ((place_Has.f bt183.1 bt183.2.1 bt183.2.2.1 bt183.2.2.2.1 bt183.2.2.2.2.1 a3_0 a3_1 a3_2).bind fun t197 => (if t197 = true then ((place_Has.f a0_0 a0_1 a0_2 a0_3 a0_4 a3_0 a3_1 a3_2).bind fun t198 => (if t198 = true then ((place_Has.f a1_0 a1_1 a1_2 a1_3 a1_4 a3_0 a3_1 a3_2).bind fun t199 => (whittlelaw3_PlaceMeets.j0 k bt183.2.2.2.2.2 (bt183.2.2.2.2.2 != t199) a0_0 a0_1 a0_2 a0_3 a0_4 a1_0 a1_1 a1_2 a1_3 a1_4 a2_0 a2_1 a2_2 a2_3 a2_4 a3_0 a3_1 a3_2 bt183.1 bt183.2.1 bt183.2.2.1 bt183.2.2.2.1 bt183.2.2.2.2.1)) else (whittlelaw3_PlaceMeets.j0 k bt183.2.2.2.2.2 (bt183.2.2.2.2.2 != false) a0_0 a0_1 a0_2 a0_3 a0_4 a1_0 a1_1 a1_2 a1_3 a1_4 a2_0 a2_1 a2_2 a2_3 a2_4 a3_0 a3_1 a3_2 bt183.1 bt183.2.1 bt183.2.2.1 bt183.2.2.2.1 bt183.2.2.2.2.1))) else (whittlelaw3_PlaceMeets.j0 k bt183.2.2.2.2.2 false a0_0 a0_1 a0_2 a0_3 a0_4 a1_0 a1_1 a1_2 a1_3 a1_4 a2_0 a2_1 a2_2 a2_3 a2_4 a3_0 a3_1 a3_2 bt183.1 bt183.2.1 bt183.2.2.1 bt183.2.2.2.1 bt183.2.2.2.2.1))))))) else (some false))
theorem whittlelaw3_PlaceMeets.mono_l : ∀ k, (∀ y0 y1 y2 y3 y4 y5 y6 y7 y8 y9 y10 y11 y12 y13 y14 y15 y16 y17 y18 y19 y20 y21 y22 y23 y24, LeO (whittlelaw3_PlaceMeets.j0 k y0 y1 y2 y3 y4 y5 y6 y7 y8 y9 y10 y11 y12 y13 y14 y15 y16 y17 y18 y19 y20 y21 y22 y23 y24) (whittlelaw3_PlaceMeets.j0 (k + 1) y0 y1 y2 y3 y4 y5 y6 y7 y8 y9 y10 y11 y12 y13 y14 y15 y16 y17 y18 y19 y20 y21 y22 y23 y24)) ∧ (∀ y0 y1 y2 y3 y4 y5 y6 y7 y8 y9 y10 y11 y12 y13 y14 y15 y16 y17 y18 y19 y20 y21, LeO (whittlelaw3_PlaceMeets.j1 k y0 y1 y2 y3 y4 y5 y6 y7 y8 y9 y10 y11 y12 y13 y14 y15 y16 y17 y18 y19 y20 y21) (whittlelaw3_PlaceMeets.j1 (k + 1) y0 y1 y2 y3 y4 y5 y6 y7 y8 y9 y10 y11 y12 y13 y14 y15 y16 y17 y18 y19 y20 y21)) ∧ (∀ y0 y1 y2 y3 y4 y5 y6 y7 y8 y9 y10 y11 y12 y13 y14 y15 y16 y17, LeO (whittlelaw3_PlaceMeets.j2 k y0 y1 y2 y3 y4 y5 y6 y7 y8 y9 y10 y11 y12 y13 y14 y15 y16 y17) (whittlelaw3_PlaceMeets.j2 (k + 1) y0 y1 y2 y3 y4 y5 y6 y7 y8 y9 y10 y11 y12 y13 y14 y15 y16 y17)) ∧ (∀ y0 y1 y2 y3 y4 y5 y6 y7 y8 y9 y10 y11 y12 y13 y14 y15 y16, LeO (whittlelaw3_PlaceMeets.j3 k y0 y1 y2 y3 y4 y5 y6 y7 y8 y9 y10 y11 y12 y13 y14 y15 y16) (whittlelaw3_PlaceMeets.j3 (k + 1) y0 y1 y2 y3 y4 y5 y6 y7 y8 y9 y10 y11 y12 y13 y14 y15 y16))
  | 0 => ⟨fun _ _ _ _ _ _ _ _ _ _ _ _ _ _ _ _ _ _ _ _ _ _ _ _ _ r h => by simp [whittlelaw3_PlaceMeets.j0] at h, fun _ _ _ _ _ _ _ _ _ _ _ _ _ _ _ _ _ _ _ _ _ _ r h => by simp [whittlelaw3_PlaceMeets.j1] at h, fun _ _ _ _ _ _ _ _ _ _ _ _ _ _ _ _ _ _ r h => by simp [whittlelaw3_PlaceMeets.j2] at h, fun _ _ _ _ _ _ _ _ _ _ _ _ _ _ _ _ _ r h => by simp [whittlelaw3_PlaceMeets.j3] at h⟩
  | k + 1 => by
    obtain ⟨ih0, ih1, ih2, ih3⟩ := whittlelaw3_PlaceMeets.mono_l k
    refine ⟨?_, ?_, ?_, ?_⟩
    · intro y0 y1 y2 y3 y4 y5 y6 y7 y8 y9 y10 y11 y12 y13 y14 y15 y16 y17 y18 y19 y20 y21 y22 y23 y24
      unfold whittlelaw3_PlaceMeets.j0
      repeat' first
      | (with_reducible exact ih0 _ _ _ _ _ _ _ _ _ _ _ _ _ _ _ _ _ _ _ _ _ _ _ _ _)
      | (with_reducible exact ih1 _ _ _ _ _ _ _ _ _ _ _ _ _ _ _ _ _ _ _ _ _ _)
      | (with_reducible exact ih2 _ _ _ _ _ _ _ _ _ _ _ _ _ _ _ _ _ _)
      | (with_reducible exact ih3 _ _ _ _ _ _ _ _ _ _ _ _ _ _ _ _ _)
      | (with_reducible exact LeO.refl _)
      | (with_reducible exact LeO.none _)
      | (with_reducible refine LeO.ite ?_ ?_)
      | (with_reducible refine LeO.bind ?_ (fun _ => ?_))
      | exact ih0 _ _ _ _ _ _ _ _ _ _ _ _ _ _ _ _ _ _ _ _ _ _ _ _ _
      | exact ih1 _ _ _ _ _ _ _ _ _ _ _ _ _ _ _ _ _ _ _ _ _ _
      | exact ih2 _ _ _ _ _ _ _ _ _ _ _ _ _ _ _ _ _ _
      | exact ih3 _ _ _ _ _ _ _ _ _ _ _ _ _ _ _ _ _
      | exact LeO.none _
      | refine LeO.ite ?_ ?_
      | refine LeO.bind ?_ (fun _ => ?_)
    · intro y0 y1 y2 y3 y4 y5 y6 y7 y8 y9 y10 y11 y12 y13 y14 y15 y16 y17 y18 y19 y20 y21
      unfold whittlelaw3_PlaceMeets.j1
      repeat' first
      | (with_reducible exact ih0 _ _ _ _ _ _ _ _ _ _ _ _ _ _ _ _ _ _ _ _ _ _ _ _ _)
      | (with_reducible exact ih1 _ _ _ _ _ _ _ _ _ _ _ _ _ _ _ _ _ _ _ _ _ _)
      | (with_reducible exact ih2 _ _ _ _ _ _ _ _ _ _ _ _ _ _ _ _ _ _)
      | (with_reducible exact ih3 _ _ _ _ _ _ _ _ _ _ _ _ _ _ _ _ _)
      | (with_reducible exact LeO.refl _)
      | (with_reducible exact LeO.none _)
      | (with_reducible refine LeO.ite ?_ ?_)
      | (with_reducible refine LeO.bind ?_ (fun _ => ?_))
      | exact ih0 _ _ _ _ _ _ _ _ _ _ _ _ _ _ _ _ _ _ _ _ _ _ _ _ _
      | exact ih1 _ _ _ _ _ _ _ _ _ _ _ _ _ _ _ _ _ _ _ _ _ _
      | exact ih2 _ _ _ _ _ _ _ _ _ _ _ _ _ _ _ _ _ _
      | exact ih3 _ _ _ _ _ _ _ _ _ _ _ _ _ _ _ _ _
      | exact LeO.none _
      | refine LeO.ite ?_ ?_
      | refine LeO.bind ?_ (fun _ => ?_)
    · intro y0 y1 y2 y3 y4 y5 y6 y7 y8 y9 y10 y11 y12 y13 y14 y15 y16 y17
      unfold whittlelaw3_PlaceMeets.j2
      repeat' first
      | (with_reducible exact ih0 _ _ _ _ _ _ _ _ _ _ _ _ _ _ _ _ _ _ _ _ _ _ _ _ _)
      | (with_reducible exact ih1 _ _ _ _ _ _ _ _ _ _ _ _ _ _ _ _ _ _ _ _ _ _)
      | (with_reducible exact ih2 _ _ _ _ _ _ _ _ _ _ _ _ _ _ _ _ _ _)
      | (with_reducible exact ih3 _ _ _ _ _ _ _ _ _ _ _ _ _ _ _ _ _)
      | (with_reducible exact LeO.refl _)
      | (with_reducible exact LeO.none _)
      | (with_reducible refine LeO.ite ?_ ?_)
      | (with_reducible refine LeO.bind ?_ (fun _ => ?_))
      | exact ih0 _ _ _ _ _ _ _ _ _ _ _ _ _ _ _ _ _ _ _ _ _ _ _ _ _
      | exact ih1 _ _ _ _ _ _ _ _ _ _ _ _ _ _ _ _ _ _ _ _ _ _
      | exact ih2 _ _ _ _ _ _ _ _ _ _ _ _ _ _ _ _ _ _
      | exact ih3 _ _ _ _ _ _ _ _ _ _ _ _ _ _ _ _ _
      | exact LeO.none _
      | refine LeO.ite ?_ ?_
      | refine LeO.bind ?_ (fun _ => ?_)
    · intro y0 y1 y2 y3 y4 y5 y6 y7 y8 y9 y10 y11 y12 y13 y14 y15 y16
      unfold whittlelaw3_PlaceMeets.j3
      repeat' first
      | (with_reducible exact ih0 _ _ _ _ _ _ _ _ _ _ _ _ _ _ _ _ _ _ _ _ _ _ _ _ _)
      | (with_reducible exact ih1 _ _ _ _ _ _ _ _ _ _ _ _ _ _ _ _ _ _ _ _ _ _)
      | (with_reducible exact ih2 _ _ _ _ _ _ _ _ _ _ _ _ _ _ _ _ _ _)
      | (with_reducible exact ih3 _ _ _ _ _ _ _ _ _ _ _ _ _ _ _ _ _)
      | (with_reducible exact LeO.refl _)
      | (with_reducible exact LeO.none _)
      | (with_reducible refine LeO.ite ?_ ?_)
      | (with_reducible refine LeO.bind ?_ (fun _ => ?_))
      | exact ih0 _ _ _ _ _ _ _ _ _ _ _ _ _ _ _ _ _ _ _ _ _ _ _ _ _
      | exact ih1 _ _ _ _ _ _ _ _ _ _ _ _ _ _ _ _ _ _ _ _ _ _
      | exact ih2 _ _ _ _ _ _ _ _ _ _ _ _ _ _ _ _ _ _
      | exact ih3 _ _ _ _ _ _ _ _ _ _ _ _ _ _ _ _ _
      | exact LeO.none _
      | refine LeO.ite ?_ ?_
      | refine LeO.bind ?_ (fun _ => ?_)
theorem whittlelaw3_PlaceMeets.mono : ∀ a0 a1 a2 a3 a4 a5 a6 a7 a8 a9 a10 a11 a12 a13 a14 a15 a16 a17 k, LeO (whittlelaw3_PlaceMeets.f k a0 a1 a2 a3 a4 a5 a6 a7 a8 a9 a10 a11 a12 a13 a14 a15 a16 a17) (whittlelaw3_PlaceMeets.f (k + 1) a0 a1 a2 a3 a4 a5 a6 a7 a8 a9 a10 a11 a12 a13 a14 a15 a16 a17) := by
  intro a0 a1 a2 a3 a4 a5 a6 a7 a8 a9 a10 a11 a12 a13 a14 a15 a16 a17 k
  obtain ⟨ih0, ih1, ih2, ih3⟩ := whittlelaw3_PlaceMeets.mono_l k
  unfold whittlelaw3_PlaceMeets.f
  repeat' first
      | (with_reducible exact ih0 _ _ _ _ _ _ _ _ _ _ _ _ _ _ _ _ _ _ _ _ _ _ _ _ _)
      | (with_reducible exact ih1 _ _ _ _ _ _ _ _ _ _ _ _ _ _ _ _ _ _ _ _ _ _)
      | (with_reducible exact ih2 _ _ _ _ _ _ _ _ _ _ _ _ _ _ _ _ _ _)
      | (with_reducible exact ih3 _ _ _ _ _ _ _ _ _ _ _ _ _ _ _ _ _)
      | (with_reducible exact LeO.refl _)
      | (with_reducible exact LeO.none _)
      | (with_reducible refine LeO.ite ?_ ?_)
      | (with_reducible refine LeO.bind ?_ (fun _ => ?_))
      | exact ih0 _ _ _ _ _ _ _ _ _ _ _ _ _ _ _ _ _ _ _ _ _ _ _ _ _
      | exact ih1 _ _ _ _ _ _ _ _ _ _ _ _ _ _ _ _ _ _ _ _ _ _
      | exact ih2 _ _ _ _ _ _ _ _ _ _ _ _ _ _ _ _ _ _
      | exact ih3 _ _ _ _ _ _ _ _ _ _ _ _ _ _ _ _ _
      | exact LeO.none _
      | refine LeO.ite ?_ ?_
      | refine LeO.bind ?_ (fun _ => ?_)
def whittlelaw3_PlaceMeets.T7 : Bool × List (List Nat × List Nat) := (true, [([], []), ([0], [0]), ([1], [1]), ([1], [1]), ([2, 3, 1, 1], [1, 2, 3]), ([1], [1]), ([1], [1]), ([5, 6, 4, 1], [1, 5, 6]), ([7, 7, 1], [1, 7]), ([8], [8]), ([8], [8]), ([9, 10, 8, 8], [8, 9, 10]), ([8, 11, 1], [1, 8, 11]), ([4, 12, 1], [1, 4, 12]), ([1, 13], [1, 13]), ([14, 11], [14]), ([15], [15]), ([16, 15], [15, 16]), ([17, 15, 15], [15, 17]), ([18], [18]), ([18], [18]), ([19, 20, 18, 18], [18, 19, 20]), ([18, 21, 15], [15, 18, 21]), ([22, 21, 15], [15, 22]), ([23], [23]), ([23], [23]), ([24, 25, 23, 23], [23, 24, 25]), ([23, 26, 15], [15, 23, 26]), ([15, 27], [15, 27])])
def whittlelaw3_PlaceMeets.B7 : List Nat := [0, 1, 3, 3, 15, 3, 3, 127, 255, 511, 511, 2047, 4095, 8191, 16383, 32767, 65535, 131071, 262143, 524287, 524287, 2097151, 4194303, 8388607, 16777215, 16777215, 67108863, 134217727, 268435455]
theorem whittlelaw3_PlaceMeets.tab7 : rtab .any (opsOf Tryd.f4 7) = whittlelaw3_PlaceMeets.T7 := by kernel_rfl
theorem whittlelaw3_PlaceMeets.bits7 : waitsOk whittlelaw3_PlaceMeets.T7.2 whittlelaw3_PlaceMeets.B7 = true := by kernel_rfl
end Go.Proofs.YtijmipnafhljkaaDoor.P
