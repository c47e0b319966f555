-- Written by a program of this session (it drives the kit's print.py, with the contracts of some functions given by hand). Not trusted: Lean checks it.
import Derived.Test.YtijmipnafhljkaaDoorPx0
import Derived.Test.YtijmipnafhljkaaDoorPx1
import Derived.Test.YtijmipnafhljkaaDoorPx2
import Derived.Test.YtijmipnafhljkaaDoorPx24
import Derived.Test.YtijmipnafhljkaaDoorPx26
import Derived.Test.YtijmipnafhljkaaDoorPx40
import Derived.Test.YtijmipnafhljkaaDoorPx49
import Derived.Test.YtijmipnafhljkaaDoorPxRef
import Derived.Test.YtijmipnafhljkaaDoorPx62
import Derived.Test.YtijmipnafhljkaaDoorPx63
import Derived.Test.YtijmipnafhljkaaDoorPx80
namespace Go.Proofs.YtijmipnafhljkaaDoor.P
open Go.RowKit Go.Proofs.YtijmipnafhljkaaDoorW.PrintWords Go.Proofs.YtijmipnafhljkaaDoorW.PrintLast Go.Proofs.YtijmipnafhljkaaDoorW.PrintMore
attribute [local go_sem] max2_int min2_int max_two min_two max_three min_three max_four min_four   -- for this text's walks alone
set_option linter.unusedVariables false
set_option linter.unusedSimpArgs false

attribute [local go_sem high] eqA23 eqA25
/-! ### whittlelaw3_PlaceAreas: function 13 -/
def whittlelaw3_PlaceAreas.j0 : Nat → Bool → Int → Int → Int → Int → Int → Int → Int → Int → Option (Bool)
  | 0, _, _, _, _, _, _, _, _, _ => none
  | k + 1, x108, x559000, x559001, x559002, x559003, x559004, x561000, x561001, x561002 => if x108 = true then (some false) else ((whittlelaw3_able.f).bind fun t603 => (if t603 = true then ((place_Size.f x559000 x559001 x559002 x559003 x559004).bind fun t604 => ((whittleref3_Size.f x559000 x559001 x559002 x559003 x559004).bind fun t605 => (if t604 = t605 then ((place_Has.f x559000 x559001 x559002 x559003 x559004 x561000 x561001 x561002).bind fun t606 => ((whittleref3_Has.f x559000 x559001 x559002 x559003 x559004 x561000 x561001 x561002).bind fun t607 => (some (t606 == t607)))) else (some false)))) else (some false)))
def whittlelaw3_PlaceAreas.f (k : Nat) (a0_0 : Int) (a0_1 : Int) (a0_2 : Int) (a0_3 : Int) (a0_4 : Int) (a1_0 : Int) (a1_1 : Int) (a1_2 : Int) (a1_3 : Int) (a1_4 : Int) (a2_0 : Int) (a2_1 : Int) (a2_2 : Int) (a3 : Int) : Option (Bool) := (place_One.f k a2_0 a2_1 a2_2).bind fun bt561 => ((whittleref3_One.f a2_0 a2_1 a2_2).bind fun bt568 => ((place_Meet.f a0_0 a0_1 a0_2 a0_3 a0_4 a1_0 a1_1 a1_2 a1_3 a1_4).bind fun bt575 => ((whittleref3_Meet.f k a0_0 a0_1 a0_2 a0_3 a0_4 a1_0 a1_1 a1_2 a1_3 a1_4).bind fun bt582 => ((place_At.f k a0_0 a0_1 a0_2 a0_3 a0_4 a3).bind fun bt589 => ((whittleref3_At.f a0_0 a0_1 a0_2 a0_3 a0_4 a3).bind fun bt594 => ((place_Index.f a0_0 a0_1 a0_2 a0_3 a0_4 a2_0 a2_1 a2_2).bind fun bt599 => ((whittleref3_Index.f a0_0 a0_1 a0_2 a0_3 a0_4 a2_0 a2_1 a2_2).bind fun bt601 => (if (!(bt561.1 == bt568.1) || (!(bt561.2.1 == bt568.2.1) || (!(bt561.2.2.1 == bt568.2.2.1) || (!(bt561.2.2.2.1 == bt568.2.2.2.1) || (!(bt561.2.2.2.2.1 == bt568.2.2.2.2.1)))))) = true then (whittlelaw3_PlaceAreas.j0 k true a0_0 a0_1 a0_2 a0_3 a0_4 a2_0 a2_1 a2_2) else (if (bt561.2.2.2.2.2 != bt568.2.2.2.2.2) = true then (whittlelaw3_PlaceAreas.j0 k true a0_0 a0_1 a0_2 a0_3 a0_4 a2_0 a2_1 a2_2) else (if (!(bt575.1 == bt582.1) || (!(bt575.2.1 == bt582.2.1) || (!(bt575.2.2.1 == bt582.2.2.1) || (!(bt575.2.2.2.1 == bt582.2.2.2.1) || (!(bt575.2.2.2.2.1 == bt582.2.2.2.2.1)))))) = true then (whittlelaw3_PlaceAreas.j0 k true a0_0 a0_1 a0_2 a0_3 a0_4 a2_0 a2_1 a2_2) else (if (bt575.2.2.2.2.2 != bt582.2.2.2.2.2) = true then (whittlelaw3_PlaceAreas.j0 k true a0_0 a0_1 a0_2 a0_3 a0_4 a2_0 a2_1 a2_2) else (if (!(bt589.1 == bt594.1) || (!(bt589.2.1 == bt594.2.1) || (!(bt589.2.2.1 == bt594.2.2.1)))) = true then (whittlelaw3_PlaceAreas.j0 k true a0_0 a0_1 a0_2 a0_3 a0_4 a2_0 a2_1 a2_2) else (if (bt589.2.2.2 != bt594.2.2.2) = true then (whittlelaw3_PlaceAreas.j0 k true a0_0 a0_1 a0_2 a0_3 a0_4 a2_0 a2_1 a2_2) else (if bt599.1 = bt601.1 then (whittlelaw3_PlaceAreas.j0 k (bt599.2 != bt601.2) a0_0 a0_1 a0_2 a0_3 a0_4 a2_0 a2_1 a2_2) else (whittlelaw3_PlaceAreas.j0 k true a0_0 a0_1 a0_2 a0_3 a0_4 a2_0 a2_1 a2_2)))))))))))))))
theorem whittlelaw3_PlaceAreas.mono_l : ∀ k, (∀ y0 y1 y2 y3 y4 y5 y6 y7 y8, LeO (whittlelaw3_PlaceAreas.j0 k y0 y1 y2 y3 y4 y5 y6 y7 y8) (whittlelaw3_PlaceAreas.j0 (k + 1) y0 y1 y2 y3 y4 y5 y6 y7 y8))
  | 0 => fun _ _ _ _ _ _ _ _ _ r h => by simp [whittlelaw3_PlaceAreas.j0] at h
  | k + 1 => by
    have ih0 := whittlelaw3_PlaceAreas.mono_l k
    · intro y0 y1 y2 y3 y4 y5 y6 y7 y8
      unfold whittlelaw3_PlaceAreas.j0
      repeat' first
      | (with_reducible exact ih0 _ _ _ _ _ _ _ _ _)
      | (with_reducible exact place_At.mono _ _ _ _ _ _ _)
      | (with_reducible exact place_One.mono _ _ _ _)
      | (with_reducible exact whittleref3_Meet.mono _ _ _ _ _ _ _ _ _ _ _)
      | (with_reducible exact LeO.refl _)
      | (with_reducible exact LeO.none _)
      | (with_reducible refine LeO.ite ?_ ?_)
      | (with_reducible refine LeO.bind ?_ (fun _ => ?_))
      | exact ih0 _ _ _ _ _ _ _ _ _
      | exact place_At.mono _ _ _ _ _ _ _
      | exact place_One.mono _ _ _ _
      | exact whittleref3_Meet.mono _ _ _ _ _ _ _ _ _ _ _
      | exact LeO.none _
      | refine LeO.ite ?_ ?_
      | refine LeO.bind ?_ (fun _ => ?_)
theorem whittlelaw3_PlaceAreas.mono : ∀ a0 a1 a2 a3 a4 a5 a6 a7 a8 a9 a10 a11 a12 a13 k, LeO (whittlelaw3_PlaceAreas.f k a0 a1 a2 a3 a4 a5 a6 a7 a8 a9 a10 a11 a12 a13) (whittlelaw3_PlaceAreas.f (k + 1) a0 a1 a2 a3 a4 a5 a6 a7 a8 a9 a10 a11 a12 a13) := by
  intro a0 a1 a2 a3 a4 a5 a6 a7 a8 a9 a10 a11 a12 a13 k
  have ih0 := whittlelaw3_PlaceAreas.mono_l k
  unfold whittlelaw3_PlaceAreas.f
  repeat' first
      | (with_reducible exact ih0 _ _ _ _ _ _ _ _ _)
      | (with_reducible exact place_At.mono _ _ _ _ _ _ _)
      | (with_reducible exact place_One.mono _ _ _ _)
      | (with_reducible exact whittleref3_Meet.mono _ _ _ _ _ _ _ _ _ _ _)
      | (with_reducible exact LeO.refl _)
      | (with_reducible exact LeO.none _)
      | (with_reducible refine LeO.ite ?_ ?_)
      | (with_reducible refine LeO.bind ?_ (fun _ => ?_))
      | exact ih0 _ _ _ _ _ _ _ _ _
      | exact place_At.mono _ _ _ _ _ _ _
      | exact place_One.mono _ _ _ _
      | exact whittleref3_Meet.mono _ _ _ _ _ _ _ _ _ _ _
      | exact LeO.none _
      | refine LeO.ite ?_ ?_
      | refine LeO.bind ?_ (fun _ => ?_)
def whittlelaw3_PlaceAreas.T11 : Bool × List (List Nat × List Nat) := (true, [([], []), ([0, 0], [0]), ([1], [1]), ([2, 1, 1], [1, 2]), ([1], [1]), ([4, 3, 1], [1, 4]), ([3, 5, 1], [1, 3, 5]), ([1, 6], [1, 6]), ([7, 5], [7]), ([8], [8]), ([8], [8]), ([9, 10, 8, 8], [8, 9, 10]), ([8], [8]), ([8], [8]), ([12, 13, 11, 8], [8, 12, 13]), ([11, 14, 8], [8, 11, 14]), ([8, 15], [8, 15]), ([16, 14, 0, 1, 2, 3, 4, 5, 6, 7, 8, 9, 10, 11, 12, 13, 14, 15, 16], [16])])
def whittlelaw3_PlaceAreas.B11 : List Nat := [0, 1, 3, 7, 3, 31, 63, 127, 255, 511, 511, 2047, 511, 511, 16383, 32767, 65535, 131071]
theorem whittlelaw3_PlaceAreas.tab11 : rtab .any (opsOf Tryd.f13 11) = whittlelaw3_PlaceAreas.T11 := by kernel_rfl
theorem whittlelaw3_PlaceAreas.bits11 : waitsOk whittlelaw3_PlaceAreas.T11.2 whittlelaw3_PlaceAreas.B11 = true := by kernel_rfl
set_option maxHeartbeats 8000000 in
set_option maxRecDepth 100000 in
theorem whittlelaw3_PlaceAreas.calls (k : Nat) (a0_0 : Int) (a0_1 : Int) (a0_2 : Int) (a0_3 : Int) (a0_4 : Int) (a1_0 : Int) (a1_1 : Int) (a1_2 : Int) (a1_3 : Int) (a1_4 : Int) (a2_0 : Int) (a2_1 : Int) (a2_2 : Int) (a3 : Int) (r : Bool) (w : World) (h : whittlelaw3_PlaceAreas.f k a0_0 a0_1 a0_2 a0_3 a0_4 a1_0 a1_1 a1_2 a1_3 a1_4 a2_0 a2_1 a2_2 a3 = some r) :
    Calls Tryd.prog 13 #[.agg #[.int .i64 a0_0, .int .i64 a0_1, .int .i64 a0_2, .int .i64 a0_3, .int .i64 a0_4], .agg #[.int .i64 a1_0, .int .i64 a1_1, .int .i64 a1_2, .int .i64 a1_3, .int .i64 a1_4], .agg #[.int .i64 a2_0, .int .i64 a2_1, .int .i64 a2_2], .int .i64 a3] w fun e w' => e = .returned (.bool r) ∧ Below w.heap.size w w' := by
  have hu25 := Tryd.underlying25
  have hu23 := Tryd.underlying23
  have HB := Aside0.mk (Below.refl w.heap.size w)
  have H : ((place_One.f k a2_0 a2_1 a2_2).bind fun bt561 => ((whittleref3_One.f a2_0 a2_1 a2_2).bind fun bt568 => ((place_Meet.f a0_0 a0_1 a0_2 a0_3 a0_4 a1_0 a1_1 a1_2 a1_3 a1_4).bind fun bt575 => ((whittleref3_Meet.f k a0_0 a0_1 a0_2 a0_3 a0_4 a1_0 a1_1 a1_2 a1_3 a1_4).bind fun bt582 => ((place_At.f k a0_0 a0_1 a0_2 a0_3 a0_4 a3).bind fun bt589 => ((whittleref3_At.f a0_0 a0_1 a0_2 a0_3 a0_4 a3).bind fun bt594 => ((place_Index.f a0_0 a0_1 a0_2 a0_3 a0_4 a2_0 a2_1 a2_2).bind fun bt599 => ((whittleref3_Index.f a0_0 a0_1 a0_2 a0_3 a0_4 a2_0 a2_1 a2_2).bind fun bt601 => (if (!(bt561.1 == bt568.1) || (!(bt561.2.1 == bt568.2.1) || (!(bt561.2.2.1 == bt568.2.2.1) || (!(bt561.2.2.2.1 == bt568.2.2.2.1) || (!(bt561.2.2.2.2.1 == bt568.2.2.2.2.1)))))) = true then (whittlelaw3_PlaceAreas.j0 k true a0_0 a0_1 a0_2 a0_3 a0_4 a2_0 a2_1 a2_2) else (if (bt561.2.2.2.2.2 != bt568.2.2.2.2.2) = true then (whittlelaw3_PlaceAreas.j0 k true a0_0 a0_1 a0_2 a0_3 a0_4 a2_0 a2_1 a2_2) else (if (!(bt575.1 == bt582.1) || (!(bt575.2.1 == bt582.2.1) || (!(bt575.2.2.1 == bt582.2.2.1) || (!(bt575.2.2.2.1 == bt582.2.2.2.1) || (!(bt575.2.2.2.2.1 == bt582.2.2.2.2.1)))))) = true then (whittlelaw3_PlaceAreas.j0 k true a0_0 a0_1 a0_2 a0_3 a0_4 a2_0 a2_1 a2_2) else (if (bt575.2.2.2.2.2 != bt582.2.2.2.2.2) = true then (whittlelaw3_PlaceAreas.j0 k true a0_0 a0_1 a0_2 a0_3 a0_4 a2_0 a2_1 a2_2) else (if (!(bt589.1 == bt594.1) || (!(bt589.2.1 == bt594.2.1) || (!(bt589.2.2.1 == bt594.2.2.1)))) = true then (whittlelaw3_PlaceAreas.j0 k true a0_0 a0_1 a0_2 a0_3 a0_4 a2_0 a2_1 a2_2) else (if (bt589.2.2.2 != bt594.2.2.2) = true then (whittlelaw3_PlaceAreas.j0 k true a0_0 a0_1 a0_2 a0_3 a0_4 a2_0 a2_1 a2_2) else (if bt599.1 = bt601.1 then (whittlelaw3_PlaceAreas.j0 k (bt599.2 != bt601.2) a0_0 a0_1 a0_2 a0_3 a0_4 a2_0 a2_1 a2_2) else (whittlelaw3_PlaceAreas.j0 k true a0_0 a0_1 a0_2 a0_3 a0_4 a2_0 a2_1 a2_2)))))))))))))))) = some r := h
  clear h
  replace H := Option.bind_eq_some_iff.mp H
  obtain ⟨⟨t561, t562, t563, t564, t565, t566⟩, A50, H⟩ := H
  replace H : ((whittleref3_One.f a2_0 a2_1 a2_2).bind fun bt568 => ((place_Meet.f a0_0 a0_1 a0_2 a0_3 a0_4 a1_0 a1_1 a1_2 a1_3 a1_4).bind fun bt575 => ((whittleref3_Meet.f k a0_0 a0_1 a0_2 a0_3 a0_4 a1_0 a1_1 a1_2 a1_3 a1_4).bind fun bt582 => ((place_At.f k a0_0 a0_1 a0_2 a0_3 a0_4 a3).bind fun bt589 => ((whittleref3_At.f a0_0 a0_1 a0_2 a0_3 a0_4 a3).bind fun bt594 => ((place_Index.f a0_0 a0_1 a0_2 a0_3 a0_4 a2_0 a2_1 a2_2).bind fun bt599 => ((whittleref3_Index.f a0_0 a0_1 a0_2 a0_3 a0_4 a2_0 a2_1 a2_2).bind fun bt601 => (if (!(t561 == bt568.1) || (!(t562 == bt568.2.1) || (!(t563 == bt568.2.2.1) || (!(t564 == bt568.2.2.2.1) || (!(t565 == bt568.2.2.2.2.1)))))) = true then (whittlelaw3_PlaceAreas.j0 k true a0_0 a0_1 a0_2 a0_3 a0_4 a2_0 a2_1 a2_2) else (if (t566 != bt568.2.2.2.2.2) = true then (whittlelaw3_PlaceAreas.j0 k true a0_0 a0_1 a0_2 a0_3 a0_4 a2_0 a2_1 a2_2) else (if (!(bt575.1 == bt582.1) || (!(bt575.2.1 == bt582.2.1) || (!(bt575.2.2.1 == bt582.2.2.1) || (!(bt575.2.2.2.1 == bt582.2.2.2.1) || (!(bt575.2.2.2.2.1 == bt582.2.2.2.2.1)))))) = true then (whittlelaw3_PlaceAreas.j0 k true a0_0 a0_1 a0_2 a0_3 a0_4 a2_0 a2_1 a2_2) else (if (bt575.2.2.2.2.2 != bt582.2.2.2.2.2) = true then (whittlelaw3_PlaceAreas.j0 k true a0_0 a0_1 a0_2 a0_3 a0_4 a2_0 a2_1 a2_2) else (if (!(bt589.1 == bt594.1) || (!(bt589.2.1 == bt594.2.1) || (!(bt589.2.2.1 == bt594.2.2.1)))) = true then (whittlelaw3_PlaceAreas.j0 k true a0_0 a0_1 a0_2 a0_3 a0_4 a2_0 a2_1 a2_2) else (if (bt589.2.2.2 != bt594.2.2.2) = true then (whittlelaw3_PlaceAreas.j0 k true a0_0 a0_1 a0_2 a0_3 a0_4 a2_0 a2_1 a2_2) else (if bt599.1 = bt601.1 then (whittlelaw3_PlaceAreas.j0 k (bt599.2 != bt601.2) a0_0 a0_1 a0_2 a0_3 a0_4 a2_0 a2_1 a2_2) else (whittlelaw3_PlaceAreas.j0 k true a0_0 a0_1 a0_2 a0_3 a0_4 a2_0 a2_1 a2_2))))))))))))))) = some r := H
  have A5 := Aside0.mk A50
  clear A50
  replace H := Option.bind_eq_some_iff.mp H
  obtain ⟨⟨t568, t569, t570, t571, t572, t573⟩, A60, H⟩ := H
  replace H : ((place_Meet.f a0_0 a0_1 a0_2 a0_3 a0_4 a1_0 a1_1 a1_2 a1_3 a1_4).bind fun bt575 => ((whittleref3_Meet.f k a0_0 a0_1 a0_2 a0_3 a0_4 a1_0 a1_1 a1_2 a1_3 a1_4).bind fun bt582 => ((place_At.f k a0_0 a0_1 a0_2 a0_3 a0_4 a3).bind fun bt589 => ((whittleref3_At.f a0_0 a0_1 a0_2 a0_3 a0_4 a3).bind fun bt594 => ((place_Index.f a0_0 a0_1 a0_2 a0_3 a0_4 a2_0 a2_1 a2_2).bind fun bt599 => ((whittleref3_Index.f a0_0 a0_1 a0_2 a0_3 a0_4 a2_0 a2_1 a2_2).bind fun bt601 => (if (!(t561 == t568) || (!(t562 == t569) || (!(t563 == t570) || (!(t564 == t571) || (!(t565 == t572)))))) = true then (whittlelaw3_PlaceAreas.j0 k true a0_0 a0_1 a0_2 a0_3 a0_4 a2_0 a2_1 a2_2) else (if (t566 != t573) = true then (whittlelaw3_PlaceAreas.j0 k true a0_0 a0_1 a0_2 a0_3 a0_4 a2_0 a2_1 a2_2) else (if (!(bt575.1 == bt582.1) || (!(bt575.2.1 == bt582.2.1) || (!(bt575.2.2.1 == bt582.2.2.1) || (!(bt575.2.2.2.1 == bt582.2.2.2.1) || (!(bt575.2.2.2.2.1 == bt582.2.2.2.2.1)))))) = true then (whittlelaw3_PlaceAreas.j0 k true a0_0 a0_1 a0_2 a0_3 a0_4 a2_0 a2_1 a2_2) else (if (bt575.2.2.2.2.2 != bt582.2.2.2.2.2) = true then (whittlelaw3_PlaceAreas.j0 k true a0_0 a0_1 a0_2 a0_3 a0_4 a2_0 a2_1 a2_2) else (if (!(bt589.1 == bt594.1) || (!(bt589.2.1 == bt594.2.1) || (!(bt589.2.2.1 == bt594.2.2.1)))) = true then (whittlelaw3_PlaceAreas.j0 k true a0_0 a0_1 a0_2 a0_3 a0_4 a2_0 a2_1 a2_2) else (if (bt589.2.2.2 != bt594.2.2.2) = true then (whittlelaw3_PlaceAreas.j0 k true a0_0 a0_1 a0_2 a0_3 a0_4 a2_0 a2_1 a2_2) else (if bt599.1 = bt601.1 then (whittlelaw3_PlaceAreas.j0 k (bt599.2 != bt601.2) a0_0 a0_1 a0_2 a0_3 a0_4 a2_0 a2_1 a2_2) else (whittlelaw3_PlaceAreas.j0 k true a0_0 a0_1 a0_2 a0_3 a0_4 a2_0 a2_1 a2_2)))))))))))))) = some r := H
  have A6 := Aside0.mk A60
  clear A60
  replace H := Option.bind_eq_some_iff.mp H
  obtain ⟨⟨t575, t576, t577, t578, t579, t580⟩, A70, H⟩ := H
  replace H : ((whittleref3_Meet.f k a0_0 a0_1 a0_2 a0_3 a0_4 a1_0 a1_1 a1_2 a1_3 a1_4).bind fun bt582 => ((place_At.f k a0_0 a0_1 a0_2 a0_3 a0_4 a3).bind fun bt589 => ((whittleref3_At.f a0_0 a0_1 a0_2 a0_3 a0_4 a3).bind fun bt594 => ((place_Index.f a0_0 a0_1 a0_2 a0_3 a0_4 a2_0 a2_1 a2_2).bind fun bt599 => ((whittleref3_Index.f a0_0 a0_1 a0_2 a0_3 a0_4 a2_0 a2_1 a2_2).bind fun bt601 => (if (!(t561 == t568) || (!(t562 == t569) || (!(t563 == t570) || (!(t564 == t571) || (!(t565 == t572)))))) = true then (whittlelaw3_PlaceAreas.j0 k true a0_0 a0_1 a0_2 a0_3 a0_4 a2_0 a2_1 a2_2) else (if (t566 != t573) = true then (whittlelaw3_PlaceAreas.j0 k true a0_0 a0_1 a0_2 a0_3 a0_4 a2_0 a2_1 a2_2) else (if (!(t575 == bt582.1) || (!(t576 == bt582.2.1) || (!(t577 == bt582.2.2.1) || (!(t578 == bt582.2.2.2.1) || (!(t579 == bt582.2.2.2.2.1)))))) = true then (whittlelaw3_PlaceAreas.j0 k true a0_0 a0_1 a0_2 a0_3 a0_4 a2_0 a2_1 a2_2) else (if (t580 != bt582.2.2.2.2.2) = true then (whittlelaw3_PlaceAreas.j0 k true a0_0 a0_1 a0_2 a0_3 a0_4 a2_0 a2_1 a2_2) else (if (!(bt589.1 == bt594.1) || (!(bt589.2.1 == bt594.2.1) || (!(bt589.2.2.1 == bt594.2.2.1)))) = true then (whittlelaw3_PlaceAreas.j0 k true a0_0 a0_1 a0_2 a0_3 a0_4 a2_0 a2_1 a2_2) else (if (bt589.2.2.2 != bt594.2.2.2) = true then (whittlelaw3_PlaceAreas.j0 k true a0_0 a0_1 a0_2 a0_3 a0_4 a2_0 a2_1 a2_2) else (if bt599.1 = bt601.1 then (whittlelaw3_PlaceAreas.j0 k (bt599.2 != bt601.2) a0_0 a0_1 a0_2 a0_3 a0_4 a2_0 a2_1 a2_2) else (whittlelaw3_PlaceAreas.j0 k true a0_0 a0_1 a0_2 a0_3 a0_4 a2_0 a2_1 a2_2))))))))))))) = some r := H
  have A7 := Aside0.mk A70
  clear A70
  replace H := Option.bind_eq_some_iff.mp H
  obtain ⟨⟨t582, t583, t584, t585, t586, t587⟩, A80, H⟩ := H
  replace H : ((place_At.f k a0_0 a0_1 a0_2 a0_3 a0_4 a3).bind fun bt589 => ((whittleref3_At.f a0_0 a0_1 a0_2 a0_3 a0_4 a3).bind fun bt594 => ((place_Index.f a0_0 a0_1 a0_2 a0_3 a0_4 a2_0 a2_1 a2_2).bind fun bt599 => ((whittleref3_Index.f a0_0 a0_1 a0_2 a0_3 a0_4 a2_0 a2_1 a2_2).bind fun bt601 => (if (!(t561 == t568) || (!(t562 == t569) || (!(t563 == t570) || (!(t564 == t571) || (!(t565 == t572)))))) = true then (whittlelaw3_PlaceAreas.j0 k true a0_0 a0_1 a0_2 a0_3 a0_4 a2_0 a2_1 a2_2) else (if (t566 != t573) = true then (whittlelaw3_PlaceAreas.j0 k true a0_0 a0_1 a0_2 a0_3 a0_4 a2_0 a2_1 a2_2) else (if (!(t575 == t582) || (!(t576 == t583) || (!(t577 == t584) || (!(t578 == t585) || (!(t579 == t586)))))) = true then (whittlelaw3_PlaceAreas.j0 k true a0_0 a0_1 a0_2 a0_3 a0_4 a2_0 a2_1 a2_2) else (if (t580 != t587) = true then (whittlelaw3_PlaceAreas.j0 k true a0_0 a0_1 a0_2 a0_3 a0_4 a2_0 a2_1 a2_2) else (if (!(bt589.1 == bt594.1) || (!(bt589.2.1 == bt594.2.1) || (!(bt589.2.2.1 == bt594.2.2.1)))) = true then (whittlelaw3_PlaceAreas.j0 k true a0_0 a0_1 a0_2 a0_3 a0_4 a2_0 a2_1 a2_2) else (if (bt589.2.2.2 != bt594.2.2.2) = true then (whittlelaw3_PlaceAreas.j0 k true a0_0 a0_1 a0_2 a0_3 a0_4 a2_0 a2_1 a2_2) else (if bt599.1 = bt601.1 then (whittlelaw3_PlaceAreas.j0 k (bt599.2 != bt601.2) a0_0 a0_1 a0_2 a0_3 a0_4 a2_0 a2_1 a2_2) else (whittlelaw3_PlaceAreas.j0 k true a0_0 a0_1 a0_2 a0_3 a0_4 a2_0 a2_1 a2_2)))))))))))) = some r := H
  have A8 := Aside0.mk A80
  clear A80
  replace H := Option.bind_eq_some_iff.mp H
  obtain ⟨⟨t589, t590, t591, t592⟩, A90, H⟩ := H
  replace H : ((whittleref3_At.f a0_0 a0_1 a0_2 a0_3 a0_4 a3).bind fun bt594 => ((place_Index.f a0_0 a0_1 a0_2 a0_3 a0_4 a2_0 a2_1 a2_2).bind fun bt599 => ((whittleref3_Index.f a0_0 a0_1 a0_2 a0_3 a0_4 a2_0 a2_1 a2_2).bind fun bt601 => (if (!(t561 == t568) || (!(t562 == t569) || (!(t563 == t570) || (!(t564 == t571) || (!(t565 == t572)))))) = true then (whittlelaw3_PlaceAreas.j0 k true a0_0 a0_1 a0_2 a0_3 a0_4 a2_0 a2_1 a2_2) else (if (t566 != t573) = true then (whittlelaw3_PlaceAreas.j0 k true a0_0 a0_1 a0_2 a0_3 a0_4 a2_0 a2_1 a2_2) else (if (!(t575 == t582) || (!(t576 == t583) || (!(t577 == t584) || (!(t578 == t585) || (!(t579 == t586)))))) = true then (whittlelaw3_PlaceAreas.j0 k true a0_0 a0_1 a0_2 a0_3 a0_4 a2_0 a2_1 a2_2) else (if (t580 != t587) = true then (whittlelaw3_PlaceAreas.j0 k true a0_0 a0_1 a0_2 a0_3 a0_4 a2_0 a2_1 a2_2) else (if (!(t589 == bt594.1) || (!(t590 == bt594.2.1) || (!(t591 == bt594.2.2.1)))) = true then (whittlelaw3_PlaceAreas.j0 k true a0_0 a0_1 a0_2 a0_3 a0_4 a2_0 a2_1 a2_2) else (if (t592 != bt594.2.2.2) = true then (whittlelaw3_PlaceAreas.j0 k true a0_0 a0_1 a0_2 a0_3 a0_4 a2_0 a2_1 a2_2) else (if bt599.1 = bt601.1 then (whittlelaw3_PlaceAreas.j0 k (bt599.2 != bt601.2) a0_0 a0_1 a0_2 a0_3 a0_4 a2_0 a2_1 a2_2) else (whittlelaw3_PlaceAreas.j0 k true a0_0 a0_1 a0_2 a0_3 a0_4 a2_0 a2_1 a2_2))))))))))) = some r := H
  have A9 := Aside0.mk A90
  clear A90
  replace H := Option.bind_eq_some_iff.mp H
  obtain ⟨⟨t594, t595, t596, t597⟩, A100, H⟩ := H
  replace H : ((place_Index.f a0_0 a0_1 a0_2 a0_3 a0_4 a2_0 a2_1 a2_2).bind fun bt599 => ((whittleref3_Index.f a0_0 a0_1 a0_2 a0_3 a0_4 a2_0 a2_1 a2_2).bind fun bt601 => (if (!(t561 == t568) || (!(t562 == t569) || (!(t563 == t570) || (!(t564 == t571) || (!(t565 == t572)))))) = true then (whittlelaw3_PlaceAreas.j0 k true a0_0 a0_1 a0_2 a0_3 a0_4 a2_0 a2_1 a2_2) else (if (t566 != t573) = true then (whittlelaw3_PlaceAreas.j0 k true a0_0 a0_1 a0_2 a0_3 a0_4 a2_0 a2_1 a2_2) else (if (!(t575 == t582) || (!(t576 == t583) || (!(t577 == t584) || (!(t578 == t585) || (!(t579 == t586)))))) = true then (whittlelaw3_PlaceAreas.j0 k true a0_0 a0_1 a0_2 a0_3 a0_4 a2_0 a2_1 a2_2) else (if (t580 != t587) = true then (whittlelaw3_PlaceAreas.j0 k true a0_0 a0_1 a0_2 a0_3 a0_4 a2_0 a2_1 a2_2) else (if (!(t589 == t594) || (!(t590 == t595) || (!(t591 == t596)))) = true then (whittlelaw3_PlaceAreas.j0 k true a0_0 a0_1 a0_2 a0_3 a0_4 a2_0 a2_1 a2_2) else (if (t592 != t597) = true then (whittlelaw3_PlaceAreas.j0 k true a0_0 a0_1 a0_2 a0_3 a0_4 a2_0 a2_1 a2_2) else (if bt599.1 = bt601.1 then (whittlelaw3_PlaceAreas.j0 k (bt599.2 != bt601.2) a0_0 a0_1 a0_2 a0_3 a0_4 a2_0 a2_1 a2_2) else (whittlelaw3_PlaceAreas.j0 k true a0_0 a0_1 a0_2 a0_3 a0_4 a2_0 a2_1 a2_2)))))))))) = some r := H
  have A10 := Aside0.mk A100
  clear A100
  replace H := Option.bind_eq_some_iff.mp H
  obtain ⟨⟨t599, t600⟩, A110, H⟩ := H
  replace H : ((whittleref3_Index.f a0_0 a0_1 a0_2 a0_3 a0_4 a2_0 a2_1 a2_2).bind fun bt601 => (if (!(t561 == t568) || (!(t562 == t569) || (!(t563 == t570) || (!(t564 == t571) || (!(t565 == t572)))))) = true then (whittlelaw3_PlaceAreas.j0 k true a0_0 a0_1 a0_2 a0_3 a0_4 a2_0 a2_1 a2_2) else (if (t566 != t573) = true then (whittlelaw3_PlaceAreas.j0 k true a0_0 a0_1 a0_2 a0_3 a0_4 a2_0 a2_1 a2_2) else (if (!(t575 == t582) || (!(t576 == t583) || (!(t577 == t584) || (!(t578 == t585) || (!(t579 == t586)))))) = true then (whittlelaw3_PlaceAreas.j0 k true a0_0 a0_1 a0_2 a0_3 a0_4 a2_0 a2_1 a2_2) else (if (t580 != t587) = true then (whittlelaw3_PlaceAreas.j0 k true a0_0 a0_1 a0_2 a0_3 a0_4 a2_0 a2_1 a2_2) else (if (!(t589 == t594) || (!(t590 == t595) || (!(t591 == t596)))) = true then (whittlelaw3_PlaceAreas.j0 k true a0_0 a0_1 a0_2 a0_3 a0_4 a2_0 a2_1 a2_2) else (if (t592 != t597) = true then (whittlelaw3_PlaceAreas.j0 k true a0_0 a0_1 a0_2 a0_3 a0_4 a2_0 a2_1 a2_2) else (if t599 = bt601.1 then (whittlelaw3_PlaceAreas.j0 k (t600 != bt601.2) a0_0 a0_1 a0_2 a0_3 a0_4 a2_0 a2_1 a2_2) else (whittlelaw3_PlaceAreas.j0 k true a0_0 a0_1 a0_2 a0_3 a0_4 a2_0 a2_1 a2_2))))))))) = some r := H
  have A11 := Aside0.mk A110
  clear A110
  replace H := Option.bind_eq_some_iff.mp H
  obtain ⟨⟨t601, t602⟩, A120, H⟩ := H
  replace H : (if (!(t561 == t568) || (!(t562 == t569) || (!(t563 == t570) || (!(t564 == t571) || (!(t565 == t572)))))) = true then (whittlelaw3_PlaceAreas.j0 k true a0_0 a0_1 a0_2 a0_3 a0_4 a2_0 a2_1 a2_2) else (if (t566 != t573) = true then (whittlelaw3_PlaceAreas.j0 k true a0_0 a0_1 a0_2 a0_3 a0_4 a2_0 a2_1 a2_2) else (if (!(t575 == t582) || (!(t576 == t583) || (!(t577 == t584) || (!(t578 == t585) || (!(t579 == t586)))))) = true then (whittlelaw3_PlaceAreas.j0 k true a0_0 a0_1 a0_2 a0_3 a0_4 a2_0 a2_1 a2_2) else (if (t580 != t587) = true then (whittlelaw3_PlaceAreas.j0 k true a0_0 a0_1 a0_2 a0_3 a0_4 a2_0 a2_1 a2_2) else (if (!(t589 == t594) || (!(t590 == t595) || (!(t591 == t596)))) = true then (whittlelaw3_PlaceAreas.j0 k true a0_0 a0_1 a0_2 a0_3 a0_4 a2_0 a2_1 a2_2) else (if (t592 != t597) = true then (whittlelaw3_PlaceAreas.j0 k true a0_0 a0_1 a0_2 a0_3 a0_4 a2_0 a2_1 a2_2) else (if t599 = t601 then (whittlelaw3_PlaceAreas.j0 k (t600 != t602) a0_0 a0_1 a0_2 a0_3 a0_4 a2_0 a2_1 a2_2) else (whittlelaw3_PlaceAreas.j0 k true a0_0 a0_1 a0_2 a0_3 a0_4 a2_0 a2_1 a2_2)))))))) = some r := H
  have A12 := Aside0.mk A120
  clear A120
  have HC13 := Aside0.mk H
  clear H
  go_enter Tryd.func13, Tryd.ntmps13
  go_upto_region 9 with (first | ((with_reducible refine gate_dst (N := 4) rfl ?_); refine box_event ?hg (N := 4) ?hd (cs := #[.int .i64 a0_0, .int .i64 a0_1, .int .i64 a0_2, .int .i64 a0_3, .int .i64 a0_4]) (t := 25) ?hr ?_; (case hd => rfl); (case hg => rfl); (case hr => go_simp <;> rfl); intro gb558 hg w14 hbox hb; have BK558 := Aside0.mk (hbox); have GW558 := Aside0.mk ((by rw [hg]; exact (below_size (by repeat first | exact HB.out)) : w.heap.size ≤ gb558)); have GE558 := GW558; replace HB := Aside0.mk (below_step (by repeat first | exact HB.out) hb); clear hb hbox hg) | ((with_reducible refine gate_dst (N := 5) rfl ?_); refine box_event ?hg (N := 5) ?hd (cs := #[.int .i64 a1_0, .int .i64 a1_1, .int .i64 a1_2, .int .i64 a1_3, .int .i64 a1_4]) (t := 25) ?hr ?_; (case hd => rfl); (case hg => rfl); (case hr => go_simp <;> rfl); intro gb559 hg w15 hbox hb; have BK559 := Aside0.mk (hbox); have GW559 := Aside0.mk ((by rw [hg]; exact (below_size (by repeat first | exact HB.out | refine below_set ?_ GE558.out)) : w.heap.size ≤ gb559)); have GE559 := GW559; have NB558_559 := Aside0.mk ((by rw [hg]; exact Nat.ne_of_lt (blk_lt BK558.out) : gb558 ≠ gb559)); have NB559_558 := Aside0.mk ((by rw [hg]; exact Nat.ne_of_gt (blk_lt BK558.out) : gb559 ≠ gb558)); replace BK558 := Aside0.mk (blk_below BK558.out hb); replace HB := Aside0.mk (below_step (by repeat first | exact HB.out | refine below_set ?_ GE558.out) hb); clear hb hbox hg) | ((with_reducible refine gate_dst (N := 6) rfl ?_); refine box_event ?hg (N := 6) ?hd (cs := #[.int .i64 a2_0, .int .i64 a2_1, .int .i64 a2_2]) (t := 23) ?hr ?_; (case hd => rfl); (case hg => rfl); (case hr => go_simp <;> rfl); intro gb560 hg w16 hbox hb; have BK560 := Aside0.mk (hbox); have GW560 := Aside0.mk ((by rw [hg]; exact (below_size (by repeat first | exact HB.out | refine below_set ?_ GE558.out | refine below_set ?_ GE559.out)) : w.heap.size ≤ gb560)); have GE560 := GW560; have NB558_560 := Aside0.mk ((by rw [hg]; exact Nat.ne_of_lt (blk_lt BK558.out) : gb558 ≠ gb560)); have NB560_558 := Aside0.mk ((by rw [hg]; exact Nat.ne_of_gt (blk_lt BK558.out) : gb560 ≠ gb558)); have NB559_560 := Aside0.mk ((by rw [hg]; exact Nat.ne_of_lt (blk_lt BK559.out) : gb559 ≠ gb560)); have NB560_559 := Aside0.mk ((by rw [hg]; exact Nat.ne_of_gt (blk_lt BK559.out) : gb560 ≠ gb559)); replace BK558 := Aside0.mk (blk_below BK558.out hb); replace BK559 := Aside0.mk (blk_below BK559.out hb); replace HB := Aside0.mk (below_step (by repeat first | exact HB.out | refine below_set ?_ GE558.out | refine below_set ?_ GE559.out) hb); clear hb hbox hg; have hnb17 := NB560_558.out; have hnc17 := NB558_560.out; have hnb18 := NB560_559.out; have hnc18 := NB559_560.out; have hcz19_0 : w16.cell? ⟨gb560, 0, none⟩ = some (.int .i64 a2_0) := (blk_cell BK560.out 0).trans rfl; have hcz19_1 : w16.cell? ⟨gb560, 1, none⟩ = some (.int .i64 a2_1) := (blk_cell BK560.out 1).trans rfl; have hcz19_2 : w16.cell? ⟨gb560, 2, none⟩ = some (.int .i64 a2_2) := (blk_cell BK560.out 2).trans rfl; have hfz19_0 := blk_frozen BK560.out 0; have hfz19_1 := blk_frozen BK560.out 1; have hfz19_2 := blk_frozen BK560.out 2) | ((with_reducible refine gate_callee (f := 48) rfl ?_); refine goesL_ (some 27) rfl rfl Tryd.func48 (by kernel_rfl) rfl #[.agg #[.int .i64 a2_0, .int .i64 a2_1, .int .i64 a2_2]] rfl (by (try simp only [List.map_toArray, List.map_cons, List.map_nil]); first | done | rfl) ?_; (with_reducible refine (place_One.calls k a2_0 a2_1 a2_2 t561 t562 t563 t564 t565 t566 _ A5.out).mono ?_); rintro e w20 ⟨rfl, hb⟩; refine ⟨_, rfl, ?_⟩; replace BK558 := Aside0.mk (blk_below BK558.out hb); replace BK559 := Aside0.mk (blk_below BK559.out hb); replace BK560 := Aside0.mk (blk_below BK560.out hb); replace HB := Aside0.mk (below_step (by repeat first | exact HB.out | refine below_set ?_ GE558.out | refine below_set ?_ GE559.out | refine below_set ?_ GE560.out) hb); (try clear hb)) | ((with_reducible refine gate_dst (N := 9) rfl ?_); refine box_event ?hg (N := 9) ?hd (cs := #[.int .i64 0, .int .i64 0, .int .i64 0, .int .i64 0, .int .i64 0]) (t := 25) ?hr ?_; (case hd => rfl); (case hg => rfl); (case hr => go_simp <;> rfl); intro gb567 hg w21 hbox hb; have BK567 := Aside0.mk (hbox); have GW567 := Aside0.mk ((by rw [hg]; exact (below_size (by repeat first | exact HB.out | refine below_set ?_ GE558.out | refine below_set ?_ GE559.out | refine below_set ?_ GE560.out)) : w.heap.size ≤ gb567)); have GE567 := GW567; have NB558_567 := Aside0.mk ((by rw [hg]; exact Nat.ne_of_lt (blk_lt BK558.out) : gb558 ≠ gb567)); have NB567_558 := Aside0.mk ((by rw [hg]; exact Nat.ne_of_gt (blk_lt BK558.out) : gb567 ≠ gb558)); have NB559_567 := Aside0.mk ((by rw [hg]; exact Nat.ne_of_lt (blk_lt BK559.out) : gb559 ≠ gb567)); have NB567_559 := Aside0.mk ((by rw [hg]; exact Nat.ne_of_gt (blk_lt BK559.out) : gb567 ≠ gb559)); have NB560_567 := Aside0.mk ((by rw [hg]; exact Nat.ne_of_lt (blk_lt BK560.out) : gb560 ≠ gb567)); have NB567_560 := Aside0.mk ((by rw [hg]; exact Nat.ne_of_gt (blk_lt BK560.out) : gb567 ≠ gb560)); replace BK558 := Aside0.mk (blk_below BK558.out hb); replace BK559 := Aside0.mk (blk_below BK559.out hb); replace BK560 := Aside0.mk (blk_below BK560.out hb); replace HB := Aside0.mk (below_step (by repeat first | exact HB.out | refine below_set ?_ GE558.out | refine below_set ?_ GE559.out | refine below_set ?_ GE560.out) hb); clear hb hbox hg; have hnb22 := NB567_558.out; have hnc22 := NB558_567.out; have hnb23 := NB567_559.out; have hnc23 := NB559_567.out; have hnb24 := NB567_560.out; have hnc24 := NB560_567.out; have hcz25_0 : w21.cell? ⟨gb567, 0, none⟩ = some (.int .i64 0) := (blk_cell BK567.out 0).trans rfl; have hcz25_1 : w21.cell? ⟨gb567, 1, none⟩ = some (.int .i64 0) := (blk_cell BK567.out 1).trans rfl; have hcz25_2 : w21.cell? ⟨gb567, 2, none⟩ = some (.int .i64 0) := (blk_cell BK567.out 2).trans rfl; have hcz25_3 : w21.cell? ⟨gb567, 3, none⟩ = some (.int .i64 0) := (blk_cell BK567.out 3).trans rfl; have hcz25_4 : w21.cell? ⟨gb567, 4, none⟩ = some (.int .i64 0) := (blk_cell BK567.out 4).trans rfl; have hfz25_0 := blk_frozen BK567.out 0; have hfz25_1 := blk_frozen BK567.out 1; have hfz25_2 := blk_frozen BK567.out 2; have hfz25_3 := blk_frozen BK567.out 3; have hfz25_4 := blk_frozen BK567.out 4; have hcz26_0 : w21.cell? ⟨gb560, 0, none⟩ = some (.int .i64 a2_0) := (blk_cell BK560.out 0).trans rfl; have hcz26_1 : w21.cell? ⟨gb560, 1, none⟩ = some (.int .i64 a2_1) := (blk_cell BK560.out 1).trans rfl; have hcz26_2 : w21.cell? ⟨gb560, 2, none⟩ = some (.int .i64 a2_2) := (blk_cell BK560.out 2).trans rfl; have hfz26_0 := blk_frozen BK560.out 0; have hfz26_1 := blk_frozen BK560.out 1; have hfz26_2 := blk_frozen BK560.out 2) | ((with_reducible refine gate_callee (f := 49) rfl ?_); refine goesL_ (some 32) rfl rfl Tryd.func49 (by kernel_rfl) rfl #[.agg #[.int .i64 a2_0, .int .i64 a2_1, .int .i64 a2_2]] rfl (by (try simp only [List.map_toArray, List.map_cons, List.map_nil]); first | done | rfl) ?_; (with_reducible refine (whittleref3_One.calls a2_0 a2_1 a2_2 t568 t569 t570 t571 t572 t573 _ A6.out).mono ?_); rintro e w27 ⟨rfl, hb⟩; refine ⟨_, rfl, ?_⟩; replace BK558 := Aside0.mk (blk_below (g := gb558) (o := .cells #[.int .i64 a0_0, .int .i64 a0_1, .int .i64 a0_2, .int .i64 a0_3, .int .i64 a0_4] 25 (0, 0)) (by (repeat refine blk_far ?_ NB558_567.out _); exact BK558.out) hb); replace BK559 := Aside0.mk (blk_below (g := gb559) (o := .cells #[.int .i64 a1_0, .int .i64 a1_1, .int .i64 a1_2, .int .i64 a1_3, .int .i64 a1_4] 25 (0, 0)) (by (repeat refine blk_far ?_ NB559_567.out _); exact BK559.out) hb); replace BK560 := Aside0.mk (blk_below (g := gb560) (o := .cells #[.int .i64 a2_0, .int .i64 a2_1, .int .i64 a2_2] 23 (0, 0)) (by (repeat refine blk_far ?_ NB560_567.out _); exact BK560.out) hb); replace BK567 := Aside0.mk (blk_below (g := gb567) (o := .cells #[.int .i64 t561, .int .i64 t562, .int .i64 t563, .int .i64 t564, .int .i64 t565] 25 (0, 0)) (by (with_reducible repeat first | apply blk_drewN | apply blk_drew | apply blk_alloc); refine blk_put (cs := #[.int .i64 t561, .int .i64 t562, .int .i64 t563, .int .i64 t564, .int .i64 0]) ?_ 4 _ rfl; (with_reducible repeat first | apply blk_drewN | apply blk_drew | apply blk_alloc); refine blk_put (cs := #[.int .i64 t561, .int .i64 t562, .int .i64 t563, .int .i64 0, .int .i64 0]) ?_ 3 _ rfl; (with_reducible repeat first | apply blk_drewN | apply blk_drew | apply blk_alloc); refine blk_put (cs := #[.int .i64 t561, .int .i64 t562, .int .i64 0, .int .i64 0, .int .i64 0]) ?_ 2 _ rfl; (with_reducible repeat first | apply blk_drewN | apply blk_drew | apply blk_alloc); refine blk_put (cs := #[.int .i64 t561, .int .i64 0, .int .i64 0, .int .i64 0, .int .i64 0]) ?_ 1 _ rfl; (with_reducible repeat first | apply blk_drewN | apply blk_drew | apply blk_alloc); refine blk_put (cs := #[.int .i64 0, .int .i64 0, .int .i64 0, .int .i64 0, .int .i64 0]) ?_ 0 _ rfl; (with_reducible repeat first | apply blk_drewN | apply blk_drew | apply blk_alloc); exact BK567.out) hb); replace HB := Aside0.mk (below_step (by repeat first | exact HB.out | refine below_set ?_ GE558.out | refine below_set ?_ GE559.out | refine below_set ?_ GE560.out | refine below_set ?_ GE567.out) hb); (try clear hb)) | ((with_reducible refine gate_dst (N := 11) rfl ?_); refine box_event ?hg (N := 11) ?hd (cs := #[.int .i64 0, .int .i64 0, .int .i64 0, .int .i64 0, .int .i64 0]) (t := 25) ?hr ?_; (case hd => rfl); (case hg => rfl); (case hr => go_simp <;> rfl); intro gb574 hg w28 hbox hb; have BK574 := Aside0.mk (hbox); have GW574 := Aside0.mk ((by rw [hg]; exact (below_size (by repeat first | exact HB.out | refine below_set ?_ GE558.out | refine below_set ?_ GE559.out | refine below_set ?_ GE560.out | refine below_set ?_ GE567.out)) : w.heap.size ≤ gb574)); have GE574 := GW574; have NB558_574 := Aside0.mk ((by rw [hg]; exact Nat.ne_of_lt (blk_lt BK558.out) : gb558 ≠ gb574)); have NB574_558 := Aside0.mk ((by rw [hg]; exact Nat.ne_of_gt (blk_lt BK558.out) : gb574 ≠ gb558)); have NB559_574 := Aside0.mk ((by rw [hg]; exact Nat.ne_of_lt (blk_lt BK559.out) : gb559 ≠ gb574)); have NB574_559 := Aside0.mk ((by rw [hg]; exact Nat.ne_of_gt (blk_lt BK559.out) : gb574 ≠ gb559)); have NB560_574 := Aside0.mk ((by rw [hg]; exact Nat.ne_of_lt (blk_lt BK560.out) : gb560 ≠ gb574)); have NB574_560 := Aside0.mk ((by rw [hg]; exact Nat.ne_of_gt (blk_lt BK560.out) : gb574 ≠ gb560)); have NB567_574 := Aside0.mk ((by rw [hg]; exact Nat.ne_of_lt (blk_lt BK567.out) : gb567 ≠ gb574)); have NB574_567 := Aside0.mk ((by rw [hg]; exact Nat.ne_of_gt (blk_lt BK567.out) : gb574 ≠ gb567)); replace BK558 := Aside0.mk (blk_below BK558.out hb); replace BK559 := Aside0.mk (blk_below BK559.out hb); replace BK560 := Aside0.mk (blk_below BK560.out hb); replace BK567 := Aside0.mk (blk_below BK567.out hb); replace HB := Aside0.mk (below_step (by repeat first | exact HB.out | refine below_set ?_ GE558.out | refine below_set ?_ GE559.out | refine below_set ?_ GE560.out | refine below_set ?_ GE567.out) hb); clear hb hbox hg; have hnb29 := NB574_558.out; have hnc29 := NB558_574.out; have hnb30 := NB574_559.out; have hnc30 := NB559_574.out; have hnb31 := NB574_560.out; have hnc31 := NB560_574.out; have hnb32 := NB574_567.out; have hnc32 := NB567_574.out; have hcz33_0 : w28.cell? ⟨gb574, 0, none⟩ = some (.int .i64 0) := (blk_cell BK574.out 0).trans rfl; have hcz33_1 : w28.cell? ⟨gb574, 1, none⟩ = some (.int .i64 0) := (blk_cell BK574.out 1).trans rfl; have hcz33_2 : w28.cell? ⟨gb574, 2, none⟩ = some (.int .i64 0) := (blk_cell BK574.out 2).trans rfl; have hcz33_3 : w28.cell? ⟨gb574, 3, none⟩ = some (.int .i64 0) := (blk_cell BK574.out 3).trans rfl; have hcz33_4 : w28.cell? ⟨gb574, 4, none⟩ = some (.int .i64 0) := (blk_cell BK574.out 4).trans rfl; have hfz33_0 := blk_frozen BK574.out 0; have hfz33_1 := blk_frozen BK574.out 1; have hfz33_2 := blk_frozen BK574.out 2; have hfz33_3 := blk_frozen BK574.out 3; have hfz33_4 := blk_frozen BK574.out 4; have hnb34 := NB558_559.out; have hnc34 := NB559_558.out; have hcz35_0 : w28.cell? ⟨gb558, 0, none⟩ = some (.int .i64 a0_0) := (blk_cell BK558.out 0).trans rfl; have hcz35_1 : w28.cell? ⟨gb558, 1, none⟩ = some (.int .i64 a0_1) := (blk_cell BK558.out 1).trans rfl; have hcz35_2 : w28.cell? ⟨gb558, 2, none⟩ = some (.int .i64 a0_2) := (blk_cell BK558.out 2).trans rfl; have hcz35_3 : w28.cell? ⟨gb558, 3, none⟩ = some (.int .i64 a0_3) := (blk_cell BK558.out 3).trans rfl; have hcz35_4 : w28.cell? ⟨gb558, 4, none⟩ = some (.int .i64 a0_4) := (blk_cell BK558.out 4).trans rfl; have hfz35_0 := blk_frozen BK558.out 0; have hfz35_1 := blk_frozen BK558.out 1; have hfz35_2 := blk_frozen BK558.out 2; have hfz35_3 := blk_frozen BK558.out 3; have hfz35_4 := blk_frozen BK558.out 4; have hcz36_0 : w28.cell? ⟨gb559, 0, none⟩ = some (.int .i64 a1_0) := (blk_cell BK559.out 0).trans rfl; have hcz36_1 : w28.cell? ⟨gb559, 1, none⟩ = some (.int .i64 a1_1) := (blk_cell BK559.out 1).trans rfl; have hcz36_2 : w28.cell? ⟨gb559, 2, none⟩ = some (.int .i64 a1_2) := (blk_cell BK559.out 2).trans rfl; have hcz36_3 : w28.cell? ⟨gb559, 3, none⟩ = some (.int .i64 a1_3) := (blk_cell BK559.out 3).trans rfl; have hcz36_4 : w28.cell? ⟨gb559, 4, none⟩ = some (.int .i64 a1_4) := (blk_cell BK559.out 4).trans rfl; have hfz36_0 := blk_frozen BK559.out 0; have hfz36_1 := blk_frozen BK559.out 1; have hfz36_2 := blk_frozen BK559.out 2; have hfz36_3 := blk_frozen BK559.out 3; have hfz36_4 := blk_frozen BK559.out 4) | ((with_reducible refine gate_callee (f := 27) rfl ?_); refine goesL_ (some 38) rfl rfl Tryd.func27 (by kernel_rfl) rfl #[.agg #[.int .i64 a0_0, .int .i64 a0_1, .int .i64 a0_2, .int .i64 a0_3, .int .i64 a0_4], .agg #[.int .i64 a1_0, .int .i64 a1_1, .int .i64 a1_2, .int .i64 a1_3, .int .i64 a1_4]] rfl (by (try simp only [List.map_toArray, List.map_cons, List.map_nil]); first | done | rfl) ?_; (with_reducible refine (place_Meet.calls a0_0 a0_1 a0_2 a0_3 a0_4 a1_0 a1_1 a1_2 a1_3 a1_4 t575 t576 t577 t578 t579 t580 _ A7.out).mono ?_); rintro e w37 ⟨rfl, hb⟩; refine ⟨_, rfl, ?_⟩; replace BK558 := Aside0.mk (blk_below (g := gb558) (o := .cells #[.int .i64 a0_0, .int .i64 a0_1, .int .i64 a0_2, .int .i64 a0_3, .int .i64 a0_4] 25 (0, 0)) (by (repeat refine blk_far ?_ NB558_574.out _); exact BK558.out) hb); replace BK559 := Aside0.mk (blk_below (g := gb559) (o := .cells #[.int .i64 a1_0, .int .i64 a1_1, .int .i64 a1_2, .int .i64 a1_3, .int .i64 a1_4] 25 (0, 0)) (by (repeat refine blk_far ?_ NB559_574.out _); exact BK559.out) hb); replace BK560 := Aside0.mk (blk_below (g := gb560) (o := .cells #[.int .i64 a2_0, .int .i64 a2_1, .int .i64 a2_2] 23 (0, 0)) (by (repeat refine blk_far ?_ NB560_574.out _); exact BK560.out) hb); replace BK567 := Aside0.mk (blk_below (g := gb567) (o := .cells #[.int .i64 t561, .int .i64 t562, .int .i64 t563, .int .i64 t564, .int .i64 t565] 25 (0, 0)) (by (repeat refine blk_far ?_ NB567_574.out _); exact BK567.out) hb); replace BK574 := Aside0.mk (blk_below (g := gb574) (o := .cells #[.int .i64 t568, .int .i64 t569, .int .i64 t570, .int .i64 t571, .int .i64 t572] 25 (0, 0)) (by (with_reducible repeat first | apply blk_drewN | apply blk_drew | apply blk_alloc); refine blk_put (cs := #[.int .i64 t568, .int .i64 t569, .int .i64 t570, .int .i64 t571, .int .i64 0]) ?_ 4 _ rfl; (with_reducible repeat first | apply blk_drewN | apply blk_drew | apply blk_alloc); refine blk_put (cs := #[.int .i64 t568, .int .i64 t569, .int .i64 t570, .int .i64 0, .int .i64 0]) ?_ 3 _ rfl; (with_reducible repeat first | apply blk_drewN | apply blk_drew | apply blk_alloc); refine blk_put (cs := #[.int .i64 t568, .int .i64 t569, .int .i64 0, .int .i64 0, .int .i64 0]) ?_ 2 _ rfl; (with_reducible repeat first | apply blk_drewN | apply blk_drew | apply blk_alloc); refine blk_put (cs := #[.int .i64 t568, .int .i64 0, .int .i64 0, .int .i64 0, .int .i64 0]) ?_ 1 _ rfl; (with_reducible repeat first | apply blk_drewN | apply blk_drew | apply blk_alloc); refine blk_put (cs := #[.int .i64 0, .int .i64 0, .int .i64 0, .int .i64 0, .int .i64 0]) ?_ 0 _ rfl; (with_reducible repeat first | apply blk_drewN | apply blk_drew | apply blk_alloc); exact BK574.out) hb); replace HB := Aside0.mk (below_step (by repeat first | exact HB.out | refine below_set ?_ GE558.out | refine below_set ?_ GE559.out | refine below_set ?_ GE560.out | refine below_set ?_ GE567.out | refine below_set ?_ GE574.out) hb); (try clear hb)) | ((with_reducible refine gate_dst (N := 13) rfl ?_); refine box_event ?hg (N := 13) ?hd (cs := #[.int .i64 0, .int .i64 0, .int .i64 0, .int .i64 0, .int .i64 0]) (t := 25) ?hr ?_; (case hd => rfl); (case hg => rfl); (case hr => go_simp <;> rfl); intro gb581 hg w38 hbox hb; have BK581 := Aside0.mk (hbox); have GW581 := Aside0.mk ((by rw [hg]; exact (below_size (by repeat first | exact HB.out | refine below_set ?_ GE558.out | refine below_set ?_ GE559.out | refine below_set ?_ GE560.out | refine below_set ?_ GE567.out | refine below_set ?_ GE574.out)) : w.heap.size ≤ gb581)); have GE581 := GW581; have NB558_581 := Aside0.mk ((by rw [hg]; exact Nat.ne_of_lt (blk_lt BK558.out) : gb558 ≠ gb581)); have NB581_558 := Aside0.mk ((by rw [hg]; exact Nat.ne_of_gt (blk_lt BK558.out) : gb581 ≠ gb558)); have NB559_581 := Aside0.mk ((by rw [hg]; exact Nat.ne_of_lt (blk_lt BK559.out) : gb559 ≠ gb581)); have NB581_559 := Aside0.mk ((by rw [hg]; exact Nat.ne_of_gt (blk_lt BK559.out) : gb581 ≠ gb559)); have NB560_581 := Aside0.mk ((by rw [hg]; exact Nat.ne_of_lt (blk_lt BK560.out) : gb560 ≠ gb581)); have NB581_560 := Aside0.mk ((by rw [hg]; exact Nat.ne_of_gt (blk_lt BK560.out) : gb581 ≠ gb560)); have NB567_581 := Aside0.mk ((by rw [hg]; exact Nat.ne_of_lt (blk_lt BK567.out) : gb567 ≠ gb581)); have NB581_567 := Aside0.mk ((by rw [hg]; exact Nat.ne_of_gt (blk_lt BK567.out) : gb581 ≠ gb567)); have NB574_581 := Aside0.mk ((by rw [hg]; exact Nat.ne_of_lt (blk_lt BK574.out) : gb574 ≠ gb581)); have NB581_574 := Aside0.mk ((by rw [hg]; exact Nat.ne_of_gt (blk_lt BK574.out) : gb581 ≠ gb574)); replace BK558 := Aside0.mk (blk_below BK558.out hb); replace BK559 := Aside0.mk (blk_below BK559.out hb); replace BK560 := Aside0.mk (blk_below BK560.out hb); replace BK567 := Aside0.mk (blk_below BK567.out hb); replace BK574 := Aside0.mk (blk_below BK574.out hb); replace HB := Aside0.mk (below_step (by repeat first | exact HB.out | refine below_set ?_ GE558.out | refine below_set ?_ GE559.out | refine below_set ?_ GE560.out | refine below_set ?_ GE567.out | refine below_set ?_ GE574.out) hb); clear hb hbox hg; have hnb39 := NB581_558.out; have hnc39 := NB558_581.out; have hnb40 := NB581_559.out; have hnc40 := NB559_581.out; have hnb41 := NB581_560.out; have hnc41 := NB560_581.out; have hnb42 := NB581_567.out; have hnc42 := NB567_581.out; have hnb43 := NB581_574.out; have hnc43 := NB574_581.out; have hcz44_0 : w38.cell? ⟨gb581, 0, none⟩ = some (.int .i64 0) := (blk_cell BK581.out 0).trans rfl; have hcz44_1 : w38.cell? ⟨gb581, 1, none⟩ = some (.int .i64 0) := (blk_cell BK581.out 1).trans rfl; have hcz44_2 : w38.cell? ⟨gb581, 2, none⟩ = some (.int .i64 0) := (blk_cell BK581.out 2).trans rfl; have hcz44_3 : w38.cell? ⟨gb581, 3, none⟩ = some (.int .i64 0) := (blk_cell BK581.out 3).trans rfl; have hcz44_4 : w38.cell? ⟨gb581, 4, none⟩ = some (.int .i64 0) := (blk_cell BK581.out 4).trans rfl; have hfz44_0 := blk_frozen BK581.out 0; have hfz44_1 := blk_frozen BK581.out 1; have hfz44_2 := blk_frozen BK581.out 2; have hfz44_3 := blk_frozen BK581.out 3; have hfz44_4 := blk_frozen BK581.out 4; have hcz45_0 : w38.cell? ⟨gb558, 0, none⟩ = some (.int .i64 a0_0) := (blk_cell BK558.out 0).trans rfl; have hcz45_1 : w38.cell? ⟨gb558, 1, none⟩ = some (.int .i64 a0_1) := (blk_cell BK558.out 1).trans rfl; have hcz45_2 : w38.cell? ⟨gb558, 2, none⟩ = some (.int .i64 a0_2) := (blk_cell BK558.out 2).trans rfl; have hcz45_3 : w38.cell? ⟨gb558, 3, none⟩ = some (.int .i64 a0_3) := (blk_cell BK558.out 3).trans rfl; have hcz45_4 : w38.cell? ⟨gb558, 4, none⟩ = some (.int .i64 a0_4) := (blk_cell BK558.out 4).trans rfl; have hfz45_0 := blk_frozen BK558.out 0; have hfz45_1 := blk_frozen BK558.out 1; have hfz45_2 := blk_frozen BK558.out 2; have hfz45_3 := blk_frozen BK558.out 3; have hfz45_4 := blk_frozen BK558.out 4; have hcz46_0 : w38.cell? ⟨gb559, 0, none⟩ = some (.int .i64 a1_0) := (blk_cell BK559.out 0).trans rfl; have hcz46_1 : w38.cell? ⟨gb559, 1, none⟩ = some (.int .i64 a1_1) := (blk_cell BK559.out 1).trans rfl; have hcz46_2 : w38.cell? ⟨gb559, 2, none⟩ = some (.int .i64 a1_2) := (blk_cell BK559.out 2).trans rfl; have hcz46_3 : w38.cell? ⟨gb559, 3, none⟩ = some (.int .i64 a1_3) := (blk_cell BK559.out 3).trans rfl; have hcz46_4 : w38.cell? ⟨gb559, 4, none⟩ = some (.int .i64 a1_4) := (blk_cell BK559.out 4).trans rfl; have hfz46_0 := blk_frozen BK559.out 0; have hfz46_1 := blk_frozen BK559.out 1; have hfz46_2 := blk_frozen BK559.out 2; have hfz46_3 := blk_frozen BK559.out 3; have hfz46_4 := blk_frozen BK559.out 4) | ((with_reducible refine gate_callee (f := 50) rfl ?_); refine goesL_ (some 44) rfl rfl Tryd.func50 (by kernel_rfl) rfl #[.agg #[.int .i64 a0_0, .int .i64 a0_1, .int .i64 a0_2, .int .i64 a0_3, .int .i64 a0_4], .agg #[.int .i64 a1_0, .int .i64 a1_1, .int .i64 a1_2, .int .i64 a1_3, .int .i64 a1_4]] rfl (by (try simp only [List.map_toArray, List.map_cons, List.map_nil]); first | done | rfl) ?_; (with_reducible refine (whittleref3_Meet.calls k a0_0 a0_1 a0_2 a0_3 a0_4 a1_0 a1_1 a1_2 a1_3 a1_4 t582 t583 t584 t585 t586 t587 _ A8.out).mono ?_); rintro e w47 ⟨rfl, hb⟩; refine ⟨_, rfl, ?_⟩; replace BK558 := Aside0.mk (blk_below (g := gb558) (o := .cells #[.int .i64 a0_0, .int .i64 a0_1, .int .i64 a0_2, .int .i64 a0_3, .int .i64 a0_4] 25 (0, 0)) (by (repeat refine blk_far ?_ NB558_581.out _); exact BK558.out) hb); replace BK559 := Aside0.mk (blk_below (g := gb559) (o := .cells #[.int .i64 a1_0, .int .i64 a1_1, .int .i64 a1_2, .int .i64 a1_3, .int .i64 a1_4] 25 (0, 0)) (by (repeat refine blk_far ?_ NB559_581.out _); exact BK559.out) hb); replace BK560 := Aside0.mk (blk_below (g := gb560) (o := .cells #[.int .i64 a2_0, .int .i64 a2_1, .int .i64 a2_2] 23 (0, 0)) (by (repeat refine blk_far ?_ NB560_581.out _); exact BK560.out) hb); replace BK567 := Aside0.mk (blk_below (g := gb567) (o := .cells #[.int .i64 t561, .int .i64 t562, .int .i64 t563, .int .i64 t564, .int .i64 t565] 25 (0, 0)) (by (repeat refine blk_far ?_ NB567_581.out _); exact BK567.out) hb); replace BK574 := Aside0.mk (blk_below (g := gb574) (o := .cells #[.int .i64 t568, .int .i64 t569, .int .i64 t570, .int .i64 t571, .int .i64 t572] 25 (0, 0)) (by (repeat refine blk_far ?_ NB574_581.out _); exact BK574.out) hb); replace BK581 := Aside0.mk (blk_below (g := gb581) (o := .cells #[.int .i64 t575, .int .i64 t576, .int .i64 t577, .int .i64 t578, .int .i64 t579] 25 (0, 0)) (by (with_reducible repeat first | apply blk_drewN | apply blk_drew | apply blk_alloc); refine blk_put (cs := #[.int .i64 t575, .int .i64 t576, .int .i64 t577, .int .i64 t578, .int .i64 0]) ?_ 4 _ rfl; (with_reducible repeat first | apply blk_drewN | apply blk_drew | apply blk_alloc); refine blk_put (cs := #[.int .i64 t575, .int .i64 t576, .int .i64 t577, .int .i64 0, .int .i64 0]) ?_ 3 _ rfl; (with_reducible repeat first | apply blk_drewN | apply blk_drew | apply blk_alloc); refine blk_put (cs := #[.int .i64 t575, .int .i64 t576, .int .i64 0, .int .i64 0, .int .i64 0]) ?_ 2 _ rfl; (with_reducible repeat first | apply blk_drewN | apply blk_drew | apply blk_alloc); refine blk_put (cs := #[.int .i64 t575, .int .i64 0, .int .i64 0, .int .i64 0, .int .i64 0]) ?_ 1 _ rfl; (with_reducible repeat first | apply blk_drewN | apply blk_drew | apply blk_alloc); refine blk_put (cs := #[.int .i64 0, .int .i64 0, .int .i64 0, .int .i64 0, .int .i64 0]) ?_ 0 _ rfl; (with_reducible repeat first | apply blk_drewN | apply blk_drew | apply blk_alloc); exact BK581.out) hb); replace HB := Aside0.mk (below_step (by repeat first | exact HB.out | refine below_set ?_ GE558.out | refine below_set ?_ GE559.out | refine below_set ?_ GE560.out | refine below_set ?_ GE567.out | refine below_set ?_ GE574.out | refine below_set ?_ GE581.out) hb); (try clear hb)) | ((with_reducible refine gate_dst (N := 15) rfl ?_); refine box_event ?hg (N := 15) ?hd (cs := #[.int .i64 0, .int .i64 0, .int .i64 0, .int .i64 0, .int .i64 0]) (t := 25) ?hr ?_; (case hd => rfl); (case hg => rfl); (case hr => go_simp <;> rfl); intro gb588 hg w48 hbox hb; have BK588 := Aside0.mk (hbox); have GW588 := Aside0.mk ((by rw [hg]; exact (below_size (by repeat first | exact HB.out | refine below_set ?_ GE558.out | refine below_set ?_ GE559.out | refine below_set ?_ GE560.out | refine below_set ?_ GE567.out | refine below_set ?_ GE574.out | refine below_set ?_ GE581.out)) : w.heap.size ≤ gb588)); have GE588 := GW588; have NB558_588 := Aside0.mk ((by rw [hg]; exact Nat.ne_of_lt (blk_lt BK558.out) : gb558 ≠ gb588)); have NB588_558 := Aside0.mk ((by rw [hg]; exact Nat.ne_of_gt (blk_lt BK558.out) : gb588 ≠ gb558)); have NB559_588 := Aside0.mk ((by rw [hg]; exact Nat.ne_of_lt (blk_lt BK559.out) : gb559 ≠ gb588)); have NB588_559 := Aside0.mk ((by rw [hg]; exact Nat.ne_of_gt (blk_lt BK559.out) : gb588 ≠ gb559)); have NB560_588 := Aside0.mk ((by rw [hg]; exact Nat.ne_of_lt (blk_lt BK560.out) : gb560 ≠ gb588)); have NB588_560 := Aside0.mk ((by rw [hg]; exact Nat.ne_of_gt (blk_lt BK560.out) : gb588 ≠ gb560)); have NB567_588 := Aside0.mk ((by rw [hg]; exact Nat.ne_of_lt (blk_lt BK567.out) : gb567 ≠ gb588)); have NB588_567 := Aside0.mk ((by rw [hg]; exact Nat.ne_of_gt (blk_lt BK567.out) : gb588 ≠ gb567)); have NB574_588 := Aside0.mk ((by rw [hg]; exact Nat.ne_of_lt (blk_lt BK574.out) : gb574 ≠ gb588)); have NB588_574 := Aside0.mk ((by rw [hg]; exact Nat.ne_of_gt (blk_lt BK574.out) : gb588 ≠ gb574)); have NB581_588 := Aside0.mk ((by rw [hg]; exact Nat.ne_of_lt (blk_lt BK581.out) : gb581 ≠ gb588)); have NB588_581 := Aside0.mk ((by rw [hg]; exact Nat.ne_of_gt (blk_lt BK581.out) : gb588 ≠ gb581)); replace BK558 := Aside0.mk (blk_below BK558.out hb); replace BK559 := Aside0.mk (blk_below BK559.out hb); replace BK560 := Aside0.mk (blk_below BK560.out hb); replace BK567 := Aside0.mk (blk_below BK567.out hb); replace BK574 := Aside0.mk (blk_below BK574.out hb); replace BK581 := Aside0.mk (blk_below BK581.out hb); replace HB := Aside0.mk (below_step (by repeat first | exact HB.out | refine below_set ?_ GE558.out | refine below_set ?_ GE559.out | refine below_set ?_ GE560.out | refine below_set ?_ GE567.out | refine below_set ?_ GE574.out | refine below_set ?_ GE581.out) hb); clear hb hbox hg; have hnb49 := NB588_558.out; have hnc49 := NB558_588.out; have hnb50 := NB588_559.out; have hnc50 := NB559_588.out; have hnb51 := NB588_560.out; have hnc51 := NB560_588.out; have hnb52 := NB588_567.out; have hnc52 := NB567_588.out; have hnb53 := NB588_574.out; have hnc53 := NB574_588.out; have hnb54 := NB588_581.out; have hnc54 := NB581_588.out; have hcz55_0 : w48.cell? ⟨gb588, 0, none⟩ = some (.int .i64 0) := (blk_cell BK588.out 0).trans rfl; have hcz55_1 : w48.cell? ⟨gb588, 1, none⟩ = some (.int .i64 0) := (blk_cell BK588.out 1).trans rfl; have hcz55_2 : w48.cell? ⟨gb588, 2, none⟩ = some (.int .i64 0) := (blk_cell BK588.out 2).trans rfl; have hcz55_3 : w48.cell? ⟨gb588, 3, none⟩ = some (.int .i64 0) := (blk_cell BK588.out 3).trans rfl; have hcz55_4 : w48.cell? ⟨gb588, 4, none⟩ = some (.int .i64 0) := (blk_cell BK588.out 4).trans rfl; have hfz55_0 := blk_frozen BK588.out 0; have hfz55_1 := blk_frozen BK588.out 1; have hfz55_2 := blk_frozen BK588.out 2; have hfz55_3 := blk_frozen BK588.out 3; have hfz55_4 := blk_frozen BK588.out 4; have hcz56_0 : w48.cell? ⟨gb558, 0, none⟩ = some (.int .i64 a0_0) := (blk_cell BK558.out 0).trans rfl; have hcz56_1 : w48.cell? ⟨gb558, 1, none⟩ = some (.int .i64 a0_1) := (blk_cell BK558.out 1).trans rfl; have hcz56_2 : w48.cell? ⟨gb558, 2, none⟩ = some (.int .i64 a0_2) := (blk_cell BK558.out 2).trans rfl; have hcz56_3 : w48.cell? ⟨gb558, 3, none⟩ = some (.int .i64 a0_3) := (blk_cell BK558.out 3).trans rfl; have hcz56_4 : w48.cell? ⟨gb558, 4, none⟩ = some (.int .i64 a0_4) := (blk_cell BK558.out 4).trans rfl; have hfz56_0 := blk_frozen BK558.out 0; have hfz56_1 := blk_frozen BK558.out 1; have hfz56_2 := blk_frozen BK558.out 2; have hfz56_3 := blk_frozen BK558.out 3; have hfz56_4 := blk_frozen BK558.out 4) | ((with_reducible refine gate_callee (f := 35) rfl ?_); refine goesL_ (some 50) rfl rfl Tryd.func35 (by kernel_rfl) rfl #[.agg #[.int .i64 a0_0, .int .i64 a0_1, .int .i64 a0_2, .int .i64 a0_3, .int .i64 a0_4], .int .i64 a3] rfl (by (try simp only [List.map_toArray, List.map_cons, List.map_nil]); first | done | rfl) ?_; (with_reducible refine (place_At.calls k a0_0 a0_1 a0_2 a0_3 a0_4 a3 t589 t590 t591 t592 _ A9.out).mono ?_); rintro e w57 ⟨rfl, hb⟩; refine ⟨_, rfl, ?_⟩; replace BK558 := Aside0.mk (blk_below (g := gb558) (o := .cells #[.int .i64 a0_0, .int .i64 a0_1, .int .i64 a0_2, .int .i64 a0_3, .int .i64 a0_4] 25 (0, 0)) (by (repeat refine blk_far ?_ NB558_588.out _); exact BK558.out) hb); replace BK559 := Aside0.mk (blk_below (g := gb559) (o := .cells #[.int .i64 a1_0, .int .i64 a1_1, .int .i64 a1_2, .int .i64 a1_3, .int .i64 a1_4] 25 (0, 0)) (by (repeat refine blk_far ?_ NB559_588.out _); exact BK559.out) hb); replace BK560 := Aside0.mk (blk_below (g := gb560) (o := .cells #[.int .i64 a2_0, .int .i64 a2_1, .int .i64 a2_2] 23 (0, 0)) (by (repeat refine blk_far ?_ NB560_588.out _); exact BK560.out) hb); replace BK567 := Aside0.mk (blk_below (g := gb567) (o := .cells #[.int .i64 t561, .int .i64 t562, .int .i64 t563, .int .i64 t564, .int .i64 t565] 25 (0, 0)) (by (repeat refine blk_far ?_ NB567_588.out _); exact BK567.out) hb); replace BK574 := Aside0.mk (blk_below (g := gb574) (o := .cells #[.int .i64 t568, .int .i64 t569, .int .i64 t570, .int .i64 t571, .int .i64 t572] 25 (0, 0)) (by (repeat refine blk_far ?_ NB574_588.out _); exact BK574.out) hb); replace BK581 := Aside0.mk (blk_below (g := gb581) (o := .cells #[.int .i64 t575, .int .i64 t576, .int .i64 t577, .int .i64 t578, .int .i64 t579] 25 (0, 0)) (by (repeat refine blk_far ?_ NB581_588.out _); exact BK581.out) hb); replace BK588 := Aside0.mk (blk_below (g := gb588) (o := .cells #[.int .i64 t582, .int .i64 t583, .int .i64 t584, .int .i64 t585, .int .i64 t586] 25 (0, 0)) (by (with_reducible repeat first | apply blk_drewN | apply blk_drew | apply blk_alloc); refine blk_put (cs := #[.int .i64 t582, .int .i64 t583, .int .i64 t584, .int .i64 t585, .int .i64 0]) ?_ 4 _ rfl; (with_reducible repeat first | apply blk_drewN | apply blk_drew | apply blk_alloc); refine blk_put (cs := #[.int .i64 t582, .int .i64 t583, .int .i64 t584, .int .i64 0, .int .i64 0]) ?_ 3 _ rfl; (with_reducible repeat first | apply blk_drewN | apply blk_drew | apply blk_alloc); refine blk_put (cs := #[.int .i64 t582, .int .i64 t583, .int .i64 0, .int .i64 0, .int .i64 0]) ?_ 2 _ rfl; (with_reducible repeat first | apply blk_drewN | apply blk_drew | apply blk_alloc); refine blk_put (cs := #[.int .i64 t582, .int .i64 0, .int .i64 0, .int .i64 0, .int .i64 0]) ?_ 1 _ rfl; (with_reducible repeat first | apply blk_drewN | apply blk_drew | apply blk_alloc); refine blk_put (cs := #[.int .i64 0, .int .i64 0, .int .i64 0, .int .i64 0, .int .i64 0]) ?_ 0 _ rfl; (with_reducible repeat first | apply blk_drewN | apply blk_drew | apply blk_alloc); exact BK588.out) hb); replace HB := Aside0.mk (below_step (by repeat first | exact HB.out | refine below_set ?_ GE558.out | refine below_set ?_ GE559.out | refine below_set ?_ GE560.out | refine below_set ?_ GE567.out | refine below_set ?_ GE574.out | refine below_set ?_ GE581.out | refine below_set ?_ GE588.out) hb); (try clear hb)) | ((with_reducible refine gate_dst (N := 17) rfl ?_); refine box_event ?hg (N := 17) ?hd (cs := #[.int .i64 0, .int .i64 0, .int .i64 0]) (t := 23) ?hr ?_; (case hd => rfl); (case hg => rfl); (case hr => go_simp <;> rfl); intro gb593 hg w58 hbox hb; have BK593 := Aside0.mk (hbox); have GW593 := Aside0.mk ((by rw [hg]; exact (below_size (by repeat first | exact HB.out | refine below_set ?_ GE558.out | refine below_set ?_ GE559.out | refine below_set ?_ GE560.out | refine below_set ?_ GE567.out | refine below_set ?_ GE574.out | refine below_set ?_ GE581.out | refine below_set ?_ GE588.out)) : w.heap.size ≤ gb593)); have GE593 := GW593; have NB558_593 := Aside0.mk ((by rw [hg]; exact Nat.ne_of_lt (blk_lt BK558.out) : gb558 ≠ gb593)); have NB593_558 := Aside0.mk ((by rw [hg]; exact Nat.ne_of_gt (blk_lt BK558.out) : gb593 ≠ gb558)); have NB559_593 := Aside0.mk ((by rw [hg]; exact Nat.ne_of_lt (blk_lt BK559.out) : gb559 ≠ gb593)); have NB593_559 := Aside0.mk ((by rw [hg]; exact Nat.ne_of_gt (blk_lt BK559.out) : gb593 ≠ gb559)); have NB560_593 := Aside0.mk ((by rw [hg]; exact Nat.ne_of_lt (blk_lt BK560.out) : gb560 ≠ gb593)); have NB593_560 := Aside0.mk ((by rw [hg]; exact Nat.ne_of_gt (blk_lt BK560.out) : gb593 ≠ gb560)); have NB567_593 := Aside0.mk ((by rw [hg]; exact Nat.ne_of_lt (blk_lt BK567.out) : gb567 ≠ gb593)); have NB593_567 := Aside0.mk ((by rw [hg]; exact Nat.ne_of_gt (blk_lt BK567.out) : gb593 ≠ gb567)); have NB574_593 := Aside0.mk ((by rw [hg]; exact Nat.ne_of_lt (blk_lt BK574.out) : gb574 ≠ gb593)); have NB593_574 := Aside0.mk ((by rw [hg]; exact Nat.ne_of_gt (blk_lt BK574.out) : gb593 ≠ gb574)); have NB581_593 := Aside0.mk ((by rw [hg]; exact Nat.ne_of_lt (blk_lt BK581.out) : gb581 ≠ gb593)); have NB593_581 := Aside0.mk ((by rw [hg]; exact Nat.ne_of_gt (blk_lt BK581.out) : gb593 ≠ gb581)); have NB588_593 := Aside0.mk ((by rw [hg]; exact Nat.ne_of_lt (blk_lt BK588.out) : gb588 ≠ gb593)); have NB593_588 := Aside0.mk ((by rw [hg]; exact Nat.ne_of_gt (blk_lt BK588.out) : gb593 ≠ gb588)); replace BK558 := Aside0.mk (blk_below BK558.out hb); replace BK559 := Aside0.mk (blk_below BK559.out hb); replace BK560 := Aside0.mk (blk_below BK560.out hb); replace BK567 := Aside0.mk (blk_below BK567.out hb); replace BK574 := Aside0.mk (blk_below BK574.out hb); replace BK581 := Aside0.mk (blk_below BK581.out hb); replace BK588 := Aside0.mk (blk_below BK588.out hb); replace HB := Aside0.mk (below_step (by repeat first | exact HB.out | refine below_set ?_ GE558.out | refine below_set ?_ GE559.out | refine below_set ?_ GE560.out | refine below_set ?_ GE567.out | refine below_set ?_ GE574.out | refine below_set ?_ GE581.out | refine below_set ?_ GE588.out) hb); clear hb hbox hg; have hnb59 := NB593_558.out; have hnc59 := NB558_593.out; have hnb60 := NB593_559.out; have hnc60 := NB559_593.out; have hnb61 := NB593_560.out; have hnc61 := NB560_593.out; have hnb62 := NB593_567.out; have hnc62 := NB567_593.out; have hnb63 := NB593_574.out; have hnc63 := NB574_593.out; have hnb64 := NB593_581.out; have hnc64 := NB581_593.out; have hnb65 := NB593_588.out; have hnc65 := NB588_593.out; have hcz66_0 : w58.cell? ⟨gb593, 0, none⟩ = some (.int .i64 0) := (blk_cell BK593.out 0).trans rfl; have hcz66_1 : w58.cell? ⟨gb593, 1, none⟩ = some (.int .i64 0) := (blk_cell BK593.out 1).trans rfl; have hcz66_2 : w58.cell? ⟨gb593, 2, none⟩ = some (.int .i64 0) := (blk_cell BK593.out 2).trans rfl; have hfz66_0 := blk_frozen BK593.out 0; have hfz66_1 := blk_frozen BK593.out 1; have hfz66_2 := blk_frozen BK593.out 2; have hcz67_0 : w58.cell? ⟨gb558, 0, none⟩ = some (.int .i64 a0_0) := (blk_cell BK558.out 0).trans rfl; have hcz67_1 : w58.cell? ⟨gb558, 1, none⟩ = some (.int .i64 a0_1) := (blk_cell BK558.out 1).trans rfl; have hcz67_2 : w58.cell? ⟨gb558, 2, none⟩ = some (.int .i64 a0_2) := (blk_cell BK558.out 2).trans rfl; have hcz67_3 : w58.cell? ⟨gb558, 3, none⟩ = some (.int .i64 a0_3) := (blk_cell BK558.out 3).trans rfl; have hcz67_4 : w58.cell? ⟨gb558, 4, none⟩ = some (.int .i64 a0_4) := (blk_cell BK558.out 4).trans rfl; have hfz67_0 := blk_frozen BK558.out 0; have hfz67_1 := blk_frozen BK558.out 1; have hfz67_2 := blk_frozen BK558.out 2; have hfz67_3 := blk_frozen BK558.out 3; have hfz67_4 := blk_frozen BK558.out 4) | ((with_reducible refine gate_callee (f := 51) rfl ?_); refine goesL_ (some 56) rfl rfl Tryd.func51 (by kernel_rfl) rfl #[.agg #[.int .i64 a0_0, .int .i64 a0_1, .int .i64 a0_2, .int .i64 a0_3, .int .i64 a0_4], .int .i64 a3] rfl (by (try simp only [List.map_toArray, List.map_cons, List.map_nil]); first | done | rfl) ?_; (with_reducible refine (whittleref3_At.calls a0_0 a0_1 a0_2 a0_3 a0_4 a3 t594 t595 t596 t597 _ A10.out).mono ?_); rintro e w68 ⟨rfl, hb⟩; refine ⟨_, rfl, ?_⟩; replace BK558 := Aside0.mk (blk_below (g := gb558) (o := .cells #[.int .i64 a0_0, .int .i64 a0_1, .int .i64 a0_2, .int .i64 a0_3, .int .i64 a0_4] 25 (0, 0)) (by (repeat refine blk_far ?_ NB558_593.out _); exact BK558.out) hb); replace BK559 := Aside0.mk (blk_below (g := gb559) (o := .cells #[.int .i64 a1_0, .int .i64 a1_1, .int .i64 a1_2, .int .i64 a1_3, .int .i64 a1_4] 25 (0, 0)) (by (repeat refine blk_far ?_ NB559_593.out _); exact BK559.out) hb); replace BK560 := Aside0.mk (blk_below (g := gb560) (o := .cells #[.int .i64 a2_0, .int .i64 a2_1, .int .i64 a2_2] 23 (0, 0)) (by (repeat refine blk_far ?_ NB560_593.out _); exact BK560.out) hb); replace BK567 := Aside0.mk (blk_below (g := gb567) (o := .cells #[.int .i64 t561, .int .i64 t562, .int .i64 t563, .int .i64 t564, .int .i64 t565] 25 (0, 0)) (by (repeat refine blk_far ?_ NB567_593.out _); exact BK567.out) hb); replace BK574 := Aside0.mk (blk_below (g := gb574) (o := .cells #[.int .i64 t568, .int .i64 t569, .int .i64 t570, .int .i64 t571, .int .i64 t572] 25 (0, 0)) (by (repeat refine blk_far ?_ NB574_593.out _); exact BK574.out) hb); replace BK581 := Aside0.mk (blk_below (g := gb581) (o := .cells #[.int .i64 t575, .int .i64 t576, .int .i64 t577, .int .i64 t578, .int .i64 t579] 25 (0, 0)) (by (repeat refine blk_far ?_ NB581_593.out _); exact BK581.out) hb); replace BK588 := Aside0.mk (blk_below (g := gb588) (o := .cells #[.int .i64 t582, .int .i64 t583, .int .i64 t584, .int .i64 t585, .int .i64 t586] 25 (0, 0)) (by (repeat refine blk_far ?_ NB588_593.out _); exact BK588.out) hb); replace BK593 := Aside0.mk (blk_below (g := gb593) (o := .cells #[.int .i64 t589, .int .i64 t590, .int .i64 t591] 23 (0, 0)) (by (with_reducible repeat first | apply blk_drewN | apply blk_drew | apply blk_alloc); refine blk_put (cs := #[.int .i64 t589, .int .i64 t590, .int .i64 0]) ?_ 2 _ rfl; (with_reducible repeat first | apply blk_drewN | apply blk_drew | apply blk_alloc); refine blk_put (cs := #[.int .i64 t589, .int .i64 0, .int .i64 0]) ?_ 1 _ rfl; (with_reducible repeat first | apply blk_drewN | apply blk_drew | apply blk_alloc); refine blk_put (cs := #[.int .i64 0, .int .i64 0, .int .i64 0]) ?_ 0 _ rfl; (with_reducible repeat first | apply blk_drewN | apply blk_drew | apply blk_alloc); exact BK593.out) hb); replace HB := Aside0.mk (below_step (by repeat first | exact HB.out | refine below_set ?_ GE558.out | refine below_set ?_ GE559.out | refine below_set ?_ GE560.out | refine below_set ?_ GE567.out | refine below_set ?_ GE574.out | refine below_set ?_ GE581.out | refine below_set ?_ GE588.out | refine below_set ?_ GE593.out) hb); (try clear hb)) | ((with_reducible refine gate_dst (N := 19) rfl ?_); refine box_event ?hg (N := 19) ?hd (cs := #[.int .i64 0, .int .i64 0, .int .i64 0]) (t := 23) ?hr ?_; (case hd => rfl); (case hg => rfl); (case hr => go_simp <;> rfl); intro gb598 hg w69 hbox hb; have BK598 := Aside0.mk (hbox); have GW598 := Aside0.mk ((by rw [hg]; exact (below_size (by repeat first | exact HB.out | refine below_set ?_ GE558.out | refine below_set ?_ GE559.out | refine below_set ?_ GE560.out | refine below_set ?_ GE567.out | refine below_set ?_ GE574.out | refine below_set ?_ GE581.out | refine below_set ?_ GE588.out | refine below_set ?_ GE593.out)) : w.heap.size ≤ gb598)); have GE598 := GW598; have NB558_598 := Aside0.mk ((by rw [hg]; exact Nat.ne_of_lt (blk_lt BK558.out) : gb558 ≠ gb598)); have NB598_558 := Aside0.mk ((by rw [hg]; exact Nat.ne_of_gt (blk_lt BK558.out) : gb598 ≠ gb558)); have NB559_598 := Aside0.mk ((by rw [hg]; exact Nat.ne_of_lt (blk_lt BK559.out) : gb559 ≠ gb598)); have NB598_559 := Aside0.mk ((by rw [hg]; exact Nat.ne_of_gt (blk_lt BK559.out) : gb598 ≠ gb559)); have NB560_598 := Aside0.mk ((by rw [hg]; exact Nat.ne_of_lt (blk_lt BK560.out) : gb560 ≠ gb598)); have NB598_560 := Aside0.mk ((by rw [hg]; exact Nat.ne_of_gt (blk_lt BK560.out) : gb598 ≠ gb560)); have NB567_598 := Aside0.mk ((by rw [hg]; exact Nat.ne_of_lt (blk_lt BK567.out) : gb567 ≠ gb598)); have NB598_567 := Aside0.mk ((by rw [hg]; exact Nat.ne_of_gt (blk_lt BK567.out) : gb598 ≠ gb567)); have NB574_598 := Aside0.mk ((by rw [hg]; exact Nat.ne_of_lt (blk_lt BK574.out) : gb574 ≠ gb598)); have NB598_574 := Aside0.mk ((by rw [hg]; exact Nat.ne_of_gt (blk_lt BK574.out) : gb598 ≠ gb574)); have NB581_598 := Aside0.mk ((by rw [hg]; exact Nat.ne_of_lt (blk_lt BK581.out) : gb581 ≠ gb598)); have NB598_581 := Aside0.mk ((by rw [hg]; exact Nat.ne_of_gt (blk_lt BK581.out) : gb598 ≠ gb581)); have NB588_598 := Aside0.mk ((by rw [hg]; exact Nat.ne_of_lt (blk_lt BK588.out) : gb588 ≠ gb598)); have NB598_588 := Aside0.mk ((by rw [hg]; exact Nat.ne_of_gt (blk_lt BK588.out) : gb598 ≠ gb588)); have NB593_598 := Aside0.mk ((by rw [hg]; exact Nat.ne_of_lt (blk_lt BK593.out) : gb593 ≠ gb598)); have NB598_593 := Aside0.mk ((by rw [hg]; exact Nat.ne_of_gt (blk_lt BK593.out) : gb598 ≠ gb593)); replace BK558 := Aside0.mk (blk_below BK558.out hb); replace BK559 := Aside0.mk (blk_below BK559.out hb); replace BK560 := Aside0.mk (blk_below BK560.out hb); replace BK567 := Aside0.mk (blk_below BK567.out hb); replace BK574 := Aside0.mk (blk_below BK574.out hb); replace BK581 := Aside0.mk (blk_below BK581.out hb); replace BK588 := Aside0.mk (blk_below BK588.out hb); replace BK593 := Aside0.mk (blk_below BK593.out hb); replace HB := Aside0.mk (below_step (by repeat first | exact HB.out | refine below_set ?_ GE558.out | refine below_set ?_ GE559.out | refine below_set ?_ GE560.out | refine below_set ?_ GE567.out | refine below_set ?_ GE574.out | refine below_set ?_ GE581.out | refine below_set ?_ GE588.out | refine below_set ?_ GE593.out) hb); clear hb hbox hg; have hnb70 := NB598_558.out; have hnc70 := NB558_598.out; have hnb71 := NB598_559.out; have hnc71 := NB559_598.out; have hnb72 := NB598_560.out; have hnc72 := NB560_598.out; have hnb73 := NB598_567.out; have hnc73 := NB567_598.out; have hnb74 := NB598_574.out; have hnc74 := NB574_598.out; have hnb75 := NB598_581.out; have hnc75 := NB581_598.out; have hnb76 := NB598_588.out; have hnc76 := NB588_598.out; have hnb77 := NB598_593.out; have hnc77 := NB593_598.out; have hcz78_0 : w69.cell? ⟨gb598, 0, none⟩ = some (.int .i64 0) := (blk_cell BK598.out 0).trans rfl; have hcz78_1 : w69.cell? ⟨gb598, 1, none⟩ = some (.int .i64 0) := (blk_cell BK598.out 1).trans rfl; have hcz78_2 : w69.cell? ⟨gb598, 2, none⟩ = some (.int .i64 0) := (blk_cell BK598.out 2).trans rfl; have hfz78_0 := blk_frozen BK598.out 0; have hfz78_1 := blk_frozen BK598.out 1; have hfz78_2 := blk_frozen BK598.out 2; have hcz79_0 : w69.cell? ⟨gb558, 0, none⟩ = some (.int .i64 a0_0) := (blk_cell BK558.out 0).trans rfl; have hcz79_1 : w69.cell? ⟨gb558, 1, none⟩ = some (.int .i64 a0_1) := (blk_cell BK558.out 1).trans rfl; have hcz79_2 : w69.cell? ⟨gb558, 2, none⟩ = some (.int .i64 a0_2) := (blk_cell BK558.out 2).trans rfl; have hcz79_3 : w69.cell? ⟨gb558, 3, none⟩ = some (.int .i64 a0_3) := (blk_cell BK558.out 3).trans rfl; have hcz79_4 : w69.cell? ⟨gb558, 4, none⟩ = some (.int .i64 a0_4) := (blk_cell BK558.out 4).trans rfl; have hfz79_0 := blk_frozen BK558.out 0; have hfz79_1 := blk_frozen BK558.out 1; have hfz79_2 := blk_frozen BK558.out 2; have hfz79_3 := blk_frozen BK558.out 3; have hfz79_4 := blk_frozen BK558.out 4; have hcz80_0 : w69.cell? ⟨gb560, 0, none⟩ = some (.int .i64 a2_0) := (blk_cell BK560.out 0).trans rfl; have hcz80_1 : w69.cell? ⟨gb560, 1, none⟩ = some (.int .i64 a2_1) := (blk_cell BK560.out 1).trans rfl; have hcz80_2 : w69.cell? ⟨gb560, 2, none⟩ = some (.int .i64 a2_2) := (blk_cell BK560.out 2).trans rfl; have hfz80_0 := blk_frozen BK560.out 0; have hfz80_1 := blk_frozen BK560.out 1; have hfz80_2 := blk_frozen BK560.out 2) | ((with_reducible refine gate_callee (f := 37) rfl ?_); refine goesL_ (some 62) rfl rfl Tryd.func37 (by kernel_rfl) rfl #[.agg #[.int .i64 a0_0, .int .i64 a0_1, .int .i64 a0_2, .int .i64 a0_3, .int .i64 a0_4], .agg #[.int .i64 a2_0, .int .i64 a2_1, .int .i64 a2_2]] rfl (by (try simp only [List.map_toArray, List.map_cons, List.map_nil]); first | done | rfl) ?_; (with_reducible refine (place_Index.calls a0_0 a0_1 a0_2 a0_3 a0_4 a2_0 a2_1 a2_2 t599 t600 _ A11.out).mono ?_); rintro e w81 ⟨rfl, hb⟩; refine ⟨_, rfl, ?_⟩; replace BK558 := Aside0.mk (blk_below (g := gb558) (o := .cells #[.int .i64 a0_0, .int .i64 a0_1, .int .i64 a0_2, .int .i64 a0_3, .int .i64 a0_4] 25 (0, 0)) (by (repeat refine blk_far ?_ NB558_598.out _); exact BK558.out) hb); replace BK559 := Aside0.mk (blk_below (g := gb559) (o := .cells #[.int .i64 a1_0, .int .i64 a1_1, .int .i64 a1_2, .int .i64 a1_3, .int .i64 a1_4] 25 (0, 0)) (by (repeat refine blk_far ?_ NB559_598.out _); exact BK559.out) hb); replace BK560 := Aside0.mk (blk_below (g := gb560) (o := .cells #[.int .i64 a2_0, .int .i64 a2_1, .int .i64 a2_2] 23 (0, 0)) (by (repeat refine blk_far ?_ NB560_598.out _); exact BK560.out) hb); replace BK567 := Aside0.mk (blk_below (g := gb567) (o := .cells #[.int .i64 t561, .int .i64 t562, .int .i64 t563, .int .i64 t564, .int .i64 t565] 25 (0, 0)) (by (repeat refine blk_far ?_ NB567_598.out _); exact BK567.out) hb); replace BK574 := Aside0.mk (blk_below (g := gb574) (o := .cells #[.int .i64 t568, .int .i64 t569, .int .i64 t570, .int .i64 t571, .int .i64 t572] 25 (0, 0)) (by (repeat refine blk_far ?_ NB574_598.out _); exact BK574.out) hb); replace BK581 := Aside0.mk (blk_below (g := gb581) (o := .cells #[.int .i64 t575, .int .i64 t576, .int .i64 t577, .int .i64 t578, .int .i64 t579] 25 (0, 0)) (by (repeat refine blk_far ?_ NB581_598.out _); exact BK581.out) hb); replace BK588 := Aside0.mk (blk_below (g := gb588) (o := .cells #[.int .i64 t582, .int .i64 t583, .int .i64 t584, .int .i64 t585, .int .i64 t586] 25 (0, 0)) (by (repeat refine blk_far ?_ NB588_598.out _); exact BK588.out) hb); replace BK593 := Aside0.mk (blk_below (g := gb593) (o := .cells #[.int .i64 t589, .int .i64 t590, .int .i64 t591] 23 (0, 0)) (by (repeat refine blk_far ?_ NB593_598.out _); exact BK593.out) hb); replace BK598 := Aside0.mk (blk_below (g := gb598) (o := .cells #[.int .i64 t594, .int .i64 t595, .int .i64 t596] 23 (0, 0)) (by (with_reducible repeat first | apply blk_drewN | apply blk_drew | apply blk_alloc); refine blk_put (cs := #[.int .i64 t594, .int .i64 t595, .int .i64 0]) ?_ 2 _ rfl; (with_reducible repeat first | apply blk_drewN | apply blk_drew | apply blk_alloc); refine blk_put (cs := #[.int .i64 t594, .int .i64 0, .int .i64 0]) ?_ 1 _ rfl; (with_reducible repeat first | apply blk_drewN | apply blk_drew | apply blk_alloc); refine blk_put (cs := #[.int .i64 0, .int .i64 0, .int .i64 0]) ?_ 0 _ rfl; (with_reducible repeat first | apply blk_drewN | apply blk_drew | apply blk_alloc); exact BK598.out) hb); replace HB := Aside0.mk (below_step (by repeat first | exact HB.out | refine below_set ?_ GE558.out | refine below_set ?_ GE559.out | refine below_set ?_ GE560.out | refine below_set ?_ GE567.out | refine below_set ?_ GE574.out | refine below_set ?_ GE581.out | refine below_set ?_ GE588.out | refine below_set ?_ GE593.out | refine below_set ?_ GE598.out) hb); (try clear hb); have hcz82_0 : w81.cell? ⟨gb558, 0, none⟩ = some (.int .i64 a0_0) := (blk_cell BK558.out 0).trans rfl; have hcz82_1 : w81.cell? ⟨gb558, 1, none⟩ = some (.int .i64 a0_1) := (blk_cell BK558.out 1).trans rfl; have hcz82_2 : w81.cell? ⟨gb558, 2, none⟩ = some (.int .i64 a0_2) := (blk_cell BK558.out 2).trans rfl; have hcz82_3 : w81.cell? ⟨gb558, 3, none⟩ = some (.int .i64 a0_3) := (blk_cell BK558.out 3).trans rfl; have hcz82_4 : w81.cell? ⟨gb558, 4, none⟩ = some (.int .i64 a0_4) := (blk_cell BK558.out 4).trans rfl; have hfz82_0 := blk_frozen BK558.out 0; have hfz82_1 := blk_frozen BK558.out 1; have hfz82_2 := blk_frozen BK558.out 2; have hfz82_3 := blk_frozen BK558.out 3; have hfz82_4 := blk_frozen BK558.out 4; have hcz83_0 : w81.cell? ⟨gb560, 0, none⟩ = some (.int .i64 a2_0) := (blk_cell BK560.out 0).trans rfl; have hcz83_1 : w81.cell? ⟨gb560, 1, none⟩ = some (.int .i64 a2_1) := (blk_cell BK560.out 1).trans rfl; have hcz83_2 : w81.cell? ⟨gb560, 2, none⟩ = some (.int .i64 a2_2) := (blk_cell BK560.out 2).trans rfl; have hfz83_0 := blk_frozen BK560.out 0; have hfz83_1 := blk_frozen BK560.out 1; have hfz83_2 := blk_frozen BK560.out 2) | ((with_reducible refine gate_callee (f := 52) rfl ?_); refine goesL_ (some 68) rfl rfl Tryd.func52 (by kernel_rfl) rfl #[.agg #[.int .i64 a0_0, .int .i64 a0_1, .int .i64 a0_2, .int .i64 a0_3, .int .i64 a0_4], .agg #[.int .i64 a2_0, .int .i64 a2_1, .int .i64 a2_2]] rfl (by (try simp only [List.map_toArray, List.map_cons, List.map_nil]); first | done | rfl) ?_; (with_reducible refine (whittleref3_Index.calls a0_0 a0_1 a0_2 a0_3 a0_4 a2_0 a2_1 a2_2 t601 t602 _ A12.out).mono ?_); rintro e w84 ⟨rfl, hb⟩; refine ⟨_, rfl, ?_⟩; replace BK558 := Aside0.mk (blk_below BK558.out hb); replace BK559 := Aside0.mk (blk_below BK559.out hb); replace BK560 := Aside0.mk (blk_below BK560.out hb); replace BK567 := Aside0.mk (blk_below BK567.out hb); replace BK574 := Aside0.mk (blk_below BK574.out hb); replace BK581 := Aside0.mk (blk_below BK581.out hb); replace BK588 := Aside0.mk (blk_below BK588.out hb); replace BK593 := Aside0.mk (blk_below BK593.out hb); replace BK598 := Aside0.mk (blk_below BK598.out hb); replace HB := Aside0.mk (below_step (by repeat first | exact HB.out | refine below_set ?_ GE558.out | refine below_set ?_ GE559.out | refine below_set ?_ GE560.out | refine below_set ?_ GE567.out | refine below_set ?_ GE574.out | refine below_set ?_ GE581.out | refine below_set ?_ GE588.out | refine below_set ?_ GE593.out | refine below_set ?_ GE598.out) hb); (try clear hb)))
  (try simp only [Act.put, List.setIfInBounds_toArray, List.set_cons_zero, List.set_cons_succ])
  go_cut [108] (fun v108 wc => ∃ (kq : Nat) (x108_12 : Bool), v108 = .bool x108_12 ∧ Aside0 (whittlelaw3_PlaceAreas.j0 kq x108_12 a0_0 a0_1 a0_2 a0_3 a0_4 a2_0 a2_1 a2_2 = some r) ∧ Aside0 (kq ≤ k) ∧ Aside0 (wc.heap[gb558]? = some (.cells #[.int .i64 a0_0, .int .i64 a0_1, .int .i64 a0_2, .int .i64 a0_3, .int .i64 a0_4] 25 (0, 0))) ∧ Aside0 (wc.heap[gb559]? = some (.cells #[.int .i64 a1_0, .int .i64 a1_1, .int .i64 a1_2, .int .i64 a1_3, .int .i64 a1_4] 25 (0, 0))) ∧ Aside0 (wc.heap[gb560]? = some (.cells #[.int .i64 a2_0, .int .i64 a2_1, .int .i64 a2_2] 23 (0, 0))) ∧ Aside0 (wc.heap[gb567]? = some (.cells #[.int .i64 t561, .int .i64 t562, .int .i64 t563, .int .i64 t564, .int .i64 t565] 25 (0, 0))) ∧ Aside0 (wc.heap[gb574]? = some (.cells #[.int .i64 t568, .int .i64 t569, .int .i64 t570, .int .i64 t571, .int .i64 t572] 25 (0, 0))) ∧ Aside0 (wc.heap[gb581]? = some (.cells #[.int .i64 t575, .int .i64 t576, .int .i64 t577, .int .i64 t578, .int .i64 t579] 25 (0, 0))) ∧ Aside0 (wc.heap[gb588]? = some (.cells #[.int .i64 t582, .int .i64 t583, .int .i64 t584, .int .i64 t585, .int .i64 t586] 25 (0, 0))) ∧ Aside0 (wc.heap[gb593]? = some (.cells #[.int .i64 t589, .int .i64 t590, .int .i64 t591] 23 (0, 0))) ∧ Aside0 (wc.heap[gb598]? = some (.cells #[.int .i64 t594, .int .i64 t595, .int .i64 t596] 23 (0, 0))) ∧ Aside0 (Below w.heap.size w wc))
  case first =>
    have H := HC13.out
    clear HC13
    by_cases c85 : (!(t561 == t568) || (!(t562 == t569) || (!(t563 == t570) || (!(t564 == t571) || (!(t565 == t572)))))) = true
    · rw [if_pos c85] at H
      have c85b0 : (!(t561 == t568) || (!(t562 == t569) || (!(t563 == t570) || (!(t564 == t571) || (!(t565 == t572)))))) = true := c85
      clear c85
      (first | rw [c85b0] | (simp only [i64_w, i32_w]; rw [c85b0]) | skip)
      have H' := Aside0.mk H
      clear H
      have hnb86 := NB567_558.out
      have hnc86 := NB558_567.out
      have hnb87 := NB567_559.out
      have hnc87 := NB559_567.out
      have hnb88 := NB567_560.out
      have hnc88 := NB560_567.out
      have hnb89 := NB567_574.out
      have hnc89 := NB574_567.out
      have hnb90 := NB567_581.out
      have hnc90 := NB581_567.out
      have hnb91 := NB567_588.out
      have hnc91 := NB588_567.out
      have hnb92 := NB567_593.out
      have hnc92 := NB593_567.out
      have hnb93 := NB567_598.out
      have hnc93 := NB598_567.out
      have hcz94_0 : w84.cell? ⟨gb567, 0, none⟩ = some (.int .i64 t561) := (blk_cell BK567.out 0).trans rfl
      have hcz94_1 : w84.cell? ⟨gb567, 1, none⟩ = some (.int .i64 t562) := (blk_cell BK567.out 1).trans rfl
      have hcz94_2 : w84.cell? ⟨gb567, 2, none⟩ = some (.int .i64 t563) := (blk_cell BK567.out 2).trans rfl
      have hcz94_3 : w84.cell? ⟨gb567, 3, none⟩ = some (.int .i64 t564) := (blk_cell BK567.out 3).trans rfl
      have hcz94_4 : w84.cell? ⟨gb567, 4, none⟩ = some (.int .i64 t565) := (blk_cell BK567.out 4).trans rfl
      have hfz94_0 := blk_frozen BK567.out 0
      have hfz94_1 := blk_frozen BK567.out 1
      have hfz94_2 := blk_frozen BK567.out 2
      have hfz94_3 := blk_frozen BK567.out 3
      have hfz94_4 := blk_frozen BK567.out 4
      have hnb95 := NB574_558.out
      have hnc95 := NB558_574.out
      have hnb96 := NB574_559.out
      have hnc96 := NB559_574.out
      have hnb97 := NB574_560.out
      have hnc97 := NB560_574.out
      have hnb98 := NB574_581.out
      have hnc98 := NB581_574.out
      have hnb99 := NB574_588.out
      have hnc99 := NB588_574.out
      have hnb100 := NB574_593.out
      have hnc100 := NB593_574.out
      have hnb101 := NB574_598.out
      have hnc101 := NB598_574.out
      have hcz102_0 : w84.cell? ⟨gb574, 0, none⟩ = some (.int .i64 t568) := (blk_cell BK574.out 0).trans rfl
      have hcz102_1 : w84.cell? ⟨gb574, 1, none⟩ = some (.int .i64 t569) := (blk_cell BK574.out 1).trans rfl
      have hcz102_2 : w84.cell? ⟨gb574, 2, none⟩ = some (.int .i64 t570) := (blk_cell BK574.out 2).trans rfl
      have hcz102_3 : w84.cell? ⟨gb574, 3, none⟩ = some (.int .i64 t571) := (blk_cell BK574.out 3).trans rfl
      have hcz102_4 : w84.cell? ⟨gb574, 4, none⟩ = some (.int .i64 t572) := (blk_cell BK574.out 4).trans rfl
      have hfz102_0 := blk_frozen BK574.out 0
      have hfz102_1 := blk_frozen BK574.out 1
      have hfz102_2 := blk_frozen BK574.out 2
      have hfz102_3 := blk_frozen BK574.out 3
      have hfz102_4 := blk_frozen BK574.out 4
      go_wp2
      go_meet
      case rel => exact ⟨_, (true), (by first | rfl | (simp; done) | (simp [*]; done)), H', ⟨by first | omega | exact Nat.le_refl _⟩, ⟨BK558.out⟩, ⟨BK559.out⟩, ⟨BK560.out⟩, ⟨BK567.out⟩, ⟨BK574.out⟩, ⟨BK581.out⟩, ⟨BK588.out⟩, ⟨BK593.out⟩, ⟨BK598.out⟩, ⟨by repeat (first | (with_reducible first | exact HB.out | apply below_alloc | apply pw_below_drewN | apply below_drew1 | refine below_set ?_ GE558.out | refine below_set ?_ GE559.out | refine below_set ?_ GE560.out | refine below_set ?_ GE567.out | refine below_set ?_ GE574.out | refine below_set ?_ GE581.out | refine below_set ?_ GE588.out | refine below_set ?_ GE593.out | refine below_set ?_ GE598.out) | exact HB.out)⟩⟩
    · rw [if_neg c85] at H
      have c85b0 : (!(t561 == t568) || (!(t562 == t569) || (!(t563 == t570) || (!(t564 == t571) || (!(t565 == t572)))))) = false := by simpa using c85
      clear c85
      (first | rw [c85b0] | (simp only [i64_w, i32_w]; rw [c85b0]) | skip)
      by_cases c103 : (t566 != t573) = true
      · rw [if_pos c103] at H
        have c103b0 : (t566 != t573) = true := c103
        (try (have c103b1 : decide (t566 = t573) = false := by simpa using c103))
        (try (have c103b2 : (t566 == t573) = false := by simpa using c103))
        (try (have c103b3 : ¬ (t566 = t573) := by simpa using c103))
        clear c103
        have H' := Aside0.mk H
        clear H
        have hnb104 := NB567_558.out
        have hnc104 := NB558_567.out
        have hnb105 := NB567_559.out
        have hnc105 := NB559_567.out
        have hnb106 := NB567_560.out
        have hnc106 := NB560_567.out
        have hnb107 := NB567_574.out
        have hnc107 := NB574_567.out
        have hnb108 := NB567_581.out
        have hnc108 := NB581_567.out
        have hnb109 := NB567_588.out
        have hnc109 := NB588_567.out
        have hnb110 := NB567_593.out
        have hnc110 := NB593_567.out
        have hnb111 := NB567_598.out
        have hnc111 := NB598_567.out
        have hcz112_0 : w84.cell? ⟨gb567, 0, none⟩ = some (.int .i64 t561) := (blk_cell BK567.out 0).trans rfl
        have hcz112_1 : w84.cell? ⟨gb567, 1, none⟩ = some (.int .i64 t562) := (blk_cell BK567.out 1).trans rfl
        have hcz112_2 : w84.cell? ⟨gb567, 2, none⟩ = some (.int .i64 t563) := (blk_cell BK567.out 2).trans rfl
        have hcz112_3 : w84.cell? ⟨gb567, 3, none⟩ = some (.int .i64 t564) := (blk_cell BK567.out 3).trans rfl
        have hcz112_4 : w84.cell? ⟨gb567, 4, none⟩ = some (.int .i64 t565) := (blk_cell BK567.out 4).trans rfl
        have hfz112_0 := blk_frozen BK567.out 0
        have hfz112_1 := blk_frozen BK567.out 1
        have hfz112_2 := blk_frozen BK567.out 2
        have hfz112_3 := blk_frozen BK567.out 3
        have hfz112_4 := blk_frozen BK567.out 4
        have hnb113 := NB574_558.out
        have hnc113 := NB558_574.out
        have hnb114 := NB574_559.out
        have hnc114 := NB559_574.out
        have hnb115 := NB574_560.out
        have hnc115 := NB560_574.out
        have hnb116 := NB574_581.out
        have hnc116 := NB581_574.out
        have hnb117 := NB574_588.out
        have hnc117 := NB588_574.out
        have hnb118 := NB574_593.out
        have hnc118 := NB593_574.out
        have hnb119 := NB574_598.out
        have hnc119 := NB598_574.out
        have hcz120_0 : w84.cell? ⟨gb574, 0, none⟩ = some (.int .i64 t568) := (blk_cell BK574.out 0).trans rfl
        have hcz120_1 : w84.cell? ⟨gb574, 1, none⟩ = some (.int .i64 t569) := (blk_cell BK574.out 1).trans rfl
        have hcz120_2 : w84.cell? ⟨gb574, 2, none⟩ = some (.int .i64 t570) := (blk_cell BK574.out 2).trans rfl
        have hcz120_3 : w84.cell? ⟨gb574, 3, none⟩ = some (.int .i64 t571) := (blk_cell BK574.out 3).trans rfl
        have hcz120_4 : w84.cell? ⟨gb574, 4, none⟩ = some (.int .i64 t572) := (blk_cell BK574.out 4).trans rfl
        have hfz120_0 := blk_frozen BK574.out 0
        have hfz120_1 := blk_frozen BK574.out 1
        have hfz120_2 := blk_frozen BK574.out 2
        have hfz120_3 := blk_frozen BK574.out 3
        have hfz120_4 := blk_frozen BK574.out 4
        go_wp2
        go_meet
        case rel => exact ⟨_, (true), (by first | rfl | (simp; done) | (simp [*]; done)), H', ⟨by first | omega | exact Nat.le_refl _⟩, ⟨BK558.out⟩, ⟨BK559.out⟩, ⟨BK560.out⟩, ⟨BK567.out⟩, ⟨BK574.out⟩, ⟨BK581.out⟩, ⟨BK588.out⟩, ⟨BK593.out⟩, ⟨BK598.out⟩, ⟨by repeat (first | (with_reducible first | exact HB.out | apply below_alloc | apply pw_below_drewN | apply below_drew1 | refine below_set ?_ GE558.out | refine below_set ?_ GE559.out | refine below_set ?_ GE560.out | refine below_set ?_ GE567.out | refine below_set ?_ GE574.out | refine below_set ?_ GE581.out | refine below_set ?_ GE588.out | refine below_set ?_ GE593.out | refine below_set ?_ GE598.out) | exact HB.out)⟩⟩
      · rw [if_neg c103] at H
        have c103b0 : (t566 != t573) = false := by simpa using c103
        (try (have c103b1 : decide (t566 = t573) = true := by simpa using c103))
        (try (have c103b2 : (t566 == t573) = true := by simpa using c103))
        clear c103
        by_cases c121 : (!(t575 == t582) || (!(t576 == t583) || (!(t577 == t584) || (!(t578 == t585) || (!(t579 == t586)))))) = true
        · rw [if_pos c121] at H
          have c121b0 : (!(t575 == t582) || (!(t576 == t583) || (!(t577 == t584) || (!(t578 == t585) || (!(t579 == t586)))))) = true := c121
          clear c121
          have H' := Aside0.mk H
          clear H
          have hnb122 := NB567_558.out
          have hnc122 := NB558_567.out
          have hnb123 := NB567_559.out
          have hnc123 := NB559_567.out
          have hnb124 := NB567_560.out
          have hnc124 := NB560_567.out
          have hnb125 := NB567_574.out
          have hnc125 := NB574_567.out
          have hnb126 := NB567_581.out
          have hnc126 := NB581_567.out
          have hnb127 := NB567_588.out
          have hnc127 := NB588_567.out
          have hnb128 := NB567_593.out
          have hnc128 := NB593_567.out
          have hnb129 := NB567_598.out
          have hnc129 := NB598_567.out
          have hcz130_0 : w84.cell? ⟨gb567, 0, none⟩ = some (.int .i64 t561) := (blk_cell BK567.out 0).trans rfl
          have hcz130_1 : w84.cell? ⟨gb567, 1, none⟩ = some (.int .i64 t562) := (blk_cell BK567.out 1).trans rfl
          have hcz130_2 : w84.cell? ⟨gb567, 2, none⟩ = some (.int .i64 t563) := (blk_cell BK567.out 2).trans rfl
          have hcz130_3 : w84.cell? ⟨gb567, 3, none⟩ = some (.int .i64 t564) := (blk_cell BK567.out 3).trans rfl
          have hcz130_4 : w84.cell? ⟨gb567, 4, none⟩ = some (.int .i64 t565) := (blk_cell BK567.out 4).trans rfl
          have hfz130_0 := blk_frozen BK567.out 0
          have hfz130_1 := blk_frozen BK567.out 1
          have hfz130_2 := blk_frozen BK567.out 2
          have hfz130_3 := blk_frozen BK567.out 3
          have hfz130_4 := blk_frozen BK567.out 4
          have hnb131 := NB574_558.out
          have hnc131 := NB558_574.out
          have hnb132 := NB574_559.out
          have hnc132 := NB559_574.out
          have hnb133 := NB574_560.out
          have hnc133 := NB560_574.out
          have hnb134 := NB574_581.out
          have hnc134 := NB581_574.out
          have hnb135 := NB574_588.out
          have hnc135 := NB588_574.out
          have hnb136 := NB574_593.out
          have hnc136 := NB593_574.out
          have hnb137 := NB574_598.out
          have hnc137 := NB598_574.out
          have hcz138_0 : w84.cell? ⟨gb574, 0, none⟩ = some (.int .i64 t568) := (blk_cell BK574.out 0).trans rfl
          have hcz138_1 : w84.cell? ⟨gb574, 1, none⟩ = some (.int .i64 t569) := (blk_cell BK574.out 1).trans rfl
          have hcz138_2 : w84.cell? ⟨gb574, 2, none⟩ = some (.int .i64 t570) := (blk_cell BK574.out 2).trans rfl
          have hcz138_3 : w84.cell? ⟨gb574, 3, none⟩ = some (.int .i64 t571) := (blk_cell BK574.out 3).trans rfl
          have hcz138_4 : w84.cell? ⟨gb574, 4, none⟩ = some (.int .i64 t572) := (blk_cell BK574.out 4).trans rfl
          have hfz138_0 := blk_frozen BK574.out 0
          have hfz138_1 := blk_frozen BK574.out 1
          have hfz138_2 := blk_frozen BK574.out 2
          have hfz138_3 := blk_frozen BK574.out 3
          have hfz138_4 := blk_frozen BK574.out 4
          have hnb139 := NB581_558.out
          have hnc139 := NB558_581.out
          have hnb140 := NB581_559.out
          have hnc140 := NB559_581.out
          have hnb141 := NB581_560.out
          have hnc141 := NB560_581.out
          have hnb142 := NB581_588.out
          have hnc142 := NB588_581.out
          have hnb143 := NB581_593.out
          have hnc143 := NB593_581.out
          have hnb144 := NB581_598.out
          have hnc144 := NB598_581.out
          have hcz145_0 : w84.cell? ⟨gb581, 0, none⟩ = some (.int .i64 t575) := (blk_cell BK581.out 0).trans rfl
          have hcz145_1 : w84.cell? ⟨gb581, 1, none⟩ = some (.int .i64 t576) := (blk_cell BK581.out 1).trans rfl
          have hcz145_2 : w84.cell? ⟨gb581, 2, none⟩ = some (.int .i64 t577) := (blk_cell BK581.out 2).trans rfl
          have hcz145_3 : w84.cell? ⟨gb581, 3, none⟩ = some (.int .i64 t578) := (blk_cell BK581.out 3).trans rfl
          have hcz145_4 : w84.cell? ⟨gb581, 4, none⟩ = some (.int .i64 t579) := (blk_cell BK581.out 4).trans rfl
          have hfz145_0 := blk_frozen BK581.out 0
          have hfz145_1 := blk_frozen BK581.out 1
          have hfz145_2 := blk_frozen BK581.out 2
          have hfz145_3 := blk_frozen BK581.out 3
          have hfz145_4 := blk_frozen BK581.out 4
          have hnb146 := NB588_558.out
          have hnc146 := NB558_588.out
          have hnb147 := NB588_559.out
          have hnc147 := NB559_588.out
          have hnb148 := NB588_560.out
          have hnc148 := NB560_588.out
          have hnb149 := NB588_593.out
          have hnc149 := NB593_588.out
          have hnb150 := NB588_598.out
          have hnc150 := NB598_588.out
          have hcz151_0 : w84.cell? ⟨gb588, 0, none⟩ = some (.int .i64 t582) := (blk_cell BK588.out 0).trans rfl
          have hcz151_1 : w84.cell? ⟨gb588, 1, none⟩ = some (.int .i64 t583) := (blk_cell BK588.out 1).trans rfl
          have hcz151_2 : w84.cell? ⟨gb588, 2, none⟩ = some (.int .i64 t584) := (blk_cell BK588.out 2).trans rfl
          have hcz151_3 : w84.cell? ⟨gb588, 3, none⟩ = some (.int .i64 t585) := (blk_cell BK588.out 3).trans rfl
          have hcz151_4 : w84.cell? ⟨gb588, 4, none⟩ = some (.int .i64 t586) := (blk_cell BK588.out 4).trans rfl
          have hfz151_0 := blk_frozen BK588.out 0
          have hfz151_1 := blk_frozen BK588.out 1
          have hfz151_2 := blk_frozen BK588.out 2
          have hfz151_3 := blk_frozen BK588.out 3
          have hfz151_4 := blk_frozen BK588.out 4
          go_wp2
          go_meet
          case rel => exact ⟨_, (true), (by first | rfl | (simp; done) | (simp [*]; done)), H', ⟨by first | omega | exact Nat.le_refl _⟩, ⟨BK558.out⟩, ⟨BK559.out⟩, ⟨BK560.out⟩, ⟨BK567.out⟩, ⟨BK574.out⟩, ⟨BK581.out⟩, ⟨BK588.out⟩, ⟨BK593.out⟩, ⟨BK598.out⟩, ⟨by repeat (first | (with_reducible first | exact HB.out | apply below_alloc | apply pw_below_drewN | apply below_drew1 | refine below_set ?_ GE558.out | refine below_set ?_ GE559.out | refine below_set ?_ GE560.out | refine below_set ?_ GE567.out | refine below_set ?_ GE574.out | refine below_set ?_ GE581.out | refine below_set ?_ GE588.out | refine below_set ?_ GE593.out | refine below_set ?_ GE598.out) | exact HB.out)⟩⟩
        · rw [if_neg c121] at H
          have c121b0 : (!(t575 == t582) || (!(t576 == t583) || (!(t577 == t584) || (!(t578 == t585) || (!(t579 == t586)))))) = false := by simpa using c121
          clear c121
          by_cases c152 : (t580 != t587) = true
          · rw [if_pos c152] at H
            have c152b0 : (t580 != t587) = true := c152
            (try (have c152b1 : decide (t580 = t587) = false := by simpa using c152))
            (try (have c152b2 : (t580 == t587) = false := by simpa using c152))
            (try (have c152b3 : ¬ (t580 = t587) := by simpa using c152))
            clear c152
            have H' := Aside0.mk H
            clear H
            have hnb153 := NB567_558.out
            have hnc153 := NB558_567.out
            have hnb154 := NB567_559.out
            have hnc154 := NB559_567.out
            have hnb155 := NB567_560.out
            have hnc155 := NB560_567.out
            have hnb156 := NB567_574.out
            have hnc156 := NB574_567.out
            have hnb157 := NB567_581.out
            have hnc157 := NB581_567.out
            have hnb158 := NB567_588.out
            have hnc158 := NB588_567.out
            have hnb159 := NB567_593.out
            have hnc159 := NB593_567.out
            have hnb160 := NB567_598.out
            have hnc160 := NB598_567.out
            have hcz161_0 : w84.cell? ⟨gb567, 0, none⟩ = some (.int .i64 t561) := (blk_cell BK567.out 0).trans rfl
            have hcz161_1 : w84.cell? ⟨gb567, 1, none⟩ = some (.int .i64 t562) := (blk_cell BK567.out 1).trans rfl
            have hcz161_2 : w84.cell? ⟨gb567, 2, none⟩ = some (.int .i64 t563) := (blk_cell BK567.out 2).trans rfl
            have hcz161_3 : w84.cell? ⟨gb567, 3, none⟩ = some (.int .i64 t564) := (blk_cell BK567.out 3).trans rfl
            have hcz161_4 : w84.cell? ⟨gb567, 4, none⟩ = some (.int .i64 t565) := (blk_cell BK567.out 4).trans rfl
            have hfz161_0 := blk_frozen BK567.out 0
            have hfz161_1 := blk_frozen BK567.out 1
            have hfz161_2 := blk_frozen BK567.out 2
            have hfz161_3 := blk_frozen BK567.out 3
            have hfz161_4 := blk_frozen BK567.out 4
            have hnb162 := NB574_558.out
            have hnc162 := NB558_574.out
            have hnb163 := NB574_559.out
            have hnc163 := NB559_574.out
            have hnb164 := NB574_560.out
            have hnc164 := NB560_574.out
            have hnb165 := NB574_581.out
            have hnc165 := NB581_574.out
            have hnb166 := NB574_588.out
            have hnc166 := NB588_574.out
            have hnb167 := NB574_593.out
            have hnc167 := NB593_574.out
            have hnb168 := NB574_598.out
            have hnc168 := NB598_574.out
            have hcz169_0 : w84.cell? ⟨gb574, 0, none⟩ = some (.int .i64 t568) := (blk_cell BK574.out 0).trans rfl
            have hcz169_1 : w84.cell? ⟨gb574, 1, none⟩ = some (.int .i64 t569) := (blk_cell BK574.out 1).trans rfl
            have hcz169_2 : w84.cell? ⟨gb574, 2, none⟩ = some (.int .i64 t570) := (blk_cell BK574.out 2).trans rfl
            have hcz169_3 : w84.cell? ⟨gb574, 3, none⟩ = some (.int .i64 t571) := (blk_cell BK574.out 3).trans rfl
            have hcz169_4 : w84.cell? ⟨gb574, 4, none⟩ = some (.int .i64 t572) := (blk_cell BK574.out 4).trans rfl
            have hfz169_0 := blk_frozen BK574.out 0
            have hfz169_1 := blk_frozen BK574.out 1
            have hfz169_2 := blk_frozen BK574.out 2
            have hfz169_3 := blk_frozen BK574.out 3
            have hfz169_4 := blk_frozen BK574.out 4
            have hnb170 := NB581_558.out
            have hnc170 := NB558_581.out
            have hnb171 := NB581_559.out
            have hnc171 := NB559_581.out
            have hnb172 := NB581_560.out
            have hnc172 := NB560_581.out
            have hnb173 := NB581_588.out
            have hnc173 := NB588_581.out
            have hnb174 := NB581_593.out
            have hnc174 := NB593_581.out
            have hnb175 := NB581_598.out
            have hnc175 := NB598_581.out
            have hcz176_0 : w84.cell? ⟨gb581, 0, none⟩ = some (.int .i64 t575) := (blk_cell BK581.out 0).trans rfl
            have hcz176_1 : w84.cell? ⟨gb581, 1, none⟩ = some (.int .i64 t576) := (blk_cell BK581.out 1).trans rfl
            have hcz176_2 : w84.cell? ⟨gb581, 2, none⟩ = some (.int .i64 t577) := (blk_cell BK581.out 2).trans rfl
            have hcz176_3 : w84.cell? ⟨gb581, 3, none⟩ = some (.int .i64 t578) := (blk_cell BK581.out 3).trans rfl
            have hcz176_4 : w84.cell? ⟨gb581, 4, none⟩ = some (.int .i64 t579) := (blk_cell BK581.out 4).trans rfl
            have hfz176_0 := blk_frozen BK581.out 0
            have hfz176_1 := blk_frozen BK581.out 1
            have hfz176_2 := blk_frozen BK581.out 2
            have hfz176_3 := blk_frozen BK581.out 3
            have hfz176_4 := blk_frozen BK581.out 4
            have hnb177 := NB588_558.out
            have hnc177 := NB558_588.out
            have hnb178 := NB588_559.out
            have hnc178 := NB559_588.out
            have hnb179 := NB588_560.out
            have hnc179 := NB560_588.out
            have hnb180 := NB588_593.out
            have hnc180 := NB593_588.out
            have hnb181 := NB588_598.out
            have hnc181 := NB598_588.out
            have hcz182_0 : w84.cell? ⟨gb588, 0, none⟩ = some (.int .i64 t582) := (blk_cell BK588.out 0).trans rfl
            have hcz182_1 : w84.cell? ⟨gb588, 1, none⟩ = some (.int .i64 t583) := (blk_cell BK588.out 1).trans rfl
            have hcz182_2 : w84.cell? ⟨gb588, 2, none⟩ = some (.int .i64 t584) := (blk_cell BK588.out 2).trans rfl
            have hcz182_3 : w84.cell? ⟨gb588, 3, none⟩ = some (.int .i64 t585) := (blk_cell BK588.out 3).trans rfl
            have hcz182_4 : w84.cell? ⟨gb588, 4, none⟩ = some (.int .i64 t586) := (blk_cell BK588.out 4).trans rfl
            have hfz182_0 := blk_frozen BK588.out 0
            have hfz182_1 := blk_frozen BK588.out 1
            have hfz182_2 := blk_frozen BK588.out 2
            have hfz182_3 := blk_frozen BK588.out 3
            have hfz182_4 := blk_frozen BK588.out 4
            go_wp2
            go_meet
            case rel => exact ⟨_, (true), (by first | rfl | (simp; done) | (simp [*]; done)), H', ⟨by first | omega | exact Nat.le_refl _⟩, ⟨BK558.out⟩, ⟨BK559.out⟩, ⟨BK560.out⟩, ⟨BK567.out⟩, ⟨BK574.out⟩, ⟨BK581.out⟩, ⟨BK588.out⟩, ⟨BK593.out⟩, ⟨BK598.out⟩, ⟨by repeat (first | (with_reducible first | exact HB.out | apply below_alloc | apply pw_below_drewN | apply below_drew1 | refine below_set ?_ GE558.out | refine below_set ?_ GE559.out | refine below_set ?_ GE560.out | refine below_set ?_ GE567.out | refine below_set ?_ GE574.out | refine below_set ?_ GE581.out | refine below_set ?_ GE588.out | refine below_set ?_ GE593.out | refine below_set ?_ GE598.out) | exact HB.out)⟩⟩
          · rw [if_neg c152] at H
            have c152b0 : (t580 != t587) = false := by simpa using c152
            (try (have c152b1 : decide (t580 = t587) = true := by simpa using c152))
            (try (have c152b2 : (t580 == t587) = true := by simpa using c152))
            clear c152
            by_cases c183 : (!(t589 == t594) || (!(t590 == t595) || (!(t591 == t596)))) = true
            · rw [if_pos c183] at H
              have c183b0 : (!(t589 == t594) || (!(t590 == t595) || (!(t591 == t596)))) = true := c183
              clear c183
              have H' := Aside0.mk H
              clear H
              have hnb184 := NB567_558.out
              have hnc184 := NB558_567.out
              have hnb185 := NB567_559.out
              have hnc185 := NB559_567.out
              have hnb186 := NB567_560.out
              have hnc186 := NB560_567.out
              have hnb187 := NB567_574.out
              have hnc187 := NB574_567.out
              have hnb188 := NB567_581.out
              have hnc188 := NB581_567.out
              have hnb189 := NB567_588.out
              have hnc189 := NB588_567.out
              have hnb190 := NB567_593.out
              have hnc190 := NB593_567.out
              have hnb191 := NB567_598.out
              have hnc191 := NB598_567.out
              have hcz192_0 : w84.cell? ⟨gb567, 0, none⟩ = some (.int .i64 t561) := (blk_cell BK567.out 0).trans rfl
              have hcz192_1 : w84.cell? ⟨gb567, 1, none⟩ = some (.int .i64 t562) := (blk_cell BK567.out 1).trans rfl
              have hcz192_2 : w84.cell? ⟨gb567, 2, none⟩ = some (.int .i64 t563) := (blk_cell BK567.out 2).trans rfl
              have hcz192_3 : w84.cell? ⟨gb567, 3, none⟩ = some (.int .i64 t564) := (blk_cell BK567.out 3).trans rfl
              have hcz192_4 : w84.cell? ⟨gb567, 4, none⟩ = some (.int .i64 t565) := (blk_cell BK567.out 4).trans rfl
              have hfz192_0 := blk_frozen BK567.out 0
              have hfz192_1 := blk_frozen BK567.out 1
              have hfz192_2 := blk_frozen BK567.out 2
              have hfz192_3 := blk_frozen BK567.out 3
              have hfz192_4 := blk_frozen BK567.out 4
              have hnb193 := NB574_558.out
              have hnc193 := NB558_574.out
              have hnb194 := NB574_559.out
              have hnc194 := NB559_574.out
              have hnb195 := NB574_560.out
              have hnc195 := NB560_574.out
              have hnb196 := NB574_581.out
              have hnc196 := NB581_574.out
              have hnb197 := NB574_588.out
              have hnc197 := NB588_574.out
              have hnb198 := NB574_593.out
              have hnc198 := NB593_574.out
              have hnb199 := NB574_598.out
              have hnc199 := NB598_574.out
              have hcz200_0 : w84.cell? ⟨gb574, 0, none⟩ = some (.int .i64 t568) := (blk_cell BK574.out 0).trans rfl
              have hcz200_1 : w84.cell? ⟨gb574, 1, none⟩ = some (.int .i64 t569) := (blk_cell BK574.out 1).trans rfl
              have hcz200_2 : w84.cell? ⟨gb574, 2, none⟩ = some (.int .i64 t570) := (blk_cell BK574.out 2).trans rfl
              have hcz200_3 : w84.cell? ⟨gb574, 3, none⟩ = some (.int .i64 t571) := (blk_cell BK574.out 3).trans rfl
              have hcz200_4 : w84.cell? ⟨gb574, 4, none⟩ = some (.int .i64 t572) := (blk_cell BK574.out 4).trans rfl
              have hfz200_0 := blk_frozen BK574.out 0
              have hfz200_1 := blk_frozen BK574.out 1
              have hfz200_2 := blk_frozen BK574.out 2
              have hfz200_3 := blk_frozen BK574.out 3
              have hfz200_4 := blk_frozen BK574.out 4
              have hnb201 := NB581_558.out
              have hnc201 := NB558_581.out
              have hnb202 := NB581_559.out
              have hnc202 := NB559_581.out
              have hnb203 := NB581_560.out
              have hnc203 := NB560_581.out
              have hnb204 := NB581_588.out
              have hnc204 := NB588_581.out
              have hnb205 := NB581_593.out
              have hnc205 := NB593_581.out
              have hnb206 := NB581_598.out
              have hnc206 := NB598_581.out
              have hcz207_0 : w84.cell? ⟨gb581, 0, none⟩ = some (.int .i64 t575) := (blk_cell BK581.out 0).trans rfl
              have hcz207_1 : w84.cell? ⟨gb581, 1, none⟩ = some (.int .i64 t576) := (blk_cell BK581.out 1).trans rfl
              have hcz207_2 : w84.cell? ⟨gb581, 2, none⟩ = some (.int .i64 t577) := (blk_cell BK581.out 2).trans rfl
              have hcz207_3 : w84.cell? ⟨gb581, 3, none⟩ = some (.int .i64 t578) := (blk_cell BK581.out 3).trans rfl
              have hcz207_4 : w84.cell? ⟨gb581, 4, none⟩ = some (.int .i64 t579) := (blk_cell BK581.out 4).trans rfl
              have hfz207_0 := blk_frozen BK581.out 0
              have hfz207_1 := blk_frozen BK581.out 1
              have hfz207_2 := blk_frozen BK581.out 2
              have hfz207_3 := blk_frozen BK581.out 3
              have hfz207_4 := blk_frozen BK581.out 4
              have hnb208 := NB588_558.out
              have hnc208 := NB558_588.out
              have hnb209 := NB588_559.out
              have hnc209 := NB559_588.out
              have hnb210 := NB588_560.out
              have hnc210 := NB560_588.out
              have hnb211 := NB588_593.out
              have hnc211 := NB593_588.out
              have hnb212 := NB588_598.out
              have hnc212 := NB598_588.out
              have hcz213_0 : w84.cell? ⟨gb588, 0, none⟩ = some (.int .i64 t582) := (blk_cell BK588.out 0).trans rfl
              have hcz213_1 : w84.cell? ⟨gb588, 1, none⟩ = some (.int .i64 t583) := (blk_cell BK588.out 1).trans rfl
              have hcz213_2 : w84.cell? ⟨gb588, 2, none⟩ = some (.int .i64 t584) := (blk_cell BK588.out 2).trans rfl
              have hcz213_3 : w84.cell? ⟨gb588, 3, none⟩ = some (.int .i64 t585) := (blk_cell BK588.out 3).trans rfl
              have hcz213_4 : w84.cell? ⟨gb588, 4, none⟩ = some (.int .i64 t586) := (blk_cell BK588.out 4).trans rfl
              have hfz213_0 := blk_frozen BK588.out 0
              have hfz213_1 := blk_frozen BK588.out 1
              have hfz213_2 := blk_frozen BK588.out 2
              have hfz213_3 := blk_frozen BK588.out 3
              have hfz213_4 := blk_frozen BK588.out 4
              have hnb214 := NB593_558.out
              have hnc214 := NB558_593.out
              have hnb215 := NB593_559.out
              have hnc215 := NB559_593.out
              have hnb216 := NB593_560.out
              have hnc216 := NB560_593.out
              have hnb217 := NB593_598.out
              have hnc217 := NB598_593.out
              have hcz218_0 : w84.cell? ⟨gb593, 0, none⟩ = some (.int .i64 t589) := (blk_cell BK593.out 0).trans rfl
              have hcz218_1 : w84.cell? ⟨gb593, 1, none⟩ = some (.int .i64 t590) := (blk_cell BK593.out 1).trans rfl
              have hcz218_2 : w84.cell? ⟨gb593, 2, none⟩ = some (.int .i64 t591) := (blk_cell BK593.out 2).trans rfl
              have hfz218_0 := blk_frozen BK593.out 0
              have hfz218_1 := blk_frozen BK593.out 1
              have hfz218_2 := blk_frozen BK593.out 2
              have hnb219 := NB598_558.out
              have hnc219 := NB558_598.out
              have hnb220 := NB598_559.out
              have hnc220 := NB559_598.out
              have hnb221 := NB598_560.out
              have hnc221 := NB560_598.out
              have hcz222_0 : w84.cell? ⟨gb598, 0, none⟩ = some (.int .i64 t594) := (blk_cell BK598.out 0).trans rfl
              have hcz222_1 : w84.cell? ⟨gb598, 1, none⟩ = some (.int .i64 t595) := (blk_cell BK598.out 1).trans rfl
              have hcz222_2 : w84.cell? ⟨gb598, 2, none⟩ = some (.int .i64 t596) := (blk_cell BK598.out 2).trans rfl
              have hfz222_0 := blk_frozen BK598.out 0
              have hfz222_1 := blk_frozen BK598.out 1
              have hfz222_2 := blk_frozen BK598.out 2
              go_wp2
              go_meet
              case rel => exact ⟨_, (true), (by first | rfl | (simp; done) | (simp [*]; done)), H', ⟨by first | omega | exact Nat.le_refl _⟩, ⟨BK558.out⟩, ⟨BK559.out⟩, ⟨BK560.out⟩, ⟨BK567.out⟩, ⟨BK574.out⟩, ⟨BK581.out⟩, ⟨BK588.out⟩, ⟨BK593.out⟩, ⟨BK598.out⟩, ⟨by repeat (first | (with_reducible first | exact HB.out | apply below_alloc | apply pw_below_drewN | apply below_drew1 | refine below_set ?_ GE558.out | refine below_set ?_ GE559.out | refine below_set ?_ GE560.out | refine below_set ?_ GE567.out | refine below_set ?_ GE574.out | refine below_set ?_ GE581.out | refine below_set ?_ GE588.out | refine below_set ?_ GE593.out | refine below_set ?_ GE598.out) | exact HB.out)⟩⟩
            · rw [if_neg c183] at H
              have c183b0 : (!(t589 == t594) || (!(t590 == t595) || (!(t591 == t596)))) = false := by simpa using c183
              clear c183
              by_cases c223 : (t592 != t597) = true
              · rw [if_pos c223] at H
                have c223b0 : (t592 != t597) = true := c223
                (try (have c223b1 : decide (t592 = t597) = false := by simpa using c223))
                (try (have c223b2 : (t592 == t597) = false := by simpa using c223))
                (try (have c223b3 : ¬ (t592 = t597) := by simpa using c223))
                clear c223
                have H' := Aside0.mk H
                clear H
                have hnb224 := NB567_558.out
                have hnc224 := NB558_567.out
                have hnb225 := NB567_559.out
                have hnc225 := NB559_567.out
                have hnb226 := NB567_560.out
                have hnc226 := NB560_567.out
                have hnb227 := NB567_574.out
                have hnc227 := NB574_567.out
                have hnb228 := NB567_581.out
                have hnc228 := NB581_567.out
                have hnb229 := NB567_588.out
                have hnc229 := NB588_567.out
                have hnb230 := NB567_593.out
                have hnc230 := NB593_567.out
                have hnb231 := NB567_598.out
                have hnc231 := NB598_567.out
                have hcz232_0 : w84.cell? ⟨gb567, 0, none⟩ = some (.int .i64 t561) := (blk_cell BK567.out 0).trans rfl
                have hcz232_1 : w84.cell? ⟨gb567, 1, none⟩ = some (.int .i64 t562) := (blk_cell BK567.out 1).trans rfl
                have hcz232_2 : w84.cell? ⟨gb567, 2, none⟩ = some (.int .i64 t563) := (blk_cell BK567.out 2).trans rfl
                have hcz232_3 : w84.cell? ⟨gb567, 3, none⟩ = some (.int .i64 t564) := (blk_cell BK567.out 3).trans rfl
                have hcz232_4 : w84.cell? ⟨gb567, 4, none⟩ = some (.int .i64 t565) := (blk_cell BK567.out 4).trans rfl
                have hfz232_0 := blk_frozen BK567.out 0
                have hfz232_1 := blk_frozen BK567.out 1
                have hfz232_2 := blk_frozen BK567.out 2
                have hfz232_3 := blk_frozen BK567.out 3
                have hfz232_4 := blk_frozen BK567.out 4
                have hnb233 := NB574_558.out
                have hnc233 := NB558_574.out
                have hnb234 := NB574_559.out
                have hnc234 := NB559_574.out
                have hnb235 := NB574_560.out
                have hnc235 := NB560_574.out
                have hnb236 := NB574_581.out
                have hnc236 := NB581_574.out
                have hnb237 := NB574_588.out
                have hnc237 := NB588_574.out
                have hnb238 := NB574_593.out
                have hnc238 := NB593_574.out
                have hnb239 := NB574_598.out
                have hnc239 := NB598_574.out
                have hcz240_0 : w84.cell? ⟨gb574, 0, none⟩ = some (.int .i64 t568) := (blk_cell BK574.out 0).trans rfl
                have hcz240_1 : w84.cell? ⟨gb574, 1, none⟩ = some (.int .i64 t569) := (blk_cell BK574.out 1).trans rfl
                have hcz240_2 : w84.cell? ⟨gb574, 2, none⟩ = some (.int .i64 t570) := (blk_cell BK574.out 2).trans rfl
                have hcz240_3 : w84.cell? ⟨gb574, 3, none⟩ = some (.int .i64 t571) := (blk_cell BK574.out 3).trans rfl
                have hcz240_4 : w84.cell? ⟨gb574, 4, none⟩ = some (.int .i64 t572) := (blk_cell BK574.out 4).trans rfl
                have hfz240_0 := blk_frozen BK574.out 0
                have hfz240_1 := blk_frozen BK574.out 1
                have hfz240_2 := blk_frozen BK574.out 2
                have hfz240_3 := blk_frozen BK574.out 3
                have hfz240_4 := blk_frozen BK574.out 4
                have hnb241 := NB581_558.out
                have hnc241 := NB558_581.out
                have hnb242 := NB581_559.out
                have hnc242 := NB559_581.out
                have hnb243 := NB581_560.out
                have hnc243 := NB560_581.out
                have hnb244 := NB581_588.out
                have hnc244 := NB588_581.out
                have hnb245 := NB581_593.out
                have hnc245 := NB593_581.out
                have hnb246 := NB581_598.out
                have hnc246 := NB598_581.out
                have hcz247_0 : w84.cell? ⟨gb581, 0, none⟩ = some (.int .i64 t575) := (blk_cell BK581.out 0).trans rfl
                have hcz247_1 : w84.cell? ⟨gb581, 1, none⟩ = some (.int .i64 t576) := (blk_cell BK581.out 1).trans rfl
                have hcz247_2 : w84.cell? ⟨gb581, 2, none⟩ = some (.int .i64 t577) := (blk_cell BK581.out 2).trans rfl
                have hcz247_3 : w84.cell? ⟨gb581, 3, none⟩ = some (.int .i64 t578) := (blk_cell BK581.out 3).trans rfl
                have hcz247_4 : w84.cell? ⟨gb581, 4, none⟩ = some (.int .i64 t579) := (blk_cell BK581.out 4).trans rfl
                have hfz247_0 := blk_frozen BK581.out 0
                have hfz247_1 := blk_frozen BK581.out 1
                have hfz247_2 := blk_frozen BK581.out 2
                have hfz247_3 := blk_frozen BK581.out 3
                have hfz247_4 := blk_frozen BK581.out 4
                have hnb248 := NB588_558.out
                have hnc248 := NB558_588.out
                have hnb249 := NB588_559.out
                have hnc249 := NB559_588.out
                have hnb250 := NB588_560.out
                have hnc250 := NB560_588.out
                have hnb251 := NB588_593.out
                have hnc251 := NB593_588.out
                have hnb252 := NB588_598.out
                have hnc252 := NB598_588.out
                have hcz253_0 : w84.cell? ⟨gb588, 0, none⟩ = some (.int .i64 t582) := (blk_cell BK588.out 0).trans rfl
                have hcz253_1 : w84.cell? ⟨gb588, 1, none⟩ = some (.int .i64 t583) := (blk_cell BK588.out 1).trans rfl
                have hcz253_2 : w84.cell? ⟨gb588, 2, none⟩ = some (.int .i64 t584) := (blk_cell BK588.out 2).trans rfl
                have hcz253_3 : w84.cell? ⟨gb588, 3, none⟩ = some (.int .i64 t585) := (blk_cell BK588.out 3).trans rfl
                have hcz253_4 : w84.cell? ⟨gb588, 4, none⟩ = some (.int .i64 t586) := (blk_cell BK588.out 4).trans rfl
                have hfz253_0 := blk_frozen BK588.out 0
                have hfz253_1 := blk_frozen BK588.out 1
                have hfz253_2 := blk_frozen BK588.out 2
                have hfz253_3 := blk_frozen BK588.out 3
                have hfz253_4 := blk_frozen BK588.out 4
                have hnb254 := NB593_558.out
                have hnc254 := NB558_593.out
                have hnb255 := NB593_559.out
                have hnc255 := NB559_593.out
                have hnb256 := NB593_560.out
                have hnc256 := NB560_593.out
                have hnb257 := NB593_598.out
                have hnc257 := NB598_593.out
                have hcz258_0 : w84.cell? ⟨gb593, 0, none⟩ = some (.int .i64 t589) := (blk_cell BK593.out 0).trans rfl
                have hcz258_1 : w84.cell? ⟨gb593, 1, none⟩ = some (.int .i64 t590) := (blk_cell BK593.out 1).trans rfl
                have hcz258_2 : w84.cell? ⟨gb593, 2, none⟩ = some (.int .i64 t591) := (blk_cell BK593.out 2).trans rfl
                have hfz258_0 := blk_frozen BK593.out 0
                have hfz258_1 := blk_frozen BK593.out 1
                have hfz258_2 := blk_frozen BK593.out 2
                have hnb259 := NB598_558.out
                have hnc259 := NB558_598.out
                have hnb260 := NB598_559.out
                have hnc260 := NB559_598.out
                have hnb261 := NB598_560.out
                have hnc261 := NB560_598.out
                have hcz262_0 : w84.cell? ⟨gb598, 0, none⟩ = some (.int .i64 t594) := (blk_cell BK598.out 0).trans rfl
                have hcz262_1 : w84.cell? ⟨gb598, 1, none⟩ = some (.int .i64 t595) := (blk_cell BK598.out 1).trans rfl
                have hcz262_2 : w84.cell? ⟨gb598, 2, none⟩ = some (.int .i64 t596) := (blk_cell BK598.out 2).trans rfl
                have hfz262_0 := blk_frozen BK598.out 0
                have hfz262_1 := blk_frozen BK598.out 1
                have hfz262_2 := blk_frozen BK598.out 2
                go_wp2
                go_meet
                case rel => exact ⟨_, (true), (by first | rfl | (simp; done) | (simp [*]; done)), H', ⟨by first | omega | exact Nat.le_refl _⟩, ⟨BK558.out⟩, ⟨BK559.out⟩, ⟨BK560.out⟩, ⟨BK567.out⟩, ⟨BK574.out⟩, ⟨BK581.out⟩, ⟨BK588.out⟩, ⟨BK593.out⟩, ⟨BK598.out⟩, ⟨by repeat (first | (with_reducible first | exact HB.out | apply below_alloc | apply pw_below_drewN | apply below_drew1 | refine below_set ?_ GE558.out | refine below_set ?_ GE559.out | refine below_set ?_ GE560.out | refine below_set ?_ GE567.out | refine below_set ?_ GE574.out | refine below_set ?_ GE581.out | refine below_set ?_ GE588.out | refine below_set ?_ GE593.out | refine below_set ?_ GE598.out) | exact HB.out)⟩⟩
              · rw [if_neg c223] at H
                have c223b0 : (t592 != t597) = false := by simpa using c223
                (try (have c223b1 : decide (t592 = t597) = true := by simpa using c223))
                (try (have c223b2 : (t592 == t597) = true := by simpa using c223))
                clear c223
                by_cases c263 : t599 = t601
                · rw [if_pos c263] at H
                  have c263b0 : (t599 == t601) = true := beq_iff_eq.mpr c263
                  have c263b1 : (t599 != t601) = false := bne_eq_false_iff_eq.mpr c263
                  clear c263
                  have H' := Aside0.mk H
                  clear H
                  have hnb264 := NB567_558.out
                  have hnc264 := NB558_567.out
                  have hnb265 := NB567_559.out
                  have hnc265 := NB559_567.out
                  have hnb266 := NB567_560.out
                  have hnc266 := NB560_567.out
                  have hnb267 := NB567_574.out
                  have hnc267 := NB574_567.out
                  have hnb268 := NB567_581.out
                  have hnc268 := NB581_567.out
                  have hnb269 := NB567_588.out
                  have hnc269 := NB588_567.out
                  have hnb270 := NB567_593.out
                  have hnc270 := NB593_567.out
                  have hnb271 := NB567_598.out
                  have hnc271 := NB598_567.out
                  have hcz272_0 : w84.cell? ⟨gb567, 0, none⟩ = some (.int .i64 t561) := (blk_cell BK567.out 0).trans rfl
                  have hcz272_1 : w84.cell? ⟨gb567, 1, none⟩ = some (.int .i64 t562) := (blk_cell BK567.out 1).trans rfl
                  have hcz272_2 : w84.cell? ⟨gb567, 2, none⟩ = some (.int .i64 t563) := (blk_cell BK567.out 2).trans rfl
                  have hcz272_3 : w84.cell? ⟨gb567, 3, none⟩ = some (.int .i64 t564) := (blk_cell BK567.out 3).trans rfl
                  have hcz272_4 : w84.cell? ⟨gb567, 4, none⟩ = some (.int .i64 t565) := (blk_cell BK567.out 4).trans rfl
                  have hfz272_0 := blk_frozen BK567.out 0
                  have hfz272_1 := blk_frozen BK567.out 1
                  have hfz272_2 := blk_frozen BK567.out 2
                  have hfz272_3 := blk_frozen BK567.out 3
                  have hfz272_4 := blk_frozen BK567.out 4
                  have hnb273 := NB574_558.out
                  have hnc273 := NB558_574.out
                  have hnb274 := NB574_559.out
                  have hnc274 := NB559_574.out
                  have hnb275 := NB574_560.out
                  have hnc275 := NB560_574.out
                  have hnb276 := NB574_581.out
                  have hnc276 := NB581_574.out
                  have hnb277 := NB574_588.out
                  have hnc277 := NB588_574.out
                  have hnb278 := NB574_593.out
                  have hnc278 := NB593_574.out
                  have hnb279 := NB574_598.out
                  have hnc279 := NB598_574.out
                  have hcz280_0 : w84.cell? ⟨gb574, 0, none⟩ = some (.int .i64 t568) := (blk_cell BK574.out 0).trans rfl
                  have hcz280_1 : w84.cell? ⟨gb574, 1, none⟩ = some (.int .i64 t569) := (blk_cell BK574.out 1).trans rfl
                  have hcz280_2 : w84.cell? ⟨gb574, 2, none⟩ = some (.int .i64 t570) := (blk_cell BK574.out 2).trans rfl
                  have hcz280_3 : w84.cell? ⟨gb574, 3, none⟩ = some (.int .i64 t571) := (blk_cell BK574.out 3).trans rfl
                  have hcz280_4 : w84.cell? ⟨gb574, 4, none⟩ = some (.int .i64 t572) := (blk_cell BK574.out 4).trans rfl
                  have hfz280_0 := blk_frozen BK574.out 0
                  have hfz280_1 := blk_frozen BK574.out 1
                  have hfz280_2 := blk_frozen BK574.out 2
                  have hfz280_3 := blk_frozen BK574.out 3
                  have hfz280_4 := blk_frozen BK574.out 4
                  have hnb281 := NB581_558.out
                  have hnc281 := NB558_581.out
                  have hnb282 := NB581_559.out
                  have hnc282 := NB559_581.out
                  have hnb283 := NB581_560.out
                  have hnc283 := NB560_581.out
                  have hnb284 := NB581_588.out
                  have hnc284 := NB588_581.out
                  have hnb285 := NB581_593.out
                  have hnc285 := NB593_581.out
                  have hnb286 := NB581_598.out
                  have hnc286 := NB598_581.out
                  have hcz287_0 : w84.cell? ⟨gb581, 0, none⟩ = some (.int .i64 t575) := (blk_cell BK581.out 0).trans rfl
                  have hcz287_1 : w84.cell? ⟨gb581, 1, none⟩ = some (.int .i64 t576) := (blk_cell BK581.out 1).trans rfl
                  have hcz287_2 : w84.cell? ⟨gb581, 2, none⟩ = some (.int .i64 t577) := (blk_cell BK581.out 2).trans rfl
                  have hcz287_3 : w84.cell? ⟨gb581, 3, none⟩ = some (.int .i64 t578) := (blk_cell BK581.out 3).trans rfl
                  have hcz287_4 : w84.cell? ⟨gb581, 4, none⟩ = some (.int .i64 t579) := (blk_cell BK581.out 4).trans rfl
                  have hfz287_0 := blk_frozen BK581.out 0
                  have hfz287_1 := blk_frozen BK581.out 1
                  have hfz287_2 := blk_frozen BK581.out 2
                  have hfz287_3 := blk_frozen BK581.out 3
                  have hfz287_4 := blk_frozen BK581.out 4
                  have hnb288 := NB588_558.out
                  have hnc288 := NB558_588.out
                  have hnb289 := NB588_559.out
                  have hnc289 := NB559_588.out
                  have hnb290 := NB588_560.out
                  have hnc290 := NB560_588.out
                  have hnb291 := NB588_593.out
                  have hnc291 := NB593_588.out
                  have hnb292 := NB588_598.out
                  have hnc292 := NB598_588.out
                  have hcz293_0 : w84.cell? ⟨gb588, 0, none⟩ = some (.int .i64 t582) := (blk_cell BK588.out 0).trans rfl
                  have hcz293_1 : w84.cell? ⟨gb588, 1, none⟩ = some (.int .i64 t583) := (blk_cell BK588.out 1).trans rfl
                  have hcz293_2 : w84.cell? ⟨gb588, 2, none⟩ = some (.int .i64 t584) := (blk_cell BK588.out 2).trans rfl
                  have hcz293_3 : w84.cell? ⟨gb588, 3, none⟩ = some (.int .i64 t585) := (blk_cell BK588.out 3).trans rfl
                  have hcz293_4 : w84.cell? ⟨gb588, 4, none⟩ = some (.int .i64 t586) := (blk_cell BK588.out 4).trans rfl
                  have hfz293_0 := blk_frozen BK588.out 0
                  have hfz293_1 := blk_frozen BK588.out 1
                  have hfz293_2 := blk_frozen BK588.out 2
                  have hfz293_3 := blk_frozen BK588.out 3
                  have hfz293_4 := blk_frozen BK588.out 4
                  have hnb294 := NB593_558.out
                  have hnc294 := NB558_593.out
                  have hnb295 := NB593_559.out
                  have hnc295 := NB559_593.out
                  have hnb296 := NB593_560.out
                  have hnc296 := NB560_593.out
                  have hnb297 := NB593_598.out
                  have hnc297 := NB598_593.out
                  have hcz298_0 : w84.cell? ⟨gb593, 0, none⟩ = some (.int .i64 t589) := (blk_cell BK593.out 0).trans rfl
                  have hcz298_1 : w84.cell? ⟨gb593, 1, none⟩ = some (.int .i64 t590) := (blk_cell BK593.out 1).trans rfl
                  have hcz298_2 : w84.cell? ⟨gb593, 2, none⟩ = some (.int .i64 t591) := (blk_cell BK593.out 2).trans rfl
                  have hfz298_0 := blk_frozen BK593.out 0
                  have hfz298_1 := blk_frozen BK593.out 1
                  have hfz298_2 := blk_frozen BK593.out 2
                  have hnb299 := NB598_558.out
                  have hnc299 := NB558_598.out
                  have hnb300 := NB598_559.out
                  have hnc300 := NB559_598.out
                  have hnb301 := NB598_560.out
                  have hnc301 := NB560_598.out
                  have hcz302_0 : w84.cell? ⟨gb598, 0, none⟩ = some (.int .i64 t594) := (blk_cell BK598.out 0).trans rfl
                  have hcz302_1 : w84.cell? ⟨gb598, 1, none⟩ = some (.int .i64 t595) := (blk_cell BK598.out 1).trans rfl
                  have hcz302_2 : w84.cell? ⟨gb598, 2, none⟩ = some (.int .i64 t596) := (blk_cell BK598.out 2).trans rfl
                  have hfz302_0 := blk_frozen BK598.out 0
                  have hfz302_1 := blk_frozen BK598.out 1
                  have hfz302_2 := blk_frozen BK598.out 2
                  go_wp2
                  go_meet
                  case rel => exact ⟨_, ((t600 != t602)), (by first | rfl | (simp; done) | (simp [*]; done)), H', ⟨by first | omega | exact Nat.le_refl _⟩, ⟨BK558.out⟩, ⟨BK559.out⟩, ⟨BK560.out⟩, ⟨BK567.out⟩, ⟨BK574.out⟩, ⟨BK581.out⟩, ⟨BK588.out⟩, ⟨BK593.out⟩, ⟨BK598.out⟩, ⟨by repeat (first | (with_reducible first | exact HB.out | apply below_alloc | apply pw_below_drewN | apply below_drew1 | refine below_set ?_ GE558.out | refine below_set ?_ GE559.out | refine below_set ?_ GE560.out | refine below_set ?_ GE567.out | refine below_set ?_ GE574.out | refine below_set ?_ GE581.out | refine below_set ?_ GE588.out | refine below_set ?_ GE593.out | refine below_set ?_ GE598.out) | exact HB.out)⟩⟩
                · rw [if_neg c263] at H
                  have c263b0 : (t599 == t601) = false := beq_eq_false_iff_ne.mpr c263
                  have c263b1 : (t599 != t601) = true := bne_iff_ne.mpr c263
                  have H' := Aside0.mk H
                  clear H
                  have hnb303 := NB567_558.out
                  have hnc303 := NB558_567.out
                  have hnb304 := NB567_559.out
                  have hnc304 := NB559_567.out
                  have hnb305 := NB567_560.out
                  have hnc305 := NB560_567.out
                  have hnb306 := NB567_574.out
                  have hnc306 := NB574_567.out
                  have hnb307 := NB567_581.out
                  have hnc307 := NB581_567.out
                  have hnb308 := NB567_588.out
                  have hnc308 := NB588_567.out
                  have hnb309 := NB567_593.out
                  have hnc309 := NB593_567.out
                  have hnb310 := NB567_598.out
                  have hnc310 := NB598_567.out
                  have hcz311_0 : w84.cell? ⟨gb567, 0, none⟩ = some (.int .i64 t561) := (blk_cell BK567.out 0).trans rfl
                  have hcz311_1 : w84.cell? ⟨gb567, 1, none⟩ = some (.int .i64 t562) := (blk_cell BK567.out 1).trans rfl
                  have hcz311_2 : w84.cell? ⟨gb567, 2, none⟩ = some (.int .i64 t563) := (blk_cell BK567.out 2).trans rfl
                  have hcz311_3 : w84.cell? ⟨gb567, 3, none⟩ = some (.int .i64 t564) := (blk_cell BK567.out 3).trans rfl
                  have hcz311_4 : w84.cell? ⟨gb567, 4, none⟩ = some (.int .i64 t565) := (blk_cell BK567.out 4).trans rfl
                  have hfz311_0 := blk_frozen BK567.out 0
                  have hfz311_1 := blk_frozen BK567.out 1
                  have hfz311_2 := blk_frozen BK567.out 2
                  have hfz311_3 := blk_frozen BK567.out 3
                  have hfz311_4 := blk_frozen BK567.out 4
                  have hnb312 := NB574_558.out
                  have hnc312 := NB558_574.out
                  have hnb313 := NB574_559.out
                  have hnc313 := NB559_574.out
                  have hnb314 := NB574_560.out
                  have hnc314 := NB560_574.out
                  have hnb315 := NB574_581.out
                  have hnc315 := NB581_574.out
                  have hnb316 := NB574_588.out
                  have hnc316 := NB588_574.out
                  have hnb317 := NB574_593.out
                  have hnc317 := NB593_574.out
                  have hnb318 := NB574_598.out
                  have hnc318 := NB598_574.out
                  have hcz319_0 : w84.cell? ⟨gb574, 0, none⟩ = some (.int .i64 t568) := (blk_cell BK574.out 0).trans rfl
                  have hcz319_1 : w84.cell? ⟨gb574, 1, none⟩ = some (.int .i64 t569) := (blk_cell BK574.out 1).trans rfl
                  have hcz319_2 : w84.cell? ⟨gb574, 2, none⟩ = some (.int .i64 t570) := (blk_cell BK574.out 2).trans rfl
                  have hcz319_3 : w84.cell? ⟨gb574, 3, none⟩ = some (.int .i64 t571) := (blk_cell BK574.out 3).trans rfl
                  have hcz319_4 : w84.cell? ⟨gb574, 4, none⟩ = some (.int .i64 t572) := (blk_cell BK574.out 4).trans rfl
                  have hfz319_0 := blk_frozen BK574.out 0
                  have hfz319_1 := blk_frozen BK574.out 1
                  have hfz319_2 := blk_frozen BK574.out 2
                  have hfz319_3 := blk_frozen BK574.out 3
                  have hfz319_4 := blk_frozen BK574.out 4
                  have hnb320 := NB581_558.out
                  have hnc320 := NB558_581.out
                  have hnb321 := NB581_559.out
                  have hnc321 := NB559_581.out
                  have hnb322 := NB581_560.out
                  have hnc322 := NB560_581.out
                  have hnb323 := NB581_588.out
                  have hnc323 := NB588_581.out
                  have hnb324 := NB581_593.out
                  have hnc324 := NB593_581.out
                  have hnb325 := NB581_598.out
                  have hnc325 := NB598_581.out
                  have hcz326_0 : w84.cell? ⟨gb581, 0, none⟩ = some (.int .i64 t575) := (blk_cell BK581.out 0).trans rfl
                  have hcz326_1 : w84.cell? ⟨gb581, 1, none⟩ = some (.int .i64 t576) := (blk_cell BK581.out 1).trans rfl
                  have hcz326_2 : w84.cell? ⟨gb581, 2, none⟩ = some (.int .i64 t577) := (blk_cell BK581.out 2).trans rfl
                  have hcz326_3 : w84.cell? ⟨gb581, 3, none⟩ = some (.int .i64 t578) := (blk_cell BK581.out 3).trans rfl
                  have hcz326_4 : w84.cell? ⟨gb581, 4, none⟩ = some (.int .i64 t579) := (blk_cell BK581.out 4).trans rfl
                  have hfz326_0 := blk_frozen BK581.out 0
                  have hfz326_1 := blk_frozen BK581.out 1
                  have hfz326_2 := blk_frozen BK581.out 2
                  have hfz326_3 := blk_frozen BK581.out 3
                  have hfz326_4 := blk_frozen BK581.out 4
                  have hnb327 := NB588_558.out
                  have hnc327 := NB558_588.out
                  have hnb328 := NB588_559.out
                  have hnc328 := NB559_588.out
                  have hnb329 := NB588_560.out
                  have hnc329 := NB560_588.out
                  have hnb330 := NB588_593.out
                  have hnc330 := NB593_588.out
                  have hnb331 := NB588_598.out
                  have hnc331 := NB598_588.out
                  have hcz332_0 : w84.cell? ⟨gb588, 0, none⟩ = some (.int .i64 t582) := (blk_cell BK588.out 0).trans rfl
                  have hcz332_1 : w84.cell? ⟨gb588, 1, none⟩ = some (.int .i64 t583) := (blk_cell BK588.out 1).trans rfl
                  have hcz332_2 : w84.cell? ⟨gb588, 2, none⟩ = some (.int .i64 t584) := (blk_cell BK588.out 2).trans rfl
                  have hcz332_3 : w84.cell? ⟨gb588, 3, none⟩ = some (.int .i64 t585) := (blk_cell BK588.out 3).trans rfl
                  have hcz332_4 : w84.cell? ⟨gb588, 4, none⟩ = some (.int .i64 t586) := (blk_cell BK588.out 4).trans rfl
                  have hfz332_0 := blk_frozen BK588.out 0
                  have hfz332_1 := blk_frozen BK588.out 1
                  have hfz332_2 := blk_frozen BK588.out 2
                  have hfz332_3 := blk_frozen BK588.out 3
                  have hfz332_4 := blk_frozen BK588.out 4
                  have hnb333 := NB593_558.out
                  have hnc333 := NB558_593.out
                  have hnb334 := NB593_559.out
                  have hnc334 := NB559_593.out
                  have hnb335 := NB593_560.out
                  have hnc335 := NB560_593.out
                  have hnb336 := NB593_598.out
                  have hnc336 := NB598_593.out
                  have hcz337_0 : w84.cell? ⟨gb593, 0, none⟩ = some (.int .i64 t589) := (blk_cell BK593.out 0).trans rfl
                  have hcz337_1 : w84.cell? ⟨gb593, 1, none⟩ = some (.int .i64 t590) := (blk_cell BK593.out 1).trans rfl
                  have hcz337_2 : w84.cell? ⟨gb593, 2, none⟩ = some (.int .i64 t591) := (blk_cell BK593.out 2).trans rfl
                  have hfz337_0 := blk_frozen BK593.out 0
                  have hfz337_1 := blk_frozen BK593.out 1
                  have hfz337_2 := blk_frozen BK593.out 2
                  have hnb338 := NB598_558.out
                  have hnc338 := NB558_598.out
                  have hnb339 := NB598_559.out
                  have hnc339 := NB559_598.out
                  have hnb340 := NB598_560.out
                  have hnc340 := NB560_598.out
                  have hcz341_0 : w84.cell? ⟨gb598, 0, none⟩ = some (.int .i64 t594) := (blk_cell BK598.out 0).trans rfl
                  have hcz341_1 : w84.cell? ⟨gb598, 1, none⟩ = some (.int .i64 t595) := (blk_cell BK598.out 1).trans rfl
                  have hcz341_2 : w84.cell? ⟨gb598, 2, none⟩ = some (.int .i64 t596) := (blk_cell BK598.out 2).trans rfl
                  have hfz341_0 := blk_frozen BK598.out 0
                  have hfz341_1 := blk_frozen BK598.out 1
                  have hfz341_2 := blk_frozen BK598.out 2
                  go_wp2
                  go_meet
                  case rel => exact ⟨_, (true), (by first | rfl | (simp; done) | (simp [*]; done)), H', ⟨by first | omega | exact Nat.le_refl _⟩, ⟨BK558.out⟩, ⟨BK559.out⟩, ⟨BK560.out⟩, ⟨BK567.out⟩, ⟨BK574.out⟩, ⟨BK581.out⟩, ⟨BK588.out⟩, ⟨BK593.out⟩, ⟨BK598.out⟩, ⟨by repeat (first | (with_reducible first | exact HB.out | apply below_alloc | apply pw_below_drewN | apply below_drew1 | refine below_set ?_ GE558.out | refine below_set ?_ GE559.out | refine below_set ?_ GE560.out | refine below_set ?_ GE567.out | refine below_set ?_ GE574.out | refine below_set ?_ GE581.out | refine below_set ?_ GE588.out | refine below_set ?_ GE593.out | refine below_set ?_ GE598.out) | exact HB.out)⟩⟩
  case rest =>
    clear HC13
    try clear c1
    try clear c2
    try clear p2
    try clear c3
    try clear c15
    try clear c16
    try clear c17
    try clear c18
    try clear c19
    try clear c20
    try clear c21
    try clear c22
    try clear c23
    try clear c24
    try clear c25
    try clear c26
    try clear c27
    try clear c28
    try clear c29
    try clear c30
    try clear c31
    try clear c32
    try clear c33
    try clear c34
    try clear c152
    try clear c152b0
    try clear c152b1
    try clear c152b2
    try clear c162
    try clear c163
    try clear c164
    try clear c165
    try clear c166
    try clear c167
    try clear c168
    try clear c170
    try clear c171
    try clear c172
    try clear c173
    try clear c174
    try clear c175
    try clear c177
    try clear c178
    try clear c179
    try clear c180
    try clear c181
    try clear c183
    try clear c183b0
    try clear c184
    try clear c185
    try clear c186
    try clear c187
    try clear c188
    try clear c189
    try clear c190
    try clear c191
    try clear c193
    try clear c194
    try clear c195
    try clear c196
    try clear c197
    try clear c198
    try clear c199
    try clear c201
    try clear c202
    try clear c203
    try clear c204
    try clear c205
    try clear c206
    try clear c208
    try clear c209
    try clear c210
    try clear c211
    try clear c212
    try clear c214
    try clear c215
    try clear c216
    try clear c217
    try clear c219
    try clear c220
    try clear c221
    try clear c223
    try clear c223b0
    try clear c223b1
    try clear c223b2
    try clear c224
    try clear c225
    try clear c226
    try clear c227
    try clear c228
    try clear c229
    try clear c230
    try clear c231
    try clear c233
    try clear c234
    try clear c235
    try clear c236
    try clear c237
    try clear c238
    try clear c239
    try clear c241
    try clear c242
    try clear c243
    try clear c244
    try clear c245
    try clear c246
    try clear c248
    try clear c249
    try clear c250
    try clear c251
    try clear c252
    try clear c254
    try clear c255
    try clear c256
    try clear c257
    try clear c259
    try clear c260
    try clear c261
    try clear c263
    try clear c263b0
    try clear c263b1
    try clear c264
    try clear c265
    try clear c266
    try clear c267
    try clear c268
    try clear c269
    try clear c270
    try clear c271
    try clear c273
    try clear c274
    try clear c275
    try clear c276
    try clear c277
    try clear c278
    try clear c279
    try clear c281
    try clear c282
    try clear c283
    try clear c284
    try clear c285
    try clear c286
    try clear c288
    try clear c289
    try clear c290
    try clear c291
    try clear c292
    try clear c294
    try clear c295
    try clear c296
    try clear c297
    try clear c299
    try clear c300
    try clear c301
    try clear c303
    try clear c304
    try clear c305
    try clear c306
    try clear c307
    try clear c308
    try clear c309
    try clear c310
    try clear c312
    try clear c313
    try clear c314
    try clear c315
    try clear c316
    try clear c317
    try clear c318
    try clear c320
    try clear c321
    try clear c322
    try clear c323
    try clear c324
    try clear c325
    try clear c327
    try clear c328
    try clear c329
    try clear c330
    try clear c331
    try clear c333
    try clear c334
    try clear c335
    try clear c336
    try clear c338
    try clear c339
    try clear c340
    try clear hcz169_0
    try clear hcz169_1
    try clear hcz169_2
    try clear hcz169_3
    try clear hcz169_4
    try clear hcz176_0
    try clear hcz176_1
    try clear hcz176_2
    try clear hcz176_3
    try clear hcz176_4
    try clear hcz182_0
    try clear hcz182_1
    try clear hcz182_2
    try clear hcz182_3
    try clear hcz182_4
    try clear hcz192_0
    try clear hcz192_1
    try clear hcz192_2
    try clear hcz192_3
    try clear hcz192_4
    try clear hcz200_0
    try clear hcz200_1
    try clear hcz200_2
    try clear hcz200_3
    try clear hcz200_4
    try clear hcz207_0
    try clear hcz207_1
    try clear hcz207_2
    try clear hcz207_3
    try clear hcz207_4
    try clear hcz213_0
    try clear hcz213_1
    try clear hcz213_2
    try clear hcz213_3
    try clear hcz213_4
    try clear hcz218_0
    try clear hcz218_1
    try clear hcz218_2
    try clear hcz222_0
    try clear hcz222_1
    try clear hcz222_2
    try clear hcz232_0
    try clear hcz232_1
    try clear hcz232_2
    try clear hcz232_3
    try clear hcz232_4
    try clear hcz240_0
    try clear hcz240_1
    try clear hcz240_2
    try clear hcz240_3
    try clear hcz240_4
    try clear hcz247_0
    try clear hcz247_1
    try clear hcz247_2
    try clear hcz247_3
    try clear hcz247_4
    try clear hcz253_0
    try clear hcz253_1
    try clear hcz253_2
    try clear hcz253_3
    try clear hcz253_4
    try clear hcz258_0
    try clear hcz258_1
    try clear hcz258_2
    try clear hcz262_0
    try clear hcz262_1
    try clear hcz262_2
    try clear hcz272_0
    try clear hcz272_1
    try clear hcz272_2
    try clear hcz272_3
    try clear hcz272_4
    try clear hcz280_0
    try clear hcz280_1
    try clear hcz280_2
    try clear hcz280_3
    try clear hcz280_4
    try clear hcz287_0
    try clear hcz287_1
    try clear hcz287_2
    try clear hcz287_3
    try clear hcz287_4
    try clear hcz293_0
    try clear hcz293_1
    try clear hcz293_2
    try clear hcz293_3
    try clear hcz293_4
    try clear hcz298_0
    try clear hcz298_1
    try clear hcz298_2
    try clear hcz302_0
    try clear hcz302_1
    try clear hcz302_2
    try clear hcz311_0
    try clear hcz311_1
    try clear hcz311_2
    try clear hcz311_3
    try clear hcz311_4
    try clear hcz319_0
    try clear hcz319_1
    try clear hcz319_2
    try clear hcz319_3
    try clear hcz319_4
    try clear hcz326_0
    try clear hcz326_1
    try clear hcz326_2
    try clear hcz326_3
    try clear hcz326_4
    try clear hcz332_0
    try clear hcz332_1
    try clear hcz332_2
    try clear hcz332_3
    try clear hcz332_4
    try clear hcz337_0
    try clear hcz337_1
    try clear hcz337_2
    try clear hcz341_0
    try clear hcz341_1
    try clear hcz341_2
    try clear hfz161_0
    try clear hfz161_1
    try clear hfz161_2
    try clear hfz161_3
    try clear hfz161_4
    try clear hfz169_0
    try clear hfz169_1
    try clear hfz169_2
    try clear hfz169_3
    try clear hfz169_4
    try clear hfz176_0
    try clear hfz176_1
    try clear hfz176_2
    try clear hfz176_3
    try clear hfz176_4
    try clear hfz182_0
    try clear hfz182_1
    try clear hfz182_2
    try clear hfz182_3
    try clear hfz182_4
    try clear hfz192_0
    try clear hfz192_1
    try clear hfz192_2
    try clear hfz192_3
    try clear hfz192_4
    try clear hfz200_0
    try clear hfz200_1
    try clear hfz200_2
    try clear hfz200_3
    try clear hfz200_4
    try clear hfz207_0
    try clear hfz207_1
    try clear hfz207_2
    try clear hfz207_3
    try clear hfz207_4
    try clear hfz213_0
    try clear hfz213_1
    try clear hfz213_2
    try clear hfz213_3
    try clear hfz213_4
    try clear hfz218_0
    try clear hfz218_1
    try clear hfz218_2
    try clear hfz222_0
    try clear hfz222_1
    try clear hfz222_2
    try clear hfz232_0
    try clear hfz232_1
    try clear hfz232_2
    try clear hfz232_3
    try clear hfz232_4
    try clear hfz240_0
    try clear hfz240_1
    try clear hfz240_2
    try clear hfz240_3
    try clear hfz240_4
    try clear hfz247_0
    try clear hfz247_1
    try clear hfz247_2
    try clear hfz247_3
    try clear hfz247_4
    try clear hfz253_0
    try clear hfz253_1
    try clear hfz253_2
    try clear hfz253_3
    try clear hfz253_4
    try clear hfz258_0
    try clear hfz258_1
    try clear hfz258_2
    try clear hfz262_0
    try clear hfz262_1
    try clear hfz262_2
    try clear hfz272_0
    try clear hfz272_1
    try clear hfz272_2
    try clear hfz272_3
    try clear hfz272_4
    try clear hfz280_0
    try clear hfz280_1
    try clear hfz280_2
    try clear hfz280_3
    try clear hfz280_4
    try clear hfz287_0
    try clear hfz287_1
    try clear hfz287_2
    try clear hfz287_3
    try clear hfz287_4
    try clear hfz293_0
    try clear hfz293_1
    try clear hfz293_2
    try clear hfz293_3
    try clear hfz293_4
    try clear hfz298_0
    try clear hfz298_1
    try clear hfz298_2
    try clear hfz302_0
    try clear hfz302_1
    try clear hfz302_2
    try clear hfz311_0
    try clear hfz311_1
    try clear hfz311_2
    try clear hfz311_3
    try clear hfz311_4
    try clear hfz319_0
    try clear hfz319_1
    try clear hfz319_2
    try clear hfz319_3
    try clear hfz319_4
    try clear hfz326_0
    try clear hfz326_1
    try clear hfz326_2
    try clear hfz326_3
    try clear hfz326_4
    try clear hfz332_0
    try clear hfz332_1
    try clear hfz332_2
    try clear hfz332_3
    try clear hfz332_4
    try clear hfz337_0
    try clear hfz337_1
    try clear hfz337_2
    try clear hfz341_0
    try clear hfz341_1
    try clear hfz341_2
    obtain ⟨kq, x108_12, rfl, HA, HJ12, BK558, BK559, BK560, BK567, BK574, BK581, BK588, BK593, BK598, HB⟩ := hcut
    cases kq with
    | zero => exact absurd HA.out (by simp [whittlelaw3_PlaceAreas.j0])
    | succ kj12 =>
      have H := HA.out
      clear HA
      simp only [whittlelaw3_PlaceAreas.j0] at H
      by_cases c342 : x108_12 = true
      · subst c342
        have H1 : (some false) = some r := by rw [if_pos rfl] at H; exact H
        clear H
        have H := H1
        clear H1
        obtain rfl := Option.some.inj H
        go_wp2
        go_ret
        exact ⟨by first | rfl | (simp [errW_none, errW_some] <;> rfl) | (simp [*, errW_none, errW_some] <;> rfl), by repeat (first | (with_reducible first | exact HB.out | apply below_alloc | apply pw_below_drewN | apply below_drew1 | refine below_set ?_ GE558.out | refine below_set ?_ GE559.out | refine below_set ?_ GE560.out | refine below_set ?_ GE567.out | refine below_set ?_ GE574.out | refine below_set ?_ GE581.out | refine below_set ?_ GE588.out | refine below_set ?_ GE593.out | refine below_set ?_ GE598.out) | exact HB.out)⟩
      · replace c342 := Bool.eq_false_iff.mpr c342
        subst c342
        have H1 : ((whittlelaw3_able.f).bind fun t603 => (if t603 = true then ((place_Size.f a0_0 a0_1 a0_2 a0_3 a0_4).bind fun t604 => ((whittleref3_Size.f a0_0 a0_1 a0_2 a0_3 a0_4).bind fun t605 => (if t604 = t605 then ((place_Has.f a0_0 a0_1 a0_2 a0_3 a0_4 a2_0 a2_1 a2_2).bind fun t606 => ((whittleref3_Has.f a0_0 a0_1 a0_2 a0_3 a0_4 a2_0 a2_1 a2_2).bind fun t607 => (some (t606 == t607)))) else (some false)))) else (some false))) = some r := by rw [if_neg (show ¬ (false = true) by decide)] at H; exact H
        clear H
        have H := H1
        clear H1
        replace H := Option.bind_eq_some_iff.mp H
        obtain ⟨t603, A3430, H⟩ := H
        replace H : (if t603 = true then ((place_Size.f a0_0 a0_1 a0_2 a0_3 a0_4).bind fun t604 => ((whittleref3_Size.f a0_0 a0_1 a0_2 a0_3 a0_4).bind fun t605 => (if t604 = t605 then ((place_Has.f a0_0 a0_1 a0_2 a0_3 a0_4 a2_0 a2_1 a2_2).bind fun t606 => ((whittleref3_Has.f a0_0 a0_1 a0_2 a0_3 a0_4 a2_0 a2_1 a2_2).bind fun t607 => (some (t606 == t607)))) else (some false)))) else (some false)) = some r := H
        have A343 := Aside0.mk A3430
        clear A3430
        by_cases c344 : t603 = true
        · subst c344
          have H1 : ((place_Size.f a0_0 a0_1 a0_2 a0_3 a0_4).bind fun t604 => ((whittleref3_Size.f a0_0 a0_1 a0_2 a0_3 a0_4).bind fun t605 => (if t604 = t605 then ((place_Has.f a0_0 a0_1 a0_2 a0_3 a0_4 a2_0 a2_1 a2_2).bind fun t606 => ((whittleref3_Has.f a0_0 a0_1 a0_2 a0_3 a0_4 a2_0 a2_1 a2_2).bind fun t607 => (some (t606 == t607)))) else (some false)))) = some r := by rw [if_pos rfl] at H; exact H
          clear H
          have H := H1
          clear H1
          replace H := Option.bind_eq_some_iff.mp H
          obtain ⟨t604, A3450, H⟩ := H
          replace H : ((whittleref3_Size.f a0_0 a0_1 a0_2 a0_3 a0_4).bind fun t605 => (if t604 = t605 then ((place_Has.f a0_0 a0_1 a0_2 a0_3 a0_4 a2_0 a2_1 a2_2).bind fun t606 => ((whittleref3_Has.f a0_0 a0_1 a0_2 a0_3 a0_4 a2_0 a2_1 a2_2).bind fun t607 => (some (t606 == t607)))) else (some false))) = some r := H
          have A345 := Aside0.mk A3450
          clear A3450
          replace H := Option.bind_eq_some_iff.mp H
          obtain ⟨t605, A3460, H⟩ := H
          replace H : (if t604 = t605 then ((place_Has.f a0_0 a0_1 a0_2 a0_3 a0_4 a2_0 a2_1 a2_2).bind fun t606 => ((whittleref3_Has.f a0_0 a0_1 a0_2 a0_3 a0_4 a2_0 a2_1 a2_2).bind fun t607 => (some (t606 == t607)))) else (some false)) = some r := H
          have A346 := Aside0.mk A3460
          clear A3460
          by_cases c347 : t604 = t605
          · rw [if_pos c347] at H
            have c347b0 : (t604 == t605) = true := beq_iff_eq.mpr c347
            have c347b1 : (t604 != t605) = false := bne_eq_false_iff_eq.mpr c347
            clear c347
            replace H := Option.bind_eq_some_iff.mp H
            obtain ⟨t606, A3480, H⟩ := H
            replace H : ((whittleref3_Has.f a0_0 a0_1 a0_2 a0_3 a0_4 a2_0 a2_1 a2_2).bind fun t607 => (some (t606 == t607))) = some r := H
            have A348 := Aside0.mk A3480
            clear A3480
            replace H := Option.bind_eq_some_iff.mp H
            obtain ⟨t607, A3490, H⟩ := H
            replace H : (some (t606 == t607)) = some r := H
            have A349 := Aside0.mk A3490
            clear A3490
            obtain rfl := Option.some.inj H
            try go_wp2
            have n0_ := Aside0.mk (blk_drew BK558.out)
            have n1_ := Aside0.mk (blk_drew BK559.out)
            have n2_ := Aside0.mk (blk_drew BK560.out)
            have n3_ := Aside0.mk (blk_drew BK567.out)
            have n4_ := Aside0.mk (blk_drew BK574.out)
            have n5_ := Aside0.mk (blk_drew BK581.out)
            have n6_ := Aside0.mk (blk_drew BK588.out)
            have n7_ := Aside0.mk (blk_drew BK593.out)
            have n8_ := Aside0.mk (blk_drew BK598.out)
            have n9_ := Aside0.mk (below_drew1 HB.out)
            clear BK558
            clear BK559
            clear BK560
            clear BK567
            clear BK574
            clear BK581
            clear BK588
            clear BK593
            clear BK598
            clear HB
            have BK558 := n0_
            have BK559 := n1_
            have BK560 := n2_
            have BK567 := n3_
            have BK574 := n4_
            have BK581 := n5_
            have BK588 := n6_
            have BK593 := n7_
            have BK598 := n8_
            have HB := n9_
            clear n0_ n1_ n2_ n3_ n4_ n5_ n6_ n7_ n8_ n9_
            refine start_ (n := 18) (S := fun w' => w'.cell? ⟨gb558, 0, none⟩ = some (.int .i64 a0_0) ∧ w'.cell? ⟨gb558, 1, none⟩ = some (.int .i64 a0_1) ∧ w'.cell? ⟨gb558, 2, none⟩ = some (.int .i64 a0_2) ∧ w'.cell? ⟨gb558, 3, none⟩ = some (.int .i64 a0_3) ∧ w'.cell? ⟨gb558, 4, none⟩ = some (.int .i64 a0_4) ∧ w'.cell? ⟨gb560, 0, none⟩ = some (.int .i64 a2_0) ∧ w'.cell? ⟨gb560, 1, none⟩ = some (.int .i64 a2_1) ∧ w'.cell? ⟨gb560, 2, none⟩ = some (.int .i64 a2_2)) (ds := []) #[false, false, false, false, false, false, false, false, false, false, false, false, false, false, false, false, false, false] (by kernel_rfl) rfl rfl ⟨(blk_cell BK558.out 0).trans rfl, (blk_cell BK558.out 1).trans rfl, (blk_cell BK558.out 2).trans rfl, (blk_cell BK558.out 3).trans rfl, (blk_cell BK558.out 4).trans rfl, (blk_cell BK560.out 0).trans rfl, (blk_cell BK560.out 1).trans rfl, (blk_cell BK560.out 2).trans rfl⟩ (fun hHeld => ?_); refine with_tabW whittlelaw3_PlaceAreas.tab11 whittlelaw3_PlaceAreas.bits11 (fun HT_ HW_ => ?_)
            generalize wc.drew = w350 at BK558 BK559 BK560 BK567 BK574 BK581 BK588 BK593 BK598 HB hHeld ⊢
            refine one_ (i := 0) (N := some 109) #[true, false, false, false, false, false, false, false, false, false, false, false, false, false, false, false, false, false] rfl rfl (one_of HT_.out (by kernel_rfl)) (by decide) (fun K hK => ?_)
            refine goes_ Tryd.func16 (by kernel_rfl) rfl #[] (by rfl) rfl rfl (by (try simp only [List.map_toArray, List.map_cons, List.map_nil]); first | done | rfl) ?_
            with_reducible refine (whittlelaw3_able.calls  true _ A343.out).mono ?_
            rintro e w351 ⟨rfl, hb⟩
            refine ⟨_, rfl, ?_⟩
            have n0_ := Aside0.mk (blk_below BK558.out hb)
            have n1_ := Aside0.mk (blk_below BK559.out hb)
            have n2_ := Aside0.mk (blk_below BK560.out hb)
            have n3_ := Aside0.mk (blk_below BK567.out hb)
            have n4_ := Aside0.mk (blk_below BK574.out hb)
            have n5_ := Aside0.mk (blk_below BK581.out hb)
            have n6_ := Aside0.mk (blk_below BK588.out hb)
            have n7_ := Aside0.mk (blk_below BK593.out hb)
            have n8_ := Aside0.mk (blk_below BK598.out hb)
            have n9_ := Aside0.mk (below_step (by repeat first | exact HB.out | refine below_set ?_ GE558.out | refine below_set ?_ GE559.out | refine below_set ?_ GE560.out | refine below_set ?_ GE567.out | refine below_set ?_ GE574.out | refine below_set ?_ GE581.out | refine below_set ?_ GE588.out | refine below_set ?_ GE593.out | refine below_set ?_ GE598.out) hb)
            clear BK558
            clear BK559
            clear BK560
            clear BK567
            clear BK574
            clear BK581
            clear BK588
            clear BK593
            clear BK598
            clear HB
            have BK558 := n0_
            have BK559 := n1_
            have BK560 := n2_
            have BK567 := n3_
            have BK574 := n4_
            have BK581 := n5_
            have BK588 := n6_
            have BK593 := n7_
            have BK598 := n8_
            have HB := n9_
            clear n0_ n1_ n2_ n3_ n4_ n5_ n6_ n7_ n8_ n9_
            (try clear hb)
            (try clear hb2)
            (try clear hk)
            (try clear hi)
            refine hK.out _ _ ⟨(blk_cell BK558.out 0).trans rfl, (blk_cell BK558.out 1).trans rfl, (blk_cell BK558.out 2).trans rfl, (blk_cell BK558.out 3).trans rfl, (blk_cell BK558.out 4).trans rfl, (blk_cell BK560.out 0).trans rfl, (blk_cell BK560.out 1).trans rfl, (blk_cell BK560.out 2).trans rfl⟩ (fun hHeld => ?_)
            clear hK K
            refine norm_ (a' := ?_) ?_ ?_
            rotate_left
            · show Act.put _ (some 109) _ = _
              simp only [Act.put, List.setIfInBounds_toArray, List.set_cons_zero, List.set_cons_succ, i64_w, i32_w]
              rfl
            refine pure_ (i := 1) (N := some 110) (v := ?_) (a' := ?_) #[true, true, false, false, false, false, false, false, false, false, false, false, false, false, false, false, false, false] rfl rfl (any_of HT_.out (by kernel_rfl)) (fun _ _ _ h => h) (Or.inl ⟨by rfl, ?_⟩) ?_ ?_
            rotate_left
            · intro w'
              go_simp
              with_reducible rfl
            rotate_left
            · simp only [Act.put, List.setIfInBounds_toArray, List.set_cons_zero, List.set_cons_succ, i64_w, i32_w]
              rfl
            refine take_ (i := 2) (N := some 111) (v := ?_) (a' := ?_) #[true, true, true, false, false, false, false, false, false, false, false, false, false, false, false, false, false, false] rfl rfl (take_ofW HT_.out HW_.out (by kernel_rfl)) (fun _ _ _ h => h) (Or.inl ⟨by rfl, ?_⟩) hHeld ?_ ?_
            rotate_left
            · rintro w' ⟨s0, s1, s2, s3, s4, s5, s6, s7⟩
              go_simp
              with_reducible rfl
            rotate_left
            · simp only [Act.put, List.setIfInBounds_toArray, List.set_cons_zero, List.set_cons_succ, i64_w, i32_w]
              rfl
            refine take_ (i := 4) (N := some 113) (v := ?_) (a' := ?_) #[true, true, true, false, true, false, false, false, false, false, false, false, false, false, false, false, false, false] rfl rfl (take_ofW HT_.out HW_.out (by kernel_rfl)) (fun _ _ _ h => h) (Or.inl ⟨by rfl, ?_⟩) hHeld ?_ ?_
            rotate_left
            · rintro w' ⟨s0, s1, s2, s3, s4, s5, s6, s7⟩
              go_simp
              with_reducible rfl
            rotate_left
            · simp only [Act.put, List.setIfInBounds_toArray, List.set_cons_zero, List.set_cons_succ, i64_w, i32_w]
              rfl
            refine one_ (i := 3) (N := some 112) #[true, true, true, true, true, false, false, false, false, false, false, false, false, false, false, false, false, false] rfl rfl (one_of HT_.out (by kernel_rfl)) (by decide) (fun K hK => ?_)
            refine goes_ Tryd.func36 (by kernel_rfl) rfl #[.agg #[.int .i64 a0_0, .int .i64 a0_1, .int .i64 a0_2, .int .i64 a0_3, .int .i64 a0_4]] (by rfl) rfl rfl (by (try simp only [List.map_toArray, List.map_cons, List.map_nil]); first | done | rfl) ?_
            with_reducible refine (place_Size.calls a0_0 a0_1 a0_2 a0_3 a0_4 t604 _ A345.out).mono ?_
            rintro e w352 ⟨rfl, hb⟩
            refine ⟨_, rfl, ?_⟩
            have n0_ := Aside0.mk (blk_below BK558.out hb)
            have n1_ := Aside0.mk (blk_below BK559.out hb)
            have n2_ := Aside0.mk (blk_below BK560.out hb)
            have n3_ := Aside0.mk (blk_below BK567.out hb)
            have n4_ := Aside0.mk (blk_below BK574.out hb)
            have n5_ := Aside0.mk (blk_below BK581.out hb)
            have n6_ := Aside0.mk (blk_below BK588.out hb)
            have n7_ := Aside0.mk (blk_below BK593.out hb)
            have n8_ := Aside0.mk (blk_below BK598.out hb)
            have n9_ := Aside0.mk (below_step (by repeat first | exact HB.out | refine below_set ?_ GE558.out | refine below_set ?_ GE559.out | refine below_set ?_ GE560.out | refine below_set ?_ GE567.out | refine below_set ?_ GE574.out | refine below_set ?_ GE581.out | refine below_set ?_ GE588.out | refine below_set ?_ GE593.out | refine below_set ?_ GE598.out) hb)
            clear BK558
            clear BK559
            clear BK560
            clear BK567
            clear BK574
            clear BK581
            clear BK588
            clear BK593
            clear BK598
            clear HB
            have BK558 := n0_
            have BK559 := n1_
            have BK560 := n2_
            have BK567 := n3_
            have BK574 := n4_
            have BK581 := n5_
            have BK588 := n6_
            have BK593 := n7_
            have BK598 := n8_
            have HB := n9_
            clear n0_ n1_ n2_ n3_ n4_ n5_ n6_ n7_ n8_ n9_
            (try clear hb)
            (try clear hb2)
            (try clear hk)
            (try clear hi)
            refine hK.out _ _ ⟨(blk_cell BK558.out 0).trans rfl, (blk_cell BK558.out 1).trans rfl, (blk_cell BK558.out 2).trans rfl, (blk_cell BK558.out 3).trans rfl, (blk_cell BK558.out 4).trans rfl, (blk_cell BK560.out 0).trans rfl, (blk_cell BK560.out 1).trans rfl, (blk_cell BK560.out 2).trans rfl⟩ (fun hHeld => ?_)
            clear hK K
            refine norm_ (a' := ?_) ?_ ?_
            rotate_left
            · show Act.put _ (some 112) _ = _
              simp only [Act.put, List.setIfInBounds_toArray, List.set_cons_zero, List.set_cons_succ, i64_w, i32_w]
              rfl
            refine one_ (i := 5) (N := some 114) #[true, true, true, true, true, true, false, false, false, false, false, false, false, false, false, false, false, false] rfl rfl (one_of HT_.out (by kernel_rfl)) (by decide) (fun K hK => ?_)
            refine goes_ Tryd.func53 (by kernel_rfl) rfl #[.agg #[.int .i64 a0_0, .int .i64 a0_1, .int .i64 a0_2, .int .i64 a0_3, .int .i64 a0_4]] (by rfl) rfl rfl (by (try simp only [List.map_toArray, List.map_cons, List.map_nil]); first | done | rfl) ?_
            with_reducible refine (whittleref3_Size.calls a0_0 a0_1 a0_2 a0_3 a0_4 t605 _ A346.out).mono ?_
            rintro e w353 ⟨rfl, hb⟩
            refine ⟨_, rfl, ?_⟩
            have n0_ := Aside0.mk (blk_below BK558.out hb)
            have n1_ := Aside0.mk (blk_below BK559.out hb)
            have n2_ := Aside0.mk (blk_below BK560.out hb)
            have n3_ := Aside0.mk (blk_below BK567.out hb)
            have n4_ := Aside0.mk (blk_below BK574.out hb)
            have n5_ := Aside0.mk (blk_below BK581.out hb)
            have n6_ := Aside0.mk (blk_below BK588.out hb)
            have n7_ := Aside0.mk (blk_below BK593.out hb)
            have n8_ := Aside0.mk (blk_below BK598.out hb)
            have n9_ := Aside0.mk (below_step (by repeat first | exact HB.out | refine below_set ?_ GE558.out | refine below_set ?_ GE559.out | refine below_set ?_ GE560.out | refine below_set ?_ GE567.out | refine below_set ?_ GE574.out | refine below_set ?_ GE581.out | refine below_set ?_ GE588.out | refine below_set ?_ GE593.out | refine below_set ?_ GE598.out) hb)
            clear BK558
            clear BK559
            clear BK560
            clear BK567
            clear BK574
            clear BK581
            clear BK588
            clear BK593
            clear BK598
            clear HB
            have BK558 := n0_
            have BK559 := n1_
            have BK560 := n2_
            have BK567 := n3_
            have BK574 := n4_
            have BK581 := n5_
            have BK588 := n6_
            have BK593 := n7_
            have BK598 := n8_
            have HB := n9_
            clear n0_ n1_ n2_ n3_ n4_ n5_ n6_ n7_ n8_ n9_
            (try clear hb)
            (try clear hb2)
            (try clear hk)
            (try clear hi)
            refine hK.out _ _ ⟨(blk_cell BK558.out 0).trans rfl, (blk_cell BK558.out 1).trans rfl, (blk_cell BK558.out 2).trans rfl, (blk_cell BK558.out 3).trans rfl, (blk_cell BK558.out 4).trans rfl, (blk_cell BK560.out 0).trans rfl, (blk_cell BK560.out 1).trans rfl, (blk_cell BK560.out 2).trans rfl⟩ (fun hHeld => ?_)
            clear hK K
            refine norm_ (a' := ?_) ?_ ?_
            rotate_left
            · show Act.put _ (some 114) _ = _
              simp only [Act.put, List.setIfInBounds_toArray, List.set_cons_zero, List.set_cons_succ, i64_w, i32_w]
              rfl
            refine pure_ (i := 6) (N := some 115) (v := ?_) (a' := ?_) #[true, true, true, true, true, true, true, false, false, false, false, false, false, false, false, false, false, false] rfl rfl (any_of HT_.out (by kernel_rfl)) (fun _ _ _ h => h) (Or.inl ⟨by rfl, ?_⟩) ?_ ?_
            rotate_left
            · intro w'
              go_simp
              with_reducible rfl
            rotate_left
            · simp only [Act.put, List.setIfInBounds_toArray, List.set_cons_zero, List.set_cons_succ, i64_w, i32_w]
              rfl
            refine pure_ (i := 7) (N := some 116) (v := ?_) (a' := ?_) #[true, true, true, true, true, true, true, true, false, false, false, false, false, false, false, false, false, false] rfl rfl (any_of HT_.out (by kernel_rfl)) (fun _ _ _ h => h) (Or.inl ⟨by rfl, ?_⟩) ?_ ?_
            rotate_left
            · intro w'
              go_simp
              with_reducible rfl
            rotate_left
            · simp only [Act.put, List.setIfInBounds_toArray, List.set_cons_zero, List.set_cons_succ, i64_w, i32_w]
              rfl
            refine pure_ (i := 8) (N := some 117) (v := ?_) (a' := ?_) #[true, true, true, true, true, true, true, true, true, false, false, false, false, false, false, false, false, false] rfl rfl (any_of HT_.out (by kernel_rfl)) (fun _ _ _ h => h) (Or.inl ⟨by rfl, ?_⟩) ?_ ?_
            rotate_left
            · intro w'
              go_simp
              with_reducible rfl
            rotate_left
            · simp only [Act.put, List.setIfInBounds_toArray, List.set_cons_zero, List.set_cons_succ, i64_w, i32_w]
              rfl
            refine take_ (i := 9) (N := some 118) (v := ?_) (a' := ?_) #[true, true, true, true, true, true, true, true, true, true, false, false, false, false, false, false, false, false] rfl rfl (take_ofW HT_.out HW_.out (by kernel_rfl)) (fun _ _ _ h => h) (Or.inl ⟨by rfl, ?_⟩) hHeld ?_ ?_
            rotate_left
            · rintro w' ⟨s0, s1, s2, s3, s4, s5, s6, s7⟩
              go_simp
              with_reducible rfl
            rotate_left
            · simp only [Act.put, List.setIfInBounds_toArray, List.set_cons_zero, List.set_cons_succ, i64_w, i32_w]
              rfl
            refine take_ (i := 10) (N := some 119) (v := ?_) (a' := ?_) #[true, true, true, true, true, true, true, true, true, true, true, false, false, false, false, false, false, false] rfl rfl (take_ofW HT_.out HW_.out (by kernel_rfl)) (fun _ _ _ h => h) (Or.inl ⟨by rfl, ?_⟩) hHeld ?_ ?_
            rotate_left
            · rintro w' ⟨s0, s1, s2, s3, s4, s5, s6, s7⟩
              go_simp
              with_reducible rfl
            rotate_left
            · simp only [Act.put, List.setIfInBounds_toArray, List.set_cons_zero, List.set_cons_succ, i64_w, i32_w]
              rfl
            refine take_ (i := 12) (N := some 121) (v := ?_) (a' := ?_) #[true, true, true, true, true, true, true, true, true, true, true, false, true, false, false, false, false, false] rfl rfl (take_ofW HT_.out HW_.out (by kernel_rfl)) (fun _ _ _ h => h) (Or.inl ⟨by rfl, ?_⟩) hHeld ?_ ?_
            rotate_left
            · rintro w' ⟨s0, s1, s2, s3, s4, s5, s6, s7⟩
              go_simp
              with_reducible rfl
            rotate_left
            · simp only [Act.put, List.setIfInBounds_toArray, List.set_cons_zero, List.set_cons_succ, i64_w, i32_w]
              rfl
            refine take_ (i := 13) (N := some 122) (v := ?_) (a' := ?_) #[true, true, true, true, true, true, true, true, true, true, true, false, true, true, false, false, false, false] rfl rfl (take_ofW HT_.out HW_.out (by kernel_rfl)) (fun _ _ _ h => h) (Or.inl ⟨by rfl, ?_⟩) hHeld ?_ ?_
            rotate_left
            · rintro w' ⟨s0, s1, s2, s3, s4, s5, s6, s7⟩
              go_simp
              with_reducible rfl
            rotate_left
            · simp only [Act.put, List.setIfInBounds_toArray, List.set_cons_zero, List.set_cons_succ, i64_w, i32_w]
              rfl
            refine one_ (i := 11) (N := some 120) #[true, true, true, true, true, true, true, true, true, true, true, true, true, true, false, false, false, false] rfl rfl (one_of HT_.out (by kernel_rfl)) (by decide) (fun K hK => ?_)
            refine goes_ Tryd.func28 (by kernel_rfl) rfl #[.agg #[.int .i64 a0_0, .int .i64 a0_1, .int .i64 a0_2, .int .i64 a0_3, .int .i64 a0_4], .agg #[.int .i64 a2_0, .int .i64 a2_1, .int .i64 a2_2]] (by rfl) rfl rfl (by (try simp only [List.map_toArray, List.map_cons, List.map_nil]); first | done | rfl) ?_
            with_reducible refine (place_Has.calls a0_0 a0_1 a0_2 a0_3 a0_4 a2_0 a2_1 a2_2 t606 _ A348.out).mono ?_
            rintro e w354 ⟨rfl, hb⟩
            refine ⟨_, rfl, ?_⟩
            have n0_ := Aside0.mk (blk_below BK558.out hb)
            have n1_ := Aside0.mk (blk_below BK559.out hb)
            have n2_ := Aside0.mk (blk_below BK560.out hb)
            have n3_ := Aside0.mk (blk_below BK567.out hb)
            have n4_ := Aside0.mk (blk_below BK574.out hb)
            have n5_ := Aside0.mk (blk_below BK581.out hb)
            have n6_ := Aside0.mk (blk_below BK588.out hb)
            have n7_ := Aside0.mk (blk_below BK593.out hb)
            have n8_ := Aside0.mk (blk_below BK598.out hb)
            have n9_ := Aside0.mk (below_step (by repeat first | exact HB.out | refine below_set ?_ GE558.out | refine below_set ?_ GE559.out | refine below_set ?_ GE560.out | refine below_set ?_ GE567.out | refine below_set ?_ GE574.out | refine below_set ?_ GE581.out | refine below_set ?_ GE588.out | refine below_set ?_ GE593.out | refine below_set ?_ GE598.out) hb)
            clear BK558
            clear BK559
            clear BK560
            clear BK567
            clear BK574
            clear BK581
            clear BK588
            clear BK593
            clear BK598
            clear HB
            have BK558 := n0_
            have BK559 := n1_
            have BK560 := n2_
            have BK567 := n3_
            have BK574 := n4_
            have BK581 := n5_
            have BK588 := n6_
            have BK593 := n7_
            have BK598 := n8_
            have HB := n9_
            clear n0_ n1_ n2_ n3_ n4_ n5_ n6_ n7_ n8_ n9_
            (try clear hb)
            (try clear hb2)
            (try clear hk)
            (try clear hi)
            refine hK.out _ _ ⟨(blk_cell BK558.out 0).trans rfl, (blk_cell BK558.out 1).trans rfl, (blk_cell BK558.out 2).trans rfl, (blk_cell BK558.out 3).trans rfl, (blk_cell BK558.out 4).trans rfl, (blk_cell BK560.out 0).trans rfl, (blk_cell BK560.out 1).trans rfl, (blk_cell BK560.out 2).trans rfl⟩ (fun hHeld => ?_)
            clear hK K
            refine norm_ (a' := ?_) ?_ ?_
            rotate_left
            · show Act.put _ (some 120) _ = _
              simp only [Act.put, List.setIfInBounds_toArray, List.set_cons_zero, List.set_cons_succ, i64_w, i32_w]
              rfl
            refine one_ (i := 14) (N := some 123) #[true, true, true, true, true, true, true, true, true, true, true, true, true, true, true, false, false, false] rfl rfl (one_of HT_.out (by kernel_rfl)) (by decide) (fun K hK => ?_)
            refine goes_ Tryd.func54 (by kernel_rfl) rfl #[.agg #[.int .i64 a0_0, .int .i64 a0_1, .int .i64 a0_2, .int .i64 a0_3, .int .i64 a0_4], .agg #[.int .i64 a2_0, .int .i64 a2_1, .int .i64 a2_2]] (by rfl) rfl rfl (by (try simp only [List.map_toArray, List.map_cons, List.map_nil]); first | done | rfl) ?_
            with_reducible refine (whittleref3_Has.calls a0_0 a0_1 a0_2 a0_3 a0_4 a2_0 a2_1 a2_2 t607 _ A349.out).mono ?_
            rintro e w355 ⟨rfl, hb⟩
            refine ⟨_, rfl, ?_⟩
            have n0_ := Aside0.mk (blk_below BK558.out hb)
            have n1_ := Aside0.mk (blk_below BK559.out hb)
            have n2_ := Aside0.mk (blk_below BK560.out hb)
            have n3_ := Aside0.mk (blk_below BK567.out hb)
            have n4_ := Aside0.mk (blk_below BK574.out hb)
            have n5_ := Aside0.mk (blk_below BK581.out hb)
            have n6_ := Aside0.mk (blk_below BK588.out hb)
            have n7_ := Aside0.mk (blk_below BK593.out hb)
            have n8_ := Aside0.mk (blk_below BK598.out hb)
            have n9_ := Aside0.mk (below_step (by repeat first | exact HB.out | refine below_set ?_ GE558.out | refine below_set ?_ GE559.out | refine below_set ?_ GE560.out | refine below_set ?_ GE567.out | refine below_set ?_ GE574.out | refine below_set ?_ GE581.out | refine below_set ?_ GE588.out | refine below_set ?_ GE593.out | refine below_set ?_ GE598.out) hb)
            clear BK558
            clear BK559
            clear BK560
            clear BK567
            clear BK574
            clear BK581
            clear BK588
            clear BK593
            clear BK598
            clear HB
            have BK558 := n0_
            have BK559 := n1_
            have BK560 := n2_
            have BK567 := n3_
            have BK574 := n4_
            have BK581 := n5_
            have BK588 := n6_
            have BK593 := n7_
            have BK598 := n8_
            have HB := n9_
            clear n0_ n1_ n2_ n3_ n4_ n5_ n6_ n7_ n8_ n9_
            (try clear hb)
            (try clear hb2)
            (try clear hk)
            (try clear hi)
            refine hK.out _ _ ⟨(blk_cell BK558.out 0).trans rfl, (blk_cell BK558.out 1).trans rfl, (blk_cell BK558.out 2).trans rfl, (blk_cell BK558.out 3).trans rfl, (blk_cell BK558.out 4).trans rfl, (blk_cell BK560.out 0).trans rfl, (blk_cell BK560.out 1).trans rfl, (blk_cell BK560.out 2).trans rfl⟩ (fun hHeld => ?_)
            clear hK K
            refine norm_ (a' := ?_) ?_ ?_
            rotate_left
            · show Act.put _ (some 123) _ = _
              simp only [Act.put, List.setIfInBounds_toArray, List.set_cons_zero, List.set_cons_succ, i64_w, i32_w]
              rfl
            refine pure_ (i := 15) (N := some 124) (v := ?_) (a' := ?_) #[true, true, true, true, true, true, true, true, true, true, true, true, true, true, true, true, false, false] rfl rfl (any_of HT_.out (by kernel_rfl)) (fun _ _ _ h => h) (Or.inl ⟨by rfl, ?_⟩) ?_ ?_
            rotate_left
            · intro w'
              go_simp
              with_reducible rfl
            rotate_left
            · simp only [Act.put, List.setIfInBounds_toArray, List.set_cons_zero, List.set_cons_succ, i64_w, i32_w]
              rfl
            refine pure_ (i := 16) (N := some 125) (v := ?_) (a' := ?_) #[true, true, true, true, true, true, true, true, true, true, true, true, true, true, true, true, true, false] rfl rfl (any_of HT_.out (by kernel_rfl)) (fun _ _ _ h => h) (Or.inl ⟨by rfl, ?_⟩) ?_ ?_
            rotate_left
            · intro w'
              go_simp
              with_reducible rfl
            rotate_left
            · simp only [Act.put, List.setIfInBounds_toArray, List.set_cons_zero, List.set_cons_succ, i64_w, i32_w]
              rfl
            refine pure_ (i := 17) (N := some 8) (v := ?_) (a' := ?_) #[true, true, true, true, true, true, true, true, true, true, true, true, true, true, true, true, true, true] rfl rfl (any_of HT_.out (by kernel_rfl)) (fun _ _ _ h => h) (Or.inl ⟨by rfl, ?_⟩) ?_ ?_
            rotate_left
            · intro w'
              go_simp
              with_reducible rfl
            rotate_left
            · simp only [Act.put, List.setIfInBounds_toArray, List.set_cons_zero, List.set_cons_succ, i64_w, i32_w]
              rfl
            refine done_ (done_of HT_.out (by kernel_rfl)) ?_
            try go_wp2
            go_ret
            exact ⟨by first | rfl | (simp [errW_none, errW_some] <;> rfl) | (simp [*, errW_none, errW_some] <;> rfl), by repeat (first | (with_reducible first | exact HB.out | apply below_alloc | apply pw_below_drewN | apply below_drew1 | refine below_set ?_ GE558.out | refine below_set ?_ GE559.out | refine below_set ?_ GE560.out | refine below_set ?_ GE567.out | refine below_set ?_ GE574.out | refine below_set ?_ GE581.out | refine below_set ?_ GE588.out | refine below_set ?_ GE593.out | refine below_set ?_ GE598.out) | exact HB.out)⟩
          · rw [if_neg c347] at H
            have c347b0 : (t604 == t605) = false := beq_eq_false_iff_ne.mpr c347
            have c347b1 : (t604 != t605) = true := bne_iff_ne.mpr c347
            obtain rfl := Option.some.inj H
            try go_wp2
            have n0_ := Aside0.mk (blk_drew BK558.out)
            have n1_ := Aside0.mk (blk_drew BK559.out)
            have n2_ := Aside0.mk (blk_drew BK560.out)
            have n3_ := Aside0.mk (blk_drew BK567.out)
            have n4_ := Aside0.mk (blk_drew BK574.out)
            have n5_ := Aside0.mk (blk_drew BK581.out)
            have n6_ := Aside0.mk (blk_drew BK588.out)
            have n7_ := Aside0.mk (blk_drew BK593.out)
            have n8_ := Aside0.mk (blk_drew BK598.out)
            have n9_ := Aside0.mk (below_drew1 HB.out)
            clear BK558
            clear BK559
            clear BK560
            clear BK567
            clear BK574
            clear BK581
            clear BK588
            clear BK593
            clear BK598
            clear HB
            have BK558 := n0_
            have BK559 := n1_
            have BK560 := n2_
            have BK567 := n3_
            have BK574 := n4_
            have BK581 := n5_
            have BK588 := n6_
            have BK593 := n7_
            have BK598 := n8_
            have HB := n9_
            clear n0_ n1_ n2_ n3_ n4_ n5_ n6_ n7_ n8_ n9_
            refine start_ (n := 18) (S := fun w' => w'.cell? ⟨gb558, 0, none⟩ = some (.int .i64 a0_0) ∧ w'.cell? ⟨gb558, 1, none⟩ = some (.int .i64 a0_1) ∧ w'.cell? ⟨gb558, 2, none⟩ = some (.int .i64 a0_2) ∧ w'.cell? ⟨gb558, 3, none⟩ = some (.int .i64 a0_3) ∧ w'.cell? ⟨gb558, 4, none⟩ = some (.int .i64 a0_4)) (ds := []) #[false, false, false, false, false, false, false, false, false, false, false, false, false, false, false, false, false, false] (by kernel_rfl) rfl rfl ⟨(blk_cell BK558.out 0).trans rfl, (blk_cell BK558.out 1).trans rfl, (blk_cell BK558.out 2).trans rfl, (blk_cell BK558.out 3).trans rfl, (blk_cell BK558.out 4).trans rfl⟩ (fun hHeld => ?_); refine with_tabW whittlelaw3_PlaceAreas.tab11 whittlelaw3_PlaceAreas.bits11 (fun HT_ HW_ => ?_)
            generalize wc.drew = w356 at BK558 BK559 BK560 BK567 BK574 BK581 BK588 BK593 BK598 HB hHeld ⊢
            refine one_ (i := 0) (N := some 109) #[true, false, false, false, false, false, false, false, false, false, false, false, false, false, false, false, false, false] rfl rfl (one_of HT_.out (by kernel_rfl)) (by decide) (fun K hK => ?_)
            refine goes_ Tryd.func16 (by kernel_rfl) rfl #[] (by rfl) rfl rfl (by (try simp only [List.map_toArray, List.map_cons, List.map_nil]); first | done | rfl) ?_
            with_reducible refine (whittlelaw3_able.calls  true _ A343.out).mono ?_
            rintro e w357 ⟨rfl, hb⟩
            refine ⟨_, rfl, ?_⟩
            have n0_ := Aside0.mk (blk_below BK558.out hb)
            have n1_ := Aside0.mk (blk_below BK559.out hb)
            have n2_ := Aside0.mk (blk_below BK560.out hb)
            have n3_ := Aside0.mk (blk_below BK567.out hb)
            have n4_ := Aside0.mk (blk_below BK574.out hb)
            have n5_ := Aside0.mk (blk_below BK581.out hb)
            have n6_ := Aside0.mk (blk_below BK588.out hb)
            have n7_ := Aside0.mk (blk_below BK593.out hb)
            have n8_ := Aside0.mk (blk_below BK598.out hb)
            have n9_ := Aside0.mk (below_step (by repeat first | exact HB.out | refine below_set ?_ GE558.out | refine below_set ?_ GE559.out | refine below_set ?_ GE560.out | refine below_set ?_ GE567.out | refine below_set ?_ GE574.out | refine below_set ?_ GE581.out | refine below_set ?_ GE588.out | refine below_set ?_ GE593.out | refine below_set ?_ GE598.out) hb)
            clear BK558
            clear BK559
            clear BK560
            clear BK567
            clear BK574
            clear BK581
            clear BK588
            clear BK593
            clear BK598
            clear HB
            have BK558 := n0_
            have BK559 := n1_
            have BK560 := n2_
            have BK567 := n3_
            have BK574 := n4_
            have BK581 := n5_
            have BK588 := n6_
            have BK593 := n7_
            have BK598 := n8_
            have HB := n9_
            clear n0_ n1_ n2_ n3_ n4_ n5_ n6_ n7_ n8_ n9_
            (try clear hb)
            (try clear hb2)
            (try clear hk)
            (try clear hi)
            refine hK.out _ _ ⟨(blk_cell BK558.out 0).trans rfl, (blk_cell BK558.out 1).trans rfl, (blk_cell BK558.out 2).trans rfl, (blk_cell BK558.out 3).trans rfl, (blk_cell BK558.out 4).trans rfl⟩ (fun hHeld => ?_)
            clear hK K
            refine norm_ (a' := ?_) ?_ ?_
            rotate_left
            · show Act.put _ (some 109) _ = _
              simp only [Act.put, List.setIfInBounds_toArray, List.set_cons_zero, List.set_cons_succ, i64_w, i32_w]
              rfl
            refine pure_ (i := 1) (N := some 110) (v := ?_) (a' := ?_) #[true, true, false, false, false, false, false, false, false, false, false, false, false, false, false, false, false, false] rfl rfl (any_of HT_.out (by kernel_rfl)) (fun _ _ _ h => h) (Or.inl ⟨by rfl, ?_⟩) ?_ ?_
            rotate_left
            · intro w'
              go_simp
              with_reducible rfl
            rotate_left
            · simp only [Act.put, List.setIfInBounds_toArray, List.set_cons_zero, List.set_cons_succ, i64_w, i32_w]
              rfl
            refine take_ (i := 2) (N := some 111) (v := ?_) (a' := ?_) #[true, true, true, false, false, false, false, false, false, false, false, false, false, false, false, false, false, false] rfl rfl (take_ofW HT_.out HW_.out (by kernel_rfl)) (fun _ _ _ h => h) (Or.inl ⟨by rfl, ?_⟩) hHeld ?_ ?_
            rotate_left
            · rintro w' ⟨s0, s1, s2, s3, s4⟩
              go_simp
              with_reducible rfl
            rotate_left
            · simp only [Act.put, List.setIfInBounds_toArray, List.set_cons_zero, List.set_cons_succ, i64_w, i32_w]
              rfl
            refine take_ (i := 4) (N := some 113) (v := ?_) (a' := ?_) #[true, true, true, false, true, false, false, false, false, false, false, false, false, false, false, false, false, false] rfl rfl (take_ofW HT_.out HW_.out (by kernel_rfl)) (fun _ _ _ h => h) (Or.inl ⟨by rfl, ?_⟩) hHeld ?_ ?_
            rotate_left
            · rintro w' ⟨s0, s1, s2, s3, s4⟩
              go_simp
              with_reducible rfl
            rotate_left
            · simp only [Act.put, List.setIfInBounds_toArray, List.set_cons_zero, List.set_cons_succ, i64_w, i32_w]
              rfl
            refine one_ (i := 3) (N := some 112) #[true, true, true, true, true, false, false, false, false, false, false, false, false, false, false, false, false, false] rfl rfl (one_of HT_.out (by kernel_rfl)) (by decide) (fun K hK => ?_)
            refine goes_ Tryd.func36 (by kernel_rfl) rfl #[.agg #[.int .i64 a0_0, .int .i64 a0_1, .int .i64 a0_2, .int .i64 a0_3, .int .i64 a0_4]] (by rfl) rfl rfl (by (try simp only [List.map_toArray, List.map_cons, List.map_nil]); first | done | rfl) ?_
            with_reducible refine (place_Size.calls a0_0 a0_1 a0_2 a0_3 a0_4 t604 _ A345.out).mono ?_
            rintro e w358 ⟨rfl, hb⟩
            refine ⟨_, rfl, ?_⟩
            have n0_ := Aside0.mk (blk_below BK558.out hb)
            have n1_ := Aside0.mk (blk_below BK559.out hb)
            have n2_ := Aside0.mk (blk_below BK560.out hb)
            have n3_ := Aside0.mk (blk_below BK567.out hb)
            have n4_ := Aside0.mk (blk_below BK574.out hb)
            have n5_ := Aside0.mk (blk_below BK581.out hb)
            have n6_ := Aside0.mk (blk_below BK588.out hb)
            have n7_ := Aside0.mk (blk_below BK593.out hb)
            have n8_ := Aside0.mk (blk_below BK598.out hb)
            have n9_ := Aside0.mk (below_step (by repeat first | exact HB.out | refine below_set ?_ GE558.out | refine below_set ?_ GE559.out | refine below_set ?_ GE560.out | refine below_set ?_ GE567.out | refine below_set ?_ GE574.out | refine below_set ?_ GE581.out | refine below_set ?_ GE588.out | refine below_set ?_ GE593.out | refine below_set ?_ GE598.out) hb)
            clear BK558
            clear BK559
            clear BK560
            clear BK567
            clear BK574
            clear BK581
            clear BK588
            clear BK593
            clear BK598
            clear HB
            have BK558 := n0_
            have BK559 := n1_
            have BK560 := n2_
            have BK567 := n3_
            have BK574 := n4_
            have BK581 := n5_
            have BK588 := n6_
            have BK593 := n7_
            have BK598 := n8_
            have HB := n9_
            clear n0_ n1_ n2_ n3_ n4_ n5_ n6_ n7_ n8_ n9_
            (try clear hb)
            (try clear hb2)
            (try clear hk)
            (try clear hi)
            refine hK.out _ _ ⟨(blk_cell BK558.out 0).trans rfl, (blk_cell BK558.out 1).trans rfl, (blk_cell BK558.out 2).trans rfl, (blk_cell BK558.out 3).trans rfl, (blk_cell BK558.out 4).trans rfl⟩ (fun hHeld => ?_)
            clear hK K
            refine norm_ (a' := ?_) ?_ ?_
            rotate_left
            · show Act.put _ (some 112) _ = _
              simp only [Act.put, List.setIfInBounds_toArray, List.set_cons_zero, List.set_cons_succ, i64_w, i32_w]
              rfl
            refine one_ (i := 5) (N := some 114) #[true, true, true, true, true, true, false, false, false, false, false, false, false, false, false, false, false, false] rfl rfl (one_of HT_.out (by kernel_rfl)) (by decide) (fun K hK => ?_)
            refine goes_ Tryd.func53 (by kernel_rfl) rfl #[.agg #[.int .i64 a0_0, .int .i64 a0_1, .int .i64 a0_2, .int .i64 a0_3, .int .i64 a0_4]] (by rfl) rfl rfl (by (try simp only [List.map_toArray, List.map_cons, List.map_nil]); first | done | rfl) ?_
            with_reducible refine (whittleref3_Size.calls a0_0 a0_1 a0_2 a0_3 a0_4 t605 _ A346.out).mono ?_
            rintro e w359 ⟨rfl, hb⟩
            refine ⟨_, rfl, ?_⟩
            have n0_ := Aside0.mk (blk_below BK558.out hb)
            have n1_ := Aside0.mk (blk_below BK559.out hb)
            have n2_ := Aside0.mk (blk_below BK560.out hb)
            have n3_ := Aside0.mk (blk_below BK567.out hb)
            have n4_ := Aside0.mk (blk_below BK574.out hb)
            have n5_ := Aside0.mk (blk_below BK581.out hb)
            have n6_ := Aside0.mk (blk_below BK588.out hb)
            have n7_ := Aside0.mk (blk_below BK593.out hb)
            have n8_ := Aside0.mk (blk_below BK598.out hb)
            have n9_ := Aside0.mk (below_step (by repeat first | exact HB.out | refine below_set ?_ GE558.out | refine below_set ?_ GE559.out | refine below_set ?_ GE560.out | refine below_set ?_ GE567.out | refine below_set ?_ GE574.out | refine below_set ?_ GE581.out | refine below_set ?_ GE588.out | refine below_set ?_ GE593.out | refine below_set ?_ GE598.out) hb)
            clear BK558
            clear BK559
            clear BK560
            clear BK567
            clear BK574
            clear BK581
            clear BK588
            clear BK593
            clear BK598
            clear HB
            have BK558 := n0_
            have BK559 := n1_
            have BK560 := n2_
            have BK567 := n3_
            have BK574 := n4_
            have BK581 := n5_
            have BK588 := n6_
            have BK593 := n7_
            have BK598 := n8_
            have HB := n9_
            clear n0_ n1_ n2_ n3_ n4_ n5_ n6_ n7_ n8_ n9_
            (try clear hb)
            (try clear hb2)
            (try clear hk)
            (try clear hi)
            refine hK.out _ _ ⟨(blk_cell BK558.out 0).trans rfl, (blk_cell BK558.out 1).trans rfl, (blk_cell BK558.out 2).trans rfl, (blk_cell BK558.out 3).trans rfl, (blk_cell BK558.out 4).trans rfl⟩ (fun hHeld => ?_)
            clear hK K
            refine norm_ (a' := ?_) ?_ ?_
            rotate_left
            · show Act.put _ (some 114) _ = _
              simp only [Act.put, List.setIfInBounds_toArray, List.set_cons_zero, List.set_cons_succ, i64_w, i32_w]
              rfl
            refine pure_ (i := 6) (N := some 115) (v := ?_) (a' := ?_) #[true, true, true, true, true, true, true, false, false, false, false, false, false, false, false, false, false, false] rfl rfl (any_of HT_.out (by kernel_rfl)) (fun _ _ _ h => h) (Or.inl ⟨by rfl, ?_⟩) ?_ ?_
            rotate_left
            · intro w'
              go_simp
              with_reducible rfl
            rotate_left
            · simp only [Act.put, List.setIfInBounds_toArray, List.set_cons_zero, List.set_cons_succ, i64_w, i32_w]
              rfl
            refine pure_ (i := 7) (N := some 116) (v := ?_) (a' := ?_) #[true, true, true, true, true, true, true, true, false, false, false, false, false, false, false, false, false, false] rfl rfl (any_of HT_.out (by kernel_rfl)) (fun _ _ _ h => h) (Or.inl ⟨by rfl, ?_⟩) ?_ ?_
            rotate_left
            · intro w'
              go_simp
              with_reducible rfl
            rotate_left
            · simp only [Act.put, List.setIfInBounds_toArray, List.set_cons_zero, List.set_cons_succ, i64_w, i32_w]
              rfl
            refine pure_ (i := 8) (N := some 117) (v := ?_) (a' := ?_) #[true, true, true, true, true, true, true, true, true, false, false, false, false, false, false, false, false, false] rfl rfl (any_of HT_.out (by kernel_rfl)) (fun _ _ _ h => h) (Or.inl ⟨by rfl, ?_⟩) ?_ ?_
            rotate_left
            · intro w'
              go_simp
              with_reducible rfl
            rotate_left
            · simp only [Act.put, List.setIfInBounds_toArray, List.set_cons_zero, List.set_cons_succ, i64_w, i32_w]
              rfl
            refine pure_ (i := 9) (N := some 118) (v := undef) (a' := ?_) #[true, true, true, true, true, true, true, true, true, true, false, false, false, false, false, false, false, false] rfl rfl (any_of HT_.out (by kernel_rfl)) (fun _ _ _ h => h) (Or.inr ⟨by rfl, rfl⟩) ?_ ?_
            rotate_left
            · simp only [Act.put, List.setIfInBounds_toArray, List.set_cons_zero, List.set_cons_succ, i64_w, i32_w]
              rfl
            refine pure_ (i := 10) (N := some 119) (v := undef) (a' := ?_) #[true, true, true, true, true, true, true, true, true, true, true, false, false, false, false, false, false, false] rfl rfl (any_of HT_.out (by kernel_rfl)) (fun _ _ _ h => h) (Or.inr ⟨by rfl, rfl⟩) ?_ ?_
            rotate_left
            · simp only [Act.put, List.setIfInBounds_toArray, List.set_cons_zero, List.set_cons_succ, i64_w, i32_w]
              rfl
            refine pure_ (i := 11) (N := some 120) (v := undef) (a' := ?_) #[true, true, true, true, true, true, true, true, true, true, true, true, false, false, false, false, false, false] rfl rfl (any_of HT_.out (by kernel_rfl)) (fun _ _ _ h => h) (Or.inr ⟨by rfl, rfl⟩) ?_ ?_
            rotate_left
            · simp only [Act.put, List.setIfInBounds_toArray, List.set_cons_zero, List.set_cons_succ, i64_w, i32_w]
              rfl
            refine pure_ (i := 12) (N := some 121) (v := undef) (a' := ?_) #[true, true, true, true, true, true, true, true, true, true, true, true, true, false, false, false, false, false] rfl rfl (any_of HT_.out (by kernel_rfl)) (fun _ _ _ h => h) (Or.inr ⟨by rfl, rfl⟩) ?_ ?_
            rotate_left
            · simp only [Act.put, List.setIfInBounds_toArray, List.set_cons_zero, List.set_cons_succ, i64_w, i32_w]
              rfl
            refine pure_ (i := 13) (N := some 122) (v := undef) (a' := ?_) #[true, true, true, true, true, true, true, true, true, true, true, true, true, true, false, false, false, false] rfl rfl (any_of HT_.out (by kernel_rfl)) (fun _ _ _ h => h) (Or.inr ⟨by rfl, rfl⟩) ?_ ?_
            rotate_left
            · simp only [Act.put, List.setIfInBounds_toArray, List.set_cons_zero, List.set_cons_succ, i64_w, i32_w]
              rfl
            refine pure_ (i := 14) (N := some 123) (v := undef) (a' := ?_) #[true, true, true, true, true, true, true, true, true, true, true, true, true, true, true, false, false, false] rfl rfl (any_of HT_.out (by kernel_rfl)) (fun _ _ _ h => h) (Or.inr ⟨by rfl, rfl⟩) ?_ ?_
            rotate_left
            · simp only [Act.put, List.setIfInBounds_toArray, List.set_cons_zero, List.set_cons_succ, i64_w, i32_w]
              rfl
            refine pure_ (i := 15) (N := some 124) (v := undef) (a' := ?_) #[true, true, true, true, true, true, true, true, true, true, true, true, true, true, true, true, false, false] rfl rfl (any_of HT_.out (by kernel_rfl)) (fun _ _ _ h => h) (Or.inr ⟨by rfl, rfl⟩) ?_ ?_
            rotate_left
            · simp only [Act.put, List.setIfInBounds_toArray, List.set_cons_zero, List.set_cons_succ, i64_w, i32_w]
              rfl
            refine pure_ (i := 16) (N := some 125) (v := ?_) (a' := ?_) #[true, true, true, true, true, true, true, true, true, true, true, true, true, true, true, true, true, false] rfl rfl (any_of HT_.out (by kernel_rfl)) (fun _ _ _ h => h) (Or.inl ⟨by rfl, ?_⟩) ?_ ?_
            rotate_left
            · intro w'
              go_simp
              with_reducible rfl
            rotate_left
            · simp only [Act.put, List.setIfInBounds_toArray, List.set_cons_zero, List.set_cons_succ, i64_w, i32_w]
              rfl
            refine pure_ (i := 17) (N := some 8) (v := ?_) (a' := ?_) #[true, true, true, true, true, true, true, true, true, true, true, true, true, true, true, true, true, true] rfl rfl (any_of HT_.out (by kernel_rfl)) (fun _ _ _ h => h) (Or.inl ⟨by rfl, ?_⟩) ?_ ?_
            rotate_left
            · intro w'
              go_simp
              with_reducible rfl
            rotate_left
            · simp only [Act.put, List.setIfInBounds_toArray, List.set_cons_zero, List.set_cons_succ, i64_w, i32_w]
              rfl
            refine done_ (done_of HT_.out (by kernel_rfl)) ?_
            try go_wp2
            go_ret
            exact ⟨by first | rfl | (simp [errW_none, errW_some] <;> rfl) | (simp [*, errW_none, errW_some] <;> rfl), by repeat (first | (with_reducible first | exact HB.out | apply below_alloc | apply pw_below_drewN | apply below_drew1 | refine below_set ?_ GE558.out | refine below_set ?_ GE559.out | refine below_set ?_ GE560.out | refine below_set ?_ GE567.out | refine below_set ?_ GE574.out | refine below_set ?_ GE581.out | refine below_set ?_ GE588.out | refine below_set ?_ GE593.out | refine below_set ?_ GE598.out) | exact HB.out)⟩
        · replace c344 := Bool.eq_false_iff.mpr c344
          subst c344
          have H1 : (some false) = some r := by rw [if_neg (show ¬ (false = true) by decide)] at H; exact H
          clear H
          have H := H1
          clear H1
          obtain rfl := Option.some.inj H
          try go_wp2
          have n0_ := Aside0.mk (blk_drew BK558.out)
          have n1_ := Aside0.mk (blk_drew BK559.out)
          have n2_ := Aside0.mk (blk_drew BK560.out)
          have n3_ := Aside0.mk (blk_drew BK567.out)
          have n4_ := Aside0.mk (blk_drew BK574.out)
          have n5_ := Aside0.mk (blk_drew BK581.out)
          have n6_ := Aside0.mk (blk_drew BK588.out)
          have n7_ := Aside0.mk (blk_drew BK593.out)
          have n8_ := Aside0.mk (blk_drew BK598.out)
          have n9_ := Aside0.mk (below_drew1 HB.out)
          clear BK558
          clear BK559
          clear BK560
          clear BK567
          clear BK574
          clear BK581
          clear BK588
          clear BK593
          clear BK598
          clear HB
          have BK558 := n0_
          have BK559 := n1_
          have BK560 := n2_
          have BK567 := n3_
          have BK574 := n4_
          have BK581 := n5_
          have BK588 := n6_
          have BK593 := n7_
          have BK598 := n8_
          have HB := n9_
          clear n0_ n1_ n2_ n3_ n4_ n5_ n6_ n7_ n8_ n9_
          refine start_ (n := 18) (S := fun w' => True) (ds := []) #[false, false, false, false, false, false, false, false, false, false, false, false, false, false, false, false, false, false] (by kernel_rfl) rfl rfl trivial (fun hHeld => ?_); refine with_tabW whittlelaw3_PlaceAreas.tab11 whittlelaw3_PlaceAreas.bits11 (fun HT_ HW_ => ?_)
          generalize wc.drew = w360 at BK558 BK559 BK560 BK567 BK574 BK581 BK588 BK593 BK598 HB hHeld ⊢
          refine one_ (i := 0) (N := some 109) #[true, false, false, false, false, false, false, false, false, false, false, false, false, false, false, false, false, false] rfl rfl (one_of HT_.out (by kernel_rfl)) (by decide) (fun K hK => ?_)
          refine goes_ Tryd.func16 (by kernel_rfl) rfl #[] (by rfl) rfl rfl (by (try simp only [List.map_toArray, List.map_cons, List.map_nil]); first | done | rfl) ?_
          with_reducible refine (whittlelaw3_able.calls  false _ A343.out).mono ?_
          rintro e w361 ⟨rfl, hb⟩
          refine ⟨_, rfl, ?_⟩
          have n0_ := Aside0.mk (blk_below BK558.out hb)
          have n1_ := Aside0.mk (blk_below BK559.out hb)
          have n2_ := Aside0.mk (blk_below BK560.out hb)
          have n3_ := Aside0.mk (blk_below BK567.out hb)
          have n4_ := Aside0.mk (blk_below BK574.out hb)
          have n5_ := Aside0.mk (blk_below BK581.out hb)
          have n6_ := Aside0.mk (blk_below BK588.out hb)
          have n7_ := Aside0.mk (blk_below BK593.out hb)
          have n8_ := Aside0.mk (blk_below BK598.out hb)
          have n9_ := Aside0.mk (below_step (by repeat first | exact HB.out | refine below_set ?_ GE558.out | refine below_set ?_ GE559.out | refine below_set ?_ GE560.out | refine below_set ?_ GE567.out | refine below_set ?_ GE574.out | refine below_set ?_ GE581.out | refine below_set ?_ GE588.out | refine below_set ?_ GE593.out | refine below_set ?_ GE598.out) hb)
          clear BK558
          clear BK559
          clear BK560
          clear BK567
          clear BK574
          clear BK581
          clear BK588
          clear BK593
          clear BK598
          clear HB
          have BK558 := n0_
          have BK559 := n1_
          have BK560 := n2_
          have BK567 := n3_
          have BK574 := n4_
          have BK581 := n5_
          have BK588 := n6_
          have BK593 := n7_
          have BK598 := n8_
          have HB := n9_
          clear n0_ n1_ n2_ n3_ n4_ n5_ n6_ n7_ n8_ n9_
          (try clear hb)
          (try clear hb2)
          (try clear hk)
          (try clear hi)
          refine hK.out _ _ trivial (fun hHeld => ?_)
          clear hK K
          refine norm_ (a' := ?_) ?_ ?_
          rotate_left
          · show Act.put _ (some 109) _ = _
            simp only [Act.put, List.setIfInBounds_toArray, List.set_cons_zero, List.set_cons_succ, i64_w, i32_w]
            rfl
          refine pure_ (i := 1) (N := some 110) (v := ?_) (a' := ?_) #[true, true, false, false, false, false, false, false, false, false, false, false, false, false, false, false, false, false] rfl rfl (any_of HT_.out (by kernel_rfl)) (fun _ _ _ h => h) (Or.inl ⟨by rfl, ?_⟩) ?_ ?_
          rotate_left
          · intro w'
            go_simp
            with_reducible rfl
          rotate_left
          · simp only [Act.put, List.setIfInBounds_toArray, List.set_cons_zero, List.set_cons_succ, i64_w, i32_w]
            rfl
          refine pure_ (i := 2) (N := some 111) (v := undef) (a' := ?_) #[true, true, true, false, false, false, false, false, false, false, false, false, false, false, false, false, false, false] rfl rfl (any_of HT_.out (by kernel_rfl)) (fun _ _ _ h => h) (Or.inr ⟨by rfl, rfl⟩) ?_ ?_
          rotate_left
          · simp only [Act.put, List.setIfInBounds_toArray, List.set_cons_zero, List.set_cons_succ, i64_w, i32_w]
            rfl
          refine pure_ (i := 3) (N := some 112) (v := undef) (a' := ?_) #[true, true, true, true, false, false, false, false, false, false, false, false, false, false, false, false, false, false] rfl rfl (any_of HT_.out (by kernel_rfl)) (fun _ _ _ h => h) (Or.inr ⟨by rfl, rfl⟩) ?_ ?_
          rotate_left
          · simp only [Act.put, List.setIfInBounds_toArray, List.set_cons_zero, List.set_cons_succ, i64_w, i32_w]
            rfl
          refine pure_ (i := 4) (N := some 113) (v := undef) (a' := ?_) #[true, true, true, true, true, false, false, false, false, false, false, false, false, false, false, false, false, false] rfl rfl (any_of HT_.out (by kernel_rfl)) (fun _ _ _ h => h) (Or.inr ⟨by rfl, rfl⟩) ?_ ?_
          rotate_left
          · simp only [Act.put, List.setIfInBounds_toArray, List.set_cons_zero, List.set_cons_succ, i64_w, i32_w]
            rfl
          refine pure_ (i := 5) (N := some 114) (v := undef) (a' := ?_) #[true, true, true, true, true, true, false, false, false, false, false, false, false, false, false, false, false, false] rfl rfl (any_of HT_.out (by kernel_rfl)) (fun _ _ _ h => h) (Or.inr ⟨by rfl, rfl⟩) ?_ ?_
          rotate_left
          · simp only [Act.put, List.setIfInBounds_toArray, List.set_cons_zero, List.set_cons_succ, i64_w, i32_w]
            rfl
          refine pure_ (i := 6) (N := some 115) (v := undef) (a' := ?_) #[true, true, true, true, true, true, true, false, false, false, false, false, false, false, false, false, false, false] rfl rfl (any_of HT_.out (by kernel_rfl)) (fun _ _ _ h => h) (Or.inr ⟨by rfl, rfl⟩) ?_ ?_
          rotate_left
          · simp only [Act.put, List.setIfInBounds_toArray, List.set_cons_zero, List.set_cons_succ, i64_w, i32_w]
            rfl
          refine pure_ (i := 7) (N := some 116) (v := ?_) (a' := ?_) #[true, true, true, true, true, true, true, true, false, false, false, false, false, false, false, false, false, false] rfl rfl (any_of HT_.out (by kernel_rfl)) (fun _ _ _ h => h) (Or.inl ⟨by rfl, ?_⟩) ?_ ?_
          rotate_left
          · intro w'
            go_simp
            with_reducible rfl
          rotate_left
          · simp only [Act.put, List.setIfInBounds_toArray, List.set_cons_zero, List.set_cons_succ, i64_w, i32_w]
            rfl
          refine pure_ (i := 8) (N := some 117) (v := ?_) (a' := ?_) #[true, true, true, true, true, true, true, true, true, false, false, false, false, false, false, false, false, false] rfl rfl (any_of HT_.out (by kernel_rfl)) (fun _ _ _ h => h) (Or.inl ⟨by rfl, ?_⟩) ?_ ?_
          rotate_left
          · intro w'
            go_simp
            with_reducible rfl
          rotate_left
          · simp only [Act.put, List.setIfInBounds_toArray, List.set_cons_zero, List.set_cons_succ, i64_w, i32_w]
            rfl
          refine pure_ (i := 9) (N := some 118) (v := undef) (a' := ?_) #[true, true, true, true, true, true, true, true, true, true, false, false, false, false, false, false, false, false] rfl rfl (any_of HT_.out (by kernel_rfl)) (fun _ _ _ h => h) (Or.inr ⟨by rfl, rfl⟩) ?_ ?_
          rotate_left
          · simp only [Act.put, List.setIfInBounds_toArray, List.set_cons_zero, List.set_cons_succ, i64_w, i32_w]
            rfl
          refine pure_ (i := 10) (N := some 119) (v := undef) (a' := ?_) #[true, true, true, true, true, true, true, true, true, true, true, false, false, false, false, false, false, false] rfl rfl (any_of HT_.out (by kernel_rfl)) (fun _ _ _ h => h) (Or.inr ⟨by rfl, rfl⟩) ?_ ?_
          rotate_left
          · simp only [Act.put, List.setIfInBounds_toArray, List.set_cons_zero, List.set_cons_succ, i64_w, i32_w]
            rfl
          refine pure_ (i := 11) (N := some 120) (v := undef) (a' := ?_) #[true, true, true, true, true, true, true, true, true, true, true, true, false, false, false, false, false, false] rfl rfl (any_of HT_.out (by kernel_rfl)) (fun _ _ _ h => h) (Or.inr ⟨by rfl, rfl⟩) ?_ ?_
          rotate_left
          · simp only [Act.put, List.setIfInBounds_toArray, List.set_cons_zero, List.set_cons_succ, i64_w, i32_w]
            rfl
          refine pure_ (i := 12) (N := some 121) (v := undef) (a' := ?_) #[true, true, true, true, true, true, true, true, true, true, true, true, true, false, false, false, false, false] rfl rfl (any_of HT_.out (by kernel_rfl)) (fun _ _ _ h => h) (Or.inr ⟨by rfl, rfl⟩) ?_ ?_
          rotate_left
          · simp only [Act.put, List.setIfInBounds_toArray, List.set_cons_zero, List.set_cons_succ, i64_w, i32_w]
            rfl
          refine pure_ (i := 13) (N := some 122) (v := undef) (a' := ?_) #[true, true, true, true, true, true, true, true, true, true, true, true, true, true, false, false, false, false] rfl rfl (any_of HT_.out (by kernel_rfl)) (fun _ _ _ h => h) (Or.inr ⟨by rfl, rfl⟩) ?_ ?_
          rotate_left
          · simp only [Act.put, List.setIfInBounds_toArray, List.set_cons_zero, List.set_cons_succ, i64_w, i32_w]
            rfl
          refine pure_ (i := 14) (N := some 123) (v := undef) (a' := ?_) #[true, true, true, true, true, true, true, true, true, true, true, true, true, true, true, false, false, false] rfl rfl (any_of HT_.out (by kernel_rfl)) (fun _ _ _ h => h) (Or.inr ⟨by rfl, rfl⟩) ?_ ?_
          rotate_left
          · simp only [Act.put, List.setIfInBounds_toArray, List.set_cons_zero, List.set_cons_succ, i64_w, i32_w]
            rfl
          refine pure_ (i := 15) (N := some 124) (v := undef) (a' := ?_) #[true, true, true, true, true, true, true, true, true, true, true, true, true, true, true, true, false, false] rfl rfl (any_of HT_.out (by kernel_rfl)) (fun _ _ _ h => h) (Or.inr ⟨by rfl, rfl⟩) ?_ ?_
          rotate_left
          · simp only [Act.put, List.setIfInBounds_toArray, List.set_cons_zero, List.set_cons_succ, i64_w, i32_w]
            rfl
          refine pure_ (i := 16) (N := some 125) (v := ?_) (a' := ?_) #[true, true, true, true, true, true, true, true, true, true, true, true, true, true, true, true, true, false] rfl rfl (any_of HT_.out (by kernel_rfl)) (fun _ _ _ h => h) (Or.inl ⟨by rfl, ?_⟩) ?_ ?_
          rotate_left
          · intro w'
            go_simp
            with_reducible rfl
          rotate_left
          · simp only [Act.put, List.setIfInBounds_toArray, List.set_cons_zero, List.set_cons_succ, i64_w, i32_w]
            rfl
          refine pure_ (i := 17) (N := some 8) (v := ?_) (a' := ?_) #[true, true, true, true, true, true, true, true, true, true, true, true, true, true, true, true, true, true] rfl rfl (any_of HT_.out (by kernel_rfl)) (fun _ _ _ h => h) (Or.inl ⟨by rfl, ?_⟩) ?_ ?_
          rotate_left
          · intro w'
            go_simp
            with_reducible rfl
          rotate_left
          · simp only [Act.put, List.setIfInBounds_toArray, List.set_cons_zero, List.set_cons_succ, i64_w, i32_w]
            rfl
          refine done_ (done_of HT_.out (by kernel_rfl)) ?_
          try go_wp2
          go_ret
          exact ⟨by first | rfl | (simp [errW_none, errW_some] <;> rfl) | (simp [*, errW_none, errW_some] <;> rfl), by repeat (first | (with_reducible first | exact HB.out | apply below_alloc | apply pw_below_drewN | apply below_drew1 | refine below_set ?_ GE558.out | refine below_set ?_ GE559.out | refine below_set ?_ GE560.out | refine below_set ?_ GE567.out | refine below_set ?_ GE574.out | refine below_set ?_ GE581.out | refine below_set ?_ GE588.out | refine below_set ?_ GE593.out | refine below_set ?_ GE598.out) | exact HB.out)⟩

end Go.Proofs.YtijmipnafhljkaaDoor.P
