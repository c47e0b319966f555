-- Written by a program of this session (it drives the kit's print.py, with the contracts of some functions given by hand). Not trusted: Lean checks it.
import Derived.Test.YtijmipnafhljkaaDoorPx0
import Derived.Test.YtijmipnafhljkaaDoorPx1
import Derived.Test.YtijmipnafhljkaaDoorPx6
import Derived.Test.YtijmipnafhljkaaDoorPx24
import Derived.Test.YtijmipnafhljkaaDoorPx26
import Derived.Test.YtijmipnafhljkaaDoorPx40
import Derived.Test.YtijmipnafhljkaaDoorPx51
import Derived.Test.YtijmipnafhljkaaDoorPx62
import Derived.Test.YtijmipnafhljkaaDoorPx63
namespace Go.Proofs.YtijmipnafhljkaaDoor.P
open Go.RowKit Go.Proofs.YtijmipnafhljkaaDoorW.PrintWords Go.Proofs.YtijmipnafhljkaaDoorW.PrintLast Go.Proofs.YtijmipnafhljkaaDoorW.PrintMore
attribute [local go_sem] max2_int min2_int max_two min_two max_three min_three max_four min_four   -- for this text's walks alone
set_option linter.unusedVariables false
set_option linter.unusedSimpArgs false

attribute [local go_sem high] eqA23
/-! ### whittlelaw3_PlaceCount: function 9 -/
mutual
def whittlelaw3_PlaceCount.j0 : Nat → Int → Bool → Bool → Int → Int → Int → Int → Int → Int → Int → Int → Int → Int → Int → Option (Bool)
  | 0, _, _, _, _, _, _, _, _, _, _, _, _, _, _ => none
  | k + 1, x1, x8, x34, x433000, x433001, x433002, x433003, x433004, x434000, x434001, x434002, x440000, x440001, x440002 => if x34 = true then (some false) else (if x8 = true then ((place_Index.f x433000 x433001 x433002 x433003 x433004 x440000 x440001 x440002).bind fun bt441 => ((place_At.f k x433000 x433001 x433002 x433003 x433004 (wrap64 (x1 + 1))).bind fun bt443 => (if bt441.2 = true then (if bt441.1 = x1 then ((place_Has.f x433000 x433001 x433002 x433003 x433004 x440000 x440001 x440002).bind fun t448 => (if t448 = true then ((place_Right.f x440000 x440001 x440002).bind fun t449 => (if t449 = true then (if bt443.2.2.2 = true then ((place_Before.f x440000 x440001 x440002 bt443.1 bt443.2.1 bt443.2.2.1).bind fun t450 => (if t450 = true then (whittlelaw3_PlaceCount.j1 k x433000 x433001 x433002 x433003 x433004 x434000 x434001 x434002) else (some false))) else (whittlelaw3_PlaceCount.j1 k x433000 x433001 x433002 x433003 x433004 x434000 x434001 x434002)) else (some false))) else (some false))) else (some false)) else (some false)))) else (whittlelaw3_PlaceCount.j1 k x433000 x433001 x433002 x433003 x433004 x434000 x434001 x434002))
def whittlelaw3_PlaceCount.j1 : Nat → Int → Int → Int → Int → Int → Int → Int → Int → Option (Bool)
  | 0, _, _, _, _, _, _, _, _ => none
  | k + 1, x433000, x433001, x433002, x433003, x433004, x434000, x434001, x434002 => (place_Index.f x433000 x433001 x433002 x433003 x433004 x434000 x434001 x434002).bind fun bt451 => ((place_Has.f x433000 x433001 x433002 x433003 x433004 x434000 x434001 x434002).bind fun t453 => (if (bt451.2 != t453) = true then (some false) else (if bt451.2 = true then ((place_At.f k x433000 x433001 x433002 x433003 x433004 bt451.1).bind fun bt454 => (if bt454.2.2.2 = true then (some (bt454.1 == x434000 && (bt454.2.1 == x434001 && (bt454.2.2.1 == x434002)))) else (some false))) else (some (bt451.1 == 0)))))
end
def whittlelaw3_PlaceCount.f (k : Nat) (a0_0 : Int) (a0_1 : Int) (a0_2 : Int) (a0_3 : Int) (a0_4 : Int) (a1 : Int) (a2_0 : Int) (a2_1 : Int) (a2_2 : Int) : Option (Bool) := (whittlelaw3_able.f).bind fun t434 => (if t434 = true then ((place_At.f k a0_0 a0_1 a0_2 a0_3 a0_4 a1).bind fun bt435 => (if a1 ≥ 0 then ((place_Size.f a0_0 a0_1 a0_2 a0_3 a0_4).bind fun t440 => (whittlelaw3_PlaceCount.j0 k a1 bt435.2.2.2 (bt435.2.2.2 != (decide (a1 < t440))) a0_0 a0_1 a0_2 a0_3 a0_4 a2_0 a2_1 a2_2 bt435.1 bt435.2.1 bt435.2.2.1)) else (whittlelaw3_PlaceCount.j0 k a1 bt435.2.2.2 (bt435.2.2.2 != false) a0_0 a0_1 a0_2 a0_3 a0_4 a2_0 a2_1 a2_2 bt435.1 bt435.2.1 bt435.2.2.1))) else (some false))
theorem whittlelaw3_PlaceCount.mono_l : ∀ k, (∀ y0 y1 y2 y3 y4 y5 y6 y7 y8 y9 y10 y11 y12 y13, LeO (whittlelaw3_PlaceCount.j0 k y0 y1 y2 y3 y4 y5 y6 y7 y8 y9 y10 y11 y12 y13) (whittlelaw3_PlaceCount.j0 (k + 1) y0 y1 y2 y3 y4 y5 y6 y7 y8 y9 y10 y11 y12 y13)) ∧ (∀ y0 y1 y2 y3 y4 y5 y6 y7, LeO (whittlelaw3_PlaceCount.j1 k y0 y1 y2 y3 y4 y5 y6 y7) (whittlelaw3_PlaceCount.j1 (k + 1) y0 y1 y2 y3 y4 y5 y6 y7))
  | 0 => ⟨fun _ _ _ _ _ _ _ _ _ _ _ _ _ _ r h => by simp [whittlelaw3_PlaceCount.j0] at h, fun _ _ _ _ _ _ _ _ r h => by simp [whittlelaw3_PlaceCount.j1] at h⟩
  | k + 1 => by
    obtain ⟨ih0, ih1⟩ := whittlelaw3_PlaceCount.mono_l k
    refine ⟨?_, ?_⟩
    · intro y0 y1 y2 y3 y4 y5 y6 y7 y8 y9 y10 y11 y12 y13
      unfold whittlelaw3_PlaceCount.j0
      repeat' first
      | (with_reducible exact ih0 _ _ _ _ _ _ _ _ _ _ _ _ _ _)
      | (with_reducible exact ih1 _ _ _ _ _ _ _ _)
      | (with_reducible exact place_At.mono _ _ _ _ _ _ _)
      | (with_reducible exact LeO.refl _)
      | (with_reducible exact LeO.none _)
      | (with_reducible refine LeO.ite ?_ ?_)
      | (with_reducible refine LeO.bind ?_ (fun _ => ?_))
      | exact ih0 _ _ _ _ _ _ _ _ _ _ _ _ _ _
      | exact ih1 _ _ _ _ _ _ _ _
      | exact place_At.mono _ _ _ _ _ _ _
      | exact LeO.none _
      | refine LeO.ite ?_ ?_
      | refine LeO.bind ?_ (fun _ => ?_)
    · intro y0 y1 y2 y3 y4 y5 y6 y7
      unfold whittlelaw3_PlaceCount.j1
      repeat' first
      | (with_reducible exact ih0 _ _ _ _ _ _ _ _ _ _ _ _ _ _)
      | (with_reducible exact ih1 _ _ _ _ _ _ _ _)
      | (with_reducible exact place_At.mono _ _ _ _ _ _ _)
      | (with_reducible exact LeO.refl _)
      | (with_reducible exact LeO.none _)
      | (with_reducible refine LeO.ite ?_ ?_)
      | (with_reducible refine LeO.bind ?_ (fun _ => ?_))
      | exact ih0 _ _ _ _ _ _ _ _ _ _ _ _ _ _
      | exact ih1 _ _ _ _ _ _ _ _
      | exact place_At.mono _ _ _ _ _ _ _
      | exact LeO.none _
      | refine LeO.ite ?_ ?_
      | refine LeO.bind ?_ (fun _ => ?_)
theorem whittlelaw3_PlaceCount.mono : ∀ a0 a1 a2 a3 a4 a5 a6 a7 a8 k, LeO (whittlelaw3_PlaceCount.f k a0 a1 a2 a3 a4 a5 a6 a7 a8) (whittlelaw3_PlaceCount.f (k + 1) a0 a1 a2 a3 a4 a5 a6 a7 a8) := by
  intro a0 a1 a2 a3 a4 a5 a6 a7 a8 k
  obtain ⟨ih0, ih1⟩ := whittlelaw3_PlaceCount.mono_l k
  unfold whittlelaw3_PlaceCount.f
  repeat' first
      | (with_reducible exact ih0 _ _ _ _ _ _ _ _ _ _ _ _ _ _)
      | (with_reducible exact ih1 _ _ _ _ _ _ _ _)
      | (with_reducible exact place_At.mono _ _ _ _ _ _ _)
      | (with_reducible exact LeO.refl _)
      | (with_reducible exact LeO.none _)
      | (with_reducible refine LeO.ite ?_ ?_)
      | (with_reducible refine LeO.bind ?_ (fun _ => ?_))
      | exact ih0 _ _ _ _ _ _ _ _ _ _ _ _ _ _
      | exact ih1 _ _ _ _ _ _ _ _
      | exact place_At.mono _ _ _ _ _ _ _
      | exact LeO.none _
      | refine LeO.ite ?_ ?_
      | refine LeO.bind ?_ (fun _ => ?_)
set_option maxHeartbeats 8000000 in
set_option maxRecDepth 100000 in
theorem whittlelaw3_PlaceCount.calls (k : Nat) (a0_0 : Int) (a0_1 : Int) (a0_2 : Int) (a0_3 : Int) (a0_4 : Int) (a1 : Int) (a2_0 : Int) (a2_1 : Int) (a2_2 : Int) (r : Bool) (w : World) (h : whittlelaw3_PlaceCount.f k a0_0 a0_1 a0_2 a0_3 a0_4 a1 a2_0 a2_1 a2_2 = some r) :
    Calls Tryd.prog 9 #[.agg #[.int .i64 a0_0, .int .i64 a0_1, .int .i64 a0_2, .int .i64 a0_3, .int .i64 a0_4], .int .i64 a1, .agg #[.int .i64 a2_0, .int .i64 a2_1, .int .i64 a2_2]] w fun e w' => e = .returned (.bool r) ∧ Below w.heap.size w w' := by
  have hu25 := Tryd.underlying25
  have hu23 := Tryd.underlying23
  have HB := Aside0.mk (Below.refl w.heap.size w)
  have H : ((whittlelaw3_able.f).bind fun t434 => (if t434 = true then ((place_At.f k a0_0 a0_1 a0_2 a0_3 a0_4 a1).bind fun bt435 => (if a1 ≥ 0 then ((place_Size.f a0_0 a0_1 a0_2 a0_3 a0_4).bind fun t440 => (whittlelaw3_PlaceCount.j0 k a1 bt435.2.2.2 (bt435.2.2.2 != (decide (a1 < t440))) a0_0 a0_1 a0_2 a0_3 a0_4 a2_0 a2_1 a2_2 bt435.1 bt435.2.1 bt435.2.2.1)) else (whittlelaw3_PlaceCount.j0 k a1 bt435.2.2.2 (bt435.2.2.2 != false) a0_0 a0_1 a0_2 a0_3 a0_4 a2_0 a2_1 a2_2 bt435.1 bt435.2.1 bt435.2.2.1))) else (some false))) = some r := h
  clear h
  replace H := Option.bind_eq_some_iff.mp H
  obtain ⟨t434, A40, H⟩ := H
  replace H : (if t434 = true then ((place_At.f k a0_0 a0_1 a0_2 a0_3 a0_4 a1).bind fun bt435 => (if a1 ≥ 0 then ((place_Size.f a0_0 a0_1 a0_2 a0_3 a0_4).bind fun t440 => (whittlelaw3_PlaceCount.j0 k a1 bt435.2.2.2 (bt435.2.2.2 != (decide (a1 < t440))) a0_0 a0_1 a0_2 a0_3 a0_4 a2_0 a2_1 a2_2 bt435.1 bt435.2.1 bt435.2.2.1)) else (whittlelaw3_PlaceCount.j0 k a1 bt435.2.2.2 (bt435.2.2.2 != false) a0_0 a0_1 a0_2 a0_3 a0_4 a2_0 a2_1 a2_2 bt435.1 bt435.2.1 bt435.2.2.1))) else (some false)) = some r := H
  have A4 := Aside0.mk A40
  clear A40
  by_cases c5 : t434 = true
  · subst c5
    have H1 : ((place_At.f k a0_0 a0_1 a0_2 a0_3 a0_4 a1).bind fun bt435 => (if a1 ≥ 0 then ((place_Size.f a0_0 a0_1 a0_2 a0_3 a0_4).bind fun t440 => (whittlelaw3_PlaceCount.j0 k a1 bt435.2.2.2 (bt435.2.2.2 != (decide (a1 < t440))) a0_0 a0_1 a0_2 a0_3 a0_4 a2_0 a2_1 a2_2 bt435.1 bt435.2.1 bt435.2.2.1)) else (whittlelaw3_PlaceCount.j0 k a1 bt435.2.2.2 (bt435.2.2.2 != false) a0_0 a0_1 a0_2 a0_3 a0_4 a2_0 a2_1 a2_2 bt435.1 bt435.2.1 bt435.2.2.1))) = some r := by rw [if_pos rfl] at H; exact H
    clear H
    have H := H1
    clear H1
    replace H := Option.bind_eq_some_iff.mp H
    obtain ⟨⟨t435, t436, t437, t438⟩, A60, H⟩ := H
    replace H : (if a1 ≥ 0 then ((place_Size.f a0_0 a0_1 a0_2 a0_3 a0_4).bind fun t440 => (whittlelaw3_PlaceCount.j0 k a1 t438 (t438 != (decide (a1 < t440))) a0_0 a0_1 a0_2 a0_3 a0_4 a2_0 a2_1 a2_2 t435 t436 t437)) else (whittlelaw3_PlaceCount.j0 k a1 t438 (t438 != false) a0_0 a0_1 a0_2 a0_3 a0_4 a2_0 a2_1 a2_2 t435 t436 t437)) = some r := H
    have A6 := Aside0.mk A60
    clear A60
    have HC7 := Aside0.mk H
    clear H
    go_enter Tryd.func9, Tryd.ntmps9
    go_upto_region 4 with (first | ((with_reducible refine gate_dst (N := 3) rfl ?_); refine box_event ?hg (N := 3) ?hd (cs := #[.int .i64 a0_0, .int .i64 a0_1, .int .i64 a0_2, .int .i64 a0_3, .int .i64 a0_4]) (t := 25) ?hr ?_; (case hd => rfl); (case hg => rfl); (case hr => first | (go_simp; done) | (go_simp; rfl)); intro gb432 hg w8 hbox hb; have n0_ := Aside0.mk (below_step (by repeat (first | (with_reducible first | exact HB.out | apply below_alloc | apply pw_below_drewN | apply below_drew1) | exact HB.out)) hb); have n1_ := Aside0.mk (hbox); have n2_ := Aside0.mk ((by rw [hg]; exact (below_size (by repeat (first | (with_reducible first | exact HB.out | apply below_alloc | apply pw_below_drewN | apply below_drew1) | exact HB.out))) : w.heap.size ≤ gb432)); have n3_ := Aside0.mk ((by rw [hg]; exact (below_size (by repeat (first | (with_reducible first | exact HB.out | apply below_alloc | apply pw_below_drewN | apply below_drew1) | exact HB.out))) : w.heap.size ≤ gb432)); clear HB; have HB := n0_; have BK432 := n1_; have GW432 := n2_; have GE432 := n3_; clear n0_ n1_ n2_ n3_; clear hb hbox hg) | ((with_reducible refine gate_dst (N := 5) rfl ?_); refine box_event ?hg (N := 5) ?hd (cs := #[.int .i64 a2_0, .int .i64 a2_1, .int .i64 a2_2]) (t := 23) ?hr ?_; (case hd => rfl); (case hg => rfl); (case hr => first | (go_simp; done) | (go_simp; rfl)); intro gb433 hg w9 hbox hb; have n0_ := Aside0.mk (blk_below (g := gb432) (o := .cells #[.int .i64 a0_0, .int .i64 a0_1, .int .i64 a0_2, .int .i64 a0_3, .int .i64 a0_4] 25 (0, 0)) (by (with_reducible repeat (first | refine blk_drewN ?_ _ | refine blk_drew ?_ | refine blk_alloc ?_ _)); exact BK432.out) hb); have n1_ := Aside0.mk (below_step (by repeat (first | (with_reducible first | exact HB.out | apply below_alloc | apply pw_below_drewN | apply below_drew1 | refine below_set ?_ GE432.out) | exact HB.out)) hb); have n2_ := Aside0.mk (hbox); have n3_ := Aside0.mk ((by rw [hg]; exact (below_size (by repeat (first | (with_reducible first | exact HB.out | apply below_alloc | apply pw_below_drewN | apply below_drew1 | refine below_set ?_ GE432.out) | exact HB.out))) : w.heap.size ≤ gb433)); have n4_ := Aside0.mk ((by rw [hg]; exact (below_size (by repeat (first | (with_reducible first | exact HB.out | apply below_alloc | apply pw_below_drewN | apply below_drew1 | refine below_set ?_ GE432.out) | exact HB.out))) : w.heap.size ≤ gb433)); have n5_ := Aside0.mk ((by rw [hg]; exact Nat.ne_of_lt (blk_lt (g := gb432) (o := .cells #[.int .i64 a0_0, .int .i64 a0_1, .int .i64 a0_2, .int .i64 a0_3, .int .i64 a0_4] 25 (0, 0)) (by (with_reducible repeat (first | refine blk_drewN ?_ _ | refine blk_drew ?_ | refine blk_alloc ?_ _)); exact BK432.out)) : gb432 ≠ gb433)); have n6_ := Aside0.mk ((by rw [hg]; exact Nat.ne_of_gt (blk_lt (g := gb432) (o := .cells #[.int .i64 a0_0, .int .i64 a0_1, .int .i64 a0_2, .int .i64 a0_3, .int .i64 a0_4] 25 (0, 0)) (by (with_reducible repeat (first | refine blk_drewN ?_ _ | refine blk_drew ?_ | refine blk_alloc ?_ _)); exact BK432.out)) : gb433 ≠ gb432)); clear BK432; clear HB; have BK432 := n0_; have HB := n1_; have BK433 := n2_; have GW433 := n3_; have GE433 := n4_; have NB432_433 := n5_; have NB433_432 := n6_; clear n0_ n1_ n2_ n3_ n4_ n5_ n6_; clear hb hbox hg) | ((with_reducible refine gate_callee (f := 16) rfl ?_); refine goesL_ (some 17) rfl rfl Tryd.func16 (by kernel_rfl) rfl #[] rfl (by (try simp only [List.map_toArray, List.map_cons, List.map_nil]); first | done | rfl | (simp only [List.length_drop, List.length_take]; rfl)) ?_; (with_reducible refine (whittlelaw3_able.calls  true _ A4.out).mono ?_); rintro e w10 ⟨rfl, hb⟩; refine ⟨_, rfl, ?_⟩; have n0_ := Aside0.mk (blk_below (g := gb432) (o := .cells #[.int .i64 a0_0, .int .i64 a0_1, .int .i64 a0_2, .int .i64 a0_3, .int .i64 a0_4] 25 (0, 0)) (by (with_reducible repeat (first | refine blk_drewN ?_ _ | refine blk_drew ?_ | refine blk_alloc ?_ _)); exact BK432.out) hb); have n1_ := Aside0.mk (blk_below (g := gb433) (o := .cells #[.int .i64 a2_0, .int .i64 a2_1, .int .i64 a2_2] 23 (0, 0)) (by (with_reducible repeat (first | refine blk_drewN ?_ _ | refine blk_drew ?_ | refine blk_alloc ?_ _)); exact BK433.out) hb); have n2_ := Aside0.mk (below_step (by repeat (first | (with_reducible first | exact HB.out | apply below_alloc | apply pw_below_drewN | apply below_drew1 | refine below_set ?_ GE432.out | refine below_set ?_ GE433.out) | exact HB.out)) hb); clear BK432; clear BK433; clear HB; have BK432 := n0_; have BK433 := n1_; have HB := n2_; clear n0_ n1_ n2_; (try clear hb); (try clear hb2); (try clear hk); (try clear hi); have hnb11 := NB432_433.out; have hnc11 := NB433_432.out; have hcz12_0 : w10.cell? ⟨gb432, 0, none⟩ = some (.int .i64 a0_0) := (blk_cell BK432.out 0).trans rfl; have hcz12_1 : w10.cell? ⟨gb432, 1, none⟩ = some (.int .i64 a0_1) := (blk_cell BK432.out 1).trans rfl; have hcz12_2 : w10.cell? ⟨gb432, 2, none⟩ = some (.int .i64 a0_2) := (blk_cell BK432.out 2).trans rfl; have hcz12_3 : w10.cell? ⟨gb432, 3, none⟩ = some (.int .i64 a0_3) := (blk_cell BK432.out 3).trans rfl; have hcz12_4 : w10.cell? ⟨gb432, 4, none⟩ = some (.int .i64 a0_4) := (blk_cell BK432.out 4).trans rfl; have hfz12_0 := blk_frozen BK432.out 0; have hfz12_1 := blk_frozen BK432.out 1; have hfz12_2 := blk_frozen BK432.out 2; have hfz12_3 := blk_frozen BK432.out 3; have hfz12_4 := blk_frozen BK432.out 4) | ((with_reducible refine gate_callee (f := 35) rfl ?_); refine goesL_ (some 22) rfl rfl Tryd.func35 (by kernel_rfl) rfl #[.agg #[.int .i64 a0_0, .int .i64 a0_1, .int .i64 a0_2, .int .i64 a0_3, .int .i64 a0_4], .int .i64 a1] rfl (by (try simp only [List.map_toArray, List.map_cons, List.map_nil]); first | done | rfl | (simp only [List.length_drop, List.length_take]; rfl)) ?_; (with_reducible refine (place_At.calls k a0_0 a0_1 a0_2 a0_3 a0_4 a1 t435 t436 t437 t438 _ A6.out).mono ?_); rintro e w13 ⟨rfl, hb⟩; refine ⟨_, rfl, ?_⟩; have n0_ := Aside0.mk (blk_below (g := gb432) (o := .cells #[.int .i64 a0_0, .int .i64 a0_1, .int .i64 a0_2, .int .i64 a0_3, .int .i64 a0_4] 25 (0, 0)) (by (with_reducible repeat (first | refine blk_drewN ?_ _ | refine blk_drew ?_ | refine blk_alloc ?_ _)); exact BK432.out) hb); have n1_ := Aside0.mk (blk_below (g := gb433) (o := .cells #[.int .i64 a2_0, .int .i64 a2_1, .int .i64 a2_2] 23 (0, 0)) (by (with_reducible repeat (first | refine blk_drewN ?_ _ | refine blk_drew ?_ | refine blk_alloc ?_ _)); exact BK433.out) hb); have n2_ := Aside0.mk (below_step (by repeat (first | (with_reducible first | exact HB.out | apply below_alloc | apply pw_below_drewN | apply below_drew1 | refine below_set ?_ GE432.out | refine below_set ?_ GE433.out) | exact HB.out)) hb); clear BK432; clear BK433; clear HB; have BK432 := n0_; have BK433 := n1_; have HB := n2_; clear n0_ n1_ n2_; (try clear hb); (try clear hb2); (try clear hk); (try clear hi)) | ((with_reducible refine gate_dst (N := 7) rfl ?_); refine box_event ?hg (N := 7) ?hd (cs := #[.int .i64 0, .int .i64 0, .int .i64 0]) (t := 23) ?hr ?_; (case hd => rfl); (case hg => rfl); (case hr => first | (go_simp; done) | (go_simp; rfl)); intro gb439 hg w14 hbox hb; have n0_ := Aside0.mk (blk_below (g := gb432) (o := .cells #[.int .i64 a0_0, .int .i64 a0_1, .int .i64 a0_2, .int .i64 a0_3, .int .i64 a0_4] 25 (0, 0)) (by (with_reducible repeat (first | refine blk_drewN ?_ _ | refine blk_drew ?_ | refine blk_alloc ?_ _)); exact BK432.out) hb); have n1_ := Aside0.mk (blk_below (g := gb433) (o := .cells #[.int .i64 a2_0, .int .i64 a2_1, .int .i64 a2_2] 23 (0, 0)) (by (with_reducible repeat (first | refine blk_drewN ?_ _ | refine blk_drew ?_ | refine blk_alloc ?_ _)); exact BK433.out) hb); have n2_ := Aside0.mk (below_step (by repeat (first | (with_reducible first | exact HB.out | apply below_alloc | apply pw_below_drewN | apply below_drew1 | refine below_set ?_ GE432.out | refine below_set ?_ GE433.out) | exact HB.out)) hb); have n3_ := Aside0.mk (hbox); have n4_ := Aside0.mk ((by rw [hg]; exact (below_size (by repeat (first | (with_reducible first | exact HB.out | apply below_alloc | apply pw_below_drewN | apply below_drew1 | refine below_set ?_ GE432.out | refine below_set ?_ GE433.out) | exact HB.out))) : w.heap.size ≤ gb439)); have n5_ := Aside0.mk ((by rw [hg]; exact (below_size (by repeat (first | (with_reducible first | exact HB.out | apply below_alloc | apply pw_below_drewN | apply below_drew1 | refine below_set ?_ GE432.out | refine below_set ?_ GE433.out) | exact HB.out))) : w.heap.size ≤ gb439)); have n6_ := Aside0.mk ((by rw [hg]; exact Nat.ne_of_lt (blk_lt (g := gb432) (o := .cells #[.int .i64 a0_0, .int .i64 a0_1, .int .i64 a0_2, .int .i64 a0_3, .int .i64 a0_4] 25 (0, 0)) (by (with_reducible repeat (first | refine blk_drewN ?_ _ | refine blk_drew ?_ | refine blk_alloc ?_ _)); exact BK432.out)) : gb432 ≠ gb439)); have n7_ := Aside0.mk ((by rw [hg]; exact Nat.ne_of_gt (blk_lt (g := gb432) (o := .cells #[.int .i64 a0_0, .int .i64 a0_1, .int .i64 a0_2, .int .i64 a0_3, .int .i64 a0_4] 25 (0, 0)) (by (with_reducible repeat (first | refine blk_drewN ?_ _ | refine blk_drew ?_ | refine blk_alloc ?_ _)); exact BK432.out)) : gb439 ≠ gb432)); have n8_ := Aside0.mk ((by rw [hg]; exact Nat.ne_of_lt (blk_lt (g := gb433) (o := .cells #[.int .i64 a2_0, .int .i64 a2_1, .int .i64 a2_2] 23 (0, 0)) (by (with_reducible repeat (first | refine blk_drewN ?_ _ | refine blk_drew ?_ | refine blk_alloc ?_ _)); exact BK433.out)) : gb433 ≠ gb439)); have n9_ := Aside0.mk ((by rw [hg]; exact Nat.ne_of_gt (blk_lt (g := gb433) (o := .cells #[.int .i64 a2_0, .int .i64 a2_1, .int .i64 a2_2] 23 (0, 0)) (by (with_reducible repeat (first | refine blk_drewN ?_ _ | refine blk_drew ?_ | refine blk_alloc ?_ _)); exact BK433.out)) : gb439 ≠ gb433)); clear BK432; clear BK433; clear HB; have BK432 := n0_; have BK433 := n1_; have HB := n2_; have BK439 := n3_; have GW439 := n4_; have GE439 := n5_; have NB432_439 := n6_; have NB439_432 := n7_; have NB433_439 := n8_; have NB439_433 := n9_; clear n0_ n1_ n2_ n3_ n4_ n5_ n6_ n7_ n8_ n9_; clear hb hbox hg; have hnb15 := NB439_432.out; have hnc15 := NB432_439.out; have hnb16 := NB439_433.out; have hnc16 := NB433_439.out; have hcz17_0 : w14.cell? ⟨gb439, 0, none⟩ = some (.int .i64 0) := (blk_cell BK439.out 0).trans rfl; have hcz17_1 : w14.cell? ⟨gb439, 1, none⟩ = some (.int .i64 0) := (blk_cell BK439.out 1).trans rfl; have hcz17_2 : w14.cell? ⟨gb439, 2, none⟩ = some (.int .i64 0) := (blk_cell BK439.out 2).trans rfl; have hfz17_0 := blk_frozen BK439.out 0; have hfz17_1 := blk_frozen BK439.out 1; have hfz17_2 := blk_frozen BK439.out 2))
    (try simp only [Act.put, List.setIfInBounds_toArray, List.set_cons_zero, List.set_cons_succ])
    go_cut [34] (fun v34 wc => ∃ (kq : Nat) (x34_6 : Bool), v34 = .bool x34_6 ∧ Aside0 (whittlelaw3_PlaceCount.j0 kq a1 t438 x34_6 a0_0 a0_1 a0_2 a0_3 a0_4 a2_0 a2_1 a2_2 t435 t436 t437 = some r) ∧ Aside0 (kq ≤ k) ∧ Aside0 (wc.heap[gb432]? = some (.cells #[.int .i64 a0_0, .int .i64 a0_1, .int .i64 a0_2, .int .i64 a0_3, .int .i64 a0_4] 25 (0, 0))) ∧ Aside0 (wc.heap[gb433]? = some (.cells #[.int .i64 a2_0, .int .i64 a2_1, .int .i64 a2_2] 23 (0, 0))) ∧ Aside0 (wc.heap[gb439]? = some (.cells #[.int .i64 t435, .int .i64 t436, .int .i64 t437] 23 (0, 0))) ∧ Aside0 (Below w.heap.size w wc))
    case first =>
      have H := HC7.out
      clear HC7
      by_cases c18 : a1 ≥ 0
      · rw [if_pos c18] at H
        have c18b0 : decide (0 ≤ a1) = true := decide_eq_true c18
        clear c18
        (first | rw [c18b0] | (simp only [i64_w, i32_w]; rw [c18b0]) | skip)
        replace H := Option.bind_eq_some_iff.mp H
        obtain ⟨t440, A190, H⟩ := H
        replace H : (whittlelaw3_PlaceCount.j0 k a1 t438 (t438 != (decide (a1 < t440))) a0_0 a0_1 a0_2 a0_3 a0_4 a2_0 a2_1 a2_2 t435 t436 t437) = some r := H
        have A19 := Aside0.mk A190
        clear A190
        have H' := Aside0.mk H
        clear H
        have hnb20 := NB432_433.out
        have hnc20 := NB433_432.out
        have hnb21 := NB432_439.out
        have hnc21 := NB439_432.out
        have hcz22_0 : w14.cell? ⟨gb432, 0, none⟩ = some (.int .i64 a0_0) := (blk_cell BK432.out 0).trans rfl
        have hcz22_1 : w14.cell? ⟨gb432, 1, none⟩ = some (.int .i64 a0_1) := (blk_cell BK432.out 1).trans rfl
        have hcz22_2 : w14.cell? ⟨gb432, 2, none⟩ = some (.int .i64 a0_2) := (blk_cell BK432.out 2).trans rfl
        have hcz22_3 : w14.cell? ⟨gb432, 3, none⟩ = some (.int .i64 a0_3) := (blk_cell BK432.out 3).trans rfl
        have hcz22_4 : w14.cell? ⟨gb432, 4, none⟩ = some (.int .i64 a0_4) := (blk_cell BK432.out 4).trans rfl
        have hfz22_0 := blk_frozen BK432.out 0
        have hfz22_1 := blk_frozen BK432.out 1
        have hfz22_2 := blk_frozen BK432.out 2
        have hfz22_3 := blk_frozen BK432.out 3
        have hfz22_4 := blk_frozen BK432.out 4
        go_wp2_with (first | (go_at_call 36; (with_reducible refine (place_Size.calls a0_0 a0_1 a0_2 a0_3 a0_4 t440 _ A19.out).mono ?_); rintro e w23 ⟨rfl, hb⟩; have n0_ := Aside0.mk (blk_below (g := gb432) (o := .cells #[.int .i64 a0_0, .int .i64 a0_1, .int .i64 a0_2, .int .i64 a0_3, .int .i64 a0_4] 25 (0, 0)) (by (with_reducible repeat (first | refine blk_drewN ?_ _ | refine blk_drew ?_ | refine blk_alloc ?_ _)); refine blk_far ?_ NB432_439.out _; (with_reducible repeat (first | refine blk_drewN ?_ _ | refine blk_drew ?_ | refine blk_alloc ?_ _)); refine blk_far ?_ NB432_439.out _; (with_reducible repeat (first | refine blk_drewN ?_ _ | refine blk_drew ?_ | refine blk_alloc ?_ _)); refine blk_far ?_ NB432_439.out _; (with_reducible repeat (first | refine blk_drewN ?_ _ | refine blk_drew ?_ | refine blk_alloc ?_ _)); exact BK432.out) hb); have n1_ := Aside0.mk (blk_below (g := gb433) (o := .cells #[.int .i64 a2_0, .int .i64 a2_1, .int .i64 a2_2] 23 (0, 0)) (by (with_reducible repeat (first | refine blk_drewN ?_ _ | refine blk_drew ?_ | refine blk_alloc ?_ _)); refine blk_far ?_ NB433_439.out _; (with_reducible repeat (first | refine blk_drewN ?_ _ | refine blk_drew ?_ | refine blk_alloc ?_ _)); refine blk_far ?_ NB433_439.out _; (with_reducible repeat (first | refine blk_drewN ?_ _ | refine blk_drew ?_ | refine blk_alloc ?_ _)); refine blk_far ?_ NB433_439.out _; (with_reducible repeat (first | refine blk_drewN ?_ _ | refine blk_drew ?_ | refine blk_alloc ?_ _)); exact BK433.out) hb); have n2_ := Aside0.mk (blk_below (g := gb439) (o := .cells #[.int .i64 t435, .int .i64 t436, .int .i64 t437] 23 (0, 0)) (by (with_reducible repeat (first | refine blk_drewN ?_ _ | refine blk_drew ?_ | refine blk_alloc ?_ _)); refine blk_put (cs := #[.int .i64 t435, .int .i64 t436, .int .i64 0]) ?_ 2 _ rfl; (with_reducible repeat (first | refine blk_drewN ?_ _ | refine blk_drew ?_ | refine blk_alloc ?_ _)); refine blk_put (cs := #[.int .i64 t435, .int .i64 0, .int .i64 0]) ?_ 1 _ rfl; (with_reducible repeat (first | refine blk_drewN ?_ _ | refine blk_drew ?_ | refine blk_alloc ?_ _)); refine blk_put (cs := #[.int .i64 0, .int .i64 0, .int .i64 0]) ?_ 0 _ rfl; (with_reducible repeat (first | refine blk_drewN ?_ _ | refine blk_drew ?_ | refine blk_alloc ?_ _)); exact BK439.out) hb); have n3_ := Aside0.mk (below_step (by repeat (first | (with_reducible first | exact HB.out | apply below_alloc | apply pw_below_drewN | apply below_drew1 | refine below_set ?_ GE432.out | refine below_set ?_ GE433.out | refine below_set ?_ GE439.out) | exact HB.out)) hb); clear BK432; clear BK433; clear BK439; clear HB; have BK432 := n0_; have BK433 := n1_; have BK439 := n2_; have HB := n3_; clear n0_ n1_ n2_ n3_; (try clear hb); (try clear hb2); (try clear hk); (try clear hi)))
        go_meet
        case rel => exact ⟨_, ((t438 != (decide (a1 < t440)))), (by first | rfl | (simp; done) | (simp [*]; done)), H', ⟨by first | omega | exact Nat.le_refl _⟩, ⟨by (with_reducible repeat (first | refine blk_drewN ?_ _ | refine blk_drew ?_ | refine blk_alloc ?_ _)); exact BK432.out⟩, ⟨by (with_reducible repeat (first | refine blk_drewN ?_ _ | refine blk_drew ?_ | refine blk_alloc ?_ _)); exact BK433.out⟩, ⟨by (with_reducible repeat (first | refine blk_drewN ?_ _ | refine blk_drew ?_ | refine blk_alloc ?_ _)); exact BK439.out⟩, ⟨by repeat (first | (with_reducible first | exact HB.out | apply below_alloc | apply pw_below_drewN | apply below_drew1 | refine below_set ?_ GE432.out | refine below_set ?_ GE433.out | refine below_set ?_ GE439.out) | exact HB.out)⟩⟩
      · rw [if_neg c18] at H
        have c18b0 : decide (0 ≤ a1) = false := decide_eq_false c18
        clear c18
        (first | rw [c18b0] | (simp only [i64_w, i32_w]; rw [c18b0]) | skip)
        have H' := Aside0.mk H
        clear H
        go_wp2
        go_meet
        case rel => exact ⟨_, ((t438 != false)), (by first | rfl | (simp; done) | (simp [*]; done)), H', ⟨by first | omega | exact Nat.le_refl _⟩, ⟨by (with_reducible repeat (first | refine blk_drewN ?_ _ | refine blk_drew ?_ | refine blk_alloc ?_ _)); refine blk_far ?_ NB432_439.out _; (with_reducible repeat (first | refine blk_drewN ?_ _ | refine blk_drew ?_ | refine blk_alloc ?_ _)); refine blk_far ?_ NB432_439.out _; (with_reducible repeat (first | refine blk_drewN ?_ _ | refine blk_drew ?_ | refine blk_alloc ?_ _)); refine blk_far ?_ NB432_439.out _; (with_reducible repeat (first | refine blk_drewN ?_ _ | refine blk_drew ?_ | refine blk_alloc ?_ _)); exact BK432.out⟩, ⟨by (with_reducible repeat (first | refine blk_drewN ?_ _ | refine blk_drew ?_ | refine blk_alloc ?_ _)); refine blk_far ?_ NB433_439.out _; (with_reducible repeat (first | refine blk_drewN ?_ _ | refine blk_drew ?_ | refine blk_alloc ?_ _)); refine blk_far ?_ NB433_439.out _; (with_reducible repeat (first | refine blk_drewN ?_ _ | refine blk_drew ?_ | refine blk_alloc ?_ _)); refine blk_far ?_ NB433_439.out _; (with_reducible repeat (first | refine blk_drewN ?_ _ | refine blk_drew ?_ | refine blk_alloc ?_ _)); exact BK433.out⟩, ⟨by (with_reducible repeat (first | refine blk_drewN ?_ _ | refine blk_drew ?_ | refine blk_alloc ?_ _)); refine blk_put (cs := #[.int .i64 t435, .int .i64 t436, .int .i64 0]) ?_ 2 _ rfl; (with_reducible repeat (first | refine blk_drewN ?_ _ | refine blk_drew ?_ | refine blk_alloc ?_ _)); refine blk_put (cs := #[.int .i64 t435, .int .i64 0, .int .i64 0]) ?_ 1 _ rfl; (with_reducible repeat (first | refine blk_drewN ?_ _ | refine blk_drew ?_ | refine blk_alloc ?_ _)); refine blk_put (cs := #[.int .i64 0, .int .i64 0, .int .i64 0]) ?_ 0 _ rfl; (with_reducible repeat (first | refine blk_drewN ?_ _ | refine blk_drew ?_ | refine blk_alloc ?_ _)); exact BK439.out⟩, ⟨by repeat (first | (with_reducible first | exact HB.out | apply below_alloc | apply pw_below_drewN | apply below_drew1 | refine below_set ?_ GE432.out | refine below_set ?_ GE433.out | refine below_set ?_ GE439.out) | exact HB.out)⟩⟩
    case rest =>
      clear HC7
      try clear c1
      try clear c2
      try clear p2
      try clear c3
      try clear c5
      try clear c9
      try clear c11
      try clear c15
      try clear c16
      try clear c18
      try clear c18b0
      try clear c20
      try clear c21
      try clear hcz12_0
      try clear hcz12_1
      try clear hcz12_2
      try clear hcz12_3
      try clear hcz12_4
      try clear hcz17_0
      try clear hcz17_1
      try clear hcz17_2
      try clear hcz22_0
      try clear hcz22_1
      try clear hcz22_2
      try clear hcz22_3
      try clear hcz22_4
      try clear hfz12_0
      try clear hfz12_1
      try clear hfz12_2
      try clear hfz12_3
      try clear hfz12_4
      try clear hfz17_0
      try clear hfz17_1
      try clear hfz17_2
      try clear hfz22_0
      try clear hfz22_1
      try clear hfz22_2
      try clear hfz22_3
      try clear hfz22_4
      obtain ⟨kq, x34_6, rfl, HA, HJ6, BK432, BK433, BK439, HB⟩ := hcut
      cases kq with
      | zero => exact absurd HA.out (by simp [whittlelaw3_PlaceCount.j0])
      | succ kj6 =>
        have H := HA.out
        clear HA
        simp only [whittlelaw3_PlaceCount.j0] at H
        by_cases c24 : x34_6 = true
        · subst c24
          have H1 : (some false) = some r := by rw [if_pos rfl] at H; exact H
          clear H
          have H := H1
          clear H1
          obtain rfl := Option.some.inj H
          go_wp2
          go_ret
          exact ⟨by first | rfl | (simp [errW_none, errW_some] <;> rfl) | (simp [*, errW_none, errW_some] <;> rfl), by repeat (first | (with_reducible first | exact HB.out | apply below_alloc | apply pw_below_drewN | apply below_drew1 | refine below_set ?_ GE432.out | refine below_set ?_ GE433.out | refine below_set ?_ GE439.out) | exact HB.out)⟩
        · replace c24 := Bool.eq_false_iff.mpr c24
          subst c24
          have H1 : (if t438 = true then ((place_Index.f a0_0 a0_1 a0_2 a0_3 a0_4 t435 t436 t437).bind fun bt441 => ((place_At.f kj6 a0_0 a0_1 a0_2 a0_3 a0_4 (wrap64 (a1 + 1))).bind fun bt443 => (if bt441.2 = true then (if bt441.1 = a1 then ((place_Has.f a0_0 a0_1 a0_2 a0_3 a0_4 t435 t436 t437).bind fun t448 => (if t448 = true then ((place_Right.f t435 t436 t437).bind fun t449 => (if t449 = true then (if bt443.2.2.2 = true then ((place_Before.f t435 t436 t437 bt443.1 bt443.2.1 bt443.2.2.1).bind fun t450 => (if t450 = true then (whittlelaw3_PlaceCount.j1 kj6 a0_0 a0_1 a0_2 a0_3 a0_4 a2_0 a2_1 a2_2) else (some false))) else (whittlelaw3_PlaceCount.j1 kj6 a0_0 a0_1 a0_2 a0_3 a0_4 a2_0 a2_1 a2_2)) else (some false))) else (some false))) else (some false)) else (some false)))) else (whittlelaw3_PlaceCount.j1 kj6 a0_0 a0_1 a0_2 a0_3 a0_4 a2_0 a2_1 a2_2)) = some r := by rw [if_neg (show ¬ (false = true) by decide)] at H; exact H
          clear H
          have H := H1
          clear H1
          have HC25 := Aside0.mk H
          clear H
          go_upto_if 35 with (fail)
          go_cut [] (fun wc => ∃ (kq : Nat), Aside0 (whittlelaw3_PlaceCount.j1 kq a0_0 a0_1 a0_2 a0_3 a0_4 a2_0 a2_1 a2_2 = some r) ∧ Aside0 (kq ≤ kj6) ∧ Aside0 (wc.heap[gb432]? = some (.cells #[.int .i64 a0_0, .int .i64 a0_1, .int .i64 a0_2, .int .i64 a0_3, .int .i64 a0_4] 25 (0, 0))) ∧ Aside0 (wc.heap[gb433]? = some (.cells #[.int .i64 a2_0, .int .i64 a2_1, .int .i64 a2_2] 23 (0, 0))) ∧ Aside0 (wc.heap[gb439]? = some (.cells #[.int .i64 t435, .int .i64 t436, .int .i64 t437] 23 (0, 0))) ∧ Aside0 (Below w.heap.size w wc))
          case first =>
            have H := HC25.out
            clear HC25
            by_cases c26 : t438 = true
            · subst c26
              have H1 : ((place_Index.f a0_0 a0_1 a0_2 a0_3 a0_4 t435 t436 t437).bind fun bt441 => ((place_At.f kj6 a0_0 a0_1 a0_2 a0_3 a0_4 (wrap64 (a1 + 1))).bind fun bt443 => (if bt441.2 = true then (if bt441.1 = a1 then ((place_Has.f a0_0 a0_1 a0_2 a0_3 a0_4 t435 t436 t437).bind fun t448 => (if t448 = true then ((place_Right.f t435 t436 t437).bind fun t449 => (if t449 = true then (if bt443.2.2.2 = true then ((place_Before.f t435 t436 t437 bt443.1 bt443.2.1 bt443.2.2.1).bind fun t450 => (if t450 = true then (whittlelaw3_PlaceCount.j1 kj6 a0_0 a0_1 a0_2 a0_3 a0_4 a2_0 a2_1 a2_2) else (some false))) else (whittlelaw3_PlaceCount.j1 kj6 a0_0 a0_1 a0_2 a0_3 a0_4 a2_0 a2_1 a2_2)) else (some false))) else (some false))) else (some false)) else (some false)))) = some r := by rw [if_pos rfl] at H; exact H
              clear H
              have H := H1
              clear H1
              replace H := Option.bind_eq_some_iff.mp H
              obtain ⟨⟨t441, t442⟩, A270, H⟩ := H
              replace H : ((place_At.f kj6 a0_0 a0_1 a0_2 a0_3 a0_4 (wrap64 (a1 + 1))).bind fun bt443 => (if t442 = true then (if t441 = a1 then ((place_Has.f a0_0 a0_1 a0_2 a0_3 a0_4 t435 t436 t437).bind fun t448 => (if t448 = true then ((place_Right.f t435 t436 t437).bind fun t449 => (if t449 = true then (if bt443.2.2.2 = true then ((place_Before.f t435 t436 t437 bt443.1 bt443.2.1 bt443.2.2.1).bind fun t450 => (if t450 = true then (whittlelaw3_PlaceCount.j1 kj6 a0_0 a0_1 a0_2 a0_3 a0_4 a2_0 a2_1 a2_2) else (some false))) else (whittlelaw3_PlaceCount.j1 kj6 a0_0 a0_1 a0_2 a0_3 a0_4 a2_0 a2_1 a2_2)) else (some false))) else (some false))) else (some false)) else (some false))) = some r := H
              have A27 := Aside0.mk A270
              clear A270
              replace H := Option.bind_eq_some_iff.mp H
              obtain ⟨⟨t443, t444, t445, t446⟩, A280, H⟩ := H
              replace H : (if t442 = true then (if t441 = a1 then ((place_Has.f a0_0 a0_1 a0_2 a0_3 a0_4 t435 t436 t437).bind fun t448 => (if t448 = true then ((place_Right.f t435 t436 t437).bind fun t449 => (if t449 = true then (if t446 = true then ((place_Before.f t435 t436 t437 t443 t444 t445).bind fun t450 => (if t450 = true then (whittlelaw3_PlaceCount.j1 kj6 a0_0 a0_1 a0_2 a0_3 a0_4 a2_0 a2_1 a2_2) else (some false))) else (whittlelaw3_PlaceCount.j1 kj6 a0_0 a0_1 a0_2 a0_3 a0_4 a2_0 a2_1 a2_2)) else (some false))) else (some false))) else (some false)) else (some false)) = some r := H
              have A28 := Aside0.mk A280
              clear A280
              by_cases c29 : t442 = true
              · subst c29
                have H1 : (if t441 = a1 then ((place_Has.f a0_0 a0_1 a0_2 a0_3 a0_4 t435 t436 t437).bind fun t448 => (if t448 = true then ((place_Right.f t435 t436 t437).bind fun t449 => (if t449 = true then (if t446 = true then ((place_Before.f t435 t436 t437 t443 t444 t445).bind fun t450 => (if t450 = true then (whittlelaw3_PlaceCount.j1 kj6 a0_0 a0_1 a0_2 a0_3 a0_4 a2_0 a2_1 a2_2) else (some false))) else (whittlelaw3_PlaceCount.j1 kj6 a0_0 a0_1 a0_2 a0_3 a0_4 a2_0 a2_1 a2_2)) else (some false))) else (some false))) else (some false)) = some r := by rw [if_pos rfl] at H; exact H
                clear H
                have H := H1
                clear H1
                by_cases c30 : t441 = a1
                · rw [if_pos c30] at H
                  have c30b0 : (t441 == a1) = true := beq_iff_eq.mpr c30
                  have c30b1 : (t441 != a1) = false := bne_eq_false_iff_eq.mpr c30
                  clear c30
                  (first | rw [c30b0] | (simp only [i64_w, i32_w]; rw [c30b0]) | skip)
                  replace H := Option.bind_eq_some_iff.mp H
                  obtain ⟨t448, A310, H⟩ := H
                  replace H : (if t448 = true then ((place_Right.f t435 t436 t437).bind fun t449 => (if t449 = true then (if t446 = true then ((place_Before.f t435 t436 t437 t443 t444 t445).bind fun t450 => (if t450 = true then (whittlelaw3_PlaceCount.j1 kj6 a0_0 a0_1 a0_2 a0_3 a0_4 a2_0 a2_1 a2_2) else (some false))) else (whittlelaw3_PlaceCount.j1 kj6 a0_0 a0_1 a0_2 a0_3 a0_4 a2_0 a2_1 a2_2)) else (some false))) else (some false)) = some r := H
                  have A31 := Aside0.mk A310
                  clear A310
                  by_cases c32 : t448 = true
                  · subst c32
                    have H1 : ((place_Right.f t435 t436 t437).bind fun t449 => (if t449 = true then (if t446 = true then ((place_Before.f t435 t436 t437 t443 t444 t445).bind fun t450 => (if t450 = true then (whittlelaw3_PlaceCount.j1 kj6 a0_0 a0_1 a0_2 a0_3 a0_4 a2_0 a2_1 a2_2) else (some false))) else (whittlelaw3_PlaceCount.j1 kj6 a0_0 a0_1 a0_2 a0_3 a0_4 a2_0 a2_1 a2_2)) else (some false))) = some r := by rw [if_pos rfl] at H; exact H
                    clear H
                    have H := H1
                    clear H1
                    replace H := Option.bind_eq_some_iff.mp H
                    obtain ⟨t449, A330, H⟩ := H
                    replace H : (if t449 = true then (if t446 = true then ((place_Before.f t435 t436 t437 t443 t444 t445).bind fun t450 => (if t450 = true then (whittlelaw3_PlaceCount.j1 kj6 a0_0 a0_1 a0_2 a0_3 a0_4 a2_0 a2_1 a2_2) else (some false))) else (whittlelaw3_PlaceCount.j1 kj6 a0_0 a0_1 a0_2 a0_3 a0_4 a2_0 a2_1 a2_2)) else (some false)) = some r := H
                    have A33 := Aside0.mk A330
                    clear A330
                    by_cases c34 : t449 = true
                    · subst c34
                      have H1 : (if t446 = true then ((place_Before.f t435 t436 t437 t443 t444 t445).bind fun t450 => (if t450 = true then (whittlelaw3_PlaceCount.j1 kj6 a0_0 a0_1 a0_2 a0_3 a0_4 a2_0 a2_1 a2_2) else (some false))) else (whittlelaw3_PlaceCount.j1 kj6 a0_0 a0_1 a0_2 a0_3 a0_4 a2_0 a2_1 a2_2)) = some r := by rw [if_pos rfl] at H; exact H
                      clear H
                      have H := H1
                      clear H1
                      by_cases c35 : t446 = true
                      · subst c35
                        have H1 : ((place_Before.f t435 t436 t437 t443 t444 t445).bind fun t450 => (if t450 = true then (whittlelaw3_PlaceCount.j1 kj6 a0_0 a0_1 a0_2 a0_3 a0_4 a2_0 a2_1 a2_2) else (some false))) = some r := by rw [if_pos rfl] at H; exact H
                        clear H
                        have H := H1
                        clear H1
                        replace H := Option.bind_eq_some_iff.mp H
                        obtain ⟨t450, A360, H⟩ := H
                        replace H : (if t450 = true then (whittlelaw3_PlaceCount.j1 kj6 a0_0 a0_1 a0_2 a0_3 a0_4 a2_0 a2_1 a2_2) else (some false)) = some r := H
                        have A36 := Aside0.mk A360
                        clear A360
                        by_cases c37 : t450 = true
                        · subst c37
                          have H1 : (whittlelaw3_PlaceCount.j1 kj6 a0_0 a0_1 a0_2 a0_3 a0_4 a2_0 a2_1 a2_2) = some r := by rw [if_pos rfl] at H; exact H
                          clear H
                          have H := H1
                          clear H1
                          have H' := Aside0.mk H
                          clear H
                          have hnb38 := NB432_433.out
                          have hnc38 := NB433_432.out
                          have hnb39 := NB432_439.out
                          have hnc39 := NB439_432.out
                          have hcz40_0 : wc.cell? ⟨gb432, 0, none⟩ = some (.int .i64 a0_0) := (blk_cell BK432.out 0).trans rfl
                          have hcz40_1 : wc.cell? ⟨gb432, 1, none⟩ = some (.int .i64 a0_1) := (blk_cell BK432.out 1).trans rfl
                          have hcz40_2 : wc.cell? ⟨gb432, 2, none⟩ = some (.int .i64 a0_2) := (blk_cell BK432.out 2).trans rfl
                          have hcz40_3 : wc.cell? ⟨gb432, 3, none⟩ = some (.int .i64 a0_3) := (blk_cell BK432.out 3).trans rfl
                          have hcz40_4 : wc.cell? ⟨gb432, 4, none⟩ = some (.int .i64 a0_4) := (blk_cell BK432.out 4).trans rfl
                          have hfz40_0 := blk_frozen BK432.out 0
                          have hfz40_1 := blk_frozen BK432.out 1
                          have hfz40_2 := blk_frozen BK432.out 2
                          have hfz40_3 := blk_frozen BK432.out 3
                          have hfz40_4 := blk_frozen BK432.out 4
                          have hnb41 := NB439_433.out
                          have hnc41 := NB433_439.out
                          have hcz42_0 : wc.cell? ⟨gb439, 0, none⟩ = some (.int .i64 t435) := (blk_cell BK439.out 0).trans rfl
                          have hcz42_1 : wc.cell? ⟨gb439, 1, none⟩ = some (.int .i64 t436) := (blk_cell BK439.out 1).trans rfl
                          have hcz42_2 : wc.cell? ⟨gb439, 2, none⟩ = some (.int .i64 t437) := (blk_cell BK439.out 2).trans rfl
                          have hfz42_0 := blk_frozen BK439.out 0
                          have hfz42_1 := blk_frozen BK439.out 1
                          have hfz42_2 := blk_frozen BK439.out 2
                          go_wp2_with (first | ((with_reducible refine gate_callee (f := 37) rfl ?_); refine goesL_ (some 39) rfl rfl Tryd.func37 (by kernel_rfl) rfl #[.agg #[.int .i64 a0_0, .int .i64 a0_1, .int .i64 a0_2, .int .i64 a0_3, .int .i64 a0_4], .agg #[.int .i64 t435, .int .i64 t436, .int .i64 t437]] rfl (by (try simp only [List.map_toArray, List.map_cons, List.map_nil]); first | done | rfl | (simp only [List.length_drop, List.length_take]; rfl)) ?_; (with_reducible refine (place_Index.calls a0_0 a0_1 a0_2 a0_3 a0_4 t435 t436 t437 t441 true _ A27.out).mono ?_); rintro e w43 ⟨rfl, hb⟩; refine ⟨_, rfl, ?_⟩; have n0_ := Aside0.mk (blk_below (g := gb432) (o := .cells #[.int .i64 a0_0, .int .i64 a0_1, .int .i64 a0_2, .int .i64 a0_3, .int .i64 a0_4] 25 (0, 0)) (by (with_reducible repeat (first | refine blk_drewN ?_ _ | refine blk_drew ?_ | refine blk_alloc ?_ _)); exact BK432.out) hb); have n1_ := Aside0.mk (blk_below (g := gb433) (o := .cells #[.int .i64 a2_0, .int .i64 a2_1, .int .i64 a2_2] 23 (0, 0)) (by (with_reducible repeat (first | refine blk_drewN ?_ _ | refine blk_drew ?_ | refine blk_alloc ?_ _)); exact BK433.out) hb); have n2_ := Aside0.mk (blk_below (g := gb439) (o := .cells #[.int .i64 t435, .int .i64 t436, .int .i64 t437] 23 (0, 0)) (by (with_reducible repeat (first | refine blk_drewN ?_ _ | refine blk_drew ?_ | refine blk_alloc ?_ _)); exact BK439.out) hb); have n3_ := Aside0.mk (below_step (by repeat (first | (with_reducible first | exact HB.out | apply below_alloc | apply pw_below_drewN | apply below_drew1 | refine below_set ?_ GE432.out | refine below_set ?_ GE433.out | refine below_set ?_ GE439.out) | exact HB.out)) hb); clear BK432; clear BK433; clear BK439; clear HB; have BK432 := n0_; have BK433 := n1_; have BK439 := n2_; have HB := n3_; clear n0_ n1_ n2_ n3_; (try clear hb); (try clear hb2); (try clear hk); (try clear hi); have hcz44_0 : w43.cell? ⟨gb432, 0, none⟩ = some (.int .i64 a0_0) := (blk_cell BK432.out 0).trans rfl; have hcz44_1 : w43.cell? ⟨gb432, 1, none⟩ = some (.int .i64 a0_1) := (blk_cell BK432.out 1).trans rfl; have hcz44_2 : w43.cell? ⟨gb432, 2, none⟩ = some (.int .i64 a0_2) := (blk_cell BK432.out 2).trans rfl; have hcz44_3 : w43.cell? ⟨gb432, 3, none⟩ = some (.int .i64 a0_3) := (blk_cell BK432.out 3).trans rfl; have hcz44_4 : w43.cell? ⟨gb432, 4, none⟩ = some (.int .i64 a0_4) := (blk_cell BK432.out 4).trans rfl; have hfz44_0 := blk_frozen BK432.out 0; have hfz44_1 := blk_frozen BK432.out 1; have hfz44_2 := blk_frozen BK432.out 2; have hfz44_3 := blk_frozen BK432.out 3; have hfz44_4 := blk_frozen BK432.out 4) | ((with_reducible refine gate_callee (f := 35) rfl ?_); refine goesL_ (some 46) rfl rfl Tryd.func35 (by kernel_rfl) rfl #[.agg #[.int .i64 a0_0, .int .i64 a0_1, .int .i64 a0_2, .int .i64 a0_3, .int .i64 a0_4], .int .i64 (wrap64 (a1 + 1))] rfl (by (try simp only [List.map_toArray, List.map_cons, List.map_nil]); first | done | rfl | (simp only [List.length_drop, List.length_take]; rfl)) ?_; (with_reducible refine (place_At.calls kj6 a0_0 a0_1 a0_2 a0_3 a0_4 (wrap64 (a1 + 1)) t443 t444 t445 true _ A28.out).mono ?_); rintro e w45 ⟨rfl, hb⟩; refine ⟨_, rfl, ?_⟩; have n0_ := Aside0.mk (blk_below (g := gb432) (o := .cells #[.int .i64 a0_0, .int .i64 a0_1, .int .i64 a0_2, .int .i64 a0_3, .int .i64 a0_4] 25 (0, 0)) (by (with_reducible repeat (first | refine blk_drewN ?_ _ | refine blk_drew ?_ | refine blk_alloc ?_ _)); exact BK432.out) hb); have n1_ := Aside0.mk (blk_below (g := gb433) (o := .cells #[.int .i64 a2_0, .int .i64 a2_1, .int .i64 a2_2] 23 (0, 0)) (by (with_reducible repeat (first | refine blk_drewN ?_ _ | refine blk_drew ?_ | refine blk_alloc ?_ _)); exact BK433.out) hb); have n2_ := Aside0.mk (blk_below (g := gb439) (o := .cells #[.int .i64 t435, .int .i64 t436, .int .i64 t437] 23 (0, 0)) (by (with_reducible repeat (first | refine blk_drewN ?_ _ | refine blk_drew ?_ | refine blk_alloc ?_ _)); exact BK439.out) hb); have n3_ := Aside0.mk (below_step (by repeat (first | (with_reducible first | exact HB.out | apply below_alloc | apply pw_below_drewN | apply below_drew1 | refine below_set ?_ GE432.out | refine below_set ?_ GE433.out | refine below_set ?_ GE439.out) | exact HB.out)) hb); clear BK432; clear BK433; clear BK439; clear HB; have BK432 := n0_; have BK433 := n1_; have BK439 := n2_; have HB := n3_; clear n0_ n1_ n2_ n3_; (try clear hb); (try clear hb2); (try clear hk); (try clear hi)) | ((with_reducible refine gate_dst (N := 11) rfl ?_); refine box_event ?hg (N := 11) ?hd (cs := #[.int .i64 0, .int .i64 0, .int .i64 0]) (t := 23) ?hr ?_; (case hd => rfl); (case hg => rfl); (case hr => first | (go_simp; done) | (go_simp; rfl)); intro gb447 hg w46 hbox hb; have n0_ := Aside0.mk (blk_below (g := gb432) (o := .cells #[.int .i64 a0_0, .int .i64 a0_1, .int .i64 a0_2, .int .i64 a0_3, .int .i64 a0_4] 25 (0, 0)) (by (with_reducible repeat (first | refine blk_drewN ?_ _ | refine blk_drew ?_ | refine blk_alloc ?_ _)); exact BK432.out) hb); have n1_ := Aside0.mk (blk_below (g := gb433) (o := .cells #[.int .i64 a2_0, .int .i64 a2_1, .int .i64 a2_2] 23 (0, 0)) (by (with_reducible repeat (first | refine blk_drewN ?_ _ | refine blk_drew ?_ | refine blk_alloc ?_ _)); exact BK433.out) hb); have n2_ := Aside0.mk (blk_below (g := gb439) (o := .cells #[.int .i64 t435, .int .i64 t436, .int .i64 t437] 23 (0, 0)) (by (with_reducible repeat (first | refine blk_drewN ?_ _ | refine blk_drew ?_ | refine blk_alloc ?_ _)); exact BK439.out) hb); have n3_ := Aside0.mk (below_step (by repeat (first | (with_reducible first | exact HB.out | apply below_alloc | apply pw_below_drewN | apply below_drew1 | refine below_set ?_ GE432.out | refine below_set ?_ GE433.out | refine below_set ?_ GE439.out) | exact HB.out)) hb); have n4_ := Aside0.mk (hbox); have n5_ := Aside0.mk ((by rw [hg]; exact (below_size (by repeat (first | (with_reducible first | exact HB.out | apply below_alloc | apply pw_below_drewN | apply below_drew1 | refine below_set ?_ GE432.out | refine below_set ?_ GE433.out | refine below_set ?_ GE439.out) | exact HB.out))) : w.heap.size ≤ gb447)); have n6_ := Aside0.mk ((by rw [hg]; exact (below_size (by repeat (first | (with_reducible first | exact HB.out | apply below_alloc | apply pw_below_drewN | apply below_drew1 | refine below_set ?_ GE432.out | refine below_set ?_ GE433.out | refine below_set ?_ GE439.out) | exact HB.out))) : w.heap.size ≤ gb447)); have n7_ := Aside0.mk ((by rw [hg]; exact Nat.ne_of_lt (blk_lt (g := gb432) (o := .cells #[.int .i64 a0_0, .int .i64 a0_1, .int .i64 a0_2, .int .i64 a0_3, .int .i64 a0_4] 25 (0, 0)) (by (with_reducible repeat (first | refine blk_drewN ?_ _ | refine blk_drew ?_ | refine blk_alloc ?_ _)); exact BK432.out)) : gb432 ≠ gb447)); have n8_ := Aside0.mk ((by rw [hg]; exact Nat.ne_of_gt (blk_lt (g := gb432) (o := .cells #[.int .i64 a0_0, .int .i64 a0_1, .int .i64 a0_2, .int .i64 a0_3, .int .i64 a0_4] 25 (0, 0)) (by (with_reducible repeat (first | refine blk_drewN ?_ _ | refine blk_drew ?_ | refine blk_alloc ?_ _)); exact BK432.out)) : gb447 ≠ gb432)); have n9_ := Aside0.mk ((by rw [hg]; exact Nat.ne_of_lt (blk_lt (g := gb433) (o := .cells #[.int .i64 a2_0, .int .i64 a2_1, .int .i64 a2_2] 23 (0, 0)) (by (with_reducible repeat (first | refine blk_drewN ?_ _ | refine blk_drew ?_ | refine blk_alloc ?_ _)); exact BK433.out)) : gb433 ≠ gb447)); have n10_ := Aside0.mk ((by rw [hg]; exact Nat.ne_of_gt (blk_lt (g := gb433) (o := .cells #[.int .i64 a2_0, .int .i64 a2_1, .int .i64 a2_2] 23 (0, 0)) (by (with_reducible repeat (first | refine blk_drewN ?_ _ | refine blk_drew ?_ | refine blk_alloc ?_ _)); exact BK433.out)) : gb447 ≠ gb433)); have n11_ := Aside0.mk ((by rw [hg]; exact Nat.ne_of_lt (blk_lt (g := gb439) (o := .cells #[.int .i64 t435, .int .i64 t436, .int .i64 t437] 23 (0, 0)) (by (with_reducible repeat (first | refine blk_drewN ?_ _ | refine blk_drew ?_ | refine blk_alloc ?_ _)); exact BK439.out)) : gb439 ≠ gb447)); have n12_ := Aside0.mk ((by rw [hg]; exact Nat.ne_of_gt (blk_lt (g := gb439) (o := .cells #[.int .i64 t435, .int .i64 t436, .int .i64 t437] 23 (0, 0)) (by (with_reducible repeat (first | refine blk_drewN ?_ _ | refine blk_drew ?_ | refine blk_alloc ?_ _)); exact BK439.out)) : gb447 ≠ gb439)); clear BK432; clear BK433; clear BK439; clear HB; have BK432 := n0_; have BK433 := n1_; have BK439 := n2_; have HB := n3_; have BK447 := n4_; have GW447 := n5_; have GE447 := n6_; have NB432_447 := n7_; have NB447_432 := n8_; have NB433_447 := n9_; have NB447_433 := n10_; have NB439_447 := n11_; have NB447_439 := n12_; clear n0_ n1_ n2_ n3_ n4_ n5_ n6_ n7_ n8_ n9_ n10_ n11_ n12_; clear hb hbox hg; have hnb47 := NB447_432.out; have hnc47 := NB432_447.out; have hnb48 := NB447_433.out; have hnc48 := NB433_447.out; have hnb49 := NB447_439.out; have hnc49 := NB439_447.out; have hcz50_0 : w46.cell? ⟨gb447, 0, none⟩ = some (.int .i64 0) := (blk_cell BK447.out 0).trans rfl; have hcz50_1 : w46.cell? ⟨gb447, 1, none⟩ = some (.int .i64 0) := (blk_cell BK447.out 1).trans rfl; have hcz50_2 : w46.cell? ⟨gb447, 2, none⟩ = some (.int .i64 0) := (blk_cell BK447.out 2).trans rfl; have hfz50_0 := blk_frozen BK447.out 0; have hfz50_1 := blk_frozen BK447.out 1; have hfz50_2 := blk_frozen BK447.out 2; have hcz51_0 : w46.cell? ⟨gb432, 0, none⟩ = some (.int .i64 a0_0) := (blk_cell BK432.out 0).trans rfl; have hcz51_1 : w46.cell? ⟨gb432, 1, none⟩ = some (.int .i64 a0_1) := (blk_cell BK432.out 1).trans rfl; have hcz51_2 : w46.cell? ⟨gb432, 2, none⟩ = some (.int .i64 a0_2) := (blk_cell BK432.out 2).trans rfl; have hcz51_3 : w46.cell? ⟨gb432, 3, none⟩ = some (.int .i64 a0_3) := (blk_cell BK432.out 3).trans rfl; have hcz51_4 : w46.cell? ⟨gb432, 4, none⟩ = some (.int .i64 a0_4) := (blk_cell BK432.out 4).trans rfl; have hfz51_0 := blk_frozen BK432.out 0; have hfz51_1 := blk_frozen BK432.out 1; have hfz51_2 := blk_frozen BK432.out 2; have hfz51_3 := blk_frozen BK432.out 3; have hfz51_4 := blk_frozen BK432.out 4; have hcz52_0 : w46.cell? ⟨gb439, 0, none⟩ = some (.int .i64 t435) := (blk_cell BK439.out 0).trans rfl; have hcz52_1 : w46.cell? ⟨gb439, 1, none⟩ = some (.int .i64 t436) := (blk_cell BK439.out 1).trans rfl; have hcz52_2 : w46.cell? ⟨gb439, 2, none⟩ = some (.int .i64 t437) := (blk_cell BK439.out 2).trans rfl; have hfz52_0 := blk_frozen BK439.out 0; have hfz52_1 := blk_frozen BK439.out 1; have hfz52_2 := blk_frozen BK439.out 2) | (go_at_call 28; (with_reducible refine (place_Has.calls a0_0 a0_1 a0_2 a0_3 a0_4 t435 t436 t437 true _ A31.out).mono ?_); rintro e w53 ⟨rfl, hb⟩; have n0_ := Aside0.mk (blk_below (g := gb432) (o := .cells #[.int .i64 a0_0, .int .i64 a0_1, .int .i64 a0_2, .int .i64 a0_3, .int .i64 a0_4] 25 (0, 0)) (by (with_reducible repeat (first | refine blk_drewN ?_ _ | refine blk_drew ?_ | refine blk_alloc ?_ _)); refine blk_far ?_ NB432_447.out _; (with_reducible repeat (first | refine blk_drewN ?_ _ | refine blk_drew ?_ | refine blk_alloc ?_ _)); refine blk_far ?_ NB432_447.out _; (with_reducible repeat (first | refine blk_drewN ?_ _ | refine blk_drew ?_ | refine blk_alloc ?_ _)); refine blk_far ?_ NB432_447.out _; (with_reducible repeat (first | refine blk_drewN ?_ _ | refine blk_drew ?_ | refine blk_alloc ?_ _)); exact BK432.out) hb); have n1_ := Aside0.mk (blk_below (g := gb433) (o := .cells #[.int .i64 a2_0, .int .i64 a2_1, .int .i64 a2_2] 23 (0, 0)) (by (with_reducible repeat (first | refine blk_drewN ?_ _ | refine blk_drew ?_ | refine blk_alloc ?_ _)); refine blk_far ?_ NB433_447.out _; (with_reducible repeat (first | refine blk_drewN ?_ _ | refine blk_drew ?_ | refine blk_alloc ?_ _)); refine blk_far ?_ NB433_447.out _; (with_reducible repeat (first | refine blk_drewN ?_ _ | refine blk_drew ?_ | refine blk_alloc ?_ _)); refine blk_far ?_ NB433_447.out _; (with_reducible repeat (first | refine blk_drewN ?_ _ | refine blk_drew ?_ | refine blk_alloc ?_ _)); exact BK433.out) hb); have n2_ := Aside0.mk (blk_below (g := gb439) (o := .cells #[.int .i64 t435, .int .i64 t436, .int .i64 t437] 23 (0, 0)) (by (with_reducible repeat (first | refine blk_drewN ?_ _ | refine blk_drew ?_ | refine blk_alloc ?_ _)); refine blk_far ?_ NB439_447.out _; (with_reducible repeat (first | refine blk_drewN ?_ _ | refine blk_drew ?_ | refine blk_alloc ?_ _)); refine blk_far ?_ NB439_447.out _; (with_reducible repeat (first | refine blk_drewN ?_ _ | refine blk_drew ?_ | refine blk_alloc ?_ _)); refine blk_far ?_ NB439_447.out _; (with_reducible repeat (first | refine blk_drewN ?_ _ | refine blk_drew ?_ | refine blk_alloc ?_ _)); exact BK439.out) hb); have n3_ := Aside0.mk (blk_below (g := gb447) (o := .cells #[.int .i64 t443, .int .i64 t444, .int .i64 t445] 23 (0, 0)) (by (with_reducible repeat (first | refine blk_drewN ?_ _ | refine blk_drew ?_ | refine blk_alloc ?_ _)); refine blk_put (cs := #[.int .i64 t443, .int .i64 t444, .int .i64 0]) ?_ 2 _ rfl; (with_reducible repeat (first | refine blk_drewN ?_ _ | refine blk_drew ?_ | refine blk_alloc ?_ _)); refine blk_put (cs := #[.int .i64 t443, .int .i64 0, .int .i64 0]) ?_ 1 _ rfl; (with_reducible repeat (first | refine blk_drewN ?_ _ | refine blk_drew ?_ | refine blk_alloc ?_ _)); refine blk_put (cs := #[.int .i64 0, .int .i64 0, .int .i64 0]) ?_ 0 _ rfl; (with_reducible repeat (first | refine blk_drewN ?_ _ | refine blk_drew ?_ | refine blk_alloc ?_ _)); exact BK447.out) hb); have n4_ := Aside0.mk (below_step (by repeat (first | (with_reducible first | exact HB.out | apply below_alloc | apply pw_below_drewN | apply below_drew1 | refine below_set ?_ GE432.out | refine below_set ?_ GE433.out | refine below_set ?_ GE439.out | refine below_set ?_ GE447.out) | exact HB.out)) hb); clear BK432; clear BK433; clear BK439; clear BK447; clear HB; have BK432 := n0_; have BK433 := n1_; have BK439 := n2_; have BK447 := n3_; have HB := n4_; clear n0_ n1_ n2_ n3_ n4_; (try clear hb); (try clear hb2); (try clear hk); (try clear hi); have hcz54_0 : w53.cell? ⟨gb439, 0, none⟩ = some (.int .i64 t435) := (blk_cell BK439.out 0).trans rfl; have hcz54_1 : w53.cell? ⟨gb439, 1, none⟩ = some (.int .i64 t436) := (blk_cell BK439.out 1).trans rfl; have hcz54_2 : w53.cell? ⟨gb439, 2, none⟩ = some (.int .i64 t437) := (blk_cell BK439.out 2).trans rfl; have hfz54_0 := blk_frozen BK439.out 0; have hfz54_1 := blk_frozen BK439.out 1; have hfz54_2 := blk_frozen BK439.out 2) | (go_at_call 17; (with_reducible refine (place_Right.calls t435 t436 t437 true _ A33.out).mono ?_); rintro e w55 ⟨rfl, hb⟩; have n0_ := Aside0.mk (blk_below (g := gb432) (o := .cells #[.int .i64 a0_0, .int .i64 a0_1, .int .i64 a0_2, .int .i64 a0_3, .int .i64 a0_4] 25 (0, 0)) (by (with_reducible repeat (first | refine blk_drewN ?_ _ | refine blk_drew ?_ | refine blk_alloc ?_ _)); exact BK432.out) hb); have n1_ := Aside0.mk (blk_below (g := gb433) (o := .cells #[.int .i64 a2_0, .int .i64 a2_1, .int .i64 a2_2] 23 (0, 0)) (by (with_reducible repeat (first | refine blk_drewN ?_ _ | refine blk_drew ?_ | refine blk_alloc ?_ _)); exact BK433.out) hb); have n2_ := Aside0.mk (blk_below (g := gb439) (o := .cells #[.int .i64 t435, .int .i64 t436, .int .i64 t437] 23 (0, 0)) (by (with_reducible repeat (first | refine blk_drewN ?_ _ | refine blk_drew ?_ | refine blk_alloc ?_ _)); exact BK439.out) hb); have n3_ := Aside0.mk (blk_below (g := gb447) (o := .cells #[.int .i64 t443, .int .i64 t444, .int .i64 t445] 23 (0, 0)) (by (with_reducible repeat (first | refine blk_drewN ?_ _ | refine blk_drew ?_ | refine blk_alloc ?_ _)); exact BK447.out) hb); have n4_ := Aside0.mk (below_step (by repeat (first | (with_reducible first | exact HB.out | apply below_alloc | apply pw_below_drewN | apply below_drew1 | refine below_set ?_ GE432.out | refine below_set ?_ GE433.out | refine below_set ?_ GE439.out | refine below_set ?_ GE447.out) | exact HB.out)) hb); clear BK432; clear BK433; clear BK439; clear BK447; clear HB; have BK432 := n0_; have BK433 := n1_; have BK439 := n2_; have BK447 := n3_; have HB := n4_; clear n0_ n1_ n2_ n3_ n4_; (try clear hb); (try clear hb2); (try clear hk); (try clear hi); have hcz56_0 : w55.cell? ⟨gb439, 0, none⟩ = some (.int .i64 t435) := (blk_cell BK439.out 0).trans rfl; have hcz56_1 : w55.cell? ⟨gb439, 1, none⟩ = some (.int .i64 t436) := (blk_cell BK439.out 1).trans rfl; have hcz56_2 : w55.cell? ⟨gb439, 2, none⟩ = some (.int .i64 t437) := (blk_cell BK439.out 2).trans rfl; have hfz56_0 := blk_frozen BK439.out 0; have hfz56_1 := blk_frozen BK439.out 1; have hfz56_2 := blk_frozen BK439.out 2; have hcz57_0 : w55.cell? ⟨gb447, 0, none⟩ = some (.int .i64 t443) := (blk_cell BK447.out 0).trans rfl; have hcz57_1 : w55.cell? ⟨gb447, 1, none⟩ = some (.int .i64 t444) := (blk_cell BK447.out 1).trans rfl; have hcz57_2 : w55.cell? ⟨gb447, 2, none⟩ = some (.int .i64 t445) := (blk_cell BK447.out 2).trans rfl; have hfz57_0 := blk_frozen BK447.out 0; have hfz57_1 := blk_frozen BK447.out 1; have hfz57_2 := blk_frozen BK447.out 2) | (go_at_call 29; (with_reducible refine (place_Before.calls t435 t436 t437 t443 t444 t445 true _ A36.out).mono ?_); rintro e w58 ⟨rfl, hb⟩; have n0_ := Aside0.mk (blk_below (g := gb432) (o := .cells #[.int .i64 a0_0, .int .i64 a0_1, .int .i64 a0_2, .int .i64 a0_3, .int .i64 a0_4] 25 (0, 0)) (by (with_reducible repeat (first | refine blk_drewN ?_ _ | refine blk_drew ?_ | refine blk_alloc ?_ _)); exact BK432.out) hb); have n1_ := Aside0.mk (blk_below (g := gb433) (o := .cells #[.int .i64 a2_0, .int .i64 a2_1, .int .i64 a2_2] 23 (0, 0)) (by (with_reducible repeat (first | refine blk_drewN ?_ _ | refine blk_drew ?_ | refine blk_alloc ?_ _)); exact BK433.out) hb); have n2_ := Aside0.mk (blk_below (g := gb439) (o := .cells #[.int .i64 t435, .int .i64 t436, .int .i64 t437] 23 (0, 0)) (by (with_reducible repeat (first | refine blk_drewN ?_ _ | refine blk_drew ?_ | refine blk_alloc ?_ _)); exact BK439.out) hb); have n3_ := Aside0.mk (blk_below (g := gb447) (o := .cells #[.int .i64 t443, .int .i64 t444, .int .i64 t445] 23 (0, 0)) (by (with_reducible repeat (first | refine blk_drewN ?_ _ | refine blk_drew ?_ | refine blk_alloc ?_ _)); exact BK447.out) hb); have n4_ := Aside0.mk (below_step (by repeat (first | (with_reducible first | exact HB.out | apply below_alloc | apply pw_below_drewN | apply below_drew1 | refine below_set ?_ GE432.out | refine below_set ?_ GE433.out | refine below_set ?_ GE439.out | refine below_set ?_ GE447.out) | exact HB.out)) hb); clear BK432; clear BK433; clear BK439; clear BK447; clear HB; have BK432 := n0_; have BK433 := n1_; have BK439 := n2_; have BK447 := n3_; have HB := n4_; clear n0_ n1_ n2_ n3_ n4_; (try clear hb); (try clear hb2); (try clear hk); (try clear hi)))
                          go_meet
                          case rel => exact ⟨_, H', ⟨by have := HJ6.out; first | omega | exact Nat.le_refl _⟩, ⟨by (with_reducible repeat (first | refine blk_drewN ?_ _ | refine blk_drew ?_ | refine blk_alloc ?_ _)); exact BK432.out⟩, ⟨by (with_reducible repeat (first | refine blk_drewN ?_ _ | refine blk_drew ?_ | refine blk_alloc ?_ _)); exact BK433.out⟩, ⟨by (with_reducible repeat (first | refine blk_drewN ?_ _ | refine blk_drew ?_ | refine blk_alloc ?_ _)); exact BK439.out⟩, ⟨by repeat (first | (with_reducible first | exact HB.out | apply below_alloc | apply pw_below_drewN | apply below_drew1 | refine below_set ?_ GE432.out | refine below_set ?_ GE433.out | refine below_set ?_ GE439.out | refine below_set ?_ GE447.out) | exact HB.out)⟩⟩
                        · replace c37 := Bool.eq_false_iff.mpr c37
                          subst c37
                          have H1 : (some false) = some r := by rw [if_neg (show ¬ (false = true) by decide)] at H; exact H
                          clear H
                          have H := H1
                          clear H1
                          obtain rfl := Option.some.inj H
                          have hnb59 := NB432_433.out
                          have hnc59 := NB433_432.out
                          have hnb60 := NB432_439.out
                          have hnc60 := NB439_432.out
                          have hcz61_0 : wc.cell? ⟨gb432, 0, none⟩ = some (.int .i64 a0_0) := (blk_cell BK432.out 0).trans rfl
                          have hcz61_1 : wc.cell? ⟨gb432, 1, none⟩ = some (.int .i64 a0_1) := (blk_cell BK432.out 1).trans rfl
                          have hcz61_2 : wc.cell? ⟨gb432, 2, none⟩ = some (.int .i64 a0_2) := (blk_cell BK432.out 2).trans rfl
                          have hcz61_3 : wc.cell? ⟨gb432, 3, none⟩ = some (.int .i64 a0_3) := (blk_cell BK432.out 3).trans rfl
                          have hcz61_4 : wc.cell? ⟨gb432, 4, none⟩ = some (.int .i64 a0_4) := (blk_cell BK432.out 4).trans rfl
                          have hfz61_0 := blk_frozen BK432.out 0
                          have hfz61_1 := blk_frozen BK432.out 1
                          have hfz61_2 := blk_frozen BK432.out 2
                          have hfz61_3 := blk_frozen BK432.out 3
                          have hfz61_4 := blk_frozen BK432.out 4
                          have hnb62 := NB439_433.out
                          have hnc62 := NB433_439.out
                          have hcz63_0 : wc.cell? ⟨gb439, 0, none⟩ = some (.int .i64 t435) := (blk_cell BK439.out 0).trans rfl
                          have hcz63_1 : wc.cell? ⟨gb439, 1, none⟩ = some (.int .i64 t436) := (blk_cell BK439.out 1).trans rfl
                          have hcz63_2 : wc.cell? ⟨gb439, 2, none⟩ = some (.int .i64 t437) := (blk_cell BK439.out 2).trans rfl
                          have hfz63_0 := blk_frozen BK439.out 0
                          have hfz63_1 := blk_frozen BK439.out 1
                          have hfz63_2 := blk_frozen BK439.out 2
                          go_wp2_with (first | ((with_reducible refine gate_callee (f := 37) rfl ?_); refine goesL_ (some 39) rfl rfl Tryd.func37 (by kernel_rfl) rfl #[.agg #[.int .i64 a0_0, .int .i64 a0_1, .int .i64 a0_2, .int .i64 a0_3, .int .i64 a0_4], .agg #[.int .i64 t435, .int .i64 t436, .int .i64 t437]] rfl (by (try simp only [List.map_toArray, List.map_cons, List.map_nil]); first | done | rfl | (simp only [List.length_drop, List.length_take]; rfl)) ?_; (with_reducible refine (place_Index.calls a0_0 a0_1 a0_2 a0_3 a0_4 t435 t436 t437 t441 true _ A27.out).mono ?_); rintro e w64 ⟨rfl, hb⟩; refine ⟨_, rfl, ?_⟩; have n0_ := Aside0.mk (blk_below (g := gb432) (o := .cells #[.int .i64 a0_0, .int .i64 a0_1, .int .i64 a0_2, .int .i64 a0_3, .int .i64 a0_4] 25 (0, 0)) (by (with_reducible repeat (first | refine blk_drewN ?_ _ | refine blk_drew ?_ | refine blk_alloc ?_ _)); exact BK432.out) hb); have n1_ := Aside0.mk (blk_below (g := gb433) (o := .cells #[.int .i64 a2_0, .int .i64 a2_1, .int .i64 a2_2] 23 (0, 0)) (by (with_reducible repeat (first | refine blk_drewN ?_ _ | refine blk_drew ?_ | refine blk_alloc ?_ _)); exact BK433.out) hb); have n2_ := Aside0.mk (blk_below (g := gb439) (o := .cells #[.int .i64 t435, .int .i64 t436, .int .i64 t437] 23 (0, 0)) (by (with_reducible repeat (first | refine blk_drewN ?_ _ | refine blk_drew ?_ | refine blk_alloc ?_ _)); exact BK439.out) hb); have n3_ := Aside0.mk (below_step (by repeat (first | (with_reducible first | exact HB.out | apply below_alloc | apply pw_below_drewN | apply below_drew1 | refine below_set ?_ GE432.out | refine below_set ?_ GE433.out | refine below_set ?_ GE439.out) | exact HB.out)) hb); clear BK432; clear BK433; clear BK439; clear HB; have BK432 := n0_; have BK433 := n1_; have BK439 := n2_; have HB := n3_; clear n0_ n1_ n2_ n3_; (try clear hb); (try clear hb2); (try clear hk); (try clear hi); have hcz65_0 : w64.cell? ⟨gb432, 0, none⟩ = some (.int .i64 a0_0) := (blk_cell BK432.out 0).trans rfl; have hcz65_1 : w64.cell? ⟨gb432, 1, none⟩ = some (.int .i64 a0_1) := (blk_cell BK432.out 1).trans rfl; have hcz65_2 : w64.cell? ⟨gb432, 2, none⟩ = some (.int .i64 a0_2) := (blk_cell BK432.out 2).trans rfl; have hcz65_3 : w64.cell? ⟨gb432, 3, none⟩ = some (.int .i64 a0_3) := (blk_cell BK432.out 3).trans rfl; have hcz65_4 : w64.cell? ⟨gb432, 4, none⟩ = some (.int .i64 a0_4) := (blk_cell BK432.out 4).trans rfl; have hfz65_0 := blk_frozen BK432.out 0; have hfz65_1 := blk_frozen BK432.out 1; have hfz65_2 := blk_frozen BK432.out 2; have hfz65_3 := blk_frozen BK432.out 3; have hfz65_4 := blk_frozen BK432.out 4) | ((with_reducible refine gate_callee (f := 35) rfl ?_); refine goesL_ (some 46) rfl rfl Tryd.func35 (by kernel_rfl) rfl #[.agg #[.int .i64 a0_0, .int .i64 a0_1, .int .i64 a0_2, .int .i64 a0_3, .int .i64 a0_4], .int .i64 (wrap64 (a1 + 1))] rfl (by (try simp only [List.map_toArray, List.map_cons, List.map_nil]); first | done | rfl | (simp only [List.length_drop, List.length_take]; rfl)) ?_; (with_reducible refine (place_At.calls kj6 a0_0 a0_1 a0_2 a0_3 a0_4 (wrap64 (a1 + 1)) t443 t444 t445 true _ A28.out).mono ?_); rintro e w66 ⟨rfl, hb⟩; refine ⟨_, rfl, ?_⟩; have n0_ := Aside0.mk (blk_below (g := gb432) (o := .cells #[.int .i64 a0_0, .int .i64 a0_1, .int .i64 a0_2, .int .i64 a0_3, .int .i64 a0_4] 25 (0, 0)) (by (with_reducible repeat (first | refine blk_drewN ?_ _ | refine blk_drew ?_ | refine blk_alloc ?_ _)); exact BK432.out) hb); have n1_ := Aside0.mk (blk_below (g := gb433) (o := .cells #[.int .i64 a2_0, .int .i64 a2_1, .int .i64 a2_2] 23 (0, 0)) (by (with_reducible repeat (first | refine blk_drewN ?_ _ | refine blk_drew ?_ | refine blk_alloc ?_ _)); exact BK433.out) hb); have n2_ := Aside0.mk (blk_below (g := gb439) (o := .cells #[.int .i64 t435, .int .i64 t436, .int .i64 t437] 23 (0, 0)) (by (with_reducible repeat (first | refine blk_drewN ?_ _ | refine blk_drew ?_ | refine blk_alloc ?_ _)); exact BK439.out) hb); have n3_ := Aside0.mk (below_step (by repeat (first | (with_reducible first | exact HB.out | apply below_alloc | apply pw_below_drewN | apply below_drew1 | refine below_set ?_ GE432.out | refine below_set ?_ GE433.out | refine below_set ?_ GE439.out) | exact HB.out)) hb); clear BK432; clear BK433; clear BK439; clear HB; have BK432 := n0_; have BK433 := n1_; have BK439 := n2_; have HB := n3_; clear n0_ n1_ n2_ n3_; (try clear hb); (try clear hb2); (try clear hk); (try clear hi)) | ((with_reducible refine gate_dst (N := 11) rfl ?_); refine box_event ?hg (N := 11) ?hd (cs := #[.int .i64 0, .int .i64 0, .int .i64 0]) (t := 23) ?hr ?_; (case hd => rfl); (case hg => rfl); (case hr => first | (go_simp; done) | (go_simp; rfl)); intro gb447 hg w67 hbox hb; have n0_ := Aside0.mk (blk_below (g := gb432) (o := .cells #[.int .i64 a0_0, .int .i64 a0_1, .int .i64 a0_2, .int .i64 a0_3, .int .i64 a0_4] 25 (0, 0)) (by (with_reducible repeat (first | refine blk_drewN ?_ _ | refine blk_drew ?_ | refine blk_alloc ?_ _)); exact BK432.out) hb); have n1_ := Aside0.mk (blk_below (g := gb433) (o := .cells #[.int .i64 a2_0, .int .i64 a2_1, .int .i64 a2_2] 23 (0, 0)) (by (with_reducible repeat (first | refine blk_drewN ?_ _ | refine blk_drew ?_ | refine blk_alloc ?_ _)); exact BK433.out) hb); have n2_ := Aside0.mk (blk_below (g := gb439) (o := .cells #[.int .i64 t435, .int .i64 t436, .int .i64 t437] 23 (0, 0)) (by (with_reducible repeat (first | refine blk_drewN ?_ _ | refine blk_drew ?_ | refine blk_alloc ?_ _)); exact BK439.out) hb); have n3_ := Aside0.mk (below_step (by repeat (first | (with_reducible first | exact HB.out | apply below_alloc | apply pw_below_drewN | apply below_drew1 | refine below_set ?_ GE432.out | refine below_set ?_ GE433.out | refine below_set ?_ GE439.out) | exact HB.out)) hb); have n4_ := Aside0.mk (hbox); have n5_ := Aside0.mk ((by rw [hg]; exact (below_size (by repeat (first | (with_reducible first | exact HB.out | apply below_alloc | apply pw_below_drewN | apply below_drew1 | refine below_set ?_ GE432.out | refine below_set ?_ GE433.out | refine below_set ?_ GE439.out) | exact HB.out))) : w.heap.size ≤ gb447)); have n6_ := Aside0.mk ((by rw [hg]; exact (below_size (by repeat (first | (with_reducible first | exact HB.out | apply below_alloc | apply pw_below_drewN | apply below_drew1 | refine below_set ?_ GE432.out | refine below_set ?_ GE433.out | refine below_set ?_ GE439.out) | exact HB.out))) : w.heap.size ≤ gb447)); have n7_ := Aside0.mk ((by rw [hg]; exact Nat.ne_of_lt (blk_lt (g := gb432) (o := .cells #[.int .i64 a0_0, .int .i64 a0_1, .int .i64 a0_2, .int .i64 a0_3, .int .i64 a0_4] 25 (0, 0)) (by (with_reducible repeat (first | refine blk_drewN ?_ _ | refine blk_drew ?_ | refine blk_alloc ?_ _)); exact BK432.out)) : gb432 ≠ gb447)); have n8_ := Aside0.mk ((by rw [hg]; exact Nat.ne_of_gt (blk_lt (g := gb432) (o := .cells #[.int .i64 a0_0, .int .i64 a0_1, .int .i64 a0_2, .int .i64 a0_3, .int .i64 a0_4] 25 (0, 0)) (by (with_reducible repeat (first | refine blk_drewN ?_ _ | refine blk_drew ?_ | refine blk_alloc ?_ _)); exact BK432.out)) : gb447 ≠ gb432)); have n9_ := Aside0.mk ((by rw [hg]; exact Nat.ne_of_lt (blk_lt (g := gb433) (o := .cells #[.int .i64 a2_0, .int .i64 a2_1, .int .i64 a2_2] 23 (0, 0)) (by (with_reducible repeat (first | refine blk_drewN ?_ _ | refine blk_drew ?_ | refine blk_alloc ?_ _)); exact BK433.out)) : gb433 ≠ gb447)); have n10_ := Aside0.mk ((by rw [hg]; exact Nat.ne_of_gt (blk_lt (g := gb433) (o := .cells #[.int .i64 a2_0, .int .i64 a2_1, .int .i64 a2_2] 23 (0, 0)) (by (with_reducible repeat (first | refine blk_drewN ?_ _ | refine blk_drew ?_ | refine blk_alloc ?_ _)); exact BK433.out)) : gb447 ≠ gb433)); have n11_ := Aside0.mk ((by rw [hg]; exact Nat.ne_of_lt (blk_lt (g := gb439) (o := .cells #[.int .i64 t435, .int .i64 t436, .int .i64 t437] 23 (0, 0)) (by (with_reducible repeat (first | refine blk_drewN ?_ _ | refine blk_drew ?_ | refine blk_alloc ?_ _)); exact BK439.out)) : gb439 ≠ gb447)); have n12_ := Aside0.mk ((by rw [hg]; exact Nat.ne_of_gt (blk_lt (g := gb439) (o := .cells #[.int .i64 t435, .int .i64 t436, .int .i64 t437] 23 (0, 0)) (by (with_reducible repeat (first | refine blk_drewN ?_ _ | refine blk_drew ?_ | refine blk_alloc ?_ _)); exact BK439.out)) : gb447 ≠ gb439)); clear BK432; clear BK433; clear BK439; clear HB; have BK432 := n0_; have BK433 := n1_; have BK439 := n2_; have HB := n3_; have BK447 := n4_; have GW447 := n5_; have GE447 := n6_; have NB432_447 := n7_; have NB447_432 := n8_; have NB433_447 := n9_; have NB447_433 := n10_; have NB439_447 := n11_; have NB447_439 := n12_; clear n0_ n1_ n2_ n3_ n4_ n5_ n6_ n7_ n8_ n9_ n10_ n11_ n12_; clear hb hbox hg; have hnb68 := NB447_432.out; have hnc68 := NB432_447.out; have hnb69 := NB447_433.out; have hnc69 := NB433_447.out; have hnb70 := NB447_439.out; have hnc70 := NB439_447.out; have hcz71_0 : w67.cell? ⟨gb447, 0, none⟩ = some (.int .i64 0) := (blk_cell BK447.out 0).trans rfl; have hcz71_1 : w67.cell? ⟨gb447, 1, none⟩ = some (.int .i64 0) := (blk_cell BK447.out 1).trans rfl; have hcz71_2 : w67.cell? ⟨gb447, 2, none⟩ = some (.int .i64 0) := (blk_cell BK447.out 2).trans rfl; have hfz71_0 := blk_frozen BK447.out 0; have hfz71_1 := blk_frozen BK447.out 1; have hfz71_2 := blk_frozen BK447.out 2; have hcz72_0 : w67.cell? ⟨gb432, 0, none⟩ = some (.int .i64 a0_0) := (blk_cell BK432.out 0).trans rfl; have hcz72_1 : w67.cell? ⟨gb432, 1, none⟩ = some (.int .i64 a0_1) := (blk_cell BK432.out 1).trans rfl; have hcz72_2 : w67.cell? ⟨gb432, 2, none⟩ = some (.int .i64 a0_2) := (blk_cell BK432.out 2).trans rfl; have hcz72_3 : w67.cell? ⟨gb432, 3, none⟩ = some (.int .i64 a0_3) := (blk_cell BK432.out 3).trans rfl; have hcz72_4 : w67.cell? ⟨gb432, 4, none⟩ = some (.int .i64 a0_4) := (blk_cell BK432.out 4).trans rfl; have hfz72_0 := blk_frozen BK432.out 0; have hfz72_1 := blk_frozen BK432.out 1; have hfz72_2 := blk_frozen BK432.out 2; have hfz72_3 := blk_frozen BK432.out 3; have hfz72_4 := blk_frozen BK432.out 4; have hcz73_0 : w67.cell? ⟨gb439, 0, none⟩ = some (.int .i64 t435) := (blk_cell BK439.out 0).trans rfl; have hcz73_1 : w67.cell? ⟨gb439, 1, none⟩ = some (.int .i64 t436) := (blk_cell BK439.out 1).trans rfl; have hcz73_2 : w67.cell? ⟨gb439, 2, none⟩ = some (.int .i64 t437) := (blk_cell BK439.out 2).trans rfl; have hfz73_0 := blk_frozen BK439.out 0; have hfz73_1 := blk_frozen BK439.out 1; have hfz73_2 := blk_frozen BK439.out 2) | (go_at_call 28; (with_reducible refine (place_Has.calls a0_0 a0_1 a0_2 a0_3 a0_4 t435 t436 t437 true _ A31.out).mono ?_); rintro e w74 ⟨rfl, hb⟩; have n0_ := Aside0.mk (blk_below (g := gb432) (o := .cells #[.int .i64 a0_0, .int .i64 a0_1, .int .i64 a0_2, .int .i64 a0_3, .int .i64 a0_4] 25 (0, 0)) (by (with_reducible repeat (first | refine blk_drewN ?_ _ | refine blk_drew ?_ | refine blk_alloc ?_ _)); refine blk_far ?_ NB432_447.out _; (with_reducible repeat (first | refine blk_drewN ?_ _ | refine blk_drew ?_ | refine blk_alloc ?_ _)); refine blk_far ?_ NB432_447.out _; (with_reducible repeat (first | refine blk_drewN ?_ _ | refine blk_drew ?_ | refine blk_alloc ?_ _)); refine blk_far ?_ NB432_447.out _; (with_reducible repeat (first | refine blk_drewN ?_ _ | refine blk_drew ?_ | refine blk_alloc ?_ _)); exact BK432.out) hb); have n1_ := Aside0.mk (blk_below (g := gb433) (o := .cells #[.int .i64 a2_0, .int .i64 a2_1, .int .i64 a2_2] 23 (0, 0)) (by (with_reducible repeat (first | refine blk_drewN ?_ _ | refine blk_drew ?_ | refine blk_alloc ?_ _)); refine blk_far ?_ NB433_447.out _; (with_reducible repeat (first | refine blk_drewN ?_ _ | refine blk_drew ?_ | refine blk_alloc ?_ _)); refine blk_far ?_ NB433_447.out _; (with_reducible repeat (first | refine blk_drewN ?_ _ | refine blk_drew ?_ | refine blk_alloc ?_ _)); refine blk_far ?_ NB433_447.out _; (with_reducible repeat (first | refine blk_drewN ?_ _ | refine blk_drew ?_ | refine blk_alloc ?_ _)); exact BK433.out) hb); have n2_ := Aside0.mk (blk_below (g := gb439) (o := .cells #[.int .i64 t435, .int .i64 t436, .int .i64 t437] 23 (0, 0)) (by (with_reducible repeat (first | refine blk_drewN ?_ _ | refine blk_drew ?_ | refine blk_alloc ?_ _)); refine blk_far ?_ NB439_447.out _; (with_reducible repeat (first | refine blk_drewN ?_ _ | refine blk_drew ?_ | refine blk_alloc ?_ _)); refine blk_far ?_ NB439_447.out _; (with_reducible repeat (first | refine blk_drewN ?_ _ | refine blk_drew ?_ | refine blk_alloc ?_ _)); refine blk_far ?_ NB439_447.out _; (with_reducible repeat (first | refine blk_drewN ?_ _ | refine blk_drew ?_ | refine blk_alloc ?_ _)); exact BK439.out) hb); have n3_ := Aside0.mk (blk_below (g := gb447) (o := .cells #[.int .i64 t443, .int .i64 t444, .int .i64 t445] 23 (0, 0)) (by (with_reducible repeat (first | refine blk_drewN ?_ _ | refine blk_drew ?_ | refine blk_alloc ?_ _)); refine blk_put (cs := #[.int .i64 t443, .int .i64 t444, .int .i64 0]) ?_ 2 _ rfl; (with_reducible repeat (first | refine blk_drewN ?_ _ | refine blk_drew ?_ | refine blk_alloc ?_ _)); refine blk_put (cs := #[.int .i64 t443, .int .i64 0, .int .i64 0]) ?_ 1 _ rfl; (with_reducible repeat (first | refine blk_drewN ?_ _ | refine blk_drew ?_ | refine blk_alloc ?_ _)); refine blk_put (cs := #[.int .i64 0, .int .i64 0, .int .i64 0]) ?_ 0 _ rfl; (with_reducible repeat (first | refine blk_drewN ?_ _ | refine blk_drew ?_ | refine blk_alloc ?_ _)); exact BK447.out) hb); have n4_ := Aside0.mk (below_step (by repeat (first | (with_reducible first | exact HB.out | apply below_alloc | apply pw_below_drewN | apply below_drew1 | refine below_set ?_ GE432.out | refine below_set ?_ GE433.out | refine below_set ?_ GE439.out | refine below_set ?_ GE447.out) | exact HB.out)) hb); clear BK432; clear BK433; clear BK439; clear BK447; clear HB; have BK432 := n0_; have BK433 := n1_; have BK439 := n2_; have BK447 := n3_; have HB := n4_; clear n0_ n1_ n2_ n3_ n4_; (try clear hb); (try clear hb2); (try clear hk); (try clear hi); have hcz75_0 : w74.cell? ⟨gb439, 0, none⟩ = some (.int .i64 t435) := (blk_cell BK439.out 0).trans rfl; have hcz75_1 : w74.cell? ⟨gb439, 1, none⟩ = some (.int .i64 t436) := (blk_cell BK439.out 1).trans rfl; have hcz75_2 : w74.cell? ⟨gb439, 2, none⟩ = some (.int .i64 t437) := (blk_cell BK439.out 2).trans rfl; have hfz75_0 := blk_frozen BK439.out 0; have hfz75_1 := blk_frozen BK439.out 1; have hfz75_2 := blk_frozen BK439.out 2) | (go_at_call 17; (with_reducible refine (place_Right.calls t435 t436 t437 true _ A33.out).mono ?_); rintro e w76 ⟨rfl, hb⟩; have n0_ := Aside0.mk (blk_below (g := gb432) (o := .cells #[.int .i64 a0_0, .int .i64 a0_1, .int .i64 a0_2, .int .i64 a0_3, .int .i64 a0_4] 25 (0, 0)) (by (with_reducible repeat (first | refine blk_drewN ?_ _ | refine blk_drew ?_ | refine blk_alloc ?_ _)); exact BK432.out) hb); have n1_ := Aside0.mk (blk_below (g := gb433) (o := .cells #[.int .i64 a2_0, .int .i64 a2_1, .int .i64 a2_2] 23 (0, 0)) (by (with_reducible repeat (first | refine blk_drewN ?_ _ | refine blk_drew ?_ | refine blk_alloc ?_ _)); exact BK433.out) hb); have n2_ := Aside0.mk (blk_below (g := gb439) (o := .cells #[.int .i64 t435, .int .i64 t436, .int .i64 t437] 23 (0, 0)) (by (with_reducible repeat (first | refine blk_drewN ?_ _ | refine blk_drew ?_ | refine blk_alloc ?_ _)); exact BK439.out) hb); have n3_ := Aside0.mk (blk_below (g := gb447) (o := .cells #[.int .i64 t443, .int .i64 t444, .int .i64 t445] 23 (0, 0)) (by (with_reducible repeat (first | refine blk_drewN ?_ _ | refine blk_drew ?_ | refine blk_alloc ?_ _)); exact BK447.out) hb); have n4_ := Aside0.mk (below_step (by repeat (first | (with_reducible first | exact HB.out | apply below_alloc | apply pw_below_drewN | apply below_drew1 | refine below_set ?_ GE432.out | refine below_set ?_ GE433.out | refine below_set ?_ GE439.out | refine below_set ?_ GE447.out) | exact HB.out)) hb); clear BK432; clear BK433; clear BK439; clear BK447; clear HB; have BK432 := n0_; have BK433 := n1_; have BK439 := n2_; have BK447 := n3_; have HB := n4_; clear n0_ n1_ n2_ n3_ n4_; (try clear hb); (try clear hb2); (try clear hk); (try clear hi); have hcz77_0 : w76.cell? ⟨gb439, 0, none⟩ = some (.int .i64 t435) := (blk_cell BK439.out 0).trans rfl; have hcz77_1 : w76.cell? ⟨gb439, 1, none⟩ = some (.int .i64 t436) := (blk_cell BK439.out 1).trans rfl; have hcz77_2 : w76.cell? ⟨gb439, 2, none⟩ = some (.int .i64 t437) := (blk_cell BK439.out 2).trans rfl; have hfz77_0 := blk_frozen BK439.out 0; have hfz77_1 := blk_frozen BK439.out 1; have hfz77_2 := blk_frozen BK439.out 2; have hcz78_0 : w76.cell? ⟨gb447, 0, none⟩ = some (.int .i64 t443) := (blk_cell BK447.out 0).trans rfl; have hcz78_1 : w76.cell? ⟨gb447, 1, none⟩ = some (.int .i64 t444) := (blk_cell BK447.out 1).trans rfl; have hcz78_2 : w76.cell? ⟨gb447, 2, none⟩ = some (.int .i64 t445) := (blk_cell BK447.out 2).trans rfl; have hfz78_0 := blk_frozen BK447.out 0; have hfz78_1 := blk_frozen BK447.out 1; have hfz78_2 := blk_frozen BK447.out 2) | (go_at_call 29; (with_reducible refine (place_Before.calls t435 t436 t437 t443 t444 t445 false _ A36.out).mono ?_); rintro e w79 ⟨rfl, hb⟩; have n0_ := Aside0.mk (blk_below (g := gb432) (o := .cells #[.int .i64 a0_0, .int .i64 a0_1, .int .i64 a0_2, .int .i64 a0_3, .int .i64 a0_4] 25 (0, 0)) (by (with_reducible repeat (first | refine blk_drewN ?_ _ | refine blk_drew ?_ | refine blk_alloc ?_ _)); exact BK432.out) hb); have n1_ := Aside0.mk (blk_below (g := gb433) (o := .cells #[.int .i64 a2_0, .int .i64 a2_1, .int .i64 a2_2] 23 (0, 0)) (by (with_reducible repeat (first | refine blk_drewN ?_ _ | refine blk_drew ?_ | refine blk_alloc ?_ _)); exact BK433.out) hb); have n2_ := Aside0.mk (blk_below (g := gb439) (o := .cells #[.int .i64 t435, .int .i64 t436, .int .i64 t437] 23 (0, 0)) (by (with_reducible repeat (first | refine blk_drewN ?_ _ | refine blk_drew ?_ | refine blk_alloc ?_ _)); exact BK439.out) hb); have n3_ := Aside0.mk (blk_below (g := gb447) (o := .cells #[.int .i64 t443, .int .i64 t444, .int .i64 t445] 23 (0, 0)) (by (with_reducible repeat (first | refine blk_drewN ?_ _ | refine blk_drew ?_ | refine blk_alloc ?_ _)); exact BK447.out) hb); have n4_ := Aside0.mk (below_step (by repeat (first | (with_reducible first | exact HB.out | apply below_alloc | apply pw_below_drewN | apply below_drew1 | refine below_set ?_ GE432.out | refine below_set ?_ GE433.out | refine below_set ?_ GE439.out | refine below_set ?_ GE447.out) | exact HB.out)) hb); clear BK432; clear BK433; clear BK439; clear BK447; clear HB; have BK432 := n0_; have BK433 := n1_; have BK439 := n2_; have BK447 := n3_; have HB := n4_; clear n0_ n1_ n2_ n3_ n4_; (try clear hb); (try clear hb2); (try clear hk); (try clear hi)))
                          go_ret
                          exact ⟨by first | rfl | (simp [errW_none, errW_some] <;> rfl) | (simp [*, errW_none, errW_some] <;> rfl), by repeat (first | (with_reducible first | exact HB.out | apply below_alloc | apply pw_below_drewN | apply below_drew1 | refine below_set ?_ GE432.out | refine below_set ?_ GE433.out | refine below_set ?_ GE439.out | refine below_set ?_ GE447.out) | exact HB.out)⟩
                      · replace c35 := Bool.eq_false_iff.mpr c35
                        subst c35
                        have H1 : (whittlelaw3_PlaceCount.j1 kj6 a0_0 a0_1 a0_2 a0_3 a0_4 a2_0 a2_1 a2_2) = some r := by rw [if_neg (show ¬ (false = true) by decide)] at H; exact H
                        clear H
                        have H := H1
                        clear H1
                        have H' := Aside0.mk H
                        clear H
                        have hnb80 := NB432_433.out
                        have hnc80 := NB433_432.out
                        have hnb81 := NB432_439.out
                        have hnc81 := NB439_432.out
                        have hcz82_0 : wc.cell? ⟨gb432, 0, none⟩ = some (.int .i64 a0_0) := (blk_cell BK432.out 0).trans rfl
                        have hcz82_1 : wc.cell? ⟨gb432, 1, none⟩ = some (.int .i64 a0_1) := (blk_cell BK432.out 1).trans rfl
                        have hcz82_2 : wc.cell? ⟨gb432, 2, none⟩ = some (.int .i64 a0_2) := (blk_cell BK432.out 2).trans rfl
                        have hcz82_3 : wc.cell? ⟨gb432, 3, none⟩ = some (.int .i64 a0_3) := (blk_cell BK432.out 3).trans rfl
                        have hcz82_4 : wc.cell? ⟨gb432, 4, none⟩ = some (.int .i64 a0_4) := (blk_cell BK432.out 4).trans rfl
                        have hfz82_0 := blk_frozen BK432.out 0
                        have hfz82_1 := blk_frozen BK432.out 1
                        have hfz82_2 := blk_frozen BK432.out 2
                        have hfz82_3 := blk_frozen BK432.out 3
                        have hfz82_4 := blk_frozen BK432.out 4
                        have hnb83 := NB439_433.out
                        have hnc83 := NB433_439.out
                        have hcz84_0 : wc.cell? ⟨gb439, 0, none⟩ = some (.int .i64 t435) := (blk_cell BK439.out 0).trans rfl
                        have hcz84_1 : wc.cell? ⟨gb439, 1, none⟩ = some (.int .i64 t436) := (blk_cell BK439.out 1).trans rfl
                        have hcz84_2 : wc.cell? ⟨gb439, 2, none⟩ = some (.int .i64 t437) := (blk_cell BK439.out 2).trans rfl
                        have hfz84_0 := blk_frozen BK439.out 0
                        have hfz84_1 := blk_frozen BK439.out 1
                        have hfz84_2 := blk_frozen BK439.out 2
                        go_wp2_with (first | ((with_reducible refine gate_callee (f := 37) rfl ?_); refine goesL_ (some 39) rfl rfl Tryd.func37 (by kernel_rfl) rfl #[.agg #[.int .i64 a0_0, .int .i64 a0_1, .int .i64 a0_2, .int .i64 a0_3, .int .i64 a0_4], .agg #[.int .i64 t435, .int .i64 t436, .int .i64 t437]] rfl (by (try simp only [List.map_toArray, List.map_cons, List.map_nil]); first | done | rfl | (simp only [List.length_drop, List.length_take]; rfl)) ?_; (with_reducible refine (place_Index.calls a0_0 a0_1 a0_2 a0_3 a0_4 t435 t436 t437 t441 true _ A27.out).mono ?_); rintro e w85 ⟨rfl, hb⟩; refine ⟨_, rfl, ?_⟩; have n0_ := Aside0.mk (blk_below (g := gb432) (o := .cells #[.int .i64 a0_0, .int .i64 a0_1, .int .i64 a0_2, .int .i64 a0_3, .int .i64 a0_4] 25 (0, 0)) (by (with_reducible repeat (first | refine blk_drewN ?_ _ | refine blk_drew ?_ | refine blk_alloc ?_ _)); exact BK432.out) hb); have n1_ := Aside0.mk (blk_below (g := gb433) (o := .cells #[.int .i64 a2_0, .int .i64 a2_1, .int .i64 a2_2] 23 (0, 0)) (by (with_reducible repeat (first | refine blk_drewN ?_ _ | refine blk_drew ?_ | refine blk_alloc ?_ _)); exact BK433.out) hb); have n2_ := Aside0.mk (blk_below (g := gb439) (o := .cells #[.int .i64 t435, .int .i64 t436, .int .i64 t437] 23 (0, 0)) (by (with_reducible repeat (first | refine blk_drewN ?_ _ | refine blk_drew ?_ | refine blk_alloc ?_ _)); exact BK439.out) hb); have n3_ := Aside0.mk (below_step (by repeat (first | (with_reducible first | exact HB.out | apply below_alloc | apply pw_below_drewN | apply below_drew1 | refine below_set ?_ GE432.out | refine below_set ?_ GE433.out | refine below_set ?_ GE439.out) | exact HB.out)) hb); clear BK432; clear BK433; clear BK439; clear HB; have BK432 := n0_; have BK433 := n1_; have BK439 := n2_; have HB := n3_; clear n0_ n1_ n2_ n3_; (try clear hb); (try clear hb2); (try clear hk); (try clear hi); have hcz86_0 : w85.cell? ⟨gb432, 0, none⟩ = some (.int .i64 a0_0) := (blk_cell BK432.out 0).trans rfl; have hcz86_1 : w85.cell? ⟨gb432, 1, none⟩ = some (.int .i64 a0_1) := (blk_cell BK432.out 1).trans rfl; have hcz86_2 : w85.cell? ⟨gb432, 2, none⟩ = some (.int .i64 a0_2) := (blk_cell BK432.out 2).trans rfl; have hcz86_3 : w85.cell? ⟨gb432, 3, none⟩ = some (.int .i64 a0_3) := (blk_cell BK432.out 3).trans rfl; have hcz86_4 : w85.cell? ⟨gb432, 4, none⟩ = some (.int .i64 a0_4) := (blk_cell BK432.out 4).trans rfl; have hfz86_0 := blk_frozen BK432.out 0; have hfz86_1 := blk_frozen BK432.out 1; have hfz86_2 := blk_frozen BK432.out 2; have hfz86_3 := blk_frozen BK432.out 3; have hfz86_4 := blk_frozen BK432.out 4) | ((with_reducible refine gate_callee (f := 35) rfl ?_); refine goesL_ (some 46) rfl rfl Tryd.func35 (by kernel_rfl) rfl #[.agg #[.int .i64 a0_0, .int .i64 a0_1, .int .i64 a0_2, .int .i64 a0_3, .int .i64 a0_4], .int .i64 (wrap64 (a1 + 1))] rfl (by (try simp only [List.map_toArray, List.map_cons, List.map_nil]); first | done | rfl | (simp only [List.length_drop, List.length_take]; rfl)) ?_; (with_reducible refine (place_At.calls kj6 a0_0 a0_1 a0_2 a0_3 a0_4 (wrap64 (a1 + 1)) t443 t444 t445 false _ A28.out).mono ?_); rintro e w87 ⟨rfl, hb⟩; refine ⟨_, rfl, ?_⟩; have n0_ := Aside0.mk (blk_below (g := gb432) (o := .cells #[.int .i64 a0_0, .int .i64 a0_1, .int .i64 a0_2, .int .i64 a0_3, .int .i64 a0_4] 25 (0, 0)) (by (with_reducible repeat (first | refine blk_drewN ?_ _ | refine blk_drew ?_ | refine blk_alloc ?_ _)); exact BK432.out) hb); have n1_ := Aside0.mk (blk_below (g := gb433) (o := .cells #[.int .i64 a2_0, .int .i64 a2_1, .int .i64 a2_2] 23 (0, 0)) (by (with_reducible repeat (first | refine blk_drewN ?_ _ | refine blk_drew ?_ | refine blk_alloc ?_ _)); exact BK433.out) hb); have n2_ := Aside0.mk (blk_below (g := gb439) (o := .cells #[.int .i64 t435, .int .i64 t436, .int .i64 t437] 23 (0, 0)) (by (with_reducible repeat (first | refine blk_drewN ?_ _ | refine blk_drew ?_ | refine blk_alloc ?_ _)); exact BK439.out) hb); have n3_ := Aside0.mk (below_step (by repeat (first | (with_reducible first | exact HB.out | apply below_alloc | apply pw_below_drewN | apply below_drew1 | refine below_set ?_ GE432.out | refine below_set ?_ GE433.out | refine below_set ?_ GE439.out) | exact HB.out)) hb); clear BK432; clear BK433; clear BK439; clear HB; have BK432 := n0_; have BK433 := n1_; have BK439 := n2_; have HB := n3_; clear n0_ n1_ n2_ n3_; (try clear hb); (try clear hb2); (try clear hk); (try clear hi)) | ((with_reducible refine gate_dst (N := 11) rfl ?_); refine box_event ?hg (N := 11) ?hd (cs := #[.int .i64 0, .int .i64 0, .int .i64 0]) (t := 23) ?hr ?_; (case hd => rfl); (case hg => rfl); (case hr => first | (go_simp; done) | (go_simp; rfl)); intro gb447 hg w88 hbox hb; have n0_ := Aside0.mk (blk_below (g := gb432) (o := .cells #[.int .i64 a0_0, .int .i64 a0_1, .int .i64 a0_2, .int .i64 a0_3, .int .i64 a0_4] 25 (0, 0)) (by (with_reducible repeat (first | refine blk_drewN ?_ _ | refine blk_drew ?_ | refine blk_alloc ?_ _)); exact BK432.out) hb); have n1_ := Aside0.mk (blk_below (g := gb433) (o := .cells #[.int .i64 a2_0, .int .i64 a2_1, .int .i64 a2_2] 23 (0, 0)) (by (with_reducible repeat (first | refine blk_drewN ?_ _ | refine blk_drew ?_ | refine blk_alloc ?_ _)); exact BK433.out) hb); have n2_ := Aside0.mk (blk_below (g := gb439) (o := .cells #[.int .i64 t435, .int .i64 t436, .int .i64 t437] 23 (0, 0)) (by (with_reducible repeat (first | refine blk_drewN ?_ _ | refine blk_drew ?_ | refine blk_alloc ?_ _)); exact BK439.out) hb); have n3_ := Aside0.mk (below_step (by repeat (first | (with_reducible first | exact HB.out | apply below_alloc | apply pw_below_drewN | apply below_drew1 | refine below_set ?_ GE432.out | refine below_set ?_ GE433.out | refine below_set ?_ GE439.out) | exact HB.out)) hb); have n4_ := Aside0.mk (hbox); have n5_ := Aside0.mk ((by rw [hg]; exact (below_size (by repeat (first | (with_reducible first | exact HB.out | apply below_alloc | apply pw_below_drewN | apply below_drew1 | refine below_set ?_ GE432.out | refine below_set ?_ GE433.out | refine below_set ?_ GE439.out) | exact HB.out))) : w.heap.size ≤ gb447)); have n6_ := Aside0.mk ((by rw [hg]; exact (below_size (by repeat (first | (with_reducible first | exact HB.out | apply below_alloc | apply pw_below_drewN | apply below_drew1 | refine below_set ?_ GE432.out | refine below_set ?_ GE433.out | refine below_set ?_ GE439.out) | exact HB.out))) : w.heap.size ≤ gb447)); have n7_ := Aside0.mk ((by rw [hg]; exact Nat.ne_of_lt (blk_lt (g := gb432) (o := .cells #[.int .i64 a0_0, .int .i64 a0_1, .int .i64 a0_2, .int .i64 a0_3, .int .i64 a0_4] 25 (0, 0)) (by (with_reducible repeat (first | refine blk_drewN ?_ _ | refine blk_drew ?_ | refine blk_alloc ?_ _)); exact BK432.out)) : gb432 ≠ gb447)); have n8_ := Aside0.mk ((by rw [hg]; exact Nat.ne_of_gt (blk_lt (g := gb432) (o := .cells #[.int .i64 a0_0, .int .i64 a0_1, .int .i64 a0_2, .int .i64 a0_3, .int .i64 a0_4] 25 (0, 0)) (by (with_reducible repeat (first | refine blk_drewN ?_ _ | refine blk_drew ?_ | refine blk_alloc ?_ _)); exact BK432.out)) : gb447 ≠ gb432)); have n9_ := Aside0.mk ((by rw [hg]; exact Nat.ne_of_lt (blk_lt (g := gb433) (o := .cells #[.int .i64 a2_0, .int .i64 a2_1, .int .i64 a2_2] 23 (0, 0)) (by (with_reducible repeat (first | refine blk_drewN ?_ _ | refine blk_drew ?_ | refine blk_alloc ?_ _)); exact BK433.out)) : gb433 ≠ gb447)); have n10_ := Aside0.mk ((by rw [hg]; exact Nat.ne_of_gt (blk_lt (g := gb433) (o := .cells #[.int .i64 a2_0, .int .i64 a2_1, .int .i64 a2_2] 23 (0, 0)) (by (with_reducible repeat (first | refine blk_drewN ?_ _ | refine blk_drew ?_ | refine blk_alloc ?_ _)); exact BK433.out)) : gb447 ≠ gb433)); have n11_ := Aside0.mk ((by rw [hg]; exact Nat.ne_of_lt (blk_lt (g := gb439) (o := .cells #[.int .i64 t435, .int .i64 t436, .int .i64 t437] 23 (0, 0)) (by (with_reducible repeat (first | refine blk_drewN ?_ _ | refine blk_drew ?_ | refine blk_alloc ?_ _)); exact BK439.out)) : gb439 ≠ gb447)); have n12_ := Aside0.mk ((by rw [hg]; exact Nat.ne_of_gt (blk_lt (g := gb439) (o := .cells #[.int .i64 t435, .int .i64 t436, .int .i64 t437] 23 (0, 0)) (by (with_reducible repeat (first | refine blk_drewN ?_ _ | refine blk_drew ?_ | refine blk_alloc ?_ _)); exact BK439.out)) : gb447 ≠ gb439)); clear BK432; clear BK433; clear BK439; clear HB; have BK432 := n0_; have BK433 := n1_; have BK439 := n2_; have HB := n3_; have BK447 := n4_; have GW447 := n5_; have GE447 := n6_; have NB432_447 := n7_; have NB447_432 := n8_; have NB433_447 := n9_; have NB447_433 := n10_; have NB439_447 := n11_; have NB447_439 := n12_; clear n0_ n1_ n2_ n3_ n4_ n5_ n6_ n7_ n8_ n9_ n10_ n11_ n12_; clear hb hbox hg; have hnb89 := NB447_432.out; have hnc89 := NB432_447.out; have hnb90 := NB447_433.out; have hnc90 := NB433_447.out; have hnb91 := NB447_439.out; have hnc91 := NB439_447.out; have hcz92_0 : w88.cell? ⟨gb447, 0, none⟩ = some (.int .i64 0) := (blk_cell BK447.out 0).trans rfl; have hcz92_1 : w88.cell? ⟨gb447, 1, none⟩ = some (.int .i64 0) := (blk_cell BK447.out 1).trans rfl; have hcz92_2 : w88.cell? ⟨gb447, 2, none⟩ = some (.int .i64 0) := (blk_cell BK447.out 2).trans rfl; have hfz92_0 := blk_frozen BK447.out 0; have hfz92_1 := blk_frozen BK447.out 1; have hfz92_2 := blk_frozen BK447.out 2; have hcz93_0 : w88.cell? ⟨gb432, 0, none⟩ = some (.int .i64 a0_0) := (blk_cell BK432.out 0).trans rfl; have hcz93_1 : w88.cell? ⟨gb432, 1, none⟩ = some (.int .i64 a0_1) := (blk_cell BK432.out 1).trans rfl; have hcz93_2 : w88.cell? ⟨gb432, 2, none⟩ = some (.int .i64 a0_2) := (blk_cell BK432.out 2).trans rfl; have hcz93_3 : w88.cell? ⟨gb432, 3, none⟩ = some (.int .i64 a0_3) := (blk_cell BK432.out 3).trans rfl; have hcz93_4 : w88.cell? ⟨gb432, 4, none⟩ = some (.int .i64 a0_4) := (blk_cell BK432.out 4).trans rfl; have hfz93_0 := blk_frozen BK432.out 0; have hfz93_1 := blk_frozen BK432.out 1; have hfz93_2 := blk_frozen BK432.out 2; have hfz93_3 := blk_frozen BK432.out 3; have hfz93_4 := blk_frozen BK432.out 4; have hcz94_0 : w88.cell? ⟨gb439, 0, none⟩ = some (.int .i64 t435) := (blk_cell BK439.out 0).trans rfl; have hcz94_1 : w88.cell? ⟨gb439, 1, none⟩ = some (.int .i64 t436) := (blk_cell BK439.out 1).trans rfl; have hcz94_2 : w88.cell? ⟨gb439, 2, none⟩ = some (.int .i64 t437) := (blk_cell BK439.out 2).trans rfl; have hfz94_0 := blk_frozen BK439.out 0; have hfz94_1 := blk_frozen BK439.out 1; have hfz94_2 := blk_frozen BK439.out 2) | (go_at_call 28; (with_reducible refine (place_Has.calls a0_0 a0_1 a0_2 a0_3 a0_4 t435 t436 t437 true _ A31.out).mono ?_); rintro e w95 ⟨rfl, hb⟩; have n0_ := Aside0.mk (blk_below (g := gb432) (o := .cells #[.int .i64 a0_0, .int .i64 a0_1, .int .i64 a0_2, .int .i64 a0_3, .int .i64 a0_4] 25 (0, 0)) (by (with_reducible repeat (first | refine blk_drewN ?_ _ | refine blk_drew ?_ | refine blk_alloc ?_ _)); refine blk_far ?_ NB432_447.out _; (with_reducible repeat (first | refine blk_drewN ?_ _ | refine blk_drew ?_ | refine blk_alloc ?_ _)); refine blk_far ?_ NB432_447.out _; (with_reducible repeat (first | refine blk_drewN ?_ _ | refine blk_drew ?_ | refine blk_alloc ?_ _)); refine blk_far ?_ NB432_447.out _; (with_reducible repeat (first | refine blk_drewN ?_ _ | refine blk_drew ?_ | refine blk_alloc ?_ _)); exact BK432.out) hb); have n1_ := Aside0.mk (blk_below (g := gb433) (o := .cells #[.int .i64 a2_0, .int .i64 a2_1, .int .i64 a2_2] 23 (0, 0)) (by (with_reducible repeat (first | refine blk_drewN ?_ _ | refine blk_drew ?_ | refine blk_alloc ?_ _)); refine blk_far ?_ NB433_447.out _; (with_reducible repeat (first | refine blk_drewN ?_ _ | refine blk_drew ?_ | refine blk_alloc ?_ _)); refine blk_far ?_ NB433_447.out _; (with_reducible repeat (first | refine blk_drewN ?_ _ | refine blk_drew ?_ | refine blk_alloc ?_ _)); refine blk_far ?_ NB433_447.out _; (with_reducible repeat (first | refine blk_drewN ?_ _ | refine blk_drew ?_ | refine blk_alloc ?_ _)); exact BK433.out) hb); have n2_ := Aside0.mk (blk_below (g := gb439) (o := .cells #[.int .i64 t435, .int .i64 t436, .int .i64 t437] 23 (0, 0)) (by (with_reducible repeat (first | refine blk_drewN ?_ _ | refine blk_drew ?_ | refine blk_alloc ?_ _)); refine blk_far ?_ NB439_447.out _; (with_reducible repeat (first | refine blk_drewN ?_ _ | refine blk_drew ?_ | refine blk_alloc ?_ _)); refine blk_far ?_ NB439_447.out _; (with_reducible repeat (first | refine blk_drewN ?_ _ | refine blk_drew ?_ | refine blk_alloc ?_ _)); refine blk_far ?_ NB439_447.out _; (with_reducible repeat (first | refine blk_drewN ?_ _ | refine blk_drew ?_ | refine blk_alloc ?_ _)); exact BK439.out) hb); have n3_ := Aside0.mk (blk_below (g := gb447) (o := .cells #[.int .i64 t443, .int .i64 t444, .int .i64 t445] 23 (0, 0)) (by (with_reducible repeat (first | refine blk_drewN ?_ _ | refine blk_drew ?_ | refine blk_alloc ?_ _)); refine blk_put (cs := #[.int .i64 t443, .int .i64 t444, .int .i64 0]) ?_ 2 _ rfl; (with_reducible repeat (first | refine blk_drewN ?_ _ | refine blk_drew ?_ | refine blk_alloc ?_ _)); refine blk_put (cs := #[.int .i64 t443, .int .i64 0, .int .i64 0]) ?_ 1 _ rfl; (with_reducible repeat (first | refine blk_drewN ?_ _ | refine blk_drew ?_ | refine blk_alloc ?_ _)); refine blk_put (cs := #[.int .i64 0, .int .i64 0, .int .i64 0]) ?_ 0 _ rfl; (with_reducible repeat (first | refine blk_drewN ?_ _ | refine blk_drew ?_ | refine blk_alloc ?_ _)); exact BK447.out) hb); have n4_ := Aside0.mk (below_step (by repeat (first | (with_reducible first | exact HB.out | apply below_alloc | apply pw_below_drewN | apply below_drew1 | refine below_set ?_ GE432.out | refine below_set ?_ GE433.out | refine below_set ?_ GE439.out | refine below_set ?_ GE447.out) | exact HB.out)) hb); clear BK432; clear BK433; clear BK439; clear BK447; clear HB; have BK432 := n0_; have BK433 := n1_; have BK439 := n2_; have BK447 := n3_; have HB := n4_; clear n0_ n1_ n2_ n3_ n4_; (try clear hb); (try clear hb2); (try clear hk); (try clear hi); have hcz96_0 : w95.cell? ⟨gb439, 0, none⟩ = some (.int .i64 t435) := (blk_cell BK439.out 0).trans rfl; have hcz96_1 : w95.cell? ⟨gb439, 1, none⟩ = some (.int .i64 t436) := (blk_cell BK439.out 1).trans rfl; have hcz96_2 : w95.cell? ⟨gb439, 2, none⟩ = some (.int .i64 t437) := (blk_cell BK439.out 2).trans rfl; have hfz96_0 := blk_frozen BK439.out 0; have hfz96_1 := blk_frozen BK439.out 1; have hfz96_2 := blk_frozen BK439.out 2) | (go_at_call 17; (with_reducible refine (place_Right.calls t435 t436 t437 true _ A33.out).mono ?_); rintro e w97 ⟨rfl, hb⟩; have n0_ := Aside0.mk (blk_below (g := gb432) (o := .cells #[.int .i64 a0_0, .int .i64 a0_1, .int .i64 a0_2, .int .i64 a0_3, .int .i64 a0_4] 25 (0, 0)) (by (with_reducible repeat (first | refine blk_drewN ?_ _ | refine blk_drew ?_ | refine blk_alloc ?_ _)); exact BK432.out) hb); have n1_ := Aside0.mk (blk_below (g := gb433) (o := .cells #[.int .i64 a2_0, .int .i64 a2_1, .int .i64 a2_2] 23 (0, 0)) (by (with_reducible repeat (first | refine blk_drewN ?_ _ | refine blk_drew ?_ | refine blk_alloc ?_ _)); exact BK433.out) hb); have n2_ := Aside0.mk (blk_below (g := gb439) (o := .cells #[.int .i64 t435, .int .i64 t436, .int .i64 t437] 23 (0, 0)) (by (with_reducible repeat (first | refine blk_drewN ?_ _ | refine blk_drew ?_ | refine blk_alloc ?_ _)); exact BK439.out) hb); have n3_ := Aside0.mk (blk_below (g := gb447) (o := .cells #[.int .i64 t443, .int .i64 t444, .int .i64 t445] 23 (0, 0)) (by (with_reducible repeat (first | refine blk_drewN ?_ _ | refine blk_drew ?_ | refine blk_alloc ?_ _)); exact BK447.out) hb); have n4_ := Aside0.mk (below_step (by repeat (first | (with_reducible first | exact HB.out | apply below_alloc | apply pw_below_drewN | apply below_drew1 | refine below_set ?_ GE432.out | refine below_set ?_ GE433.out | refine below_set ?_ GE439.out | refine below_set ?_ GE447.out) | exact HB.out)) hb); clear BK432; clear BK433; clear BK439; clear BK447; clear HB; have BK432 := n0_; have BK433 := n1_; have BK439 := n2_; have BK447 := n3_; have HB := n4_; clear n0_ n1_ n2_ n3_ n4_; (try clear hb); (try clear hb2); (try clear hk); (try clear hi)))
                        go_meet
                        case rel => exact ⟨_, H', ⟨by have := HJ6.out; first | omega | exact Nat.le_refl _⟩, ⟨by (with_reducible repeat (first | refine blk_drewN ?_ _ | refine blk_drew ?_ | refine blk_alloc ?_ _)); exact BK432.out⟩, ⟨by (with_reducible repeat (first | refine blk_drewN ?_ _ | refine blk_drew ?_ | refine blk_alloc ?_ _)); exact BK433.out⟩, ⟨by (with_reducible repeat (first | refine blk_drewN ?_ _ | refine blk_drew ?_ | refine blk_alloc ?_ _)); exact BK439.out⟩, ⟨by repeat (first | (with_reducible first | exact HB.out | apply below_alloc | apply pw_below_drewN | apply below_drew1 | refine below_set ?_ GE432.out | refine below_set ?_ GE433.out | refine below_set ?_ GE439.out | refine below_set ?_ GE447.out) | exact HB.out)⟩⟩
                    · replace c34 := Bool.eq_false_iff.mpr c34
                      subst c34
                      have H1 : (some false) = some r := by rw [if_neg (show ¬ (false = true) by decide)] at H; exact H
                      clear H
                      have H := H1
                      clear H1
                      obtain rfl := Option.some.inj H
                      have hnb98 := NB432_433.out
                      have hnc98 := NB433_432.out
                      have hnb99 := NB432_439.out
                      have hnc99 := NB439_432.out
                      have hcz100_0 : wc.cell? ⟨gb432, 0, none⟩ = some (.int .i64 a0_0) := (blk_cell BK432.out 0).trans rfl
                      have hcz100_1 : wc.cell? ⟨gb432, 1, none⟩ = some (.int .i64 a0_1) := (blk_cell BK432.out 1).trans rfl
                      have hcz100_2 : wc.cell? ⟨gb432, 2, none⟩ = some (.int .i64 a0_2) := (blk_cell BK432.out 2).trans rfl
                      have hcz100_3 : wc.cell? ⟨gb432, 3, none⟩ = some (.int .i64 a0_3) := (blk_cell BK432.out 3).trans rfl
                      have hcz100_4 : wc.cell? ⟨gb432, 4, none⟩ = some (.int .i64 a0_4) := (blk_cell BK432.out 4).trans rfl
                      have hfz100_0 := blk_frozen BK432.out 0
                      have hfz100_1 := blk_frozen BK432.out 1
                      have hfz100_2 := blk_frozen BK432.out 2
                      have hfz100_3 := blk_frozen BK432.out 3
                      have hfz100_4 := blk_frozen BK432.out 4
                      have hnb101 := NB439_433.out
                      have hnc101 := NB433_439.out
                      have hcz102_0 : wc.cell? ⟨gb439, 0, none⟩ = some (.int .i64 t435) := (blk_cell BK439.out 0).trans rfl
                      have hcz102_1 : wc.cell? ⟨gb439, 1, none⟩ = some (.int .i64 t436) := (blk_cell BK439.out 1).trans rfl
                      have hcz102_2 : wc.cell? ⟨gb439, 2, none⟩ = some (.int .i64 t437) := (blk_cell BK439.out 2).trans rfl
                      have hfz102_0 := blk_frozen BK439.out 0
                      have hfz102_1 := blk_frozen BK439.out 1
                      have hfz102_2 := blk_frozen BK439.out 2
                      go_wp2_with (first | ((with_reducible refine gate_callee (f := 37) rfl ?_); refine goesL_ (some 39) rfl rfl Tryd.func37 (by kernel_rfl) rfl #[.agg #[.int .i64 a0_0, .int .i64 a0_1, .int .i64 a0_2, .int .i64 a0_3, .int .i64 a0_4], .agg #[.int .i64 t435, .int .i64 t436, .int .i64 t437]] rfl (by (try simp only [List.map_toArray, List.map_cons, List.map_nil]); first | done | rfl | (simp only [List.length_drop, List.length_take]; rfl)) ?_; (with_reducible refine (place_Index.calls a0_0 a0_1 a0_2 a0_3 a0_4 t435 t436 t437 t441 true _ A27.out).mono ?_); rintro e w103 ⟨rfl, hb⟩; refine ⟨_, rfl, ?_⟩; have n0_ := Aside0.mk (blk_below (g := gb432) (o := .cells #[.int .i64 a0_0, .int .i64 a0_1, .int .i64 a0_2, .int .i64 a0_3, .int .i64 a0_4] 25 (0, 0)) (by (with_reducible repeat (first | refine blk_drewN ?_ _ | refine blk_drew ?_ | refine blk_alloc ?_ _)); exact BK432.out) hb); have n1_ := Aside0.mk (blk_below (g := gb433) (o := .cells #[.int .i64 a2_0, .int .i64 a2_1, .int .i64 a2_2] 23 (0, 0)) (by (with_reducible repeat (first | refine blk_drewN ?_ _ | refine blk_drew ?_ | refine blk_alloc ?_ _)); exact BK433.out) hb); have n2_ := Aside0.mk (blk_below (g := gb439) (o := .cells #[.int .i64 t435, .int .i64 t436, .int .i64 t437] 23 (0, 0)) (by (with_reducible repeat (first | refine blk_drewN ?_ _ | refine blk_drew ?_ | refine blk_alloc ?_ _)); exact BK439.out) hb); have n3_ := Aside0.mk (below_step (by repeat (first | (with_reducible first | exact HB.out | apply below_alloc | apply pw_below_drewN | apply below_drew1 | refine below_set ?_ GE432.out | refine below_set ?_ GE433.out | refine below_set ?_ GE439.out) | exact HB.out)) hb); clear BK432; clear BK433; clear BK439; clear HB; have BK432 := n0_; have BK433 := n1_; have BK439 := n2_; have HB := n3_; clear n0_ n1_ n2_ n3_; (try clear hb); (try clear hb2); (try clear hk); (try clear hi); have hcz104_0 : w103.cell? ⟨gb432, 0, none⟩ = some (.int .i64 a0_0) := (blk_cell BK432.out 0).trans rfl; have hcz104_1 : w103.cell? ⟨gb432, 1, none⟩ = some (.int .i64 a0_1) := (blk_cell BK432.out 1).trans rfl; have hcz104_2 : w103.cell? ⟨gb432, 2, none⟩ = some (.int .i64 a0_2) := (blk_cell BK432.out 2).trans rfl; have hcz104_3 : w103.cell? ⟨gb432, 3, none⟩ = some (.int .i64 a0_3) := (blk_cell BK432.out 3).trans rfl; have hcz104_4 : w103.cell? ⟨gb432, 4, none⟩ = some (.int .i64 a0_4) := (blk_cell BK432.out 4).trans rfl; have hfz104_0 := blk_frozen BK432.out 0; have hfz104_1 := blk_frozen BK432.out 1; have hfz104_2 := blk_frozen BK432.out 2; have hfz104_3 := blk_frozen BK432.out 3; have hfz104_4 := blk_frozen BK432.out 4) | ((with_reducible refine gate_callee (f := 35) rfl ?_); refine goesL_ (some 46) rfl rfl Tryd.func35 (by kernel_rfl) rfl #[.agg #[.int .i64 a0_0, .int .i64 a0_1, .int .i64 a0_2, .int .i64 a0_3, .int .i64 a0_4], .int .i64 (wrap64 (a1 + 1))] rfl (by (try simp only [List.map_toArray, List.map_cons, List.map_nil]); first | done | rfl | (simp only [List.length_drop, List.length_take]; rfl)) ?_; (with_reducible refine (place_At.calls kj6 a0_0 a0_1 a0_2 a0_3 a0_4 (wrap64 (a1 + 1)) t443 t444 t445 t446 _ A28.out).mono ?_); rintro e w105 ⟨rfl, hb⟩; refine ⟨_, rfl, ?_⟩; have n0_ := Aside0.mk (blk_below (g := gb432) (o := .cells #[.int .i64 a0_0, .int .i64 a0_1, .int .i64 a0_2, .int .i64 a0_3, .int .i64 a0_4] 25 (0, 0)) (by (with_reducible repeat (first | refine blk_drewN ?_ _ | refine blk_drew ?_ | refine blk_alloc ?_ _)); exact BK432.out) hb); have n1_ := Aside0.mk (blk_below (g := gb433) (o := .cells #[.int .i64 a2_0, .int .i64 a2_1, .int .i64 a2_2] 23 (0, 0)) (by (with_reducible repeat (first | refine blk_drewN ?_ _ | refine blk_drew ?_ | refine blk_alloc ?_ _)); exact BK433.out) hb); have n2_ := Aside0.mk (blk_below (g := gb439) (o := .cells #[.int .i64 t435, .int .i64 t436, .int .i64 t437] 23 (0, 0)) (by (with_reducible repeat (first | refine blk_drewN ?_ _ | refine blk_drew ?_ | refine blk_alloc ?_ _)); exact BK439.out) hb); have n3_ := Aside0.mk (below_step (by repeat (first | (with_reducible first | exact HB.out | apply below_alloc | apply pw_below_drewN | apply below_drew1 | refine below_set ?_ GE432.out | refine below_set ?_ GE433.out | refine below_set ?_ GE439.out) | exact HB.out)) hb); clear BK432; clear BK433; clear BK439; clear HB; have BK432 := n0_; have BK433 := n1_; have BK439 := n2_; have HB := n3_; clear n0_ n1_ n2_ n3_; (try clear hb); (try clear hb2); (try clear hk); (try clear hi)) | ((with_reducible refine gate_dst (N := 11) rfl ?_); refine box_event ?hg (N := 11) ?hd (cs := #[.int .i64 0, .int .i64 0, .int .i64 0]) (t := 23) ?hr ?_; (case hd => rfl); (case hg => rfl); (case hr => first | (go_simp; done) | (go_simp; rfl)); intro gb447 hg w106 hbox hb; have n0_ := Aside0.mk (blk_below (g := gb432) (o := .cells #[.int .i64 a0_0, .int .i64 a0_1, .int .i64 a0_2, .int .i64 a0_3, .int .i64 a0_4] 25 (0, 0)) (by (with_reducible repeat (first | refine blk_drewN ?_ _ | refine blk_drew ?_ | refine blk_alloc ?_ _)); exact BK432.out) hb); have n1_ := Aside0.mk (blk_below (g := gb433) (o := .cells #[.int .i64 a2_0, .int .i64 a2_1, .int .i64 a2_2] 23 (0, 0)) (by (with_reducible repeat (first | refine blk_drewN ?_ _ | refine blk_drew ?_ | refine blk_alloc ?_ _)); exact BK433.out) hb); have n2_ := Aside0.mk (blk_below (g := gb439) (o := .cells #[.int .i64 t435, .int .i64 t436, .int .i64 t437] 23 (0, 0)) (by (with_reducible repeat (first | refine blk_drewN ?_ _ | refine blk_drew ?_ | refine blk_alloc ?_ _)); exact BK439.out) hb); have n3_ := Aside0.mk (below_step (by repeat (first | (with_reducible first | exact HB.out | apply below_alloc | apply pw_below_drewN | apply below_drew1 | refine below_set ?_ GE432.out | refine below_set ?_ GE433.out | refine below_set ?_ GE439.out) | exact HB.out)) hb); have n4_ := Aside0.mk (hbox); have n5_ := Aside0.mk ((by rw [hg]; exact (below_size (by repeat (first | (with_reducible first | exact HB.out | apply below_alloc | apply pw_below_drewN | apply below_drew1 | refine below_set ?_ GE432.out | refine below_set ?_ GE433.out | refine below_set ?_ GE439.out) | exact HB.out))) : w.heap.size ≤ gb447)); have n6_ := Aside0.mk ((by rw [hg]; exact (below_size (by repeat (first | (with_reducible first | exact HB.out | apply below_alloc | apply pw_below_drewN | apply below_drew1 | refine below_set ?_ GE432.out | refine below_set ?_ GE433.out | refine below_set ?_ GE439.out) | exact HB.out))) : w.heap.size ≤ gb447)); have n7_ := Aside0.mk ((by rw [hg]; exact Nat.ne_of_lt (blk_lt (g := gb432) (o := .cells #[.int .i64 a0_0, .int .i64 a0_1, .int .i64 a0_2, .int .i64 a0_3, .int .i64 a0_4] 25 (0, 0)) (by (with_reducible repeat (first | refine blk_drewN ?_ _ | refine blk_drew ?_ | refine blk_alloc ?_ _)); exact BK432.out)) : gb432 ≠ gb447)); have n8_ := Aside0.mk ((by rw [hg]; exact Nat.ne_of_gt (blk_lt (g := gb432) (o := .cells #[.int .i64 a0_0, .int .i64 a0_1, .int .i64 a0_2, .int .i64 a0_3, .int .i64 a0_4] 25 (0, 0)) (by (with_reducible repeat (first | refine blk_drewN ?_ _ | refine blk_drew ?_ | refine blk_alloc ?_ _)); exact BK432.out)) : gb447 ≠ gb432)); have n9_ := Aside0.mk ((by rw [hg]; exact Nat.ne_of_lt (blk_lt (g := gb433) (o := .cells #[.int .i64 a2_0, .int .i64 a2_1, .int .i64 a2_2] 23 (0, 0)) (by (with_reducible repeat (first | refine blk_drewN ?_ _ | refine blk_drew ?_ | refine blk_alloc ?_ _)); exact BK433.out)) : gb433 ≠ gb447)); have n10_ := Aside0.mk ((by rw [hg]; exact Nat.ne_of_gt (blk_lt (g := gb433) (o := .cells #[.int .i64 a2_0, .int .i64 a2_1, .int .i64 a2_2] 23 (0, 0)) (by (with_reducible repeat (first | refine blk_drewN ?_ _ | refine blk_drew ?_ | refine blk_alloc ?_ _)); exact BK433.out)) : gb447 ≠ gb433)); have n11_ := Aside0.mk ((by rw [hg]; exact Nat.ne_of_lt (blk_lt (g := gb439) (o := .cells #[.int .i64 t435, .int .i64 t436, .int .i64 t437] 23 (0, 0)) (by (with_reducible repeat (first | refine blk_drewN ?_ _ | refine blk_drew ?_ | refine blk_alloc ?_ _)); exact BK439.out)) : gb439 ≠ gb447)); have n12_ := Aside0.mk ((by rw [hg]; exact Nat.ne_of_gt (blk_lt (g := gb439) (o := .cells #[.int .i64 t435, .int .i64 t436, .int .i64 t437] 23 (0, 0)) (by (with_reducible repeat (first | refine blk_drewN ?_ _ | refine blk_drew ?_ | refine blk_alloc ?_ _)); exact BK439.out)) : gb447 ≠ gb439)); clear BK432; clear BK433; clear BK439; clear HB; have BK432 := n0_; have BK433 := n1_; have BK439 := n2_; have HB := n3_; have BK447 := n4_; have GW447 := n5_; have GE447 := n6_; have NB432_447 := n7_; have NB447_432 := n8_; have NB433_447 := n9_; have NB447_433 := n10_; have NB439_447 := n11_; have NB447_439 := n12_; clear n0_ n1_ n2_ n3_ n4_ n5_ n6_ n7_ n8_ n9_ n10_ n11_ n12_; clear hb hbox hg; have hnb107 := NB447_432.out; have hnc107 := NB432_447.out; have hnb108 := NB447_433.out; have hnc108 := NB433_447.out; have hnb109 := NB447_439.out; have hnc109 := NB439_447.out; have hcz110_0 : w106.cell? ⟨gb447, 0, none⟩ = some (.int .i64 0) := (blk_cell BK447.out 0).trans rfl; have hcz110_1 : w106.cell? ⟨gb447, 1, none⟩ = some (.int .i64 0) := (blk_cell BK447.out 1).trans rfl; have hcz110_2 : w106.cell? ⟨gb447, 2, none⟩ = some (.int .i64 0) := (blk_cell BK447.out 2).trans rfl; have hfz110_0 := blk_frozen BK447.out 0; have hfz110_1 := blk_frozen BK447.out 1; have hfz110_2 := blk_frozen BK447.out 2; have hcz111_0 : w106.cell? ⟨gb432, 0, none⟩ = some (.int .i64 a0_0) := (blk_cell BK432.out 0).trans rfl; have hcz111_1 : w106.cell? ⟨gb432, 1, none⟩ = some (.int .i64 a0_1) := (blk_cell BK432.out 1).trans rfl; have hcz111_2 : w106.cell? ⟨gb432, 2, none⟩ = some (.int .i64 a0_2) := (blk_cell BK432.out 2).trans rfl; have hcz111_3 : w106.cell? ⟨gb432, 3, none⟩ = some (.int .i64 a0_3) := (blk_cell BK432.out 3).trans rfl; have hcz111_4 : w106.cell? ⟨gb432, 4, none⟩ = some (.int .i64 a0_4) := (blk_cell BK432.out 4).trans rfl; have hfz111_0 := blk_frozen BK432.out 0; have hfz111_1 := blk_frozen BK432.out 1; have hfz111_2 := blk_frozen BK432.out 2; have hfz111_3 := blk_frozen BK432.out 3; have hfz111_4 := blk_frozen BK432.out 4; have hcz112_0 : w106.cell? ⟨gb439, 0, none⟩ = some (.int .i64 t435) := (blk_cell BK439.out 0).trans rfl; have hcz112_1 : w106.cell? ⟨gb439, 1, none⟩ = some (.int .i64 t436) := (blk_cell BK439.out 1).trans rfl; have hcz112_2 : w106.cell? ⟨gb439, 2, none⟩ = some (.int .i64 t437) := (blk_cell BK439.out 2).trans rfl; have hfz112_0 := blk_frozen BK439.out 0; have hfz112_1 := blk_frozen BK439.out 1; have hfz112_2 := blk_frozen BK439.out 2) | (go_at_call 28; (with_reducible refine (place_Has.calls a0_0 a0_1 a0_2 a0_3 a0_4 t435 t436 t437 true _ A31.out).mono ?_); rintro e w113 ⟨rfl, hb⟩; have n0_ := Aside0.mk (blk_below (g := gb432) (o := .cells #[.int .i64 a0_0, .int .i64 a0_1, .int .i64 a0_2, .int .i64 a0_3, .int .i64 a0_4] 25 (0, 0)) (by (with_reducible repeat (first | refine blk_drewN ?_ _ | refine blk_drew ?_ | refine blk_alloc ?_ _)); refine blk_far ?_ NB432_447.out _; (with_reducible repeat (first | refine blk_drewN ?_ _ | refine blk_drew ?_ | refine blk_alloc ?_ _)); refine blk_far ?_ NB432_447.out _; (with_reducible repeat (first | refine blk_drewN ?_ _ | refine blk_drew ?_ | refine blk_alloc ?_ _)); refine blk_far ?_ NB432_447.out _; (with_reducible repeat (first | refine blk_drewN ?_ _ | refine blk_drew ?_ | refine blk_alloc ?_ _)); exact BK432.out) hb); have n1_ := Aside0.mk (blk_below (g := gb433) (o := .cells #[.int .i64 a2_0, .int .i64 a2_1, .int .i64 a2_2] 23 (0, 0)) (by (with_reducible repeat (first | refine blk_drewN ?_ _ | refine blk_drew ?_ | refine blk_alloc ?_ _)); refine blk_far ?_ NB433_447.out _; (with_reducible repeat (first | refine blk_drewN ?_ _ | refine blk_drew ?_ | refine blk_alloc ?_ _)); refine blk_far ?_ NB433_447.out _; (with_reducible repeat (first | refine blk_drewN ?_ _ | refine blk_drew ?_ | refine blk_alloc ?_ _)); refine blk_far ?_ NB433_447.out _; (with_reducible repeat (first | refine blk_drewN ?_ _ | refine blk_drew ?_ | refine blk_alloc ?_ _)); exact BK433.out) hb); have n2_ := Aside0.mk (blk_below (g := gb439) (o := .cells #[.int .i64 t435, .int .i64 t436, .int .i64 t437] 23 (0, 0)) (by (with_reducible repeat (first | refine blk_drewN ?_ _ | refine blk_drew ?_ | refine blk_alloc ?_ _)); refine blk_far ?_ NB439_447.out _; (with_reducible repeat (first | refine blk_drewN ?_ _ | refine blk_drew ?_ | refine blk_alloc ?_ _)); refine blk_far ?_ NB439_447.out _; (with_reducible repeat (first | refine blk_drewN ?_ _ | refine blk_drew ?_ | refine blk_alloc ?_ _)); refine blk_far ?_ NB439_447.out _; (with_reducible repeat (first | refine blk_drewN ?_ _ | refine blk_drew ?_ | refine blk_alloc ?_ _)); exact BK439.out) hb); have n3_ := Aside0.mk (blk_below (g := gb447) (o := .cells #[.int .i64 t443, .int .i64 t444, .int .i64 t445] 23 (0, 0)) (by (with_reducible repeat (first | refine blk_drewN ?_ _ | refine blk_drew ?_ | refine blk_alloc ?_ _)); refine blk_put (cs := #[.int .i64 t443, .int .i64 t444, .int .i64 0]) ?_ 2 _ rfl; (with_reducible repeat (first | refine blk_drewN ?_ _ | refine blk_drew ?_ | refine blk_alloc ?_ _)); refine blk_put (cs := #[.int .i64 t443, .int .i64 0, .int .i64 0]) ?_ 1 _ rfl; (with_reducible repeat (first | refine blk_drewN ?_ _ | refine blk_drew ?_ | refine blk_alloc ?_ _)); refine blk_put (cs := #[.int .i64 0, .int .i64 0, .int .i64 0]) ?_ 0 _ rfl; (with_reducible repeat (first | refine blk_drewN ?_ _ | refine blk_drew ?_ | refine blk_alloc ?_ _)); exact BK447.out) hb); have n4_ := Aside0.mk (below_step (by repeat (first | (with_reducible first | exact HB.out | apply below_alloc | apply pw_below_drewN | apply below_drew1 | refine below_set ?_ GE432.out | refine below_set ?_ GE433.out | refine below_set ?_ GE439.out | refine below_set ?_ GE447.out) | exact HB.out)) hb); clear BK432; clear BK433; clear BK439; clear BK447; clear HB; have BK432 := n0_; have BK433 := n1_; have BK439 := n2_; have BK447 := n3_; have HB := n4_; clear n0_ n1_ n2_ n3_ n4_; (try clear hb); (try clear hb2); (try clear hk); (try clear hi); have hcz114_0 : w113.cell? ⟨gb439, 0, none⟩ = some (.int .i64 t435) := (blk_cell BK439.out 0).trans rfl; have hcz114_1 : w113.cell? ⟨gb439, 1, none⟩ = some (.int .i64 t436) := (blk_cell BK439.out 1).trans rfl; have hcz114_2 : w113.cell? ⟨gb439, 2, none⟩ = some (.int .i64 t437) := (blk_cell BK439.out 2).trans rfl; have hfz114_0 := blk_frozen BK439.out 0; have hfz114_1 := blk_frozen BK439.out 1; have hfz114_2 := blk_frozen BK439.out 2) | (go_at_call 17; (with_reducible refine (place_Right.calls t435 t436 t437 false _ A33.out).mono ?_); rintro e w115 ⟨rfl, hb⟩; have n0_ := Aside0.mk (blk_below (g := gb432) (o := .cells #[.int .i64 a0_0, .int .i64 a0_1, .int .i64 a0_2, .int .i64 a0_3, .int .i64 a0_4] 25 (0, 0)) (by (with_reducible repeat (first | refine blk_drewN ?_ _ | refine blk_drew ?_ | refine blk_alloc ?_ _)); exact BK432.out) hb); have n1_ := Aside0.mk (blk_below (g := gb433) (o := .cells #[.int .i64 a2_0, .int .i64 a2_1, .int .i64 a2_2] 23 (0, 0)) (by (with_reducible repeat (first | refine blk_drewN ?_ _ | refine blk_drew ?_ | refine blk_alloc ?_ _)); exact BK433.out) hb); have n2_ := Aside0.mk (blk_below (g := gb439) (o := .cells #[.int .i64 t435, .int .i64 t436, .int .i64 t437] 23 (0, 0)) (by (with_reducible repeat (first | refine blk_drewN ?_ _ | refine blk_drew ?_ | refine blk_alloc ?_ _)); exact BK439.out) hb); have n3_ := Aside0.mk (blk_below (g := gb447) (o := .cells #[.int .i64 t443, .int .i64 t444, .int .i64 t445] 23 (0, 0)) (by (with_reducible repeat (first | refine blk_drewN ?_ _ | refine blk_drew ?_ | refine blk_alloc ?_ _)); exact BK447.out) hb); have n4_ := Aside0.mk (below_step (by repeat (first | (with_reducible first | exact HB.out | apply below_alloc | apply pw_below_drewN | apply below_drew1 | refine below_set ?_ GE432.out | refine below_set ?_ GE433.out | refine below_set ?_ GE439.out | refine below_set ?_ GE447.out) | exact HB.out)) hb); clear BK432; clear BK433; clear BK439; clear BK447; clear HB; have BK432 := n0_; have BK433 := n1_; have BK439 := n2_; have BK447 := n3_; have HB := n4_; clear n0_ n1_ n2_ n3_ n4_; (try clear hb); (try clear hb2); (try clear hk); (try clear hi)))
                      go_ret
                      exact ⟨by first | rfl | (simp [errW_none, errW_some] <;> rfl) | (simp [*, errW_none, errW_some] <;> rfl), by repeat (first | (with_reducible first | exact HB.out | apply below_alloc | apply pw_below_drewN | apply below_drew1 | refine below_set ?_ GE432.out | refine below_set ?_ GE433.out | refine below_set ?_ GE439.out | refine below_set ?_ GE447.out) | exact HB.out)⟩
                  · replace c32 := Bool.eq_false_iff.mpr c32
                    subst c32
                    have H1 : (some false) = some r := by rw [if_neg (show ¬ (false = true) by decide)] at H; exact H
                    clear H
                    have H := H1
                    clear H1
                    obtain rfl := Option.some.inj H
                    have hnb116 := NB432_433.out
                    have hnc116 := NB433_432.out
                    have hnb117 := NB432_439.out
                    have hnc117 := NB439_432.out
                    have hcz118_0 : wc.cell? ⟨gb432, 0, none⟩ = some (.int .i64 a0_0) := (blk_cell BK432.out 0).trans rfl
                    have hcz118_1 : wc.cell? ⟨gb432, 1, none⟩ = some (.int .i64 a0_1) := (blk_cell BK432.out 1).trans rfl
                    have hcz118_2 : wc.cell? ⟨gb432, 2, none⟩ = some (.int .i64 a0_2) := (blk_cell BK432.out 2).trans rfl
                    have hcz118_3 : wc.cell? ⟨gb432, 3, none⟩ = some (.int .i64 a0_3) := (blk_cell BK432.out 3).trans rfl
                    have hcz118_4 : wc.cell? ⟨gb432, 4, none⟩ = some (.int .i64 a0_4) := (blk_cell BK432.out 4).trans rfl
                    have hfz118_0 := blk_frozen BK432.out 0
                    have hfz118_1 := blk_frozen BK432.out 1
                    have hfz118_2 := blk_frozen BK432.out 2
                    have hfz118_3 := blk_frozen BK432.out 3
                    have hfz118_4 := blk_frozen BK432.out 4
                    have hnb119 := NB439_433.out
                    have hnc119 := NB433_439.out
                    have hcz120_0 : wc.cell? ⟨gb439, 0, none⟩ = some (.int .i64 t435) := (blk_cell BK439.out 0).trans rfl
                    have hcz120_1 : wc.cell? ⟨gb439, 1, none⟩ = some (.int .i64 t436) := (blk_cell BK439.out 1).trans rfl
                    have hcz120_2 : wc.cell? ⟨gb439, 2, none⟩ = some (.int .i64 t437) := (blk_cell BK439.out 2).trans rfl
                    have hfz120_0 := blk_frozen BK439.out 0
                    have hfz120_1 := blk_frozen BK439.out 1
                    have hfz120_2 := blk_frozen BK439.out 2
                    go_wp2_with (first | ((with_reducible refine gate_callee (f := 37) rfl ?_); refine goesL_ (some 39) rfl rfl Tryd.func37 (by kernel_rfl) rfl #[.agg #[.int .i64 a0_0, .int .i64 a0_1, .int .i64 a0_2, .int .i64 a0_3, .int .i64 a0_4], .agg #[.int .i64 t435, .int .i64 t436, .int .i64 t437]] rfl (by (try simp only [List.map_toArray, List.map_cons, List.map_nil]); first | done | rfl | (simp only [List.length_drop, List.length_take]; rfl)) ?_; (with_reducible refine (place_Index.calls a0_0 a0_1 a0_2 a0_3 a0_4 t435 t436 t437 t441 true _ A27.out).mono ?_); rintro e w121 ⟨rfl, hb⟩; refine ⟨_, rfl, ?_⟩; have n0_ := Aside0.mk (blk_below (g := gb432) (o := .cells #[.int .i64 a0_0, .int .i64 a0_1, .int .i64 a0_2, .int .i64 a0_3, .int .i64 a0_4] 25 (0, 0)) (by (with_reducible repeat (first | refine blk_drewN ?_ _ | refine blk_drew ?_ | refine blk_alloc ?_ _)); exact BK432.out) hb); have n1_ := Aside0.mk (blk_below (g := gb433) (o := .cells #[.int .i64 a2_0, .int .i64 a2_1, .int .i64 a2_2] 23 (0, 0)) (by (with_reducible repeat (first | refine blk_drewN ?_ _ | refine blk_drew ?_ | refine blk_alloc ?_ _)); exact BK433.out) hb); have n2_ := Aside0.mk (blk_below (g := gb439) (o := .cells #[.int .i64 t435, .int .i64 t436, .int .i64 t437] 23 (0, 0)) (by (with_reducible repeat (first | refine blk_drewN ?_ _ | refine blk_drew ?_ | refine blk_alloc ?_ _)); exact BK439.out) hb); have n3_ := Aside0.mk (below_step (by repeat (first | (with_reducible first | exact HB.out | apply below_alloc | apply pw_below_drewN | apply below_drew1 | refine below_set ?_ GE432.out | refine below_set ?_ GE433.out | refine below_set ?_ GE439.out) | exact HB.out)) hb); clear BK432; clear BK433; clear BK439; clear HB; have BK432 := n0_; have BK433 := n1_; have BK439 := n2_; have HB := n3_; clear n0_ n1_ n2_ n3_; (try clear hb); (try clear hb2); (try clear hk); (try clear hi); have hcz122_0 : w121.cell? ⟨gb432, 0, none⟩ = some (.int .i64 a0_0) := (blk_cell BK432.out 0).trans rfl; have hcz122_1 : w121.cell? ⟨gb432, 1, none⟩ = some (.int .i64 a0_1) := (blk_cell BK432.out 1).trans rfl; have hcz122_2 : w121.cell? ⟨gb432, 2, none⟩ = some (.int .i64 a0_2) := (blk_cell BK432.out 2).trans rfl; have hcz122_3 : w121.cell? ⟨gb432, 3, none⟩ = some (.int .i64 a0_3) := (blk_cell BK432.out 3).trans rfl; have hcz122_4 : w121.cell? ⟨gb432, 4, none⟩ = some (.int .i64 a0_4) := (blk_cell BK432.out 4).trans rfl; have hfz122_0 := blk_frozen BK432.out 0; have hfz122_1 := blk_frozen BK432.out 1; have hfz122_2 := blk_frozen BK432.out 2; have hfz122_3 := blk_frozen BK432.out 3; have hfz122_4 := blk_frozen BK432.out 4) | ((with_reducible refine gate_callee (f := 35) rfl ?_); refine goesL_ (some 46) rfl rfl Tryd.func35 (by kernel_rfl) rfl #[.agg #[.int .i64 a0_0, .int .i64 a0_1, .int .i64 a0_2, .int .i64 a0_3, .int .i64 a0_4], .int .i64 (wrap64 (a1 + 1))] rfl (by (try simp only [List.map_toArray, List.map_cons, List.map_nil]); first | done | rfl | (simp only [List.length_drop, List.length_take]; rfl)) ?_; (with_reducible refine (place_At.calls kj6 a0_0 a0_1 a0_2 a0_3 a0_4 (wrap64 (a1 + 1)) t443 t444 t445 t446 _ A28.out).mono ?_); rintro e w123 ⟨rfl, hb⟩; refine ⟨_, rfl, ?_⟩; have n0_ := Aside0.mk (blk_below (g := gb432) (o := .cells #[.int .i64 a0_0, .int .i64 a0_1, .int .i64 a0_2, .int .i64 a0_3, .int .i64 a0_4] 25 (0, 0)) (by (with_reducible repeat (first | refine blk_drewN ?_ _ | refine blk_drew ?_ | refine blk_alloc ?_ _)); exact BK432.out) hb); have n1_ := Aside0.mk (blk_below (g := gb433) (o := .cells #[.int .i64 a2_0, .int .i64 a2_1, .int .i64 a2_2] 23 (0, 0)) (by (with_reducible repeat (first | refine blk_drewN ?_ _ | refine blk_drew ?_ | refine blk_alloc ?_ _)); exact BK433.out) hb); have n2_ := Aside0.mk (blk_below (g := gb439) (o := .cells #[.int .i64 t435, .int .i64 t436, .int .i64 t437] 23 (0, 0)) (by (with_reducible repeat (first | refine blk_drewN ?_ _ | refine blk_drew ?_ | refine blk_alloc ?_ _)); exact BK439.out) hb); have n3_ := Aside0.mk (below_step (by repeat (first | (with_reducible first | exact HB.out | apply below_alloc | apply pw_below_drewN | apply below_drew1 | refine below_set ?_ GE432.out | refine below_set ?_ GE433.out | refine below_set ?_ GE439.out) | exact HB.out)) hb); clear BK432; clear BK433; clear BK439; clear HB; have BK432 := n0_; have BK433 := n1_; have BK439 := n2_; have HB := n3_; clear n0_ n1_ n2_ n3_; (try clear hb); (try clear hb2); (try clear hk); (try clear hi)) | ((with_reducible refine gate_dst (N := 11) rfl ?_); refine box_event ?hg (N := 11) ?hd (cs := #[.int .i64 0, .int .i64 0, .int .i64 0]) (t := 23) ?hr ?_; (case hd => rfl); (case hg => rfl); (case hr => first | (go_simp; done) | (go_simp; rfl)); intro gb447 hg w124 hbox hb; have n0_ := Aside0.mk (blk_below (g := gb432) (o := .cells #[.int .i64 a0_0, .int .i64 a0_1, .int .i64 a0_2, .int .i64 a0_3, .int .i64 a0_4] 25 (0, 0)) (by (with_reducible repeat (first | refine blk_drewN ?_ _ | refine blk_drew ?_ | refine blk_alloc ?_ _)); exact BK432.out) hb); have n1_ := Aside0.mk (blk_below (g := gb433) (o := .cells #[.int .i64 a2_0, .int .i64 a2_1, .int .i64 a2_2] 23 (0, 0)) (by (with_reducible repeat (first | refine blk_drewN ?_ _ | refine blk_drew ?_ | refine blk_alloc ?_ _)); exact BK433.out) hb); have n2_ := Aside0.mk (blk_below (g := gb439) (o := .cells #[.int .i64 t435, .int .i64 t436, .int .i64 t437] 23 (0, 0)) (by (with_reducible repeat (first | refine blk_drewN ?_ _ | refine blk_drew ?_ | refine blk_alloc ?_ _)); exact BK439.out) hb); have n3_ := Aside0.mk (below_step (by repeat (first | (with_reducible first | exact HB.out | apply below_alloc | apply pw_below_drewN | apply below_drew1 | refine below_set ?_ GE432.out | refine below_set ?_ GE433.out | refine below_set ?_ GE439.out) | exact HB.out)) hb); have n4_ := Aside0.mk (hbox); have n5_ := Aside0.mk ((by rw [hg]; exact (below_size (by repeat (first | (with_reducible first | exact HB.out | apply below_alloc | apply pw_below_drewN | apply below_drew1 | refine below_set ?_ GE432.out | refine below_set ?_ GE433.out | refine below_set ?_ GE439.out) | exact HB.out))) : w.heap.size ≤ gb447)); have n6_ := Aside0.mk ((by rw [hg]; exact (below_size (by repeat (first | (with_reducible first | exact HB.out | apply below_alloc | apply pw_below_drewN | apply below_drew1 | refine below_set ?_ GE432.out | refine below_set ?_ GE433.out | refine below_set ?_ GE439.out) | exact HB.out))) : w.heap.size ≤ gb447)); have n7_ := Aside0.mk ((by rw [hg]; exact Nat.ne_of_lt (blk_lt (g := gb432) (o := .cells #[.int .i64 a0_0, .int .i64 a0_1, .int .i64 a0_2, .int .i64 a0_3, .int .i64 a0_4] 25 (0, 0)) (by (with_reducible repeat (first | refine blk_drewN ?_ _ | refine blk_drew ?_ | refine blk_alloc ?_ _)); exact BK432.out)) : gb432 ≠ gb447)); have n8_ := Aside0.mk ((by rw [hg]; exact Nat.ne_of_gt (blk_lt (g := gb432) (o := .cells #[.int .i64 a0_0, .int .i64 a0_1, .int .i64 a0_2, .int .i64 a0_3, .int .i64 a0_4] 25 (0, 0)) (by (with_reducible repeat (first | refine blk_drewN ?_ _ | refine blk_drew ?_ | refine blk_alloc ?_ _)); exact BK432.out)) : gb447 ≠ gb432)); have n9_ := Aside0.mk ((by rw [hg]; exact Nat.ne_of_lt (blk_lt (g := gb433) (o := .cells #[.int .i64 a2_0, .int .i64 a2_1, .int .i64 a2_2] 23 (0, 0)) (by (with_reducible repeat (first | refine blk_drewN ?_ _ | refine blk_drew ?_ | refine blk_alloc ?_ _)); exact BK433.out)) : gb433 ≠ gb447)); have n10_ := Aside0.mk ((by rw [hg]; exact Nat.ne_of_gt (blk_lt (g := gb433) (o := .cells #[.int .i64 a2_0, .int .i64 a2_1, .int .i64 a2_2] 23 (0, 0)) (by (with_reducible repeat (first | refine blk_drewN ?_ _ | refine blk_drew ?_ | refine blk_alloc ?_ _)); exact BK433.out)) : gb447 ≠ gb433)); have n11_ := Aside0.mk ((by rw [hg]; exact Nat.ne_of_lt (blk_lt (g := gb439) (o := .cells #[.int .i64 t435, .int .i64 t436, .int .i64 t437] 23 (0, 0)) (by (with_reducible repeat (first | refine blk_drewN ?_ _ | refine blk_drew ?_ | refine blk_alloc ?_ _)); exact BK439.out)) : gb439 ≠ gb447)); have n12_ := Aside0.mk ((by rw [hg]; exact Nat.ne_of_gt (blk_lt (g := gb439) (o := .cells #[.int .i64 t435, .int .i64 t436, .int .i64 t437] 23 (0, 0)) (by (with_reducible repeat (first | refine blk_drewN ?_ _ | refine blk_drew ?_ | refine blk_alloc ?_ _)); exact BK439.out)) : gb447 ≠ gb439)); clear BK432; clear BK433; clear BK439; clear HB; have BK432 := n0_; have BK433 := n1_; have BK439 := n2_; have HB := n3_; have BK447 := n4_; have GW447 := n5_; have GE447 := n6_; have NB432_447 := n7_; have NB447_432 := n8_; have NB433_447 := n9_; have NB447_433 := n10_; have NB439_447 := n11_; have NB447_439 := n12_; clear n0_ n1_ n2_ n3_ n4_ n5_ n6_ n7_ n8_ n9_ n10_ n11_ n12_; clear hb hbox hg; have hnb125 := NB447_432.out; have hnc125 := NB432_447.out; have hnb126 := NB447_433.out; have hnc126 := NB433_447.out; have hnb127 := NB447_439.out; have hnc127 := NB439_447.out; have hcz128_0 : w124.cell? ⟨gb447, 0, none⟩ = some (.int .i64 0) := (blk_cell BK447.out 0).trans rfl; have hcz128_1 : w124.cell? ⟨gb447, 1, none⟩ = some (.int .i64 0) := (blk_cell BK447.out 1).trans rfl; have hcz128_2 : w124.cell? ⟨gb447, 2, none⟩ = some (.int .i64 0) := (blk_cell BK447.out 2).trans rfl; have hfz128_0 := blk_frozen BK447.out 0; have hfz128_1 := blk_frozen BK447.out 1; have hfz128_2 := blk_frozen BK447.out 2; have hcz129_0 : w124.cell? ⟨gb432, 0, none⟩ = some (.int .i64 a0_0) := (blk_cell BK432.out 0).trans rfl; have hcz129_1 : w124.cell? ⟨gb432, 1, none⟩ = some (.int .i64 a0_1) := (blk_cell BK432.out 1).trans rfl; have hcz129_2 : w124.cell? ⟨gb432, 2, none⟩ = some (.int .i64 a0_2) := (blk_cell BK432.out 2).trans rfl; have hcz129_3 : w124.cell? ⟨gb432, 3, none⟩ = some (.int .i64 a0_3) := (blk_cell BK432.out 3).trans rfl; have hcz129_4 : w124.cell? ⟨gb432, 4, none⟩ = some (.int .i64 a0_4) := (blk_cell BK432.out 4).trans rfl; have hfz129_0 := blk_frozen BK432.out 0; have hfz129_1 := blk_frozen BK432.out 1; have hfz129_2 := blk_frozen BK432.out 2; have hfz129_3 := blk_frozen BK432.out 3; have hfz129_4 := blk_frozen BK432.out 4; have hcz130_0 : w124.cell? ⟨gb439, 0, none⟩ = some (.int .i64 t435) := (blk_cell BK439.out 0).trans rfl; have hcz130_1 : w124.cell? ⟨gb439, 1, none⟩ = some (.int .i64 t436) := (blk_cell BK439.out 1).trans rfl; have hcz130_2 : w124.cell? ⟨gb439, 2, none⟩ = some (.int .i64 t437) := (blk_cell BK439.out 2).trans rfl; have hfz130_0 := blk_frozen BK439.out 0; have hfz130_1 := blk_frozen BK439.out 1; have hfz130_2 := blk_frozen BK439.out 2) | (go_at_call 28; (with_reducible refine (place_Has.calls a0_0 a0_1 a0_2 a0_3 a0_4 t435 t436 t437 false _ A31.out).mono ?_); rintro e w131 ⟨rfl, hb⟩; have n0_ := Aside0.mk (blk_below (g := gb432) (o := .cells #[.int .i64 a0_0, .int .i64 a0_1, .int .i64 a0_2, .int .i64 a0_3, .int .i64 a0_4] 25 (0, 0)) (by (with_reducible repeat (first | refine blk_drewN ?_ _ | refine blk_drew ?_ | refine blk_alloc ?_ _)); refine blk_far ?_ NB432_447.out _; (with_reducible repeat (first | refine blk_drewN ?_ _ | refine blk_drew ?_ | refine blk_alloc ?_ _)); refine blk_far ?_ NB432_447.out _; (with_reducible repeat (first | refine blk_drewN ?_ _ | refine blk_drew ?_ | refine blk_alloc ?_ _)); refine blk_far ?_ NB432_447.out _; (with_reducible repeat (first | refine blk_drewN ?_ _ | refine blk_drew ?_ | refine blk_alloc ?_ _)); exact BK432.out) hb); have n1_ := Aside0.mk (blk_below (g := gb433) (o := .cells #[.int .i64 a2_0, .int .i64 a2_1, .int .i64 a2_2] 23 (0, 0)) (by (with_reducible repeat (first | refine blk_drewN ?_ _ | refine blk_drew ?_ | refine blk_alloc ?_ _)); refine blk_far ?_ NB433_447.out _; (with_reducible repeat (first | refine blk_drewN ?_ _ | refine blk_drew ?_ | refine blk_alloc ?_ _)); refine blk_far ?_ NB433_447.out _; (with_reducible repeat (first | refine blk_drewN ?_ _ | refine blk_drew ?_ | refine blk_alloc ?_ _)); refine blk_far ?_ NB433_447.out _; (with_reducible repeat (first | refine blk_drewN ?_ _ | refine blk_drew ?_ | refine blk_alloc ?_ _)); exact BK433.out) hb); have n2_ := Aside0.mk (blk_below (g := gb439) (o := .cells #[.int .i64 t435, .int .i64 t436, .int .i64 t437] 23 (0, 0)) (by (with_reducible repeat (first | refine blk_drewN ?_ _ | refine blk_drew ?_ | refine blk_alloc ?_ _)); refine blk_far ?_ NB439_447.out _; (with_reducible repeat (first | refine blk_drewN ?_ _ | refine blk_drew ?_ | refine blk_alloc ?_ _)); refine blk_far ?_ NB439_447.out _; (with_reducible repeat (first | refine blk_drewN ?_ _ | refine blk_drew ?_ | refine blk_alloc ?_ _)); refine blk_far ?_ NB439_447.out _; (with_reducible repeat (first | refine blk_drewN ?_ _ | refine blk_drew ?_ | refine blk_alloc ?_ _)); exact BK439.out) hb); have n3_ := Aside0.mk (blk_below (g := gb447) (o := .cells #[.int .i64 t443, .int .i64 t444, .int .i64 t445] 23 (0, 0)) (by (with_reducible repeat (first | refine blk_drewN ?_ _ | refine blk_drew ?_ | refine blk_alloc ?_ _)); refine blk_put (cs := #[.int .i64 t443, .int .i64 t444, .int .i64 0]) ?_ 2 _ rfl; (with_reducible repeat (first | refine blk_drewN ?_ _ | refine blk_drew ?_ | refine blk_alloc ?_ _)); refine blk_put (cs := #[.int .i64 t443, .int .i64 0, .int .i64 0]) ?_ 1 _ rfl; (with_reducible repeat (first | refine blk_drewN ?_ _ | refine blk_drew ?_ | refine blk_alloc ?_ _)); refine blk_put (cs := #[.int .i64 0, .int .i64 0, .int .i64 0]) ?_ 0 _ rfl; (with_reducible repeat (first | refine blk_drewN ?_ _ | refine blk_drew ?_ | refine blk_alloc ?_ _)); exact BK447.out) hb); have n4_ := Aside0.mk (below_step (by repeat (first | (with_reducible first | exact HB.out | apply below_alloc | apply pw_below_drewN | apply below_drew1 | refine below_set ?_ GE432.out | refine below_set ?_ GE433.out | refine below_set ?_ GE439.out | refine below_set ?_ GE447.out) | exact HB.out)) hb); clear BK432; clear BK433; clear BK439; clear BK447; clear HB; have BK432 := n0_; have BK433 := n1_; have BK439 := n2_; have BK447 := n3_; have HB := n4_; clear n0_ n1_ n2_ n3_ n4_; (try clear hb); (try clear hb2); (try clear hk); (try clear hi)))
                    go_ret
                    exact ⟨by first | rfl | (simp [errW_none, errW_some] <;> rfl) | (simp [*, errW_none, errW_some] <;> rfl), by repeat (first | (with_reducible first | exact HB.out | apply below_alloc | apply pw_below_drewN | apply below_drew1 | refine below_set ?_ GE432.out | refine below_set ?_ GE433.out | refine below_set ?_ GE439.out | refine below_set ?_ GE447.out) | exact HB.out)⟩
                · rw [if_neg c30] at H
                  have c30b0 : (t441 == a1) = false := beq_eq_false_iff_ne.mpr c30
                  have c30b1 : (t441 != a1) = true := bne_iff_ne.mpr c30
                  (first | rw [c30b0] | (simp only [i64_w, i32_w]; rw [c30b0]) | skip)
                  obtain rfl := Option.some.inj H
                  have hnb132 := NB432_433.out
                  have hnc132 := NB433_432.out
                  have hnb133 := NB432_439.out
                  have hnc133 := NB439_432.out
                  have hcz134_0 : wc.cell? ⟨gb432, 0, none⟩ = some (.int .i64 a0_0) := (blk_cell BK432.out 0).trans rfl
                  have hcz134_1 : wc.cell? ⟨gb432, 1, none⟩ = some (.int .i64 a0_1) := (blk_cell BK432.out 1).trans rfl
                  have hcz134_2 : wc.cell? ⟨gb432, 2, none⟩ = some (.int .i64 a0_2) := (blk_cell BK432.out 2).trans rfl
                  have hcz134_3 : wc.cell? ⟨gb432, 3, none⟩ = some (.int .i64 a0_3) := (blk_cell BK432.out 3).trans rfl
                  have hcz134_4 : wc.cell? ⟨gb432, 4, none⟩ = some (.int .i64 a0_4) := (blk_cell BK432.out 4).trans rfl
                  have hfz134_0 := blk_frozen BK432.out 0
                  have hfz134_1 := blk_frozen BK432.out 1
                  have hfz134_2 := blk_frozen BK432.out 2
                  have hfz134_3 := blk_frozen BK432.out 3
                  have hfz134_4 := blk_frozen BK432.out 4
                  have hnb135 := NB439_433.out
                  have hnc135 := NB433_439.out
                  have hcz136_0 : wc.cell? ⟨gb439, 0, none⟩ = some (.int .i64 t435) := (blk_cell BK439.out 0).trans rfl
                  have hcz136_1 : wc.cell? ⟨gb439, 1, none⟩ = some (.int .i64 t436) := (blk_cell BK439.out 1).trans rfl
                  have hcz136_2 : wc.cell? ⟨gb439, 2, none⟩ = some (.int .i64 t437) := (blk_cell BK439.out 2).trans rfl
                  have hfz136_0 := blk_frozen BK439.out 0
                  have hfz136_1 := blk_frozen BK439.out 1
                  have hfz136_2 := blk_frozen BK439.out 2
                  go_wp2_with (first | ((with_reducible refine gate_callee (f := 37) rfl ?_); refine goesL_ (some 39) rfl rfl Tryd.func37 (by kernel_rfl) rfl #[.agg #[.int .i64 a0_0, .int .i64 a0_1, .int .i64 a0_2, .int .i64 a0_3, .int .i64 a0_4], .agg #[.int .i64 t435, .int .i64 t436, .int .i64 t437]] rfl (by (try simp only [List.map_toArray, List.map_cons, List.map_nil]); first | done | rfl | (simp only [List.length_drop, List.length_take]; rfl)) ?_; (with_reducible refine (place_Index.calls a0_0 a0_1 a0_2 a0_3 a0_4 t435 t436 t437 t441 true _ A27.out).mono ?_); rintro e w137 ⟨rfl, hb⟩; refine ⟨_, rfl, ?_⟩; have n0_ := Aside0.mk (blk_below (g := gb432) (o := .cells #[.int .i64 a0_0, .int .i64 a0_1, .int .i64 a0_2, .int .i64 a0_3, .int .i64 a0_4] 25 (0, 0)) (by (with_reducible repeat (first | refine blk_drewN ?_ _ | refine blk_drew ?_ | refine blk_alloc ?_ _)); exact BK432.out) hb); have n1_ := Aside0.mk (blk_below (g := gb433) (o := .cells #[.int .i64 a2_0, .int .i64 a2_1, .int .i64 a2_2] 23 (0, 0)) (by (with_reducible repeat (first | refine blk_drewN ?_ _ | refine blk_drew ?_ | refine blk_alloc ?_ _)); exact BK433.out) hb); have n2_ := Aside0.mk (blk_below (g := gb439) (o := .cells #[.int .i64 t435, .int .i64 t436, .int .i64 t437] 23 (0, 0)) (by (with_reducible repeat (first | refine blk_drewN ?_ _ | refine blk_drew ?_ | refine blk_alloc ?_ _)); exact BK439.out) hb); have n3_ := Aside0.mk (below_step (by repeat (first | (with_reducible first | exact HB.out | apply below_alloc | apply pw_below_drewN | apply below_drew1 | refine below_set ?_ GE432.out | refine below_set ?_ GE433.out | refine below_set ?_ GE439.out) | exact HB.out)) hb); clear BK432; clear BK433; clear BK439; clear HB; have BK432 := n0_; have BK433 := n1_; have BK439 := n2_; have HB := n3_; clear n0_ n1_ n2_ n3_; (try clear hb); (try clear hb2); (try clear hk); (try clear hi); have hcz138_0 : w137.cell? ⟨gb432, 0, none⟩ = some (.int .i64 a0_0) := (blk_cell BK432.out 0).trans rfl; have hcz138_1 : w137.cell? ⟨gb432, 1, none⟩ = some (.int .i64 a0_1) := (blk_cell BK432.out 1).trans rfl; have hcz138_2 : w137.cell? ⟨gb432, 2, none⟩ = some (.int .i64 a0_2) := (blk_cell BK432.out 2).trans rfl; have hcz138_3 : w137.cell? ⟨gb432, 3, none⟩ = some (.int .i64 a0_3) := (blk_cell BK432.out 3).trans rfl; have hcz138_4 : w137.cell? ⟨gb432, 4, none⟩ = some (.int .i64 a0_4) := (blk_cell BK432.out 4).trans rfl; have hfz138_0 := blk_frozen BK432.out 0; have hfz138_1 := blk_frozen BK432.out 1; have hfz138_2 := blk_frozen BK432.out 2; have hfz138_3 := blk_frozen BK432.out 3; have hfz138_4 := blk_frozen BK432.out 4) | ((with_reducible refine gate_callee (f := 35) rfl ?_); refine goesL_ (some 46) rfl rfl Tryd.func35 (by kernel_rfl) rfl #[.agg #[.int .i64 a0_0, .int .i64 a0_1, .int .i64 a0_2, .int .i64 a0_3, .int .i64 a0_4], .int .i64 (wrap64 (a1 + 1))] rfl (by (try simp only [List.map_toArray, List.map_cons, List.map_nil]); first | done | rfl | (simp only [List.length_drop, List.length_take]; rfl)) ?_; (with_reducible refine (place_At.calls kj6 a0_0 a0_1 a0_2 a0_3 a0_4 (wrap64 (a1 + 1)) t443 t444 t445 t446 _ A28.out).mono ?_); rintro e w139 ⟨rfl, hb⟩; refine ⟨_, rfl, ?_⟩; have n0_ := Aside0.mk (blk_below (g := gb432) (o := .cells #[.int .i64 a0_0, .int .i64 a0_1, .int .i64 a0_2, .int .i64 a0_3, .int .i64 a0_4] 25 (0, 0)) (by (with_reducible repeat (first | refine blk_drewN ?_ _ | refine blk_drew ?_ | refine blk_alloc ?_ _)); exact BK432.out) hb); have n1_ := Aside0.mk (blk_below (g := gb433) (o := .cells #[.int .i64 a2_0, .int .i64 a2_1, .int .i64 a2_2] 23 (0, 0)) (by (with_reducible repeat (first | refine blk_drewN ?_ _ | refine blk_drew ?_ | refine blk_alloc ?_ _)); exact BK433.out) hb); have n2_ := Aside0.mk (blk_below (g := gb439) (o := .cells #[.int .i64 t435, .int .i64 t436, .int .i64 t437] 23 (0, 0)) (by (with_reducible repeat (first | refine blk_drewN ?_ _ | refine blk_drew ?_ | refine blk_alloc ?_ _)); exact BK439.out) hb); have n3_ := Aside0.mk (below_step (by repeat (first | (with_reducible first | exact HB.out | apply below_alloc | apply pw_below_drewN | apply below_drew1 | refine below_set ?_ GE432.out | refine below_set ?_ GE433.out | refine below_set ?_ GE439.out) | exact HB.out)) hb); clear BK432; clear BK433; clear BK439; clear HB; have BK432 := n0_; have BK433 := n1_; have BK439 := n2_; have HB := n3_; clear n0_ n1_ n2_ n3_; (try clear hb); (try clear hb2); (try clear hk); (try clear hi)) | ((with_reducible refine gate_dst (N := 11) rfl ?_); refine box_event ?hg (N := 11) ?hd (cs := #[.int .i64 0, .int .i64 0, .int .i64 0]) (t := 23) ?hr ?_; (case hd => rfl); (case hg => rfl); (case hr => first | (go_simp; done) | (go_simp; rfl)); intro gb447 hg w140 hbox hb; have n0_ := Aside0.mk (blk_below (g := gb432) (o := .cells #[.int .i64 a0_0, .int .i64 a0_1, .int .i64 a0_2, .int .i64 a0_3, .int .i64 a0_4] 25 (0, 0)) (by (with_reducible repeat (first | refine blk_drewN ?_ _ | refine blk_drew ?_ | refine blk_alloc ?_ _)); exact BK432.out) hb); have n1_ := Aside0.mk (blk_below (g := gb433) (o := .cells #[.int .i64 a2_0, .int .i64 a2_1, .int .i64 a2_2] 23 (0, 0)) (by (with_reducible repeat (first | refine blk_drewN ?_ _ | refine blk_drew ?_ | refine blk_alloc ?_ _)); exact BK433.out) hb); have n2_ := Aside0.mk (blk_below (g := gb439) (o := .cells #[.int .i64 t435, .int .i64 t436, .int .i64 t437] 23 (0, 0)) (by (with_reducible repeat (first | refine blk_drewN ?_ _ | refine blk_drew ?_ | refine blk_alloc ?_ _)); exact BK439.out) hb); have n3_ := Aside0.mk (below_step (by repeat (first | (with_reducible first | exact HB.out | apply below_alloc | apply pw_below_drewN | apply below_drew1 | refine below_set ?_ GE432.out | refine below_set ?_ GE433.out | refine below_set ?_ GE439.out) | exact HB.out)) hb); have n4_ := Aside0.mk (hbox); have n5_ := Aside0.mk ((by rw [hg]; exact (below_size (by repeat (first | (with_reducible first | exact HB.out | apply below_alloc | apply pw_below_drewN | apply below_drew1 | refine below_set ?_ GE432.out | refine below_set ?_ GE433.out | refine below_set ?_ GE439.out) | exact HB.out))) : w.heap.size ≤ gb447)); have n6_ := Aside0.mk ((by rw [hg]; exact (below_size (by repeat (first | (with_reducible first | exact HB.out | apply below_alloc | apply pw_below_drewN | apply below_drew1 | refine below_set ?_ GE432.out | refine below_set ?_ GE433.out | refine below_set ?_ GE439.out) | exact HB.out))) : w.heap.size ≤ gb447)); have n7_ := Aside0.mk ((by rw [hg]; exact Nat.ne_of_lt (blk_lt (g := gb432) (o := .cells #[.int .i64 a0_0, .int .i64 a0_1, .int .i64 a0_2, .int .i64 a0_3, .int .i64 a0_4] 25 (0, 0)) (by (with_reducible repeat (first | refine blk_drewN ?_ _ | refine blk_drew ?_ | refine blk_alloc ?_ _)); exact BK432.out)) : gb432 ≠ gb447)); have n8_ := Aside0.mk ((by rw [hg]; exact Nat.ne_of_gt (blk_lt (g := gb432) (o := .cells #[.int .i64 a0_0, .int .i64 a0_1, .int .i64 a0_2, .int .i64 a0_3, .int .i64 a0_4] 25 (0, 0)) (by (with_reducible repeat (first | refine blk_drewN ?_ _ | refine blk_drew ?_ | refine blk_alloc ?_ _)); exact BK432.out)) : gb447 ≠ gb432)); have n9_ := Aside0.mk ((by rw [hg]; exact Nat.ne_of_lt (blk_lt (g := gb433) (o := .cells #[.int .i64 a2_0, .int .i64 a2_1, .int .i64 a2_2] 23 (0, 0)) (by (with_reducible repeat (first | refine blk_drewN ?_ _ | refine blk_drew ?_ | refine blk_alloc ?_ _)); exact BK433.out)) : gb433 ≠ gb447)); have n10_ := Aside0.mk ((by rw [hg]; exact Nat.ne_of_gt (blk_lt (g := gb433) (o := .cells #[.int .i64 a2_0, .int .i64 a2_1, .int .i64 a2_2] 23 (0, 0)) (by (with_reducible repeat (first | refine blk_drewN ?_ _ | refine blk_drew ?_ | refine blk_alloc ?_ _)); exact BK433.out)) : gb447 ≠ gb433)); have n11_ := Aside0.mk ((by rw [hg]; exact Nat.ne_of_lt (blk_lt (g := gb439) (o := .cells #[.int .i64 t435, .int .i64 t436, .int .i64 t437] 23 (0, 0)) (by (with_reducible repeat (first | refine blk_drewN ?_ _ | refine blk_drew ?_ | refine blk_alloc ?_ _)); exact BK439.out)) : gb439 ≠ gb447)); have n12_ := Aside0.mk ((by rw [hg]; exact Nat.ne_of_gt (blk_lt (g := gb439) (o := .cells #[.int .i64 t435, .int .i64 t436, .int .i64 t437] 23 (0, 0)) (by (with_reducible repeat (first | refine blk_drewN ?_ _ | refine blk_drew ?_ | refine blk_alloc ?_ _)); exact BK439.out)) : gb447 ≠ gb439)); clear BK432; clear BK433; clear BK439; clear HB; have BK432 := n0_; have BK433 := n1_; have BK439 := n2_; have HB := n3_; have BK447 := n4_; have GW447 := n5_; have GE447 := n6_; have NB432_447 := n7_; have NB447_432 := n8_; have NB433_447 := n9_; have NB447_433 := n10_; have NB439_447 := n11_; have NB447_439 := n12_; clear n0_ n1_ n2_ n3_ n4_ n5_ n6_ n7_ n8_ n9_ n10_ n11_ n12_; clear hb hbox hg; have hnb141 := NB447_432.out; have hnc141 := NB432_447.out; have hnb142 := NB447_433.out; have hnc142 := NB433_447.out; have hnb143 := NB447_439.out; have hnc143 := NB439_447.out; have hcz144_0 : w140.cell? ⟨gb447, 0, none⟩ = some (.int .i64 0) := (blk_cell BK447.out 0).trans rfl; have hcz144_1 : w140.cell? ⟨gb447, 1, none⟩ = some (.int .i64 0) := (blk_cell BK447.out 1).trans rfl; have hcz144_2 : w140.cell? ⟨gb447, 2, none⟩ = some (.int .i64 0) := (blk_cell BK447.out 2).trans rfl; have hfz144_0 := blk_frozen BK447.out 0; have hfz144_1 := blk_frozen BK447.out 1; have hfz144_2 := blk_frozen BK447.out 2))
                  go_ret
                  exact ⟨by first | rfl | (simp [errW_none, errW_some] <;> rfl) | (simp [*, errW_none, errW_some] <;> rfl), by repeat (first | (with_reducible first | exact HB.out | apply below_alloc | apply pw_below_drewN | apply below_drew1 | refine below_set ?_ GE432.out | refine below_set ?_ GE433.out | refine below_set ?_ GE439.out | refine below_set ?_ GE447.out) | exact HB.out)⟩
              · replace c29 := Bool.eq_false_iff.mpr c29
                subst c29
                have H1 : (some false) = some r := by rw [if_neg (show ¬ (false = true) by decide)] at H; exact H
                clear H
                have H := H1
                clear H1
                obtain rfl := Option.some.inj H
                have hnb145 := NB432_433.out
                have hnc145 := NB433_432.out
                have hnb146 := NB432_439.out
                have hnc146 := NB439_432.out
                have hcz147_0 : wc.cell? ⟨gb432, 0, none⟩ = some (.int .i64 a0_0) := (blk_cell BK432.out 0).trans rfl
                have hcz147_1 : wc.cell? ⟨gb432, 1, none⟩ = some (.int .i64 a0_1) := (blk_cell BK432.out 1).trans rfl
                have hcz147_2 : wc.cell? ⟨gb432, 2, none⟩ = some (.int .i64 a0_2) := (blk_cell BK432.out 2).trans rfl
                have hcz147_3 : wc.cell? ⟨gb432, 3, none⟩ = some (.int .i64 a0_3) := (blk_cell BK432.out 3).trans rfl
                have hcz147_4 : wc.cell? ⟨gb432, 4, none⟩ = some (.int .i64 a0_4) := (blk_cell BK432.out 4).trans rfl
                have hfz147_0 := blk_frozen BK432.out 0
                have hfz147_1 := blk_frozen BK432.out 1
                have hfz147_2 := blk_frozen BK432.out 2
                have hfz147_3 := blk_frozen BK432.out 3
                have hfz147_4 := blk_frozen BK432.out 4
                have hnb148 := NB439_433.out
                have hnc148 := NB433_439.out
                have hcz149_0 : wc.cell? ⟨gb439, 0, none⟩ = some (.int .i64 t435) := (blk_cell BK439.out 0).trans rfl
                have hcz149_1 : wc.cell? ⟨gb439, 1, none⟩ = some (.int .i64 t436) := (blk_cell BK439.out 1).trans rfl
                have hcz149_2 : wc.cell? ⟨gb439, 2, none⟩ = some (.int .i64 t437) := (blk_cell BK439.out 2).trans rfl
                have hfz149_0 := blk_frozen BK439.out 0
                have hfz149_1 := blk_frozen BK439.out 1
                have hfz149_2 := blk_frozen BK439.out 2
                go_wp2_with (first | ((with_reducible refine gate_callee (f := 37) rfl ?_); refine goesL_ (some 39) rfl rfl Tryd.func37 (by kernel_rfl) rfl #[.agg #[.int .i64 a0_0, .int .i64 a0_1, .int .i64 a0_2, .int .i64 a0_3, .int .i64 a0_4], .agg #[.int .i64 t435, .int .i64 t436, .int .i64 t437]] rfl (by (try simp only [List.map_toArray, List.map_cons, List.map_nil]); first | done | rfl | (simp only [List.length_drop, List.length_take]; rfl)) ?_; (with_reducible refine (place_Index.calls a0_0 a0_1 a0_2 a0_3 a0_4 t435 t436 t437 t441 false _ A27.out).mono ?_); rintro e w150 ⟨rfl, hb⟩; refine ⟨_, rfl, ?_⟩; have n0_ := Aside0.mk (blk_below (g := gb432) (o := .cells #[.int .i64 a0_0, .int .i64 a0_1, .int .i64 a0_2, .int .i64 a0_3, .int .i64 a0_4] 25 (0, 0)) (by (with_reducible repeat (first | refine blk_drewN ?_ _ | refine blk_drew ?_ | refine blk_alloc ?_ _)); exact BK432.out) hb); have n1_ := Aside0.mk (blk_below (g := gb433) (o := .cells #[.int .i64 a2_0, .int .i64 a2_1, .int .i64 a2_2] 23 (0, 0)) (by (with_reducible repeat (first | refine blk_drewN ?_ _ | refine blk_drew ?_ | refine blk_alloc ?_ _)); exact BK433.out) hb); have n2_ := Aside0.mk (blk_below (g := gb439) (o := .cells #[.int .i64 t435, .int .i64 t436, .int .i64 t437] 23 (0, 0)) (by (with_reducible repeat (first | refine blk_drewN ?_ _ | refine blk_drew ?_ | refine blk_alloc ?_ _)); exact BK439.out) hb); have n3_ := Aside0.mk (below_step (by repeat (first | (with_reducible first | exact HB.out | apply below_alloc | apply pw_below_drewN | apply below_drew1 | refine below_set ?_ GE432.out | refine below_set ?_ GE433.out | refine below_set ?_ GE439.out) | exact HB.out)) hb); clear BK432; clear BK433; clear BK439; clear HB; have BK432 := n0_; have BK433 := n1_; have BK439 := n2_; have HB := n3_; clear n0_ n1_ n2_ n3_; (try clear hb); (try clear hb2); (try clear hk); (try clear hi); have hcz151_0 : w150.cell? ⟨gb432, 0, none⟩ = some (.int .i64 a0_0) := (blk_cell BK432.out 0).trans rfl; have hcz151_1 : w150.cell? ⟨gb432, 1, none⟩ = some (.int .i64 a0_1) := (blk_cell BK432.out 1).trans rfl; have hcz151_2 : w150.cell? ⟨gb432, 2, none⟩ = some (.int .i64 a0_2) := (blk_cell BK432.out 2).trans rfl; have hcz151_3 : w150.cell? ⟨gb432, 3, none⟩ = some (.int .i64 a0_3) := (blk_cell BK432.out 3).trans rfl; have hcz151_4 : w150.cell? ⟨gb432, 4, none⟩ = some (.int .i64 a0_4) := (blk_cell BK432.out 4).trans rfl; have hfz151_0 := blk_frozen BK432.out 0; have hfz151_1 := blk_frozen BK432.out 1; have hfz151_2 := blk_frozen BK432.out 2; have hfz151_3 := blk_frozen BK432.out 3; have hfz151_4 := blk_frozen BK432.out 4) | ((with_reducible refine gate_callee (f := 35) rfl ?_); refine goesL_ (some 46) rfl rfl Tryd.func35 (by kernel_rfl) rfl #[.agg #[.int .i64 a0_0, .int .i64 a0_1, .int .i64 a0_2, .int .i64 a0_3, .int .i64 a0_4], .int .i64 (wrap64 (a1 + 1))] rfl (by (try simp only [List.map_toArray, List.map_cons, List.map_nil]); first | done | rfl | (simp only [List.length_drop, List.length_take]; rfl)) ?_; (with_reducible refine (place_At.calls kj6 a0_0 a0_1 a0_2 a0_3 a0_4 (wrap64 (a1 + 1)) t443 t444 t445 t446 _ A28.out).mono ?_); rintro e w152 ⟨rfl, hb⟩; refine ⟨_, rfl, ?_⟩; have n0_ := Aside0.mk (blk_below (g := gb432) (o := .cells #[.int .i64 a0_0, .int .i64 a0_1, .int .i64 a0_2, .int .i64 a0_3, .int .i64 a0_4] 25 (0, 0)) (by (with_reducible repeat (first | refine blk_drewN ?_ _ | refine blk_drew ?_ | refine blk_alloc ?_ _)); exact BK432.out) hb); have n1_ := Aside0.mk (blk_below (g := gb433) (o := .cells #[.int .i64 a2_0, .int .i64 a2_1, .int .i64 a2_2] 23 (0, 0)) (by (with_reducible repeat (first | refine blk_drewN ?_ _ | refine blk_drew ?_ | refine blk_alloc ?_ _)); exact BK433.out) hb); have n2_ := Aside0.mk (blk_below (g := gb439) (o := .cells #[.int .i64 t435, .int .i64 t436, .int .i64 t437] 23 (0, 0)) (by (with_reducible repeat (first | refine blk_drewN ?_ _ | refine blk_drew ?_ | refine blk_alloc ?_ _)); exact BK439.out) hb); have n3_ := Aside0.mk (below_step (by repeat (first | (with_reducible first | exact HB.out | apply below_alloc | apply pw_below_drewN | apply below_drew1 | refine below_set ?_ GE432.out | refine below_set ?_ GE433.out | refine below_set ?_ GE439.out) | exact HB.out)) hb); clear BK432; clear BK433; clear BK439; clear HB; have BK432 := n0_; have BK433 := n1_; have BK439 := n2_; have HB := n3_; clear n0_ n1_ n2_ n3_; (try clear hb); (try clear hb2); (try clear hk); (try clear hi)) | ((with_reducible refine gate_dst (N := 11) rfl ?_); refine box_event ?hg (N := 11) ?hd (cs := #[.int .i64 0, .int .i64 0, .int .i64 0]) (t := 23) ?hr ?_; (case hd => rfl); (case hg => rfl); (case hr => first | (go_simp; done) | (go_simp; rfl)); intro gb447 hg w153 hbox hb; have n0_ := Aside0.mk (blk_below (g := gb432) (o := .cells #[.int .i64 a0_0, .int .i64 a0_1, .int .i64 a0_2, .int .i64 a0_3, .int .i64 a0_4] 25 (0, 0)) (by (with_reducible repeat (first | refine blk_drewN ?_ _ | refine blk_drew ?_ | refine blk_alloc ?_ _)); exact BK432.out) hb); have n1_ := Aside0.mk (blk_below (g := gb433) (o := .cells #[.int .i64 a2_0, .int .i64 a2_1, .int .i64 a2_2] 23 (0, 0)) (by (with_reducible repeat (first | refine blk_drewN ?_ _ | refine blk_drew ?_ | refine blk_alloc ?_ _)); exact BK433.out) hb); have n2_ := Aside0.mk (blk_below (g := gb439) (o := .cells #[.int .i64 t435, .int .i64 t436, .int .i64 t437] 23 (0, 0)) (by (with_reducible repeat (first | refine blk_drewN ?_ _ | refine blk_drew ?_ | refine blk_alloc ?_ _)); exact BK439.out) hb); have n3_ := Aside0.mk (below_step (by repeat (first | (with_reducible first | exact HB.out | apply below_alloc | apply pw_below_drewN | apply below_drew1 | refine below_set ?_ GE432.out | refine below_set ?_ GE433.out | refine below_set ?_ GE439.out) | exact HB.out)) hb); have n4_ := Aside0.mk (hbox); have n5_ := Aside0.mk ((by rw [hg]; exact (below_size (by repeat (first | (with_reducible first | exact HB.out | apply below_alloc | apply pw_below_drewN | apply below_drew1 | refine below_set ?_ GE432.out | refine below_set ?_ GE433.out | refine below_set ?_ GE439.out) | exact HB.out))) : w.heap.size ≤ gb447)); have n6_ := Aside0.mk ((by rw [hg]; exact (below_size (by repeat (first | (with_reducible first | exact HB.out | apply below_alloc | apply pw_below_drewN | apply below_drew1 | refine below_set ?_ GE432.out | refine below_set ?_ GE433.out | refine below_set ?_ GE439.out) | exact HB.out))) : w.heap.size ≤ gb447)); have n7_ := Aside0.mk ((by rw [hg]; exact Nat.ne_of_lt (blk_lt (g := gb432) (o := .cells #[.int .i64 a0_0, .int .i64 a0_1, .int .i64 a0_2, .int .i64 a0_3, .int .i64 a0_4] 25 (0, 0)) (by (with_reducible repeat (first | refine blk_drewN ?_ _ | refine blk_drew ?_ | refine blk_alloc ?_ _)); exact BK432.out)) : gb432 ≠ gb447)); have n8_ := Aside0.mk ((by rw [hg]; exact Nat.ne_of_gt (blk_lt (g := gb432) (o := .cells #[.int .i64 a0_0, .int .i64 a0_1, .int .i64 a0_2, .int .i64 a0_3, .int .i64 a0_4] 25 (0, 0)) (by (with_reducible repeat (first | refine blk_drewN ?_ _ | refine blk_drew ?_ | refine blk_alloc ?_ _)); exact BK432.out)) : gb447 ≠ gb432)); have n9_ := Aside0.mk ((by rw [hg]; exact Nat.ne_of_lt (blk_lt (g := gb433) (o := .cells #[.int .i64 a2_0, .int .i64 a2_1, .int .i64 a2_2] 23 (0, 0)) (by (with_reducible repeat (first | refine blk_drewN ?_ _ | refine blk_drew ?_ | refine blk_alloc ?_ _)); exact BK433.out)) : gb433 ≠ gb447)); have n10_ := Aside0.mk ((by rw [hg]; exact Nat.ne_of_gt (blk_lt (g := gb433) (o := .cells #[.int .i64 a2_0, .int .i64 a2_1, .int .i64 a2_2] 23 (0, 0)) (by (with_reducible repeat (first | refine blk_drewN ?_ _ | refine blk_drew ?_ | refine blk_alloc ?_ _)); exact BK433.out)) : gb447 ≠ gb433)); have n11_ := Aside0.mk ((by rw [hg]; exact Nat.ne_of_lt (blk_lt (g := gb439) (o := .cells #[.int .i64 t435, .int .i64 t436, .int .i64 t437] 23 (0, 0)) (by (with_reducible repeat (first | refine blk_drewN ?_ _ | refine blk_drew ?_ | refine blk_alloc ?_ _)); exact BK439.out)) : gb439 ≠ gb447)); have n12_ := Aside0.mk ((by rw [hg]; exact Nat.ne_of_gt (blk_lt (g := gb439) (o := .cells #[.int .i64 t435, .int .i64 t436, .int .i64 t437] 23 (0, 0)) (by (with_reducible repeat (first | refine blk_drewN ?_ _ | refine blk_drew ?_ | refine blk_alloc ?_ _)); exact BK439.out)) : gb447 ≠ gb439)); clear BK432; clear BK433; clear BK439; clear HB; have BK432 := n0_; have BK433 := n1_; have BK439 := n2_; have HB := n3_; have BK447 := n4_; have GW447 := n5_; have GE447 := n6_; have NB432_447 := n7_; have NB447_432 := n8_; have NB433_447 := n9_; have NB447_433 := n10_; have NB439_447 := n11_; have NB447_439 := n12_; clear n0_ n1_ n2_ n3_ n4_ n5_ n6_ n7_ n8_ n9_ n10_ n11_ n12_; clear hb hbox hg; have hnb154 := NB447_432.out; have hnc154 := NB432_447.out; have hnb155 := NB447_433.out; have hnc155 := NB433_447.out; have hnb156 := NB447_439.out; have hnc156 := NB439_447.out; have hcz157_0 : w153.cell? ⟨gb447, 0, none⟩ = some (.int .i64 0) := (blk_cell BK447.out 0).trans rfl; have hcz157_1 : w153.cell? ⟨gb447, 1, none⟩ = some (.int .i64 0) := (blk_cell BK447.out 1).trans rfl; have hcz157_2 : w153.cell? ⟨gb447, 2, none⟩ = some (.int .i64 0) := (blk_cell BK447.out 2).trans rfl; have hfz157_0 := blk_frozen BK447.out 0; have hfz157_1 := blk_frozen BK447.out 1; have hfz157_2 := blk_frozen BK447.out 2))
                go_ret
                exact ⟨by first | rfl | (simp [errW_none, errW_some] <;> rfl) | (simp [*, errW_none, errW_some] <;> rfl), by repeat (first | (with_reducible first | exact HB.out | apply below_alloc | apply pw_below_drewN | apply below_drew1 | refine below_set ?_ GE432.out | refine below_set ?_ GE433.out | refine below_set ?_ GE439.out | refine below_set ?_ GE447.out) | exact HB.out)⟩
            · replace c26 := Bool.eq_false_iff.mpr c26
              subst c26
              have H1 : (whittlelaw3_PlaceCount.j1 kj6 a0_0 a0_1 a0_2 a0_3 a0_4 a2_0 a2_1 a2_2) = some r := by rw [if_neg (show ¬ (false = true) by decide)] at H; exact H
              clear H
              have H := H1
              clear H1
              have H' := Aside0.mk H
              clear H
              go_wp2
              go_meet
              case rel => exact ⟨_, H', ⟨by have := HJ6.out; first | omega | exact Nat.le_refl _⟩, ⟨by (with_reducible repeat (first | refine blk_drewN ?_ _ | refine blk_drew ?_ | refine blk_alloc ?_ _)); exact BK432.out⟩, ⟨by (with_reducible repeat (first | refine blk_drewN ?_ _ | refine blk_drew ?_ | refine blk_alloc ?_ _)); exact BK433.out⟩, ⟨by (with_reducible repeat (first | refine blk_drewN ?_ _ | refine blk_drew ?_ | refine blk_alloc ?_ _)); exact BK439.out⟩, ⟨by repeat (first | (with_reducible first | exact HB.out | apply below_alloc | apply pw_below_drewN | apply below_drew1 | refine below_set ?_ GE432.out | refine below_set ?_ GE433.out | refine below_set ?_ GE439.out) | exact HB.out)⟩⟩
          case rest =>
            clear HC25
            try clear c1
            try clear c2
            try clear p2
            try clear c3
            try clear c4
            try clear c5
            try clear c6
            try clear p6
            try clear c7
            try clear c8
            try clear c9
            try clear c10
            try clear c11
            try clear c12
            try clear c13
            try clear c14
            try clear c15
            try clear c16
            try clear c18
            try clear c18b0
            try clear c20
            try clear c21
            try clear c24
            try clear c26
            try clear c29
            try clear c30
            try clear c30b0
            try clear c30b1
            try clear c32
            try clear c34
            try clear c35
            try clear c37
            try clear c38
            try clear c39
            try clear c41
            try clear c47
            try clear c48
            try clear c49
            try clear c59
            try clear c60
            try clear c62
            try clear p64
            try clear c68
            try clear c69
            try clear c70
            try clear c80
            try clear c81
            try clear c83
            try clear c89
            try clear c90
            try clear c91
            try clear c98
            try clear c99
            try clear c101
            try clear c107
            try clear c108
            try clear c109
            try clear c116
            try clear c117
            try clear c119
            try clear c125
            try clear c126
            try clear c127
            try clear c132
            try clear c133
            try clear c135
            try clear c141
            try clear c142
            try clear c143
            try clear c145
            try clear c146
            try clear c148
            try clear c154
            try clear c155
            try clear c156
            try clear hcz100_0
            try clear hcz100_1
            try clear hcz100_2
            try clear hcz100_3
            try clear hcz100_4
            try clear hcz102_0
            try clear hcz102_1
            try clear hcz102_2
            try clear hcz104_0
            try clear hcz104_1
            try clear hcz104_2
            try clear hcz104_3
            try clear hcz104_4
            try clear hcz110_0
            try clear hcz110_1
            try clear hcz110_2
            try clear hcz111_0
            try clear hcz111_1
            try clear hcz111_2
            try clear hcz111_3
            try clear hcz111_4
            try clear hcz112_0
            try clear hcz112_1
            try clear hcz112_2
            try clear hcz114_0
            try clear hcz114_1
            try clear hcz114_2
            try clear hcz118_0
            try clear hcz118_1
            try clear hcz118_2
            try clear hcz118_3
            try clear hcz118_4
            try clear hcz120_0
            try clear hcz120_1
            try clear hcz120_2
            try clear hcz122_0
            try clear hcz122_1
            try clear hcz122_2
            try clear hcz122_3
            try clear hcz122_4
            try clear hcz128_0
            try clear hcz128_1
            try clear hcz128_2
            try clear hcz129_0
            try clear hcz129_1
            try clear hcz129_2
            try clear hcz129_3
            try clear hcz129_4
            try clear hcz12_0
            try clear hcz12_1
            try clear hcz12_2
            try clear hcz12_3
            try clear hcz12_4
            try clear hcz130_0
            try clear hcz130_1
            try clear hcz130_2
            try clear hcz134_0
            try clear hcz134_1
            try clear hcz134_2
            try clear hcz134_3
            try clear hcz134_4
            try clear hcz136_0
            try clear hcz136_1
            try clear hcz136_2
            try clear hcz138_0
            try clear hcz138_1
            try clear hcz138_2
            try clear hcz138_3
            try clear hcz138_4
            try clear hcz144_0
            try clear hcz144_1
            try clear hcz144_2
            try clear hcz147_0
            try clear hcz147_1
            try clear hcz147_2
            try clear hcz147_3
            try clear hcz147_4
            try clear hcz149_0
            try clear hcz149_1
            try clear hcz149_2
            try clear hcz151_0
            try clear hcz151_1
            try clear hcz151_2
            try clear hcz151_3
            try clear hcz151_4
            try clear hcz157_0
            try clear hcz157_1
            try clear hcz157_2
            try clear hcz17_0
            try clear hcz17_1
            try clear hcz17_2
            try clear hcz22_0
            try clear hcz22_1
            try clear hcz22_2
            try clear hcz22_3
            try clear hcz22_4
            try clear hcz40_0
            try clear hcz40_1
            try clear hcz40_2
            try clear hcz40_3
            try clear hcz40_4
            try clear hcz42_0
            try clear hcz42_1
            try clear hcz42_2
            try clear hcz44_0
            try clear hcz44_1
            try clear hcz44_2
            try clear hcz44_3
            try clear hcz44_4
            try clear hcz50_0
            try clear hcz50_1
            try clear hcz50_2
            try clear hcz51_0
            try clear hcz51_1
            try clear hcz51_2
            try clear hcz51_3
            try clear hcz51_4
            try clear hcz52_0
            try clear hcz52_1
            try clear hcz52_2
            try clear hcz54_0
            try clear hcz54_1
            try clear hcz54_2
            try clear hcz56_0
            try clear hcz56_1
            try clear hcz56_2
            try clear hcz57_0
            try clear hcz57_1
            try clear hcz57_2
            try clear hcz61_0
            try clear hcz61_1
            try clear hcz61_2
            try clear hcz61_3
            try clear hcz61_4
            try clear hcz63_0
            try clear hcz63_1
            try clear hcz63_2
            try clear hcz65_0
            try clear hcz65_1
            try clear hcz65_2
            try clear hcz65_3
            try clear hcz65_4
            try clear hcz71_0
            try clear hcz71_1
            try clear hcz71_2
            try clear hcz72_0
            try clear hcz72_1
            try clear hcz72_2
            try clear hcz72_3
            try clear hcz72_4
            try clear hcz73_0
            try clear hcz73_1
            try clear hcz73_2
            try clear hcz75_0
            try clear hcz75_1
            try clear hcz75_2
            try clear hcz77_0
            try clear hcz77_1
            try clear hcz77_2
            try clear hcz78_0
            try clear hcz78_1
            try clear hcz78_2
            try clear hcz82_0
            try clear hcz82_1
            try clear hcz82_2
            try clear hcz82_3
            try clear hcz82_4
            try clear hcz84_0
            try clear hcz84_1
            try clear hcz84_2
            try clear hcz86_0
            try clear hcz86_1
            try clear hcz86_2
            try clear hcz86_3
            try clear hcz86_4
            try clear hcz92_0
            try clear hcz92_1
            try clear hcz92_2
            try clear hcz93_0
            try clear hcz93_1
            try clear hcz93_2
            try clear hcz93_3
            try clear hcz93_4
            try clear hcz94_0
            try clear hcz94_1
            try clear hcz94_2
            try clear hcz96_0
            try clear hcz96_1
            try clear hcz96_2
            try clear hfz100_0
            try clear hfz100_1
            try clear hfz100_2
            try clear hfz100_3
            try clear hfz100_4
            try clear hfz102_0
            try clear hfz102_1
            try clear hfz102_2
            try clear hfz104_0
            try clear hfz104_1
            try clear hfz104_2
            try clear hfz104_3
            try clear hfz104_4
            try clear hfz110_0
            try clear hfz110_1
            try clear hfz110_2
            try clear hfz111_0
            try clear hfz111_1
            try clear hfz111_2
            try clear hfz111_3
            try clear hfz111_4
            try clear hfz112_0
            try clear hfz112_1
            try clear hfz112_2
            try clear hfz114_0
            try clear hfz114_1
            try clear hfz114_2
            try clear hfz118_0
            try clear hfz118_1
            try clear hfz118_2
            try clear hfz118_3
            try clear hfz118_4
            try clear hfz120_0
            try clear hfz120_1
            try clear hfz120_2
            try clear hfz122_0
            try clear hfz122_1
            try clear hfz122_2
            try clear hfz122_3
            try clear hfz122_4
            try clear hfz128_0
            try clear hfz128_1
            try clear hfz128_2
            try clear hfz129_0
            try clear hfz129_1
            try clear hfz129_2
            try clear hfz129_3
            try clear hfz129_4
            try clear hfz12_0
            try clear hfz12_1
            try clear hfz12_2
            try clear hfz12_3
            try clear hfz12_4
            try clear hfz130_0
            try clear hfz130_1
            try clear hfz130_2
            try clear hfz134_0
            try clear hfz134_1
            try clear hfz134_2
            try clear hfz134_3
            try clear hfz134_4
            try clear hfz136_0
            try clear hfz136_1
            try clear hfz136_2
            try clear hfz138_0
            try clear hfz138_1
            try clear hfz138_2
            try clear hfz138_3
            try clear hfz138_4
            try clear hfz144_0
            try clear hfz144_1
            try clear hfz144_2
            try clear hfz147_0
            try clear hfz147_1
            try clear hfz147_2
            try clear hfz147_3
            try clear hfz147_4
            try clear hfz149_0
            try clear hfz149_1
            try clear hfz149_2
            try clear hfz151_0
            try clear hfz151_1
            try clear hfz151_2
            try clear hfz151_3
            try clear hfz151_4
            try clear hfz157_0
            try clear hfz157_1
            try clear hfz157_2
            try clear hfz17_0
            try clear hfz17_1
            try clear hfz17_2
            try clear hfz22_0
            try clear hfz22_1
            try clear hfz22_2
            try clear hfz22_3
            try clear hfz22_4
            try clear hfz40_0
            try clear hfz40_1
            try clear hfz40_2
            try clear hfz40_3
            try clear hfz40_4
            try clear hfz42_0
            try clear hfz42_1
            try clear hfz42_2
            try clear hfz44_0
            try clear hfz44_1
            try clear hfz44_2
            try clear hfz44_3
            try clear hfz44_4
            try clear hfz50_0
            try clear hfz50_1
            try clear hfz50_2
            try clear hfz51_0
            try clear hfz51_1
            try clear hfz51_2
            try clear hfz51_3
            try clear hfz51_4
            try clear hfz52_0
            try clear hfz52_1
            try clear hfz52_2
            try clear hfz54_0
            try clear hfz54_1
            try clear hfz54_2
            try clear hfz56_0
            try clear hfz56_1
            try clear hfz56_2
            try clear hfz57_0
            try clear hfz57_1
            try clear hfz57_2
            try clear hfz61_0
            try clear hfz61_1
            try clear hfz61_2
            try clear hfz61_3
            try clear hfz61_4
            try clear hfz63_0
            try clear hfz63_1
            try clear hfz63_2
            try clear hfz65_0
            try clear hfz65_1
            try clear hfz65_2
            try clear hfz65_3
            try clear hfz65_4
            try clear hfz71_0
            try clear hfz71_1
            try clear hfz71_2
            try clear hfz72_0
            try clear hfz72_1
            try clear hfz72_2
            try clear hfz72_3
            try clear hfz72_4
            try clear hfz73_0
            try clear hfz73_1
            try clear hfz73_2
            try clear hfz75_0
            try clear hfz75_1
            try clear hfz75_2
            try clear hfz77_0
            try clear hfz77_1
            try clear hfz77_2
            try clear hfz78_0
            try clear hfz78_1
            try clear hfz78_2
            try clear hfz82_0
            try clear hfz82_1
            try clear hfz82_2
            try clear hfz82_3
            try clear hfz82_4
            try clear hfz84_0
            try clear hfz84_1
            try clear hfz84_2
            try clear hfz86_0
            try clear hfz86_1
            try clear hfz86_2
            try clear hfz86_3
            try clear hfz86_4
            try clear hfz92_0
            try clear hfz92_1
            try clear hfz92_2
            try clear hfz93_0
            try clear hfz93_1
            try clear hfz93_2
            try clear hfz93_3
            try clear hfz93_4
            try clear hfz94_0
            try clear hfz94_1
            try clear hfz94_2
            try clear hfz96_0
            try clear hfz96_1
            try clear hfz96_2
            try clear p2
            obtain ⟨kq, HA, HJ24, BK432, BK433, BK439, HB⟩ := hcut
            cases kq with
            | zero => exact absurd HA.out (by simp [whittlelaw3_PlaceCount.j1])
            | succ kj24 =>
              have H := HA.out
              clear HA
              simp only [whittlelaw3_PlaceCount.j1] at H
              replace H := Option.bind_eq_some_iff.mp H
              obtain ⟨⟨t451, t452⟩, A1580, H⟩ := H
              replace H : ((place_Has.f a0_0 a0_1 a0_2 a0_3 a0_4 a2_0 a2_1 a2_2).bind fun t453 => (if (t452 != t453) = true then (some false) else (if t452 = true then ((place_At.f kj24 a0_0 a0_1 a0_2 a0_3 a0_4 t451).bind fun bt454 => (if bt454.2.2.2 = true then (some (bt454.1 == a2_0 && (bt454.2.1 == a2_1 && (bt454.2.2.1 == a2_2)))) else (some false))) else (some (t451 == 0))))) = some r := H
              have A158 := Aside0.mk A1580
              clear A1580
              replace H := Option.bind_eq_some_iff.mp H
              obtain ⟨t453, A1590, H⟩ := H
              replace H : (if (t452 != t453) = true then (some false) else (if t452 = true then ((place_At.f kj24 a0_0 a0_1 a0_2 a0_3 a0_4 t451).bind fun bt454 => (if bt454.2.2.2 = true then (some (bt454.1 == a2_0 && (bt454.2.1 == a2_1 && (bt454.2.2.1 == a2_2)))) else (some false))) else (some (t451 == 0)))) = some r := H
              have A159 := Aside0.mk A1590
              clear A1590
              by_cases c160 : (t452 != t453) = true
              · rw [if_pos c160] at H
                have c160b0 : (t452 != t453) = true := c160
                (try (have c160b1 : decide (t452 = t453) = false := by simpa using c160))
                (try (have c160b2 : (t452 == t453) = false := by simpa using c160))
                (try (have c160b3 : ¬ (t452 = t453) := by simpa using c160))
                clear c160
                obtain rfl := Option.some.inj H
                have hnb161 := NB432_433.out
                have hnc161 := NB433_432.out
                have hnb162 := NB432_439.out
                have hnc162 := NB439_432.out
                have hcz163_0 : wc.cell? ⟨gb432, 0, none⟩ = some (.int .i64 a0_0) := (blk_cell BK432.out 0).trans rfl
                have hcz163_1 : wc.cell? ⟨gb432, 1, none⟩ = some (.int .i64 a0_1) := (blk_cell BK432.out 1).trans rfl
                have hcz163_2 : wc.cell? ⟨gb432, 2, none⟩ = some (.int .i64 a0_2) := (blk_cell BK432.out 2).trans rfl
                have hcz163_3 : wc.cell? ⟨gb432, 3, none⟩ = some (.int .i64 a0_3) := (blk_cell BK432.out 3).trans rfl
                have hcz163_4 : wc.cell? ⟨gb432, 4, none⟩ = some (.int .i64 a0_4) := (blk_cell BK432.out 4).trans rfl
                have hfz163_0 := blk_frozen BK432.out 0
                have hfz163_1 := blk_frozen BK432.out 1
                have hfz163_2 := blk_frozen BK432.out 2
                have hfz163_3 := blk_frozen BK432.out 3
                have hfz163_4 := blk_frozen BK432.out 4
                have hnb164 := NB433_439.out
                have hnc164 := NB439_433.out
                have hcz165_0 : wc.cell? ⟨gb433, 0, none⟩ = some (.int .i64 a2_0) := (blk_cell BK433.out 0).trans rfl
                have hcz165_1 : wc.cell? ⟨gb433, 1, none⟩ = some (.int .i64 a2_1) := (blk_cell BK433.out 1).trans rfl
                have hcz165_2 : wc.cell? ⟨gb433, 2, none⟩ = some (.int .i64 a2_2) := (blk_cell BK433.out 2).trans rfl
                have hfz165_0 := blk_frozen BK433.out 0
                have hfz165_1 := blk_frozen BK433.out 1
                have hfz165_2 := blk_frozen BK433.out 2
                go_wp2_with (first | ((with_reducible refine gate_callee (f := 37) rfl ?_); refine goesL_ (some 79) rfl rfl Tryd.func37 (by kernel_rfl) rfl #[.agg #[.int .i64 a0_0, .int .i64 a0_1, .int .i64 a0_2, .int .i64 a0_3, .int .i64 a0_4], .agg #[.int .i64 a2_0, .int .i64 a2_1, .int .i64 a2_2]] rfl (by (try simp only [List.map_toArray, List.map_cons, List.map_nil]); first | done | rfl | (simp only [List.length_drop, List.length_take]; rfl)) ?_; (with_reducible refine (place_Index.calls a0_0 a0_1 a0_2 a0_3 a0_4 a2_0 a2_1 a2_2 t451 t452 _ A158.out).mono ?_); rintro e w166 ⟨rfl, hb⟩; refine ⟨_, rfl, ?_⟩; have n0_ := Aside0.mk (blk_below (g := gb432) (o := .cells #[.int .i64 a0_0, .int .i64 a0_1, .int .i64 a0_2, .int .i64 a0_3, .int .i64 a0_4] 25 (0, 0)) (by (with_reducible repeat (first | refine blk_drewN ?_ _ | refine blk_drew ?_ | refine blk_alloc ?_ _)); exact BK432.out) hb); have n1_ := Aside0.mk (blk_below (g := gb433) (o := .cells #[.int .i64 a2_0, .int .i64 a2_1, .int .i64 a2_2] 23 (0, 0)) (by (with_reducible repeat (first | refine blk_drewN ?_ _ | refine blk_drew ?_ | refine blk_alloc ?_ _)); exact BK433.out) hb); have n2_ := Aside0.mk (blk_below (g := gb439) (o := .cells #[.int .i64 t435, .int .i64 t436, .int .i64 t437] 23 (0, 0)) (by (with_reducible repeat (first | refine blk_drewN ?_ _ | refine blk_drew ?_ | refine blk_alloc ?_ _)); exact BK439.out) hb); have n3_ := Aside0.mk (below_step (by repeat (first | (with_reducible first | exact HB.out | apply below_alloc | apply pw_below_drewN | apply below_drew1 | refine below_set ?_ GE432.out | refine below_set ?_ GE433.out | refine below_set ?_ GE439.out) | exact HB.out)) hb); clear BK432; clear BK433; clear BK439; clear HB; have BK432 := n0_; have BK433 := n1_; have BK439 := n2_; have HB := n3_; clear n0_ n1_ n2_ n3_; (try clear hb); (try clear hb2); (try clear hk); (try clear hi); have hcz167_0 : w166.cell? ⟨gb432, 0, none⟩ = some (.int .i64 a0_0) := (blk_cell BK432.out 0).trans rfl; have hcz167_1 : w166.cell? ⟨gb432, 1, none⟩ = some (.int .i64 a0_1) := (blk_cell BK432.out 1).trans rfl; have hcz167_2 : w166.cell? ⟨gb432, 2, none⟩ = some (.int .i64 a0_2) := (blk_cell BK432.out 2).trans rfl; have hcz167_3 : w166.cell? ⟨gb432, 3, none⟩ = some (.int .i64 a0_3) := (blk_cell BK432.out 3).trans rfl; have hcz167_4 : w166.cell? ⟨gb432, 4, none⟩ = some (.int .i64 a0_4) := (blk_cell BK432.out 4).trans rfl; have hfz167_0 := blk_frozen BK432.out 0; have hfz167_1 := blk_frozen BK432.out 1; have hfz167_2 := blk_frozen BK432.out 2; have hfz167_3 := blk_frozen BK432.out 3; have hfz167_4 := blk_frozen BK432.out 4; have hcz168_0 : w166.cell? ⟨gb433, 0, none⟩ = some (.int .i64 a2_0) := (blk_cell BK433.out 0).trans rfl; have hcz168_1 : w166.cell? ⟨gb433, 1, none⟩ = some (.int .i64 a2_1) := (blk_cell BK433.out 1).trans rfl; have hcz168_2 : w166.cell? ⟨gb433, 2, none⟩ = some (.int .i64 a2_2) := (blk_cell BK433.out 2).trans rfl; have hfz168_0 := blk_frozen BK433.out 0; have hfz168_1 := blk_frozen BK433.out 1; have hfz168_2 := blk_frozen BK433.out 2) | ((with_reducible refine gate_callee (f := 28) rfl ?_); refine goesL_ (some 85) rfl rfl Tryd.func28 (by kernel_rfl) rfl #[.agg #[.int .i64 a0_0, .int .i64 a0_1, .int .i64 a0_2, .int .i64 a0_3, .int .i64 a0_4], .agg #[.int .i64 a2_0, .int .i64 a2_1, .int .i64 a2_2]] rfl (by (try simp only [List.map_toArray, List.map_cons, List.map_nil]); first | done | rfl | (simp only [List.length_drop, List.length_take]; rfl)) ?_; (with_reducible refine (place_Has.calls a0_0 a0_1 a0_2 a0_3 a0_4 a2_0 a2_1 a2_2 t453 _ A159.out).mono ?_); rintro e w169 ⟨rfl, hb⟩; refine ⟨_, rfl, ?_⟩; have n0_ := Aside0.mk (blk_below (g := gb432) (o := .cells #[.int .i64 a0_0, .int .i64 a0_1, .int .i64 a0_2, .int .i64 a0_3, .int .i64 a0_4] 25 (0, 0)) (by (with_reducible repeat (first | refine blk_drewN ?_ _ | refine blk_drew ?_ | refine blk_alloc ?_ _)); exact BK432.out) hb); have n1_ := Aside0.mk (blk_below (g := gb433) (o := .cells #[.int .i64 a2_0, .int .i64 a2_1, .int .i64 a2_2] 23 (0, 0)) (by (with_reducible repeat (first | refine blk_drewN ?_ _ | refine blk_drew ?_ | refine blk_alloc ?_ _)); exact BK433.out) hb); have n2_ := Aside0.mk (blk_below (g := gb439) (o := .cells #[.int .i64 t435, .int .i64 t436, .int .i64 t437] 23 (0, 0)) (by (with_reducible repeat (first | refine blk_drewN ?_ _ | refine blk_drew ?_ | refine blk_alloc ?_ _)); exact BK439.out) hb); have n3_ := Aside0.mk (below_step (by repeat (first | (with_reducible first | exact HB.out | apply below_alloc | apply pw_below_drewN | apply below_drew1 | refine below_set ?_ GE432.out | refine below_set ?_ GE433.out | refine below_set ?_ GE439.out) | exact HB.out)) hb); clear BK432; clear BK433; clear BK439; clear HB; have BK432 := n0_; have BK433 := n1_; have BK439 := n2_; have HB := n3_; clear n0_ n1_ n2_ n3_; (try clear hb); (try clear hb2); (try clear hk); (try clear hi)))
                go_ret
                exact ⟨by first | rfl | (simp [errW_none, errW_some] <;> rfl) | (simp [*, errW_none, errW_some] <;> rfl), by repeat (first | (with_reducible first | exact HB.out | apply below_alloc | apply pw_below_drewN | apply below_drew1 | refine below_set ?_ GE432.out | refine below_set ?_ GE433.out | refine below_set ?_ GE439.out) | exact HB.out)⟩
              · rw [if_neg c160] at H
                have c160b0 : (t452 != t453) = false := by simpa using c160
                (try (have c160b1 : decide (t452 = t453) = true := by simpa using c160))
                (try (have c160b2 : (t452 == t453) = true := by simpa using c160))
                clear c160
                by_cases c170 : t452 = true
                · subst c170
                  have H1 : ((place_At.f kj24 a0_0 a0_1 a0_2 a0_3 a0_4 t451).bind fun bt454 => (if bt454.2.2.2 = true then (some (bt454.1 == a2_0 && (bt454.2.1 == a2_1 && (bt454.2.2.1 == a2_2)))) else (some false))) = some r := by rw [if_pos rfl] at H; exact H
                  clear H
                  have H := H1
                  clear H1
                  replace H := Option.bind_eq_some_iff.mp H
                  obtain ⟨⟨t454, t455, t456, t457⟩, A1710, H⟩ := H
                  replace H : (if t457 = true then (some (t454 == a2_0 && (t455 == a2_1 && (t456 == a2_2)))) else (some false)) = some r := H
                  have A171 := Aside0.mk A1710
                  clear A1710
                  by_cases c172 : t457 = true
                  · subst c172
                    have H1 : (some (t454 == a2_0 && (t455 == a2_1 && (t456 == a2_2)))) = some r := by rw [if_pos rfl] at H; exact H
                    clear H
                    have H := H1
                    clear H1
                    obtain rfl := Option.some.inj H
                    have hnb173 := NB432_433.out
                    have hnc173 := NB433_432.out
                    have hnb174 := NB432_439.out
                    have hnc174 := NB439_432.out
                    have hcz175_0 : wc.cell? ⟨gb432, 0, none⟩ = some (.int .i64 a0_0) := (blk_cell BK432.out 0).trans rfl
                    have hcz175_1 : wc.cell? ⟨gb432, 1, none⟩ = some (.int .i64 a0_1) := (blk_cell BK432.out 1).trans rfl
                    have hcz175_2 : wc.cell? ⟨gb432, 2, none⟩ = some (.int .i64 a0_2) := (blk_cell BK432.out 2).trans rfl
                    have hcz175_3 : wc.cell? ⟨gb432, 3, none⟩ = some (.int .i64 a0_3) := (blk_cell BK432.out 3).trans rfl
                    have hcz175_4 : wc.cell? ⟨gb432, 4, none⟩ = some (.int .i64 a0_4) := (blk_cell BK432.out 4).trans rfl
                    have hfz175_0 := blk_frozen BK432.out 0
                    have hfz175_1 := blk_frozen BK432.out 1
                    have hfz175_2 := blk_frozen BK432.out 2
                    have hfz175_3 := blk_frozen BK432.out 3
                    have hfz175_4 := blk_frozen BK432.out 4
                    have hnb176 := NB433_439.out
                    have hnc176 := NB439_433.out
                    have hcz177_0 : wc.cell? ⟨gb433, 0, none⟩ = some (.int .i64 a2_0) := (blk_cell BK433.out 0).trans rfl
                    have hcz177_1 : wc.cell? ⟨gb433, 1, none⟩ = some (.int .i64 a2_1) := (blk_cell BK433.out 1).trans rfl
                    have hcz177_2 : wc.cell? ⟨gb433, 2, none⟩ = some (.int .i64 a2_2) := (blk_cell BK433.out 2).trans rfl
                    have hfz177_0 := blk_frozen BK433.out 0
                    have hfz177_1 := blk_frozen BK433.out 1
                    have hfz177_2 := blk_frozen BK433.out 2
                    go_wp2_with (first | ((with_reducible refine gate_callee (f := 37) rfl ?_); refine goesL_ (some 79) rfl rfl Tryd.func37 (by kernel_rfl) rfl #[.agg #[.int .i64 a0_0, .int .i64 a0_1, .int .i64 a0_2, .int .i64 a0_3, .int .i64 a0_4], .agg #[.int .i64 a2_0, .int .i64 a2_1, .int .i64 a2_2]] rfl (by (try simp only [List.map_toArray, List.map_cons, List.map_nil]); first | done | rfl | (simp only [List.length_drop, List.length_take]; rfl)) ?_; (with_reducible refine (place_Index.calls a0_0 a0_1 a0_2 a0_3 a0_4 a2_0 a2_1 a2_2 t451 true _ A158.out).mono ?_); rintro e w178 ⟨rfl, hb⟩; refine ⟨_, rfl, ?_⟩; have n0_ := Aside0.mk (blk_below (g := gb432) (o := .cells #[.int .i64 a0_0, .int .i64 a0_1, .int .i64 a0_2, .int .i64 a0_3, .int .i64 a0_4] 25 (0, 0)) (by (with_reducible repeat (first | refine blk_drewN ?_ _ | refine blk_drew ?_ | refine blk_alloc ?_ _)); exact BK432.out) hb); have n1_ := Aside0.mk (blk_below (g := gb433) (o := .cells #[.int .i64 a2_0, .int .i64 a2_1, .int .i64 a2_2] 23 (0, 0)) (by (with_reducible repeat (first | refine blk_drewN ?_ _ | refine blk_drew ?_ | refine blk_alloc ?_ _)); exact BK433.out) hb); have n2_ := Aside0.mk (blk_below (g := gb439) (o := .cells #[.int .i64 t435, .int .i64 t436, .int .i64 t437] 23 (0, 0)) (by (with_reducible repeat (first | refine blk_drewN ?_ _ | refine blk_drew ?_ | refine blk_alloc ?_ _)); exact BK439.out) hb); have n3_ := Aside0.mk (below_step (by repeat (first | (with_reducible first | exact HB.out | apply below_alloc | apply pw_below_drewN | apply below_drew1 | refine below_set ?_ GE432.out | refine below_set ?_ GE433.out | refine below_set ?_ GE439.out) | exact HB.out)) hb); clear BK432; clear BK433; clear BK439; clear HB; have BK432 := n0_; have BK433 := n1_; have BK439 := n2_; have HB := n3_; clear n0_ n1_ n2_ n3_; (try clear hb); (try clear hb2); (try clear hk); (try clear hi); have hcz179_0 : w178.cell? ⟨gb432, 0, none⟩ = some (.int .i64 a0_0) := (blk_cell BK432.out 0).trans rfl; have hcz179_1 : w178.cell? ⟨gb432, 1, none⟩ = some (.int .i64 a0_1) := (blk_cell BK432.out 1).trans rfl; have hcz179_2 : w178.cell? ⟨gb432, 2, none⟩ = some (.int .i64 a0_2) := (blk_cell BK432.out 2).trans rfl; have hcz179_3 : w178.cell? ⟨gb432, 3, none⟩ = some (.int .i64 a0_3) := (blk_cell BK432.out 3).trans rfl; have hcz179_4 : w178.cell? ⟨gb432, 4, none⟩ = some (.int .i64 a0_4) := (blk_cell BK432.out 4).trans rfl; have hfz179_0 := blk_frozen BK432.out 0; have hfz179_1 := blk_frozen BK432.out 1; have hfz179_2 := blk_frozen BK432.out 2; have hfz179_3 := blk_frozen BK432.out 3; have hfz179_4 := blk_frozen BK432.out 4; have hcz180_0 : w178.cell? ⟨gb433, 0, none⟩ = some (.int .i64 a2_0) := (blk_cell BK433.out 0).trans rfl; have hcz180_1 : w178.cell? ⟨gb433, 1, none⟩ = some (.int .i64 a2_1) := (blk_cell BK433.out 1).trans rfl; have hcz180_2 : w178.cell? ⟨gb433, 2, none⟩ = some (.int .i64 a2_2) := (blk_cell BK433.out 2).trans rfl; have hfz180_0 := blk_frozen BK433.out 0; have hfz180_1 := blk_frozen BK433.out 1; have hfz180_2 := blk_frozen BK433.out 2) | ((with_reducible refine gate_callee (f := 28) rfl ?_); refine goesL_ (some 85) rfl rfl Tryd.func28 (by kernel_rfl) rfl #[.agg #[.int .i64 a0_0, .int .i64 a0_1, .int .i64 a0_2, .int .i64 a0_3, .int .i64 a0_4], .agg #[.int .i64 a2_0, .int .i64 a2_1, .int .i64 a2_2]] rfl (by (try simp only [List.map_toArray, List.map_cons, List.map_nil]); first | done | rfl | (simp only [List.length_drop, List.length_take]; rfl)) ?_; (with_reducible refine (place_Has.calls a0_0 a0_1 a0_2 a0_3 a0_4 a2_0 a2_1 a2_2 t453 _ A159.out).mono ?_); rintro e w181 ⟨rfl, hb⟩; refine ⟨_, rfl, ?_⟩; have n0_ := Aside0.mk (blk_below (g := gb432) (o := .cells #[.int .i64 a0_0, .int .i64 a0_1, .int .i64 a0_2, .int .i64 a0_3, .int .i64 a0_4] 25 (0, 0)) (by (with_reducible repeat (first | refine blk_drewN ?_ _ | refine blk_drew ?_ | refine blk_alloc ?_ _)); exact BK432.out) hb); have n1_ := Aside0.mk (blk_below (g := gb433) (o := .cells #[.int .i64 a2_0, .int .i64 a2_1, .int .i64 a2_2] 23 (0, 0)) (by (with_reducible repeat (first | refine blk_drewN ?_ _ | refine blk_drew ?_ | refine blk_alloc ?_ _)); exact BK433.out) hb); have n2_ := Aside0.mk (blk_below (g := gb439) (o := .cells #[.int .i64 t435, .int .i64 t436, .int .i64 t437] 23 (0, 0)) (by (with_reducible repeat (first | refine blk_drewN ?_ _ | refine blk_drew ?_ | refine blk_alloc ?_ _)); exact BK439.out) hb); have n3_ := Aside0.mk (below_step (by repeat (first | (with_reducible first | exact HB.out | apply below_alloc | apply pw_below_drewN | apply below_drew1 | refine below_set ?_ GE432.out | refine below_set ?_ GE433.out | refine below_set ?_ GE439.out) | exact HB.out)) hb); clear BK432; clear BK433; clear BK439; clear HB; have BK432 := n0_; have BK433 := n1_; have BK439 := n2_; have HB := n3_; clear n0_ n1_ n2_ n3_; (try clear hb); (try clear hb2); (try clear hk); (try clear hi); have hcz182_0 : w181.cell? ⟨gb432, 0, none⟩ = some (.int .i64 a0_0) := (blk_cell BK432.out 0).trans rfl; have hcz182_1 : w181.cell? ⟨gb432, 1, none⟩ = some (.int .i64 a0_1) := (blk_cell BK432.out 1).trans rfl; have hcz182_2 : w181.cell? ⟨gb432, 2, none⟩ = some (.int .i64 a0_2) := (blk_cell BK432.out 2).trans rfl; have hcz182_3 : w181.cell? ⟨gb432, 3, none⟩ = some (.int .i64 a0_3) := (blk_cell BK432.out 3).trans rfl; have hcz182_4 : w181.cell? ⟨gb432, 4, none⟩ = some (.int .i64 a0_4) := (blk_cell BK432.out 4).trans rfl; have hfz182_0 := blk_frozen BK432.out 0; have hfz182_1 := blk_frozen BK432.out 1; have hfz182_2 := blk_frozen BK432.out 2; have hfz182_3 := blk_frozen BK432.out 3; have hfz182_4 := blk_frozen BK432.out 4) | ((with_reducible refine gate_callee (f := 35) rfl ?_); refine goesL_ (some 94) rfl rfl Tryd.func35 (by kernel_rfl) rfl #[.agg #[.int .i64 a0_0, .int .i64 a0_1, .int .i64 a0_2, .int .i64 a0_3, .int .i64 a0_4], .int .i64 t451] rfl (by (try simp only [List.map_toArray, List.map_cons, List.map_nil]); first | done | rfl | (simp only [List.length_drop, List.length_take]; rfl)) ?_; (with_reducible refine (place_At.calls kj24 a0_0 a0_1 a0_2 a0_3 a0_4 t451 t454 t455 t456 true _ A171.out).mono ?_); rintro e w183 ⟨rfl, hb⟩; refine ⟨_, rfl, ?_⟩; have n0_ := Aside0.mk (blk_below (g := gb432) (o := .cells #[.int .i64 a0_0, .int .i64 a0_1, .int .i64 a0_2, .int .i64 a0_3, .int .i64 a0_4] 25 (0, 0)) (by (with_reducible repeat (first | refine blk_drewN ?_ _ | refine blk_drew ?_ | refine blk_alloc ?_ _)); exact BK432.out) hb); have n1_ := Aside0.mk (blk_below (g := gb433) (o := .cells #[.int .i64 a2_0, .int .i64 a2_1, .int .i64 a2_2] 23 (0, 0)) (by (with_reducible repeat (first | refine blk_drewN ?_ _ | refine blk_drew ?_ | refine blk_alloc ?_ _)); exact BK433.out) hb); have n2_ := Aside0.mk (blk_below (g := gb439) (o := .cells #[.int .i64 t435, .int .i64 t436, .int .i64 t437] 23 (0, 0)) (by (with_reducible repeat (first | refine blk_drewN ?_ _ | refine blk_drew ?_ | refine blk_alloc ?_ _)); exact BK439.out) hb); have n3_ := Aside0.mk (below_step (by repeat (first | (with_reducible first | exact HB.out | apply below_alloc | apply pw_below_drewN | apply below_drew1 | refine below_set ?_ GE432.out | refine below_set ?_ GE433.out | refine below_set ?_ GE439.out) | exact HB.out)) hb); clear BK432; clear BK433; clear BK439; clear HB; have BK432 := n0_; have BK433 := n1_; have BK439 := n2_; have HB := n3_; clear n0_ n1_ n2_ n3_; (try clear hb); (try clear hb2); (try clear hk); (try clear hi)) | ((with_reducible refine gate_dst (N := 15) rfl ?_); refine box_event ?hg (N := 15) ?hd (cs := #[.int .i64 0, .int .i64 0, .int .i64 0]) (t := 23) ?hr ?_; (case hd => rfl); (case hg => rfl); (case hr => first | (go_simp; done) | (go_simp; rfl)); intro gb458 hg w184 hbox hb; have n0_ := Aside0.mk (blk_below (g := gb432) (o := .cells #[.int .i64 a0_0, .int .i64 a0_1, .int .i64 a0_2, .int .i64 a0_3, .int .i64 a0_4] 25 (0, 0)) (by (with_reducible repeat (first | refine blk_drewN ?_ _ | refine blk_drew ?_ | refine blk_alloc ?_ _)); exact BK432.out) hb); have n1_ := Aside0.mk (blk_below (g := gb433) (o := .cells #[.int .i64 a2_0, .int .i64 a2_1, .int .i64 a2_2] 23 (0, 0)) (by (with_reducible repeat (first | refine blk_drewN ?_ _ | refine blk_drew ?_ | refine blk_alloc ?_ _)); exact BK433.out) hb); have n2_ := Aside0.mk (blk_below (g := gb439) (o := .cells #[.int .i64 t435, .int .i64 t436, .int .i64 t437] 23 (0, 0)) (by (with_reducible repeat (first | refine blk_drewN ?_ _ | refine blk_drew ?_ | refine blk_alloc ?_ _)); exact BK439.out) hb); have n3_ := Aside0.mk (below_step (by repeat (first | (with_reducible first | exact HB.out | apply below_alloc | apply pw_below_drewN | apply below_drew1 | refine below_set ?_ GE432.out | refine below_set ?_ GE433.out | refine below_set ?_ GE439.out) | exact HB.out)) hb); have n4_ := Aside0.mk (hbox); have n5_ := Aside0.mk ((by rw [hg]; exact (below_size (by repeat (first | (with_reducible first | exact HB.out | apply below_alloc | apply pw_below_drewN | apply below_drew1 | refine below_set ?_ GE432.out | refine below_set ?_ GE433.out | refine below_set ?_ GE439.out) | exact HB.out))) : w.heap.size ≤ gb458)); have n6_ := Aside0.mk ((by rw [hg]; exact (below_size (by repeat (first | (with_reducible first | exact HB.out | apply below_alloc | apply pw_below_drewN | apply below_drew1 | refine below_set ?_ GE432.out | refine below_set ?_ GE433.out | refine below_set ?_ GE439.out) | exact HB.out))) : w.heap.size ≤ gb458)); have n7_ := Aside0.mk ((by rw [hg]; exact Nat.ne_of_lt (blk_lt (g := gb432) (o := .cells #[.int .i64 a0_0, .int .i64 a0_1, .int .i64 a0_2, .int .i64 a0_3, .int .i64 a0_4] 25 (0, 0)) (by (with_reducible repeat (first | refine blk_drewN ?_ _ | refine blk_drew ?_ | refine blk_alloc ?_ _)); exact BK432.out)) : gb432 ≠ gb458)); have n8_ := Aside0.mk ((by rw [hg]; exact Nat.ne_of_gt (blk_lt (g := gb432) (o := .cells #[.int .i64 a0_0, .int .i64 a0_1, .int .i64 a0_2, .int .i64 a0_3, .int .i64 a0_4] 25 (0, 0)) (by (with_reducible repeat (first | refine blk_drewN ?_ _ | refine blk_drew ?_ | refine blk_alloc ?_ _)); exact BK432.out)) : gb458 ≠ gb432)); have n9_ := Aside0.mk ((by rw [hg]; exact Nat.ne_of_lt (blk_lt (g := gb433) (o := .cells #[.int .i64 a2_0, .int .i64 a2_1, .int .i64 a2_2] 23 (0, 0)) (by (with_reducible repeat (first | refine blk_drewN ?_ _ | refine blk_drew ?_ | refine blk_alloc ?_ _)); exact BK433.out)) : gb433 ≠ gb458)); have n10_ := Aside0.mk ((by rw [hg]; exact Nat.ne_of_gt (blk_lt (g := gb433) (o := .cells #[.int .i64 a2_0, .int .i64 a2_1, .int .i64 a2_2] 23 (0, 0)) (by (with_reducible repeat (first | refine blk_drewN ?_ _ | refine blk_drew ?_ | refine blk_alloc ?_ _)); exact BK433.out)) : gb458 ≠ gb433)); have n11_ := Aside0.mk ((by rw [hg]; exact Nat.ne_of_lt (blk_lt (g := gb439) (o := .cells #[.int .i64 t435, .int .i64 t436, .int .i64 t437] 23 (0, 0)) (by (with_reducible repeat (first | refine blk_drewN ?_ _ | refine blk_drew ?_ | refine blk_alloc ?_ _)); exact BK439.out)) : gb439 ≠ gb458)); have n12_ := Aside0.mk ((by rw [hg]; exact Nat.ne_of_gt (blk_lt (g := gb439) (o := .cells #[.int .i64 t435, .int .i64 t436, .int .i64 t437] 23 (0, 0)) (by (with_reducible repeat (first | refine blk_drewN ?_ _ | refine blk_drew ?_ | refine blk_alloc ?_ _)); exact BK439.out)) : gb458 ≠ gb439)); clear BK432; clear BK433; clear BK439; clear HB; have BK432 := n0_; have BK433 := n1_; have BK439 := n2_; have HB := n3_; have BK458 := n4_; have GW458 := n5_; have GE458 := n6_; have NB432_458 := n7_; have NB458_432 := n8_; have NB433_458 := n9_; have NB458_433 := n10_; have NB439_458 := n11_; have NB458_439 := n12_; clear n0_ n1_ n2_ n3_ n4_ n5_ n6_ n7_ n8_ n9_ n10_ n11_ n12_; clear hb hbox hg; have hnb185 := NB458_432.out; have hnc185 := NB432_458.out; have hnb186 := NB458_433.out; have hnc186 := NB433_458.out; have hnb187 := NB458_439.out; have hnc187 := NB439_458.out; have hcz188_0 : w184.cell? ⟨gb458, 0, none⟩ = some (.int .i64 0) := (blk_cell BK458.out 0).trans rfl; have hcz188_1 : w184.cell? ⟨gb458, 1, none⟩ = some (.int .i64 0) := (blk_cell BK458.out 1).trans rfl; have hcz188_2 : w184.cell? ⟨gb458, 2, none⟩ = some (.int .i64 0) := (blk_cell BK458.out 2).trans rfl; have hfz188_0 := blk_frozen BK458.out 0; have hfz188_1 := blk_frozen BK458.out 1; have hfz188_2 := blk_frozen BK458.out 2; have hcz189_0 : w184.cell? ⟨gb433, 0, none⟩ = some (.int .i64 a2_0) := (blk_cell BK433.out 0).trans rfl; have hcz189_1 : w184.cell? ⟨gb433, 1, none⟩ = some (.int .i64 a2_1) := (blk_cell BK433.out 1).trans rfl; have hcz189_2 : w184.cell? ⟨gb433, 2, none⟩ = some (.int .i64 a2_2) := (blk_cell BK433.out 2).trans rfl; have hfz189_0 := blk_frozen BK433.out 0; have hfz189_1 := blk_frozen BK433.out 1; have hfz189_2 := blk_frozen BK433.out 2))
                    go_ret
                    exact ⟨by first | rfl | (simp [errW_none, errW_some] <;> rfl) | (simp [*, errW_none, errW_some] <;> rfl), by repeat (first | (with_reducible first | exact HB.out | apply below_alloc | apply pw_below_drewN | apply below_drew1 | refine below_set ?_ GE432.out | refine below_set ?_ GE433.out | refine below_set ?_ GE439.out | refine below_set ?_ GE458.out) | exact HB.out)⟩
                  · replace c172 := Bool.eq_false_iff.mpr c172
                    subst c172
                    have H1 : (some false) = some r := by rw [if_neg (show ¬ (false = true) by decide)] at H; exact H
                    clear H
                    have H := H1
                    clear H1
                    obtain rfl := Option.some.inj H
                    have hnb190 := NB432_433.out
                    have hnc190 := NB433_432.out
                    have hnb191 := NB432_439.out
                    have hnc191 := NB439_432.out
                    have hcz192_0 : wc.cell? ⟨gb432, 0, none⟩ = some (.int .i64 a0_0) := (blk_cell BK432.out 0).trans rfl
                    have hcz192_1 : wc.cell? ⟨gb432, 1, none⟩ = some (.int .i64 a0_1) := (blk_cell BK432.out 1).trans rfl
                    have hcz192_2 : wc.cell? ⟨gb432, 2, none⟩ = some (.int .i64 a0_2) := (blk_cell BK432.out 2).trans rfl
                    have hcz192_3 : wc.cell? ⟨gb432, 3, none⟩ = some (.int .i64 a0_3) := (blk_cell BK432.out 3).trans rfl
                    have hcz192_4 : wc.cell? ⟨gb432, 4, none⟩ = some (.int .i64 a0_4) := (blk_cell BK432.out 4).trans rfl
                    have hfz192_0 := blk_frozen BK432.out 0
                    have hfz192_1 := blk_frozen BK432.out 1
                    have hfz192_2 := blk_frozen BK432.out 2
                    have hfz192_3 := blk_frozen BK432.out 3
                    have hfz192_4 := blk_frozen BK432.out 4
                    have hnb193 := NB433_439.out
                    have hnc193 := NB439_433.out
                    have hcz194_0 : wc.cell? ⟨gb433, 0, none⟩ = some (.int .i64 a2_0) := (blk_cell BK433.out 0).trans rfl
                    have hcz194_1 : wc.cell? ⟨gb433, 1, none⟩ = some (.int .i64 a2_1) := (blk_cell BK433.out 1).trans rfl
                    have hcz194_2 : wc.cell? ⟨gb433, 2, none⟩ = some (.int .i64 a2_2) := (blk_cell BK433.out 2).trans rfl
                    have hfz194_0 := blk_frozen BK433.out 0
                    have hfz194_1 := blk_frozen BK433.out 1
                    have hfz194_2 := blk_frozen BK433.out 2
                    go_wp2_with (first | ((with_reducible refine gate_callee (f := 37) rfl ?_); refine goesL_ (some 79) rfl rfl Tryd.func37 (by kernel_rfl) rfl #[.agg #[.int .i64 a0_0, .int .i64 a0_1, .int .i64 a0_2, .int .i64 a0_3, .int .i64 a0_4], .agg #[.int .i64 a2_0, .int .i64 a2_1, .int .i64 a2_2]] rfl (by (try simp only [List.map_toArray, List.map_cons, List.map_nil]); first | done | rfl | (simp only [List.length_drop, List.length_take]; rfl)) ?_; (with_reducible refine (place_Index.calls a0_0 a0_1 a0_2 a0_3 a0_4 a2_0 a2_1 a2_2 t451 true _ A158.out).mono ?_); rintro e w195 ⟨rfl, hb⟩; refine ⟨_, rfl, ?_⟩; have n0_ := Aside0.mk (blk_below (g := gb432) (o := .cells #[.int .i64 a0_0, .int .i64 a0_1, .int .i64 a0_2, .int .i64 a0_3, .int .i64 a0_4] 25 (0, 0)) (by (with_reducible repeat (first | refine blk_drewN ?_ _ | refine blk_drew ?_ | refine blk_alloc ?_ _)); exact BK432.out) hb); have n1_ := Aside0.mk (blk_below (g := gb433) (o := .cells #[.int .i64 a2_0, .int .i64 a2_1, .int .i64 a2_2] 23 (0, 0)) (by (with_reducible repeat (first | refine blk_drewN ?_ _ | refine blk_drew ?_ | refine blk_alloc ?_ _)); exact BK433.out) hb); have n2_ := Aside0.mk (blk_below (g := gb439) (o := .cells #[.int .i64 t435, .int .i64 t436, .int .i64 t437] 23 (0, 0)) (by (with_reducible repeat (first | refine blk_drewN ?_ _ | refine blk_drew ?_ | refine blk_alloc ?_ _)); exact BK439.out) hb); have n3_ := Aside0.mk (below_step (by repeat (first | (with_reducible first | exact HB.out | apply below_alloc | apply pw_below_drewN | apply below_drew1 | refine below_set ?_ GE432.out | refine below_set ?_ GE433.out | refine below_set ?_ GE439.out) | exact HB.out)) hb); clear BK432; clear BK433; clear BK439; clear HB; have BK432 := n0_; have BK433 := n1_; have BK439 := n2_; have HB := n3_; clear n0_ n1_ n2_ n3_; (try clear hb); (try clear hb2); (try clear hk); (try clear hi); have hcz196_0 : w195.cell? ⟨gb432, 0, none⟩ = some (.int .i64 a0_0) := (blk_cell BK432.out 0).trans rfl; have hcz196_1 : w195.cell? ⟨gb432, 1, none⟩ = some (.int .i64 a0_1) := (blk_cell BK432.out 1).trans rfl; have hcz196_2 : w195.cell? ⟨gb432, 2, none⟩ = some (.int .i64 a0_2) := (blk_cell BK432.out 2).trans rfl; have hcz196_3 : w195.cell? ⟨gb432, 3, none⟩ = some (.int .i64 a0_3) := (blk_cell BK432.out 3).trans rfl; have hcz196_4 : w195.cell? ⟨gb432, 4, none⟩ = some (.int .i64 a0_4) := (blk_cell BK432.out 4).trans rfl; have hfz196_0 := blk_frozen BK432.out 0; have hfz196_1 := blk_frozen BK432.out 1; have hfz196_2 := blk_frozen BK432.out 2; have hfz196_3 := blk_frozen BK432.out 3; have hfz196_4 := blk_frozen BK432.out 4; have hcz197_0 : w195.cell? ⟨gb433, 0, none⟩ = some (.int .i64 a2_0) := (blk_cell BK433.out 0).trans rfl; have hcz197_1 : w195.cell? ⟨gb433, 1, none⟩ = some (.int .i64 a2_1) := (blk_cell BK433.out 1).trans rfl; have hcz197_2 : w195.cell? ⟨gb433, 2, none⟩ = some (.int .i64 a2_2) := (blk_cell BK433.out 2).trans rfl; have hfz197_0 := blk_frozen BK433.out 0; have hfz197_1 := blk_frozen BK433.out 1; have hfz197_2 := blk_frozen BK433.out 2) | ((with_reducible refine gate_callee (f := 28) rfl ?_); refine goesL_ (some 85) rfl rfl Tryd.func28 (by kernel_rfl) rfl #[.agg #[.int .i64 a0_0, .int .i64 a0_1, .int .i64 a0_2, .int .i64 a0_3, .int .i64 a0_4], .agg #[.int .i64 a2_0, .int .i64 a2_1, .int .i64 a2_2]] rfl (by (try simp only [List.map_toArray, List.map_cons, List.map_nil]); first | done | rfl | (simp only [List.length_drop, List.length_take]; rfl)) ?_; (with_reducible refine (place_Has.calls a0_0 a0_1 a0_2 a0_3 a0_4 a2_0 a2_1 a2_2 t453 _ A159.out).mono ?_); rintro e w198 ⟨rfl, hb⟩; refine ⟨_, rfl, ?_⟩; have n0_ := Aside0.mk (blk_below (g := gb432) (o := .cells #[.int .i64 a0_0, .int .i64 a0_1, .int .i64 a0_2, .int .i64 a0_3, .int .i64 a0_4] 25 (0, 0)) (by (with_reducible repeat (first | refine blk_drewN ?_ _ | refine blk_drew ?_ | refine blk_alloc ?_ _)); exact BK432.out) hb); have n1_ := Aside0.mk (blk_below (g := gb433) (o := .cells #[.int .i64 a2_0, .int .i64 a2_1, .int .i64 a2_2] 23 (0, 0)) (by (with_reducible repeat (first | refine blk_drewN ?_ _ | refine blk_drew ?_ | refine blk_alloc ?_ _)); exact BK433.out) hb); have n2_ := Aside0.mk (blk_below (g := gb439) (o := .cells #[.int .i64 t435, .int .i64 t436, .int .i64 t437] 23 (0, 0)) (by (with_reducible repeat (first | refine blk_drewN ?_ _ | refine blk_drew ?_ | refine blk_alloc ?_ _)); exact BK439.out) hb); have n3_ := Aside0.mk (below_step (by repeat (first | (with_reducible first | exact HB.out | apply below_alloc | apply pw_below_drewN | apply below_drew1 | refine below_set ?_ GE432.out | refine below_set ?_ GE433.out | refine below_set ?_ GE439.out) | exact HB.out)) hb); clear BK432; clear BK433; clear BK439; clear HB; have BK432 := n0_; have BK433 := n1_; have BK439 := n2_; have HB := n3_; clear n0_ n1_ n2_ n3_; (try clear hb); (try clear hb2); (try clear hk); (try clear hi); have hcz199_0 : w198.cell? ⟨gb432, 0, none⟩ = some (.int .i64 a0_0) := (blk_cell BK432.out 0).trans rfl; have hcz199_1 : w198.cell? ⟨gb432, 1, none⟩ = some (.int .i64 a0_1) := (blk_cell BK432.out 1).trans rfl; have hcz199_2 : w198.cell? ⟨gb432, 2, none⟩ = some (.int .i64 a0_2) := (blk_cell BK432.out 2).trans rfl; have hcz199_3 : w198.cell? ⟨gb432, 3, none⟩ = some (.int .i64 a0_3) := (blk_cell BK432.out 3).trans rfl; have hcz199_4 : w198.cell? ⟨gb432, 4, none⟩ = some (.int .i64 a0_4) := (blk_cell BK432.out 4).trans rfl; have hfz199_0 := blk_frozen BK432.out 0; have hfz199_1 := blk_frozen BK432.out 1; have hfz199_2 := blk_frozen BK432.out 2; have hfz199_3 := blk_frozen BK432.out 3; have hfz199_4 := blk_frozen BK432.out 4) | ((with_reducible refine gate_callee (f := 35) rfl ?_); refine goesL_ (some 94) rfl rfl Tryd.func35 (by kernel_rfl) rfl #[.agg #[.int .i64 a0_0, .int .i64 a0_1, .int .i64 a0_2, .int .i64 a0_3, .int .i64 a0_4], .int .i64 t451] rfl (by (try simp only [List.map_toArray, List.map_cons, List.map_nil]); first | done | rfl | (simp only [List.length_drop, List.length_take]; rfl)) ?_; (with_reducible refine (place_At.calls kj24 a0_0 a0_1 a0_2 a0_3 a0_4 t451 t454 t455 t456 false _ A171.out).mono ?_); rintro e w200 ⟨rfl, hb⟩; refine ⟨_, rfl, ?_⟩; have n0_ := Aside0.mk (blk_below (g := gb432) (o := .cells #[.int .i64 a0_0, .int .i64 a0_1, .int .i64 a0_2, .int .i64 a0_3, .int .i64 a0_4] 25 (0, 0)) (by (with_reducible repeat (first | refine blk_drewN ?_ _ | refine blk_drew ?_ | refine blk_alloc ?_ _)); exact BK432.out) hb); have n1_ := Aside0.mk (blk_below (g := gb433) (o := .cells #[.int .i64 a2_0, .int .i64 a2_1, .int .i64 a2_2] 23 (0, 0)) (by (with_reducible repeat (first | refine blk_drewN ?_ _ | refine blk_drew ?_ | refine blk_alloc ?_ _)); exact BK433.out) hb); have n2_ := Aside0.mk (blk_below (g := gb439) (o := .cells #[.int .i64 t435, .int .i64 t436, .int .i64 t437] 23 (0, 0)) (by (with_reducible repeat (first | refine blk_drewN ?_ _ | refine blk_drew ?_ | refine blk_alloc ?_ _)); exact BK439.out) hb); have n3_ := Aside0.mk (below_step (by repeat (first | (with_reducible first | exact HB.out | apply below_alloc | apply pw_below_drewN | apply below_drew1 | refine below_set ?_ GE432.out | refine below_set ?_ GE433.out | refine below_set ?_ GE439.out) | exact HB.out)) hb); clear BK432; clear BK433; clear BK439; clear HB; have BK432 := n0_; have BK433 := n1_; have BK439 := n2_; have HB := n3_; clear n0_ n1_ n2_ n3_; (try clear hb); (try clear hb2); (try clear hk); (try clear hi)) | ((with_reducible refine gate_dst (N := 15) rfl ?_); refine box_event ?hg (N := 15) ?hd (cs := #[.int .i64 0, .int .i64 0, .int .i64 0]) (t := 23) ?hr ?_; (case hd => rfl); (case hg => rfl); (case hr => first | (go_simp; done) | (go_simp; rfl)); intro gb458 hg w201 hbox hb; have n0_ := Aside0.mk (blk_below (g := gb432) (o := .cells #[.int .i64 a0_0, .int .i64 a0_1, .int .i64 a0_2, .int .i64 a0_3, .int .i64 a0_4] 25 (0, 0)) (by (with_reducible repeat (first | refine blk_drewN ?_ _ | refine blk_drew ?_ | refine blk_alloc ?_ _)); exact BK432.out) hb); have n1_ := Aside0.mk (blk_below (g := gb433) (o := .cells #[.int .i64 a2_0, .int .i64 a2_1, .int .i64 a2_2] 23 (0, 0)) (by (with_reducible repeat (first | refine blk_drewN ?_ _ | refine blk_drew ?_ | refine blk_alloc ?_ _)); exact BK433.out) hb); have n2_ := Aside0.mk (blk_below (g := gb439) (o := .cells #[.int .i64 t435, .int .i64 t436, .int .i64 t437] 23 (0, 0)) (by (with_reducible repeat (first | refine blk_drewN ?_ _ | refine blk_drew ?_ | refine blk_alloc ?_ _)); exact BK439.out) hb); have n3_ := Aside0.mk (below_step (by repeat (first | (with_reducible first | exact HB.out | apply below_alloc | apply pw_below_drewN | apply below_drew1 | refine below_set ?_ GE432.out | refine below_set ?_ GE433.out | refine below_set ?_ GE439.out) | exact HB.out)) hb); have n4_ := Aside0.mk (hbox); have n5_ := Aside0.mk ((by rw [hg]; exact (below_size (by repeat (first | (with_reducible first | exact HB.out | apply below_alloc | apply pw_below_drewN | apply below_drew1 | refine below_set ?_ GE432.out | refine below_set ?_ GE433.out | refine below_set ?_ GE439.out) | exact HB.out))) : w.heap.size ≤ gb458)); have n6_ := Aside0.mk ((by rw [hg]; exact (below_size (by repeat (first | (with_reducible first | exact HB.out | apply below_alloc | apply pw_below_drewN | apply below_drew1 | refine below_set ?_ GE432.out | refine below_set ?_ GE433.out | refine below_set ?_ GE439.out) | exact HB.out))) : w.heap.size ≤ gb458)); have n7_ := Aside0.mk ((by rw [hg]; exact Nat.ne_of_lt (blk_lt (g := gb432) (o := .cells #[.int .i64 a0_0, .int .i64 a0_1, .int .i64 a0_2, .int .i64 a0_3, .int .i64 a0_4] 25 (0, 0)) (by (with_reducible repeat (first | refine blk_drewN ?_ _ | refine blk_drew ?_ | refine blk_alloc ?_ _)); exact BK432.out)) : gb432 ≠ gb458)); have n8_ := Aside0.mk ((by rw [hg]; exact Nat.ne_of_gt (blk_lt (g := gb432) (o := .cells #[.int .i64 a0_0, .int .i64 a0_1, .int .i64 a0_2, .int .i64 a0_3, .int .i64 a0_4] 25 (0, 0)) (by (with_reducible repeat (first | refine blk_drewN ?_ _ | refine blk_drew ?_ | refine blk_alloc ?_ _)); exact BK432.out)) : gb458 ≠ gb432)); have n9_ := Aside0.mk ((by rw [hg]; exact Nat.ne_of_lt (blk_lt (g := gb433) (o := .cells #[.int .i64 a2_0, .int .i64 a2_1, .int .i64 a2_2] 23 (0, 0)) (by (with_reducible repeat (first | refine blk_drewN ?_ _ | refine blk_drew ?_ | refine blk_alloc ?_ _)); exact BK433.out)) : gb433 ≠ gb458)); have n10_ := Aside0.mk ((by rw [hg]; exact Nat.ne_of_gt (blk_lt (g := gb433) (o := .cells #[.int .i64 a2_0, .int .i64 a2_1, .int .i64 a2_2] 23 (0, 0)) (by (with_reducible repeat (first | refine blk_drewN ?_ _ | refine blk_drew ?_ | refine blk_alloc ?_ _)); exact BK433.out)) : gb458 ≠ gb433)); have n11_ := Aside0.mk ((by rw [hg]; exact Nat.ne_of_lt (blk_lt (g := gb439) (o := .cells #[.int .i64 t435, .int .i64 t436, .int .i64 t437] 23 (0, 0)) (by (with_reducible repeat (first | refine blk_drewN ?_ _ | refine blk_drew ?_ | refine blk_alloc ?_ _)); exact BK439.out)) : gb439 ≠ gb458)); have n12_ := Aside0.mk ((by rw [hg]; exact Nat.ne_of_gt (blk_lt (g := gb439) (o := .cells #[.int .i64 t435, .int .i64 t436, .int .i64 t437] 23 (0, 0)) (by (with_reducible repeat (first | refine blk_drewN ?_ _ | refine blk_drew ?_ | refine blk_alloc ?_ _)); exact BK439.out)) : gb458 ≠ gb439)); clear BK432; clear BK433; clear BK439; clear HB; have BK432 := n0_; have BK433 := n1_; have BK439 := n2_; have HB := n3_; have BK458 := n4_; have GW458 := n5_; have GE458 := n6_; have NB432_458 := n7_; have NB458_432 := n8_; have NB433_458 := n9_; have NB458_433 := n10_; have NB439_458 := n11_; have NB458_439 := n12_; clear n0_ n1_ n2_ n3_ n4_ n5_ n6_ n7_ n8_ n9_ n10_ n11_ n12_; clear hb hbox hg; have hnb202 := NB458_432.out; have hnc202 := NB432_458.out; have hnb203 := NB458_433.out; have hnc203 := NB433_458.out; have hnb204 := NB458_439.out; have hnc204 := NB439_458.out; have hcz205_0 : w201.cell? ⟨gb458, 0, none⟩ = some (.int .i64 0) := (blk_cell BK458.out 0).trans rfl; have hcz205_1 : w201.cell? ⟨gb458, 1, none⟩ = some (.int .i64 0) := (blk_cell BK458.out 1).trans rfl; have hcz205_2 : w201.cell? ⟨gb458, 2, none⟩ = some (.int .i64 0) := (blk_cell BK458.out 2).trans rfl; have hfz205_0 := blk_frozen BK458.out 0; have hfz205_1 := blk_frozen BK458.out 1; have hfz205_2 := blk_frozen BK458.out 2))
                    go_ret
                    exact ⟨by first | rfl | (simp [errW_none, errW_some] <;> rfl) | (simp [*, errW_none, errW_some] <;> rfl), by repeat (first | (with_reducible first | exact HB.out | apply below_alloc | apply pw_below_drewN | apply below_drew1 | refine below_set ?_ GE432.out | refine below_set ?_ GE433.out | refine below_set ?_ GE439.out | refine below_set ?_ GE458.out) | exact HB.out)⟩
                · replace c170 := Bool.eq_false_iff.mpr c170
                  subst c170
                  have H1 : (some (t451 == 0)) = some r := by rw [if_neg (show ¬ (false = true) by decide)] at H; exact H
                  clear H
                  have H := H1
                  clear H1
                  obtain rfl := Option.some.inj H
                  have hnb206 := NB432_433.out
                  have hnc206 := NB433_432.out
                  have hnb207 := NB432_439.out
                  have hnc207 := NB439_432.out
                  have hcz208_0 : wc.cell? ⟨gb432, 0, none⟩ = some (.int .i64 a0_0) := (blk_cell BK432.out 0).trans rfl
                  have hcz208_1 : wc.cell? ⟨gb432, 1, none⟩ = some (.int .i64 a0_1) := (blk_cell BK432.out 1).trans rfl
                  have hcz208_2 : wc.cell? ⟨gb432, 2, none⟩ = some (.int .i64 a0_2) := (blk_cell BK432.out 2).trans rfl
                  have hcz208_3 : wc.cell? ⟨gb432, 3, none⟩ = some (.int .i64 a0_3) := (blk_cell BK432.out 3).trans rfl
                  have hcz208_4 : wc.cell? ⟨gb432, 4, none⟩ = some (.int .i64 a0_4) := (blk_cell BK432.out 4).trans rfl
                  have hfz208_0 := blk_frozen BK432.out 0
                  have hfz208_1 := blk_frozen BK432.out 1
                  have hfz208_2 := blk_frozen BK432.out 2
                  have hfz208_3 := blk_frozen BK432.out 3
                  have hfz208_4 := blk_frozen BK432.out 4
                  have hnb209 := NB433_439.out
                  have hnc209 := NB439_433.out
                  have hcz210_0 : wc.cell? ⟨gb433, 0, none⟩ = some (.int .i64 a2_0) := (blk_cell BK433.out 0).trans rfl
                  have hcz210_1 : wc.cell? ⟨gb433, 1, none⟩ = some (.int .i64 a2_1) := (blk_cell BK433.out 1).trans rfl
                  have hcz210_2 : wc.cell? ⟨gb433, 2, none⟩ = some (.int .i64 a2_2) := (blk_cell BK433.out 2).trans rfl
                  have hfz210_0 := blk_frozen BK433.out 0
                  have hfz210_1 := blk_frozen BK433.out 1
                  have hfz210_2 := blk_frozen BK433.out 2
                  go_wp2_with (first | ((with_reducible refine gate_callee (f := 37) rfl ?_); refine goesL_ (some 79) rfl rfl Tryd.func37 (by kernel_rfl) rfl #[.agg #[.int .i64 a0_0, .int .i64 a0_1, .int .i64 a0_2, .int .i64 a0_3, .int .i64 a0_4], .agg #[.int .i64 a2_0, .int .i64 a2_1, .int .i64 a2_2]] rfl (by (try simp only [List.map_toArray, List.map_cons, List.map_nil]); first | done | rfl | (simp only [List.length_drop, List.length_take]; rfl)) ?_; (with_reducible refine (place_Index.calls a0_0 a0_1 a0_2 a0_3 a0_4 a2_0 a2_1 a2_2 t451 false _ A158.out).mono ?_); rintro e w211 ⟨rfl, hb⟩; refine ⟨_, rfl, ?_⟩; have n0_ := Aside0.mk (blk_below (g := gb432) (o := .cells #[.int .i64 a0_0, .int .i64 a0_1, .int .i64 a0_2, .int .i64 a0_3, .int .i64 a0_4] 25 (0, 0)) (by (with_reducible repeat (first | refine blk_drewN ?_ _ | refine blk_drew ?_ | refine blk_alloc ?_ _)); exact BK432.out) hb); have n1_ := Aside0.mk (blk_below (g := gb433) (o := .cells #[.int .i64 a2_0, .int .i64 a2_1, .int .i64 a2_2] 23 (0, 0)) (by (with_reducible repeat (first | refine blk_drewN ?_ _ | refine blk_drew ?_ | refine blk_alloc ?_ _)); exact BK433.out) hb); have n2_ := Aside0.mk (blk_below (g := gb439) (o := .cells #[.int .i64 t435, .int .i64 t436, .int .i64 t437] 23 (0, 0)) (by (with_reducible repeat (first | refine blk_drewN ?_ _ | refine blk_drew ?_ | refine blk_alloc ?_ _)); exact BK439.out) hb); have n3_ := Aside0.mk (below_step (by repeat (first | (with_reducible first | exact HB.out | apply below_alloc | apply pw_below_drewN | apply below_drew1 | refine below_set ?_ GE432.out | refine below_set ?_ GE433.out | refine below_set ?_ GE439.out) | exact HB.out)) hb); clear BK432; clear BK433; clear BK439; clear HB; have BK432 := n0_; have BK433 := n1_; have BK439 := n2_; have HB := n3_; clear n0_ n1_ n2_ n3_; (try clear hb); (try clear hb2); (try clear hk); (try clear hi); have hcz212_0 : w211.cell? ⟨gb432, 0, none⟩ = some (.int .i64 a0_0) := (blk_cell BK432.out 0).trans rfl; have hcz212_1 : w211.cell? ⟨gb432, 1, none⟩ = some (.int .i64 a0_1) := (blk_cell BK432.out 1).trans rfl; have hcz212_2 : w211.cell? ⟨gb432, 2, none⟩ = some (.int .i64 a0_2) := (blk_cell BK432.out 2).trans rfl; have hcz212_3 : w211.cell? ⟨gb432, 3, none⟩ = some (.int .i64 a0_3) := (blk_cell BK432.out 3).trans rfl; have hcz212_4 : w211.cell? ⟨gb432, 4, none⟩ = some (.int .i64 a0_4) := (blk_cell BK432.out 4).trans rfl; have hfz212_0 := blk_frozen BK432.out 0; have hfz212_1 := blk_frozen BK432.out 1; have hfz212_2 := blk_frozen BK432.out 2; have hfz212_3 := blk_frozen BK432.out 3; have hfz212_4 := blk_frozen BK432.out 4; have hcz213_0 : w211.cell? ⟨gb433, 0, none⟩ = some (.int .i64 a2_0) := (blk_cell BK433.out 0).trans rfl; have hcz213_1 : w211.cell? ⟨gb433, 1, none⟩ = some (.int .i64 a2_1) := (blk_cell BK433.out 1).trans rfl; have hcz213_2 : w211.cell? ⟨gb433, 2, none⟩ = some (.int .i64 a2_2) := (blk_cell BK433.out 2).trans rfl; have hfz213_0 := blk_frozen BK433.out 0; have hfz213_1 := blk_frozen BK433.out 1; have hfz213_2 := blk_frozen BK433.out 2) | ((with_reducible refine gate_callee (f := 28) rfl ?_); refine goesL_ (some 85) rfl rfl Tryd.func28 (by kernel_rfl) rfl #[.agg #[.int .i64 a0_0, .int .i64 a0_1, .int .i64 a0_2, .int .i64 a0_3, .int .i64 a0_4], .agg #[.int .i64 a2_0, .int .i64 a2_1, .int .i64 a2_2]] rfl (by (try simp only [List.map_toArray, List.map_cons, List.map_nil]); first | done | rfl | (simp only [List.length_drop, List.length_take]; rfl)) ?_; (with_reducible refine (place_Has.calls a0_0 a0_1 a0_2 a0_3 a0_4 a2_0 a2_1 a2_2 t453 _ A159.out).mono ?_); rintro e w214 ⟨rfl, hb⟩; refine ⟨_, rfl, ?_⟩; have n0_ := Aside0.mk (blk_below (g := gb432) (o := .cells #[.int .i64 a0_0, .int .i64 a0_1, .int .i64 a0_2, .int .i64 a0_3, .int .i64 a0_4] 25 (0, 0)) (by (with_reducible repeat (first | refine blk_drewN ?_ _ | refine blk_drew ?_ | refine blk_alloc ?_ _)); exact BK432.out) hb); have n1_ := Aside0.mk (blk_below (g := gb433) (o := .cells #[.int .i64 a2_0, .int .i64 a2_1, .int .i64 a2_2] 23 (0, 0)) (by (with_reducible repeat (first | refine blk_drewN ?_ _ | refine blk_drew ?_ | refine blk_alloc ?_ _)); exact BK433.out) hb); have n2_ := Aside0.mk (blk_below (g := gb439) (o := .cells #[.int .i64 t435, .int .i64 t436, .int .i64 t437] 23 (0, 0)) (by (with_reducible repeat (first | refine blk_drewN ?_ _ | refine blk_drew ?_ | refine blk_alloc ?_ _)); exact BK439.out) hb); have n3_ := Aside0.mk (below_step (by repeat (first | (with_reducible first | exact HB.out | apply below_alloc | apply pw_below_drewN | apply below_drew1 | refine below_set ?_ GE432.out | refine below_set ?_ GE433.out | refine below_set ?_ GE439.out) | exact HB.out)) hb); clear BK432; clear BK433; clear BK439; clear HB; have BK432 := n0_; have BK433 := n1_; have BK439 := n2_; have HB := n3_; clear n0_ n1_ n2_ n3_; (try clear hb); (try clear hb2); (try clear hk); (try clear hi)))
                  go_ret
                  exact ⟨by first | rfl | (simp [errW_none, errW_some] <;> rfl) | (simp [*, errW_none, errW_some] <;> rfl), by repeat (first | (with_reducible first | exact HB.out | apply below_alloc | apply pw_below_drewN | apply below_drew1 | refine below_set ?_ GE432.out | refine below_set ?_ GE433.out | refine below_set ?_ GE439.out) | exact HB.out)⟩
  · replace c5 := Bool.eq_false_iff.mpr c5
    subst c5
    have H1 : (some false) = some r := by rw [if_neg (show ¬ (false = true) by decide)] at H; exact H
    clear H
    have H := H1
    clear H1
    obtain rfl := Option.some.inj H
    go_enter Tryd.func9, Tryd.ntmps9
    go_wp2_with (first | ((with_reducible refine gate_dst (N := 3) rfl ?_); refine box_event ?hg (N := 3) ?hd (cs := #[.int .i64 a0_0, .int .i64 a0_1, .int .i64 a0_2, .int .i64 a0_3, .int .i64 a0_4]) (t := 25) ?hr ?_; (case hd => rfl); (case hg => rfl); (case hr => first | (go_simp; done) | (go_simp; rfl)); intro gb432 hg w215 hbox hb; have n0_ := Aside0.mk (below_step (by repeat (first | (with_reducible first | exact HB.out | apply below_alloc | apply pw_below_drewN | apply below_drew1) | exact HB.out)) hb); have n1_ := Aside0.mk (hbox); have n2_ := Aside0.mk ((by rw [hg]; exact (below_size (by repeat (first | (with_reducible first | exact HB.out | apply below_alloc | apply pw_below_drewN | apply below_drew1) | exact HB.out))) : w.heap.size ≤ gb432)); have n3_ := Aside0.mk ((by rw [hg]; exact (below_size (by repeat (first | (with_reducible first | exact HB.out | apply below_alloc | apply pw_below_drewN | apply below_drew1) | exact HB.out))) : w.heap.size ≤ gb432)); clear HB; have HB := n0_; have BK432 := n1_; have GW432 := n2_; have GE432 := n3_; clear n0_ n1_ n2_ n3_; clear hb hbox hg) | ((with_reducible refine gate_dst (N := 5) rfl ?_); refine box_event ?hg (N := 5) ?hd (cs := #[.int .i64 a2_0, .int .i64 a2_1, .int .i64 a2_2]) (t := 23) ?hr ?_; (case hd => rfl); (case hg => rfl); (case hr => first | (go_simp; done) | (go_simp; rfl)); intro gb433 hg w216 hbox hb; have n0_ := Aside0.mk (blk_below (g := gb432) (o := .cells #[.int .i64 a0_0, .int .i64 a0_1, .int .i64 a0_2, .int .i64 a0_3, .int .i64 a0_4] 25 (0, 0)) (by (with_reducible repeat (first | refine blk_drewN ?_ _ | refine blk_drew ?_ | refine blk_alloc ?_ _)); exact BK432.out) hb); have n1_ := Aside0.mk (below_step (by repeat (first | (with_reducible first | exact HB.out | apply below_alloc | apply pw_below_drewN | apply below_drew1 | refine below_set ?_ GE432.out) | exact HB.out)) hb); have n2_ := Aside0.mk (hbox); have n3_ := Aside0.mk ((by rw [hg]; exact (below_size (by repeat (first | (with_reducible first | exact HB.out | apply below_alloc | apply pw_below_drewN | apply below_drew1 | refine below_set ?_ GE432.out) | exact HB.out))) : w.heap.size ≤ gb433)); have n4_ := Aside0.mk ((by rw [hg]; exact (below_size (by repeat (first | (with_reducible first | exact HB.out | apply below_alloc | apply pw_below_drewN | apply below_drew1 | refine below_set ?_ GE432.out) | exact HB.out))) : w.heap.size ≤ gb433)); have n5_ := Aside0.mk ((by rw [hg]; exact Nat.ne_of_lt (blk_lt (g := gb432) (o := .cells #[.int .i64 a0_0, .int .i64 a0_1, .int .i64 a0_2, .int .i64 a0_3, .int .i64 a0_4] 25 (0, 0)) (by (with_reducible repeat (first | refine blk_drewN ?_ _ | refine blk_drew ?_ | refine blk_alloc ?_ _)); exact BK432.out)) : gb432 ≠ gb433)); have n6_ := Aside0.mk ((by rw [hg]; exact Nat.ne_of_gt (blk_lt (g := gb432) (o := .cells #[.int .i64 a0_0, .int .i64 a0_1, .int .i64 a0_2, .int .i64 a0_3, .int .i64 a0_4] 25 (0, 0)) (by (with_reducible repeat (first | refine blk_drewN ?_ _ | refine blk_drew ?_ | refine blk_alloc ?_ _)); exact BK432.out)) : gb433 ≠ gb432)); clear BK432; clear HB; have BK432 := n0_; have HB := n1_; have BK433 := n2_; have GW433 := n3_; have GE433 := n4_; have NB432_433 := n5_; have NB433_432 := n6_; clear n0_ n1_ n2_ n3_ n4_ n5_ n6_; clear hb hbox hg) | ((with_reducible refine gate_callee (f := 16) rfl ?_); refine goesL_ (some 17) rfl rfl Tryd.func16 (by kernel_rfl) rfl #[] rfl (by (try simp only [List.map_toArray, List.map_cons, List.map_nil]); first | done | rfl | (simp only [List.length_drop, List.length_take]; rfl)) ?_; (with_reducible refine (whittlelaw3_able.calls  false _ A4.out).mono ?_); rintro e w217 ⟨rfl, hb⟩; refine ⟨_, rfl, ?_⟩; have n0_ := Aside0.mk (blk_below (g := gb432) (o := .cells #[.int .i64 a0_0, .int .i64 a0_1, .int .i64 a0_2, .int .i64 a0_3, .int .i64 a0_4] 25 (0, 0)) (by (with_reducible repeat (first | refine blk_drewN ?_ _ | refine blk_drew ?_ | refine blk_alloc ?_ _)); exact BK432.out) hb); have n1_ := Aside0.mk (blk_below (g := gb433) (o := .cells #[.int .i64 a2_0, .int .i64 a2_1, .int .i64 a2_2] 23 (0, 0)) (by (with_reducible repeat (first | refine blk_drewN ?_ _ | refine blk_drew ?_ | refine blk_alloc ?_ _)); exact BK433.out) hb); have n2_ := Aside0.mk (below_step (by repeat (first | (with_reducible first | exact HB.out | apply below_alloc | apply pw_below_drewN | apply below_drew1 | refine below_set ?_ GE432.out | refine below_set ?_ GE433.out) | exact HB.out)) hb); clear BK432; clear BK433; clear HB; have BK432 := n0_; have BK433 := n1_; have HB := n2_; clear n0_ n1_ n2_; (try clear hb); (try clear hb2); (try clear hk); (try clear hi)))
    go_ret
    exact ⟨by first | rfl | (simp [errW_none, errW_some] <;> rfl) | (simp [*, errW_none, errW_some] <;> rfl), by repeat (first | (with_reducible first | exact HB.out | apply below_alloc | apply pw_below_drewN | apply below_drew1 | refine below_set ?_ GE432.out | refine below_set ?_ GE433.out) | exact HB.out)⟩

end Go.Proofs.YtijmipnafhljkaaDoor.P
