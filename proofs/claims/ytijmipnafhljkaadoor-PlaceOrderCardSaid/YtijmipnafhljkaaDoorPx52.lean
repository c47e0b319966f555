-- Written by a program of this session (it drives the kit's print.py, with the contracts of some functions given by hand). Not trusted: Lean checks it.
import Derived.Test.YtijmipnafhljkaaDoorPx0
import Derived.Test.YtijmipnafhljkaaDoorPx1
import Derived.Test.YtijmipnafhljkaaDoorPx40
import Derived.Test.YtijmipnafhljkaaDoorPx51
namespace Go.Proofs.YtijmipnafhljkaaDoor.P
open Go.RowKit Go.Proofs.YtijmipnafhljkaaDoorW.PrintWords Go.Proofs.YtijmipnafhljkaaDoorW.PrintLast Go.Proofs.YtijmipnafhljkaaDoorW.PrintMore
attribute [local go_sem] max2_int min2_int max_two min_two max_three min_three max_four min_four   -- for this text's walks alone
set_option linter.unusedVariables false
set_option linter.unusedSimpArgs false

attribute [local go_sem high] eqA23
/-! ### whittlelaw3_PlaceOrder: function 5 -/
mutual
def whittlelaw3_PlaceOrder.j0 : Nat → Bool → Int → Int → Int → Int → Int → Int → Int → Int → Int → Option (Bool)
  | 0, _, _, _, _, _, _, _, _, _, _ => none
  | k + 1, x23, x305000, x305001, x305002, x306000, x306001, x306002, x307000, x307001, x307002 => if x23 = true then (some false) else ((place_Before.f x305000 x305001 x305002 x306000 x306001 x306002).bind fun t311 => (if t311 = true then (whittlelaw3_PlaceOrder.j1 k false x305000 x305001 x305002 x306000 x306001 x306002 x307000 x307001 x307002) else ((place_Before.f x306000 x306001 x306002 x305000 x305001 x305002).bind fun t312 => (if t312 = true then (whittlelaw3_PlaceOrder.j1 k false x305000 x305001 x305002 x306000 x306001 x306002 x307000 x307001 x307002) else (whittlelaw3_PlaceOrder.j1 k (!(x305000 == x306000) || (!(x305001 == x306001) || (!(x305002 == x306002)))) x305000 x305001 x305002 x306000 x306001 x306002 x307000 x307001 x307002)))))
def whittlelaw3_PlaceOrder.j1 : Nat → Bool → Int → Int → Int → Int → Int → Int → Int → Int → Int → Option (Bool)
  | 0, _, _, _, _, _, _, _, _, _, _ => none
  | k + 1, x38, x305000, x305001, x305002, x306000, x306001, x306002, x307000, x307001, x307002 => if x38 = true then (some false) else ((place_Before.f x305000 x305001 x305002 x306000 x306001 x306002).bind fun t313 => (if t313 = true then ((place_Before.f x306000 x306001 x306002 x307000 x307001 x307002).bind fun t314 => (if t314 = true then ((place_Before.f x305000 x305001 x305002 x307000 x307001 x307002).bind fun t315 => (some t315)) else (some true))) else (some true)))
end
def whittlelaw3_PlaceOrder.f (k : Nat) (a0_0 : Int) (a0_1 : Int) (a0_2 : Int) (a1_0 : Int) (a1_1 : Int) (a1_2 : Int) (a2_0 : Int) (a2_1 : Int) (a2_2 : Int) : Option (Bool) := (whittlelaw3_able.f).bind fun t307 => (if t307 = true then ((place_Before.f a0_0 a0_1 a0_2 a0_0 a0_1 a0_2).bind fun t308 => (if t308 = true then (whittlelaw3_PlaceOrder.j0 k true a0_0 a0_1 a0_2 a1_0 a1_1 a1_2 a2_0 a2_1 a2_2) else ((place_Before.f a0_0 a0_1 a0_2 a1_0 a1_1 a1_2).bind fun t309 => (if t309 = true then ((place_Before.f a1_0 a1_1 a1_2 a0_0 a0_1 a0_2).bind fun t310 => (whittlelaw3_PlaceOrder.j0 k t310 a0_0 a0_1 a0_2 a1_0 a1_1 a1_2 a2_0 a2_1 a2_2)) else (whittlelaw3_PlaceOrder.j0 k false a0_0 a0_1 a0_2 a1_0 a1_1 a1_2 a2_0 a2_1 a2_2))))) else (whittlelaw3_PlaceOrder.j0 k true a0_0 a0_1 a0_2 a1_0 a1_1 a1_2 a2_0 a2_1 a2_2))
theorem whittlelaw3_PlaceOrder.mono_l : ∀ k, (∀ y0 y1 y2 y3 y4 y5 y6 y7 y8 y9, LeO (whittlelaw3_PlaceOrder.j0 k y0 y1 y2 y3 y4 y5 y6 y7 y8 y9) (whittlelaw3_PlaceOrder.j0 (k + 1) y0 y1 y2 y3 y4 y5 y6 y7 y8 y9)) ∧ (∀ y0 y1 y2 y3 y4 y5 y6 y7 y8 y9, LeO (whittlelaw3_PlaceOrder.j1 k y0 y1 y2 y3 y4 y5 y6 y7 y8 y9) (whittlelaw3_PlaceOrder.j1 (k + 1) y0 y1 y2 y3 y4 y5 y6 y7 y8 y9))
  | 0 => ⟨fun _ _ _ _ _ _ _ _ _ _ r h => by simp [whittlelaw3_PlaceOrder.j0] at h, fun _ _ _ _ _ _ _ _ _ _ r h => by simp [whittlelaw3_PlaceOrder.j1] at h⟩
  | k + 1 => by
    obtain ⟨ih0, ih1⟩ := whittlelaw3_PlaceOrder.mono_l k
    refine ⟨?_, ?_⟩
    · intro y0 y1 y2 y3 y4 y5 y6 y7 y8 y9
      unfold whittlelaw3_PlaceOrder.j0
      repeat' first
      | (with_reducible exact ih0 _ _ _ _ _ _ _ _ _ _)
      | (with_reducible exact ih1 _ _ _ _ _ _ _ _ _ _)
      | (with_reducible exact LeO.refl _)
      | (with_reducible exact LeO.none _)
      | (with_reducible refine LeO.ite ?_ ?_)
      | (with_reducible refine LeO.bind ?_ (fun _ => ?_))
      | exact ih0 _ _ _ _ _ _ _ _ _ _
      | exact ih1 _ _ _ _ _ _ _ _ _ _
      | exact LeO.none _
      | refine LeO.ite ?_ ?_
      | refine LeO.bind ?_ (fun _ => ?_)
    · intro y0 y1 y2 y3 y4 y5 y6 y7 y8 y9
      unfold whittlelaw3_PlaceOrder.j1
      repeat' first
      | (with_reducible exact ih0 _ _ _ _ _ _ _ _ _ _)
      | (with_reducible exact ih1 _ _ _ _ _ _ _ _ _ _)
      | (with_reducible exact LeO.refl _)
      | (with_reducible exact LeO.none _)
      | (with_reducible refine LeO.ite ?_ ?_)
      | (with_reducible refine LeO.bind ?_ (fun _ => ?_))
      | exact ih0 _ _ _ _ _ _ _ _ _ _
      | exact ih1 _ _ _ _ _ _ _ _ _ _
      | exact LeO.none _
      | refine LeO.ite ?_ ?_
      | refine LeO.bind ?_ (fun _ => ?_)
theorem whittlelaw3_PlaceOrder.mono : ∀ a0 a1 a2 a3 a4 a5 a6 a7 a8 k, LeO (whittlelaw3_PlaceOrder.f k a0 a1 a2 a3 a4 a5 a6 a7 a8) (whittlelaw3_PlaceOrder.f (k + 1) a0 a1 a2 a3 a4 a5 a6 a7 a8) := by
  intro a0 a1 a2 a3 a4 a5 a6 a7 a8 k
  obtain ⟨ih0, ih1⟩ := whittlelaw3_PlaceOrder.mono_l k
  unfold whittlelaw3_PlaceOrder.f
  repeat' first
      | (with_reducible exact ih0 _ _ _ _ _ _ _ _ _ _)
      | (with_reducible exact ih1 _ _ _ _ _ _ _ _ _ _)
      | (with_reducible exact LeO.refl _)
      | (with_reducible exact LeO.none _)
      | (with_reducible refine LeO.ite ?_ ?_)
      | (with_reducible refine LeO.bind ?_ (fun _ => ?_))
      | exact ih0 _ _ _ _ _ _ _ _ _ _
      | exact ih1 _ _ _ _ _ _ _ _ _ _
      | exact LeO.none _
      | refine LeO.ite ?_ ?_
      | refine LeO.bind ?_ (fun _ => ?_)
set_option maxHeartbeats 8000000 in
set_option maxRecDepth 100000 in
theorem whittlelaw3_PlaceOrder.calls (k : Nat) (a0_0 : Int) (a0_1 : Int) (a0_2 : Int) (a1_0 : Int) (a1_1 : Int) (a1_2 : Int) (a2_0 : Int) (a2_1 : Int) (a2_2 : Int) (r : Bool) (w : World) (h : whittlelaw3_PlaceOrder.f k a0_0 a0_1 a0_2 a1_0 a1_1 a1_2 a2_0 a2_1 a2_2 = some r) :
    Calls Tryd.prog 5 #[.agg #[.int .i64 a0_0, .int .i64 a0_1, .int .i64 a0_2], .agg #[.int .i64 a1_0, .int .i64 a1_1, .int .i64 a1_2], .agg #[.int .i64 a2_0, .int .i64 a2_1, .int .i64 a2_2]] w fun e w' => e = .returned (.bool r) ∧ Below w.heap.size w w' := by
  have hu23 := Tryd.underlying23
  have HB := Aside0.mk (Below.refl w.heap.size w)
  have H : ((whittlelaw3_able.f).bind fun t307 => (if t307 = true then ((place_Before.f a0_0 a0_1 a0_2 a0_0 a0_1 a0_2).bind fun t308 => (if t308 = true then (whittlelaw3_PlaceOrder.j0 k true a0_0 a0_1 a0_2 a1_0 a1_1 a1_2 a2_0 a2_1 a2_2) else ((place_Before.f a0_0 a0_1 a0_2 a1_0 a1_1 a1_2).bind fun t309 => (if t309 = true then ((place_Before.f a1_0 a1_1 a1_2 a0_0 a0_1 a0_2).bind fun t310 => (whittlelaw3_PlaceOrder.j0 k t310 a0_0 a0_1 a0_2 a1_0 a1_1 a1_2 a2_0 a2_1 a2_2)) else (whittlelaw3_PlaceOrder.j0 k false a0_0 a0_1 a0_2 a1_0 a1_1 a1_2 a2_0 a2_1 a2_2))))) else (whittlelaw3_PlaceOrder.j0 k true a0_0 a0_1 a0_2 a1_0 a1_1 a1_2 a2_0 a2_1 a2_2))) = some r := h
  clear h
  have HC4 := Aside0.mk H
  clear H
  go_enter Tryd.func5, Tryd.ntmps5
  go_upto_region 1 with (first | ((with_reducible refine gate_dst (N := 3) rfl ?_); refine box_event ?hg (N := 3) ?hd (cs := #[.int .i64 a0_0, .int .i64 a0_1, .int .i64 a0_2]) (t := 23) ?hr ?_; (case hd => rfl); (case hg => rfl); (case hr => first | (go_simp; done) | (go_simp; rfl)); intro gb304 hg w5 hbox hb; have n0_ := Aside0.mk (below_step (by repeat (first | (with_reducible first | exact HB.out | apply below_alloc | apply pw_below_drewN | apply below_drew1) | exact HB.out)) hb); have n1_ := Aside0.mk (hbox); have n2_ := Aside0.mk ((by rw [hg]; exact (below_size (by repeat (first | (with_reducible first | exact HB.out | apply below_alloc | apply pw_below_drewN | apply below_drew1) | exact HB.out))) : w.heap.size ≤ gb304)); have n3_ := Aside0.mk ((by rw [hg]; exact (below_size (by repeat (first | (with_reducible first | exact HB.out | apply below_alloc | apply pw_below_drewN | apply below_drew1) | exact HB.out))) : w.heap.size ≤ gb304)); clear HB; have HB := n0_; have BK304 := n1_; have GW304 := n2_; have GE304 := n3_; clear n0_ n1_ n2_ n3_; clear hb hbox hg) | ((with_reducible refine gate_dst (N := 4) rfl ?_); refine box_event ?hg (N := 4) ?hd (cs := #[.int .i64 a1_0, .int .i64 a1_1, .int .i64 a1_2]) (t := 23) ?hr ?_; (case hd => rfl); (case hg => rfl); (case hr => first | (go_simp; done) | (go_simp; rfl)); intro gb305 hg w6 hbox hb; have n0_ := Aside0.mk (blk_below (g := gb304) (o := .cells #[.int .i64 a0_0, .int .i64 a0_1, .int .i64 a0_2] 23 (0, 0)) (by (with_reducible repeat (first | refine blk_drewN ?_ _ | refine blk_drew ?_ | refine blk_alloc ?_ _)); exact BK304.out) hb); have n1_ := Aside0.mk (below_step (by repeat (first | (with_reducible first | exact HB.out | apply below_alloc | apply pw_below_drewN | apply below_drew1 | refine below_set ?_ GE304.out) | exact HB.out)) hb); have n2_ := Aside0.mk (hbox); have n3_ := Aside0.mk ((by rw [hg]; exact (below_size (by repeat (first | (with_reducible first | exact HB.out | apply below_alloc | apply pw_below_drewN | apply below_drew1 | refine below_set ?_ GE304.out) | exact HB.out))) : w.heap.size ≤ gb305)); have n4_ := Aside0.mk ((by rw [hg]; exact (below_size (by repeat (first | (with_reducible first | exact HB.out | apply below_alloc | apply pw_below_drewN | apply below_drew1 | refine below_set ?_ GE304.out) | exact HB.out))) : w.heap.size ≤ gb305)); have n5_ := Aside0.mk ((by rw [hg]; exact Nat.ne_of_lt (blk_lt (g := gb304) (o := .cells #[.int .i64 a0_0, .int .i64 a0_1, .int .i64 a0_2] 23 (0, 0)) (by (with_reducible repeat (first | refine blk_drewN ?_ _ | refine blk_drew ?_ | refine blk_alloc ?_ _)); exact BK304.out)) : gb304 ≠ gb305)); have n6_ := Aside0.mk ((by rw [hg]; exact Nat.ne_of_gt (blk_lt (g := gb304) (o := .cells #[.int .i64 a0_0, .int .i64 a0_1, .int .i64 a0_2] 23 (0, 0)) (by (with_reducible repeat (first | refine blk_drewN ?_ _ | refine blk_drew ?_ | refine blk_alloc ?_ _)); exact BK304.out)) : gb305 ≠ gb304)); clear BK304; clear HB; have BK304 := n0_; have HB := n1_; have BK305 := n2_; have GW305 := n3_; have GE305 := n4_; have NB304_305 := n5_; have NB305_304 := n6_; clear n0_ n1_ n2_ n3_ n4_ n5_ n6_; clear hb hbox hg) | ((with_reducible refine gate_dst (N := 5) rfl ?_); refine box_event ?hg (N := 5) ?hd (cs := #[.int .i64 a2_0, .int .i64 a2_1, .int .i64 a2_2]) (t := 23) ?hr ?_; (case hd => rfl); (case hg => rfl); (case hr => first | (go_simp; done) | (go_simp; rfl)); intro gb306 hg w7 hbox hb; have n0_ := Aside0.mk (blk_below (g := gb304) (o := .cells #[.int .i64 a0_0, .int .i64 a0_1, .int .i64 a0_2] 23 (0, 0)) (by (with_reducible repeat (first | refine blk_drewN ?_ _ | refine blk_drew ?_ | refine blk_alloc ?_ _)); exact BK304.out) hb); have n1_ := Aside0.mk (blk_below (g := gb305) (o := .cells #[.int .i64 a1_0, .int .i64 a1_1, .int .i64 a1_2] 23 (0, 0)) (by (with_reducible repeat (first | refine blk_drewN ?_ _ | refine blk_drew ?_ | refine blk_alloc ?_ _)); exact BK305.out) hb); have n2_ := Aside0.mk (below_step (by repeat (first | (with_reducible first | exact HB.out | apply below_alloc | apply pw_below_drewN | apply below_drew1 | refine below_set ?_ GE304.out | refine below_set ?_ GE305.out) | exact HB.out)) hb); have n3_ := Aside0.mk (hbox); have n4_ := Aside0.mk ((by rw [hg]; exact (below_size (by repeat (first | (with_reducible first | exact HB.out | apply below_alloc | apply pw_below_drewN | apply below_drew1 | refine below_set ?_ GE304.out | refine below_set ?_ GE305.out) | exact HB.out))) : w.heap.size ≤ gb306)); have n5_ := Aside0.mk ((by rw [hg]; exact (below_size (by repeat (first | (with_reducible first | exact HB.out | apply below_alloc | apply pw_below_drewN | apply below_drew1 | refine below_set ?_ GE304.out | refine below_set ?_ GE305.out) | exact HB.out))) : w.heap.size ≤ gb306)); have n6_ := Aside0.mk ((by rw [hg]; exact Nat.ne_of_lt (blk_lt (g := gb304) (o := .cells #[.int .i64 a0_0, .int .i64 a0_1, .int .i64 a0_2] 23 (0, 0)) (by (with_reducible repeat (first | refine blk_drewN ?_ _ | refine blk_drew ?_ | refine blk_alloc ?_ _)); exact BK304.out)) : gb304 ≠ gb306)); have n7_ := Aside0.mk ((by rw [hg]; exact Nat.ne_of_gt (blk_lt (g := gb304) (o := .cells #[.int .i64 a0_0, .int .i64 a0_1, .int .i64 a0_2] 23 (0, 0)) (by (with_reducible repeat (first | refine blk_drewN ?_ _ | refine blk_drew ?_ | refine blk_alloc ?_ _)); exact BK304.out)) : gb306 ≠ gb304)); have n8_ := Aside0.mk ((by rw [hg]; exact Nat.ne_of_lt (blk_lt (g := gb305) (o := .cells #[.int .i64 a1_0, .int .i64 a1_1, .int .i64 a1_2] 23 (0, 0)) (by (with_reducible repeat (first | refine blk_drewN ?_ _ | refine blk_drew ?_ | refine blk_alloc ?_ _)); exact BK305.out)) : gb305 ≠ gb306)); have n9_ := Aside0.mk ((by rw [hg]; exact Nat.ne_of_gt (blk_lt (g := gb305) (o := .cells #[.int .i64 a1_0, .int .i64 a1_1, .int .i64 a1_2] 23 (0, 0)) (by (with_reducible repeat (first | refine blk_drewN ?_ _ | refine blk_drew ?_ | refine blk_alloc ?_ _)); exact BK305.out)) : gb306 ≠ gb305)); clear BK304; clear BK305; clear HB; have BK304 := n0_; have BK305 := n1_; have HB := n2_; have BK306 := n3_; have GW306 := n4_; have GE306 := n5_; have NB304_306 := n6_; have NB306_304 := n7_; have NB305_306 := n8_; have NB306_305 := n9_; clear n0_ n1_ n2_ n3_ n4_ n5_ n6_ n7_ n8_ n9_; clear hb hbox hg))
  (try simp only [Act.put, List.setIfInBounds_toArray, List.set_cons_zero, List.set_cons_succ])
  go_cut [23] (fun v23 wc => ∃ (kq : Nat) (x23_3 : Bool), v23 = .bool x23_3 ∧ Aside0 (whittlelaw3_PlaceOrder.j0 kq x23_3 a0_0 a0_1 a0_2 a1_0 a1_1 a1_2 a2_0 a2_1 a2_2 = some r) ∧ Aside0 (kq ≤ k) ∧ Aside0 (wc.heap[gb304]? = some (.cells #[.int .i64 a0_0, .int .i64 a0_1, .int .i64 a0_2] 23 (0, 0))) ∧ Aside0 (wc.heap[gb305]? = some (.cells #[.int .i64 a1_0, .int .i64 a1_1, .int .i64 a1_2] 23 (0, 0))) ∧ Aside0 (wc.heap[gb306]? = some (.cells #[.int .i64 a2_0, .int .i64 a2_1, .int .i64 a2_2] 23 (0, 0))) ∧ Aside0 (Below w.heap.size w wc))
  case first =>
    have H := HC4.out
    clear HC4
    replace H := Option.bind_eq_some_iff.mp H
    obtain ⟨t307, A80, H⟩ := H
    replace H : (if t307 = true then ((place_Before.f a0_0 a0_1 a0_2 a0_0 a0_1 a0_2).bind fun t308 => (if t308 = true then (whittlelaw3_PlaceOrder.j0 k true a0_0 a0_1 a0_2 a1_0 a1_1 a1_2 a2_0 a2_1 a2_2) else ((place_Before.f a0_0 a0_1 a0_2 a1_0 a1_1 a1_2).bind fun t309 => (if t309 = true then ((place_Before.f a1_0 a1_1 a1_2 a0_0 a0_1 a0_2).bind fun t310 => (whittlelaw3_PlaceOrder.j0 k t310 a0_0 a0_1 a0_2 a1_0 a1_1 a1_2 a2_0 a2_1 a2_2)) else (whittlelaw3_PlaceOrder.j0 k false a0_0 a0_1 a0_2 a1_0 a1_1 a1_2 a2_0 a2_1 a2_2))))) else (whittlelaw3_PlaceOrder.j0 k true a0_0 a0_1 a0_2 a1_0 a1_1 a1_2 a2_0 a2_1 a2_2)) = some r := H
    have A8 := Aside0.mk A80
    clear A80
    by_cases c9 : t307 = true
    · subst c9
      have H1 : ((place_Before.f a0_0 a0_1 a0_2 a0_0 a0_1 a0_2).bind fun t308 => (if t308 = true then (whittlelaw3_PlaceOrder.j0 k true a0_0 a0_1 a0_2 a1_0 a1_1 a1_2 a2_0 a2_1 a2_2) else ((place_Before.f a0_0 a0_1 a0_2 a1_0 a1_1 a1_2).bind fun t309 => (if t309 = true then ((place_Before.f a1_0 a1_1 a1_2 a0_0 a0_1 a0_2).bind fun t310 => (whittlelaw3_PlaceOrder.j0 k t310 a0_0 a0_1 a0_2 a1_0 a1_1 a1_2 a2_0 a2_1 a2_2)) else (whittlelaw3_PlaceOrder.j0 k false a0_0 a0_1 a0_2 a1_0 a1_1 a1_2 a2_0 a2_1 a2_2))))) = some r := by rw [if_pos rfl] at H; exact H
      clear H
      have H := H1
      clear H1
      replace H := Option.bind_eq_some_iff.mp H
      obtain ⟨t308, A100, H⟩ := H
      replace H : (if t308 = true then (whittlelaw3_PlaceOrder.j0 k true a0_0 a0_1 a0_2 a1_0 a1_1 a1_2 a2_0 a2_1 a2_2) else ((place_Before.f a0_0 a0_1 a0_2 a1_0 a1_1 a1_2).bind fun t309 => (if t309 = true then ((place_Before.f a1_0 a1_1 a1_2 a0_0 a0_1 a0_2).bind fun t310 => (whittlelaw3_PlaceOrder.j0 k t310 a0_0 a0_1 a0_2 a1_0 a1_1 a1_2 a2_0 a2_1 a2_2)) else (whittlelaw3_PlaceOrder.j0 k false a0_0 a0_1 a0_2 a1_0 a1_1 a1_2 a2_0 a2_1 a2_2)))) = some r := H
      have A10 := Aside0.mk A100
      clear A100
      by_cases c11 : t308 = true
      · subst c11
        have H1 : (whittlelaw3_PlaceOrder.j0 k true a0_0 a0_1 a0_2 a1_0 a1_1 a1_2 a2_0 a2_1 a2_2) = some r := by rw [if_pos rfl] at H; exact H
        clear H
        have H := H1
        clear H1
        have H' := Aside0.mk H
        clear H
        go_wp2_with (first | ((with_reducible refine gate_callee (f := 16) rfl ?_); refine goesL_ (some 7) rfl rfl Tryd.func16 (by kernel_rfl) rfl #[] rfl (by (try simp only [List.map_toArray, List.map_cons, List.map_nil]); first | done | rfl | (simp only [List.length_drop, List.length_take]; rfl)) ?_; (with_reducible refine (whittlelaw3_able.calls  true _ A8.out).mono ?_); rintro e w12 ⟨rfl, hb⟩; refine ⟨_, rfl, ?_⟩; have n0_ := Aside0.mk (blk_below (g := gb304) (o := .cells #[.int .i64 a0_0, .int .i64 a0_1, .int .i64 a0_2] 23 (0, 0)) (by (with_reducible repeat (first | refine blk_drewN ?_ _ | refine blk_drew ?_ | refine blk_alloc ?_ _)); exact BK304.out) hb); have n1_ := Aside0.mk (blk_below (g := gb305) (o := .cells #[.int .i64 a1_0, .int .i64 a1_1, .int .i64 a1_2] 23 (0, 0)) (by (with_reducible repeat (first | refine blk_drewN ?_ _ | refine blk_drew ?_ | refine blk_alloc ?_ _)); exact BK305.out) hb); have n2_ := Aside0.mk (blk_below (g := gb306) (o := .cells #[.int .i64 a2_0, .int .i64 a2_1, .int .i64 a2_2] 23 (0, 0)) (by (with_reducible repeat (first | refine blk_drewN ?_ _ | refine blk_drew ?_ | refine blk_alloc ?_ _)); exact BK306.out) hb); have n3_ := Aside0.mk (below_step (by repeat (first | (with_reducible first | exact HB.out | apply below_alloc | apply pw_below_drewN | apply below_drew1 | refine below_set ?_ GE304.out | refine below_set ?_ GE305.out | refine below_set ?_ GE306.out) | exact HB.out)) hb); clear BK304; clear BK305; clear BK306; clear HB; have BK304 := n0_; have BK305 := n1_; have BK306 := n2_; have HB := n3_; clear n0_ n1_ n2_ n3_; (try clear hb); (try clear hb2); (try clear hk); (try clear hi); have hnb13 := NB304_305.out; have hnc13 := NB305_304.out; have hnb14 := NB304_306.out; have hnc14 := NB306_304.out; have hcz15_0 : w12.cell? ⟨gb304, 0, none⟩ = some (.int .i64 a0_0) := (blk_cell BK304.out 0).trans rfl; have hcz15_1 : w12.cell? ⟨gb304, 1, none⟩ = some (.int .i64 a0_1) := (blk_cell BK304.out 1).trans rfl; have hcz15_2 : w12.cell? ⟨gb304, 2, none⟩ = some (.int .i64 a0_2) := (blk_cell BK304.out 2).trans rfl; have hfz15_0 := blk_frozen BK304.out 0; have hfz15_1 := blk_frozen BK304.out 1; have hfz15_2 := blk_frozen BK304.out 2) | (go_at_call 29; (with_reducible refine (place_Before.calls a0_0 a0_1 a0_2 a0_0 a0_1 a0_2 true _ A10.out).mono ?_); rintro e w16 ⟨rfl, hb⟩; have n0_ := Aside0.mk (blk_below (g := gb304) (o := .cells #[.int .i64 a0_0, .int .i64 a0_1, .int .i64 a0_2] 23 (0, 0)) (by (with_reducible repeat (first | refine blk_drewN ?_ _ | refine blk_drew ?_ | refine blk_alloc ?_ _)); exact BK304.out) hb); have n1_ := Aside0.mk (blk_below (g := gb305) (o := .cells #[.int .i64 a1_0, .int .i64 a1_1, .int .i64 a1_2] 23 (0, 0)) (by (with_reducible repeat (first | refine blk_drewN ?_ _ | refine blk_drew ?_ | refine blk_alloc ?_ _)); exact BK305.out) hb); have n2_ := Aside0.mk (blk_below (g := gb306) (o := .cells #[.int .i64 a2_0, .int .i64 a2_1, .int .i64 a2_2] 23 (0, 0)) (by (with_reducible repeat (first | refine blk_drewN ?_ _ | refine blk_drew ?_ | refine blk_alloc ?_ _)); exact BK306.out) hb); have n3_ := Aside0.mk (below_step (by repeat (first | (with_reducible first | exact HB.out | apply below_alloc | apply pw_below_drewN | apply below_drew1 | refine below_set ?_ GE304.out | refine below_set ?_ GE305.out | refine below_set ?_ GE306.out) | exact HB.out)) hb); clear BK304; clear BK305; clear BK306; clear HB; have BK304 := n0_; have BK305 := n1_; have BK306 := n2_; have HB := n3_; clear n0_ n1_ n2_ n3_; (try clear hb); (try clear hb2); (try clear hk); (try clear hi)))
        go_meet
        case rel => exact ⟨_, (true), (by first | rfl | (simp; done) | (simp [*]; done)), H', ⟨by first | omega | exact Nat.le_refl _⟩, ⟨by (with_reducible repeat (first | refine blk_drewN ?_ _ | refine blk_drew ?_ | refine blk_alloc ?_ _)); exact BK304.out⟩, ⟨by (with_reducible repeat (first | refine blk_drewN ?_ _ | refine blk_drew ?_ | refine blk_alloc ?_ _)); exact BK305.out⟩, ⟨by (with_reducible repeat (first | refine blk_drewN ?_ _ | refine blk_drew ?_ | refine blk_alloc ?_ _)); exact BK306.out⟩, ⟨by repeat (first | (with_reducible first | exact HB.out | apply below_alloc | apply pw_below_drewN | apply below_drew1 | refine below_set ?_ GE304.out | refine below_set ?_ GE305.out | refine below_set ?_ GE306.out) | exact HB.out)⟩⟩
      · replace c11 := Bool.eq_false_iff.mpr c11
        subst c11
        have H1 : ((place_Before.f a0_0 a0_1 a0_2 a1_0 a1_1 a1_2).bind fun t309 => (if t309 = true then ((place_Before.f a1_0 a1_1 a1_2 a0_0 a0_1 a0_2).bind fun t310 => (whittlelaw3_PlaceOrder.j0 k t310 a0_0 a0_1 a0_2 a1_0 a1_1 a1_2 a2_0 a2_1 a2_2)) else (whittlelaw3_PlaceOrder.j0 k false a0_0 a0_1 a0_2 a1_0 a1_1 a1_2 a2_0 a2_1 a2_2))) = some r := by rw [if_neg (show ¬ (false = true) by decide)] at H; exact H
        clear H
        have H := H1
        clear H1
        replace H := Option.bind_eq_some_iff.mp H
        obtain ⟨t309, A170, H⟩ := H
        replace H : (if t309 = true then ((place_Before.f a1_0 a1_1 a1_2 a0_0 a0_1 a0_2).bind fun t310 => (whittlelaw3_PlaceOrder.j0 k t310 a0_0 a0_1 a0_2 a1_0 a1_1 a1_2 a2_0 a2_1 a2_2)) else (whittlelaw3_PlaceOrder.j0 k false a0_0 a0_1 a0_2 a1_0 a1_1 a1_2 a2_0 a2_1 a2_2)) = some r := H
        have A17 := Aside0.mk A170
        clear A170
        by_cases c18 : t309 = true
        · subst c18
          have H1 : ((place_Before.f a1_0 a1_1 a1_2 a0_0 a0_1 a0_2).bind fun t310 => (whittlelaw3_PlaceOrder.j0 k t310 a0_0 a0_1 a0_2 a1_0 a1_1 a1_2 a2_0 a2_1 a2_2)) = some r := by rw [if_pos rfl] at H; exact H
          clear H
          have H := H1
          clear H1
          replace H := Option.bind_eq_some_iff.mp H
          obtain ⟨t310, A190, H⟩ := H
          replace H : (whittlelaw3_PlaceOrder.j0 k t310 a0_0 a0_1 a0_2 a1_0 a1_1 a1_2 a2_0 a2_1 a2_2) = some r := H
          have A19 := Aside0.mk A190
          clear A190
          have H' := Aside0.mk H
          clear H
          go_wp2_with (first | ((with_reducible refine gate_callee (f := 16) rfl ?_); refine goesL_ (some 7) rfl rfl Tryd.func16 (by kernel_rfl) rfl #[] rfl (by (try simp only [List.map_toArray, List.map_cons, List.map_nil]); first | done | rfl | (simp only [List.length_drop, List.length_take]; rfl)) ?_; (with_reducible refine (whittlelaw3_able.calls  true _ A8.out).mono ?_); rintro e w20 ⟨rfl, hb⟩; refine ⟨_, rfl, ?_⟩; have n0_ := Aside0.mk (blk_below (g := gb304) (o := .cells #[.int .i64 a0_0, .int .i64 a0_1, .int .i64 a0_2] 23 (0, 0)) (by (with_reducible repeat (first | refine blk_drewN ?_ _ | refine blk_drew ?_ | refine blk_alloc ?_ _)); exact BK304.out) hb); have n1_ := Aside0.mk (blk_below (g := gb305) (o := .cells #[.int .i64 a1_0, .int .i64 a1_1, .int .i64 a1_2] 23 (0, 0)) (by (with_reducible repeat (first | refine blk_drewN ?_ _ | refine blk_drew ?_ | refine blk_alloc ?_ _)); exact BK305.out) hb); have n2_ := Aside0.mk (blk_below (g := gb306) (o := .cells #[.int .i64 a2_0, .int .i64 a2_1, .int .i64 a2_2] 23 (0, 0)) (by (with_reducible repeat (first | refine blk_drewN ?_ _ | refine blk_drew ?_ | refine blk_alloc ?_ _)); exact BK306.out) hb); have n3_ := Aside0.mk (below_step (by repeat (first | (with_reducible first | exact HB.out | apply below_alloc | apply pw_below_drewN | apply below_drew1 | refine below_set ?_ GE304.out | refine below_set ?_ GE305.out | refine below_set ?_ GE306.out) | exact HB.out)) hb); clear BK304; clear BK305; clear BK306; clear HB; have BK304 := n0_; have BK305 := n1_; have BK306 := n2_; have HB := n3_; clear n0_ n1_ n2_ n3_; (try clear hb); (try clear hb2); (try clear hk); (try clear hi); have hnb21 := NB304_305.out; have hnc21 := NB305_304.out; have hnb22 := NB304_306.out; have hnc22 := NB306_304.out; have hcz23_0 : w20.cell? ⟨gb304, 0, none⟩ = some (.int .i64 a0_0) := (blk_cell BK304.out 0).trans rfl; have hcz23_1 : w20.cell? ⟨gb304, 1, none⟩ = some (.int .i64 a0_1) := (blk_cell BK304.out 1).trans rfl; have hcz23_2 : w20.cell? ⟨gb304, 2, none⟩ = some (.int .i64 a0_2) := (blk_cell BK304.out 2).trans rfl; have hfz23_0 := blk_frozen BK304.out 0; have hfz23_1 := blk_frozen BK304.out 1; have hfz23_2 := blk_frozen BK304.out 2) | (go_at_call 29; (with_reducible refine (place_Before.calls a0_0 a0_1 a0_2 a0_0 a0_1 a0_2 false _ A10.out).mono ?_); rintro e w24 ⟨rfl, hb⟩; have n0_ := Aside0.mk (blk_below (g := gb304) (o := .cells #[.int .i64 a0_0, .int .i64 a0_1, .int .i64 a0_2] 23 (0, 0)) (by (with_reducible repeat (first | refine blk_drewN ?_ _ | refine blk_drew ?_ | refine blk_alloc ?_ _)); exact BK304.out) hb); have n1_ := Aside0.mk (blk_below (g := gb305) (o := .cells #[.int .i64 a1_0, .int .i64 a1_1, .int .i64 a1_2] 23 (0, 0)) (by (with_reducible repeat (first | refine blk_drewN ?_ _ | refine blk_drew ?_ | refine blk_alloc ?_ _)); exact BK305.out) hb); have n2_ := Aside0.mk (blk_below (g := gb306) (o := .cells #[.int .i64 a2_0, .int .i64 a2_1, .int .i64 a2_2] 23 (0, 0)) (by (with_reducible repeat (first | refine blk_drewN ?_ _ | refine blk_drew ?_ | refine blk_alloc ?_ _)); exact BK306.out) hb); have n3_ := Aside0.mk (below_step (by repeat (first | (with_reducible first | exact HB.out | apply below_alloc | apply pw_below_drewN | apply below_drew1 | refine below_set ?_ GE304.out | refine below_set ?_ GE305.out | refine below_set ?_ GE306.out) | exact HB.out)) hb); clear BK304; clear BK305; clear BK306; clear HB; have BK304 := n0_; have BK305 := n1_; have BK306 := n2_; have HB := n3_; clear n0_ n1_ n2_ n3_; (try clear hb); (try clear hb2); (try clear hk); (try clear hi); have hcz25_0 : w24.cell? ⟨gb304, 0, none⟩ = some (.int .i64 a0_0) := (blk_cell BK304.out 0).trans rfl; have hcz25_1 : w24.cell? ⟨gb304, 1, none⟩ = some (.int .i64 a0_1) := (blk_cell BK304.out 1).trans rfl; have hcz25_2 : w24.cell? ⟨gb304, 2, none⟩ = some (.int .i64 a0_2) := (blk_cell BK304.out 2).trans rfl; have hfz25_0 := blk_frozen BK304.out 0; have hfz25_1 := blk_frozen BK304.out 1; have hfz25_2 := blk_frozen BK304.out 2; have hnb26 := NB305_306.out; have hnc26 := NB306_305.out; have hcz27_0 : w24.cell? ⟨gb305, 0, none⟩ = some (.int .i64 a1_0) := (blk_cell BK305.out 0).trans rfl; have hcz27_1 : w24.cell? ⟨gb305, 1, none⟩ = some (.int .i64 a1_1) := (blk_cell BK305.out 1).trans rfl; have hcz27_2 : w24.cell? ⟨gb305, 2, none⟩ = some (.int .i64 a1_2) := (blk_cell BK305.out 2).trans rfl; have hfz27_0 := blk_frozen BK305.out 0; have hfz27_1 := blk_frozen BK305.out 1; have hfz27_2 := blk_frozen BK305.out 2) | (go_at_call 29; (with_reducible refine (place_Before.calls a0_0 a0_1 a0_2 a1_0 a1_1 a1_2 true _ A17.out).mono ?_); rintro e w28 ⟨rfl, hb⟩; have n0_ := Aside0.mk (blk_below (g := gb304) (o := .cells #[.int .i64 a0_0, .int .i64 a0_1, .int .i64 a0_2] 23 (0, 0)) (by (with_reducible repeat (first | refine blk_drewN ?_ _ | refine blk_drew ?_ | refine blk_alloc ?_ _)); exact BK304.out) hb); have n1_ := Aside0.mk (blk_below (g := gb305) (o := .cells #[.int .i64 a1_0, .int .i64 a1_1, .int .i64 a1_2] 23 (0, 0)) (by (with_reducible repeat (first | refine blk_drewN ?_ _ | refine blk_drew ?_ | refine blk_alloc ?_ _)); exact BK305.out) hb); have n2_ := Aside0.mk (blk_below (g := gb306) (o := .cells #[.int .i64 a2_0, .int .i64 a2_1, .int .i64 a2_2] 23 (0, 0)) (by (with_reducible repeat (first | refine blk_drewN ?_ _ | refine blk_drew ?_ | refine blk_alloc ?_ _)); exact BK306.out) hb); have n3_ := Aside0.mk (below_step (by repeat (first | (with_reducible first | exact HB.out | apply below_alloc | apply pw_below_drewN | apply below_drew1 | refine below_set ?_ GE304.out | refine below_set ?_ GE305.out | refine below_set ?_ GE306.out) | exact HB.out)) hb); clear BK304; clear BK305; clear BK306; clear HB; have BK304 := n0_; have BK305 := n1_; have BK306 := n2_; have HB := n3_; clear n0_ n1_ n2_ n3_; (try clear hb); (try clear hb2); (try clear hk); (try clear hi); have hcz29_0 : w28.cell? ⟨gb305, 0, none⟩ = some (.int .i64 a1_0) := (blk_cell BK305.out 0).trans rfl; have hcz29_1 : w28.cell? ⟨gb305, 1, none⟩ = some (.int .i64 a1_1) := (blk_cell BK305.out 1).trans rfl; have hcz29_2 : w28.cell? ⟨gb305, 2, none⟩ = some (.int .i64 a1_2) := (blk_cell BK305.out 2).trans rfl; have hfz29_0 := blk_frozen BK305.out 0; have hfz29_1 := blk_frozen BK305.out 1; have hfz29_2 := blk_frozen BK305.out 2; have hcz30_0 : w28.cell? ⟨gb304, 0, none⟩ = some (.int .i64 a0_0) := (blk_cell BK304.out 0).trans rfl; have hcz30_1 : w28.cell? ⟨gb304, 1, none⟩ = some (.int .i64 a0_1) := (blk_cell BK304.out 1).trans rfl; have hcz30_2 : w28.cell? ⟨gb304, 2, none⟩ = some (.int .i64 a0_2) := (blk_cell BK304.out 2).trans rfl; have hfz30_0 := blk_frozen BK304.out 0; have hfz30_1 := blk_frozen BK304.out 1; have hfz30_2 := blk_frozen BK304.out 2) | (go_at_call 29; (with_reducible refine (place_Before.calls a1_0 a1_1 a1_2 a0_0 a0_1 a0_2 t310 _ A19.out).mono ?_); rintro e w31 ⟨rfl, hb⟩; have n0_ := Aside0.mk (blk_below (g := gb304) (o := .cells #[.int .i64 a0_0, .int .i64 a0_1, .int .i64 a0_2] 23 (0, 0)) (by (with_reducible repeat (first | refine blk_drewN ?_ _ | refine blk_drew ?_ | refine blk_alloc ?_ _)); exact BK304.out) hb); have n1_ := Aside0.mk (blk_below (g := gb305) (o := .cells #[.int .i64 a1_0, .int .i64 a1_1, .int .i64 a1_2] 23 (0, 0)) (by (with_reducible repeat (first | refine blk_drewN ?_ _ | refine blk_drew ?_ | refine blk_alloc ?_ _)); exact BK305.out) hb); have n2_ := Aside0.mk (blk_below (g := gb306) (o := .cells #[.int .i64 a2_0, .int .i64 a2_1, .int .i64 a2_2] 23 (0, 0)) (by (with_reducible repeat (first | refine blk_drewN ?_ _ | refine blk_drew ?_ | refine blk_alloc ?_ _)); exact BK306.out) hb); have n3_ := Aside0.mk (below_step (by repeat (first | (with_reducible first | exact HB.out | apply below_alloc | apply pw_below_drewN | apply below_drew1 | refine below_set ?_ GE304.out | refine below_set ?_ GE305.out | refine below_set ?_ GE306.out) | exact HB.out)) hb); clear BK304; clear BK305; clear BK306; clear HB; have BK304 := n0_; have BK305 := n1_; have BK306 := n2_; have HB := n3_; clear n0_ n1_ n2_ n3_; (try clear hb); (try clear hb2); (try clear hk); (try clear hi)))
          go_meet
          case rel => exact ⟨_, (t310), (by first | rfl | (simp; done) | (simp [*]; done)), H', ⟨by first | omega | exact Nat.le_refl _⟩, ⟨by (with_reducible repeat (first | refine blk_drewN ?_ _ | refine blk_drew ?_ | refine blk_alloc ?_ _)); exact BK304.out⟩, ⟨by (with_reducible repeat (first | refine blk_drewN ?_ _ | refine blk_drew ?_ | refine blk_alloc ?_ _)); exact BK305.out⟩, ⟨by (with_reducible repeat (first | refine blk_drewN ?_ _ | refine blk_drew ?_ | refine blk_alloc ?_ _)); exact BK306.out⟩, ⟨by repeat (first | (with_reducible first | exact HB.out | apply below_alloc | apply pw_below_drewN | apply below_drew1 | refine below_set ?_ GE304.out | refine below_set ?_ GE305.out | refine below_set ?_ GE306.out) | exact HB.out)⟩⟩
        · replace c18 := Bool.eq_false_iff.mpr c18
          subst c18
          have H1 : (whittlelaw3_PlaceOrder.j0 k false a0_0 a0_1 a0_2 a1_0 a1_1 a1_2 a2_0 a2_1 a2_2) = some r := by rw [if_neg (show ¬ (false = true) by decide)] at H; exact H
          clear H
          have H := H1
          clear H1
          have H' := Aside0.mk H
          clear H
          go_wp2_with (first | ((with_reducible refine gate_callee (f := 16) rfl ?_); refine goesL_ (some 7) rfl rfl Tryd.func16 (by kernel_rfl) rfl #[] rfl (by (try simp only [List.map_toArray, List.map_cons, List.map_nil]); first | done | rfl | (simp only [List.length_drop, List.length_take]; rfl)) ?_; (with_reducible refine (whittlelaw3_able.calls  true _ A8.out).mono ?_); rintro e w32 ⟨rfl, hb⟩; refine ⟨_, rfl, ?_⟩; have n0_ := Aside0.mk (blk_below (g := gb304) (o := .cells #[.int .i64 a0_0, .int .i64 a0_1, .int .i64 a0_2] 23 (0, 0)) (by (with_reducible repeat (first | refine blk_drewN ?_ _ | refine blk_drew ?_ | refine blk_alloc ?_ _)); exact BK304.out) hb); have n1_ := Aside0.mk (blk_below (g := gb305) (o := .cells #[.int .i64 a1_0, .int .i64 a1_1, .int .i64 a1_2] 23 (0, 0)) (by (with_reducible repeat (first | refine blk_drewN ?_ _ | refine blk_drew ?_ | refine blk_alloc ?_ _)); exact BK305.out) hb); have n2_ := Aside0.mk (blk_below (g := gb306) (o := .cells #[.int .i64 a2_0, .int .i64 a2_1, .int .i64 a2_2] 23 (0, 0)) (by (with_reducible repeat (first | refine blk_drewN ?_ _ | refine blk_drew ?_ | refine blk_alloc ?_ _)); exact BK306.out) hb); have n3_ := Aside0.mk (below_step (by repeat (first | (with_reducible first | exact HB.out | apply below_alloc | apply pw_below_drewN | apply below_drew1 | refine below_set ?_ GE304.out | refine below_set ?_ GE305.out | refine below_set ?_ GE306.out) | exact HB.out)) hb); clear BK304; clear BK305; clear BK306; clear HB; have BK304 := n0_; have BK305 := n1_; have BK306 := n2_; have HB := n3_; clear n0_ n1_ n2_ n3_; (try clear hb); (try clear hb2); (try clear hk); (try clear hi); have hnb33 := NB304_305.out; have hnc33 := NB305_304.out; have hnb34 := NB304_306.out; have hnc34 := NB306_304.out; have hcz35_0 : w32.cell? ⟨gb304, 0, none⟩ = some (.int .i64 a0_0) := (blk_cell BK304.out 0).trans rfl; have hcz35_1 : w32.cell? ⟨gb304, 1, none⟩ = some (.int .i64 a0_1) := (blk_cell BK304.out 1).trans rfl; have hcz35_2 : w32.cell? ⟨gb304, 2, none⟩ = some (.int .i64 a0_2) := (blk_cell BK304.out 2).trans rfl; have hfz35_0 := blk_frozen BK304.out 0; have hfz35_1 := blk_frozen BK304.out 1; have hfz35_2 := blk_frozen BK304.out 2) | (go_at_call 29; (with_reducible refine (place_Before.calls a0_0 a0_1 a0_2 a0_0 a0_1 a0_2 false _ A10.out).mono ?_); rintro e w36 ⟨rfl, hb⟩; have n0_ := Aside0.mk (blk_below (g := gb304) (o := .cells #[.int .i64 a0_0, .int .i64 a0_1, .int .i64 a0_2] 23 (0, 0)) (by (with_reducible repeat (first | refine blk_drewN ?_ _ | refine blk_drew ?_ | refine blk_alloc ?_ _)); exact BK304.out) hb); have n1_ := Aside0.mk (blk_below (g := gb305) (o := .cells #[.int .i64 a1_0, .int .i64 a1_1, .int .i64 a1_2] 23 (0, 0)) (by (with_reducible repeat (first | refine blk_drewN ?_ _ | refine blk_drew ?_ | refine blk_alloc ?_ _)); exact BK305.out) hb); have n2_ := Aside0.mk (blk_below (g := gb306) (o := .cells #[.int .i64 a2_0, .int .i64 a2_1, .int .i64 a2_2] 23 (0, 0)) (by (with_reducible repeat (first | refine blk_drewN ?_ _ | refine blk_drew ?_ | refine blk_alloc ?_ _)); exact BK306.out) hb); have n3_ := Aside0.mk (below_step (by repeat (first | (with_reducible first | exact HB.out | apply below_alloc | apply pw_below_drewN | apply below_drew1 | refine below_set ?_ GE304.out | refine below_set ?_ GE305.out | refine below_set ?_ GE306.out) | exact HB.out)) hb); clear BK304; clear BK305; clear BK306; clear HB; have BK304 := n0_; have BK305 := n1_; have BK306 := n2_; have HB := n3_; clear n0_ n1_ n2_ n3_; (try clear hb); (try clear hb2); (try clear hk); (try clear hi); have hcz37_0 : w36.cell? ⟨gb304, 0, none⟩ = some (.int .i64 a0_0) := (blk_cell BK304.out 0).trans rfl; have hcz37_1 : w36.cell? ⟨gb304, 1, none⟩ = some (.int .i64 a0_1) := (blk_cell BK304.out 1).trans rfl; have hcz37_2 : w36.cell? ⟨gb304, 2, none⟩ = some (.int .i64 a0_2) := (blk_cell BK304.out 2).trans rfl; have hfz37_0 := blk_frozen BK304.out 0; have hfz37_1 := blk_frozen BK304.out 1; have hfz37_2 := blk_frozen BK304.out 2; have hnb38 := NB305_306.out; have hnc38 := NB306_305.out; have hcz39_0 : w36.cell? ⟨gb305, 0, none⟩ = some (.int .i64 a1_0) := (blk_cell BK305.out 0).trans rfl; have hcz39_1 : w36.cell? ⟨gb305, 1, none⟩ = some (.int .i64 a1_1) := (blk_cell BK305.out 1).trans rfl; have hcz39_2 : w36.cell? ⟨gb305, 2, none⟩ = some (.int .i64 a1_2) := (blk_cell BK305.out 2).trans rfl; have hfz39_0 := blk_frozen BK305.out 0; have hfz39_1 := blk_frozen BK305.out 1; have hfz39_2 := blk_frozen BK305.out 2) | (go_at_call 29; (with_reducible refine (place_Before.calls a0_0 a0_1 a0_2 a1_0 a1_1 a1_2 false _ A17.out).mono ?_); rintro e w40 ⟨rfl, hb⟩; have n0_ := Aside0.mk (blk_below (g := gb304) (o := .cells #[.int .i64 a0_0, .int .i64 a0_1, .int .i64 a0_2] 23 (0, 0)) (by (with_reducible repeat (first | refine blk_drewN ?_ _ | refine blk_drew ?_ | refine blk_alloc ?_ _)); exact BK304.out) hb); have n1_ := Aside0.mk (blk_below (g := gb305) (o := .cells #[.int .i64 a1_0, .int .i64 a1_1, .int .i64 a1_2] 23 (0, 0)) (by (with_reducible repeat (first | refine blk_drewN ?_ _ | refine blk_drew ?_ | refine blk_alloc ?_ _)); exact BK305.out) hb); have n2_ := Aside0.mk (blk_below (g := gb306) (o := .cells #[.int .i64 a2_0, .int .i64 a2_1, .int .i64 a2_2] 23 (0, 0)) (by (with_reducible repeat (first | refine blk_drewN ?_ _ | refine blk_drew ?_ | refine blk_alloc ?_ _)); exact BK306.out) hb); have n3_ := Aside0.mk (below_step (by repeat (first | (with_reducible first | exact HB.out | apply below_alloc | apply pw_below_drewN | apply below_drew1 | refine below_set ?_ GE304.out | refine below_set ?_ GE305.out | refine below_set ?_ GE306.out) | exact HB.out)) hb); clear BK304; clear BK305; clear BK306; clear HB; have BK304 := n0_; have BK305 := n1_; have BK306 := n2_; have HB := n3_; clear n0_ n1_ n2_ n3_; (try clear hb); (try clear hb2); (try clear hk); (try clear hi)))
          go_meet
          case rel => exact ⟨_, (false), (by first | rfl | (simp; done) | (simp [*]; done)), H', ⟨by first | omega | exact Nat.le_refl _⟩, ⟨by (with_reducible repeat (first | refine blk_drewN ?_ _ | refine blk_drew ?_ | refine blk_alloc ?_ _)); exact BK304.out⟩, ⟨by (with_reducible repeat (first | refine blk_drewN ?_ _ | refine blk_drew ?_ | refine blk_alloc ?_ _)); exact BK305.out⟩, ⟨by (with_reducible repeat (first | refine blk_drewN ?_ _ | refine blk_drew ?_ | refine blk_alloc ?_ _)); exact BK306.out⟩, ⟨by repeat (first | (with_reducible first | exact HB.out | apply below_alloc | apply pw_below_drewN | apply below_drew1 | refine below_set ?_ GE304.out | refine below_set ?_ GE305.out | refine below_set ?_ GE306.out) | exact HB.out)⟩⟩
    · replace c9 := Bool.eq_false_iff.mpr c9
      subst c9
      have H1 : (whittlelaw3_PlaceOrder.j0 k true a0_0 a0_1 a0_2 a1_0 a1_1 a1_2 a2_0 a2_1 a2_2) = some r := by rw [if_neg (show ¬ (false = true) by decide)] at H; exact H
      clear H
      have H := H1
      clear H1
      have H' := Aside0.mk H
      clear H
      go_wp2_with (first | ((with_reducible refine gate_callee (f := 16) rfl ?_); refine goesL_ (some 7) rfl rfl Tryd.func16 (by kernel_rfl) rfl #[] rfl (by (try simp only [List.map_toArray, List.map_cons, List.map_nil]); first | done | rfl | (simp only [List.length_drop, List.length_take]; rfl)) ?_; (with_reducible refine (whittlelaw3_able.calls  false _ A8.out).mono ?_); rintro e w41 ⟨rfl, hb⟩; refine ⟨_, rfl, ?_⟩; have n0_ := Aside0.mk (blk_below (g := gb304) (o := .cells #[.int .i64 a0_0, .int .i64 a0_1, .int .i64 a0_2] 23 (0, 0)) (by (with_reducible repeat (first | refine blk_drewN ?_ _ | refine blk_drew ?_ | refine blk_alloc ?_ _)); exact BK304.out) hb); have n1_ := Aside0.mk (blk_below (g := gb305) (o := .cells #[.int .i64 a1_0, .int .i64 a1_1, .int .i64 a1_2] 23 (0, 0)) (by (with_reducible repeat (first | refine blk_drewN ?_ _ | refine blk_drew ?_ | refine blk_alloc ?_ _)); exact BK305.out) hb); have n2_ := Aside0.mk (blk_below (g := gb306) (o := .cells #[.int .i64 a2_0, .int .i64 a2_1, .int .i64 a2_2] 23 (0, 0)) (by (with_reducible repeat (first | refine blk_drewN ?_ _ | refine blk_drew ?_ | refine blk_alloc ?_ _)); exact BK306.out) hb); have n3_ := Aside0.mk (below_step (by repeat (first | (with_reducible first | exact HB.out | apply below_alloc | apply pw_below_drewN | apply below_drew1 | refine below_set ?_ GE304.out | refine below_set ?_ GE305.out | refine below_set ?_ GE306.out) | exact HB.out)) hb); clear BK304; clear BK305; clear BK306; clear HB; have BK304 := n0_; have BK305 := n1_; have BK306 := n2_; have HB := n3_; clear n0_ n1_ n2_ n3_; (try clear hb); (try clear hb2); (try clear hk); (try clear hi)))
      go_meet
      case rel => exact ⟨_, (true), (by first | rfl | (simp; done) | (simp [*]; done)), H', ⟨by first | omega | exact Nat.le_refl _⟩, ⟨by (with_reducible repeat (first | refine blk_drewN ?_ _ | refine blk_drew ?_ | refine blk_alloc ?_ _)); exact BK304.out⟩, ⟨by (with_reducible repeat (first | refine blk_drewN ?_ _ | refine blk_drew ?_ | refine blk_alloc ?_ _)); exact BK305.out⟩, ⟨by (with_reducible repeat (first | refine blk_drewN ?_ _ | refine blk_drew ?_ | refine blk_alloc ?_ _)); exact BK306.out⟩, ⟨by repeat (first | (with_reducible first | exact HB.out | apply below_alloc | apply pw_below_drewN | apply below_drew1 | refine below_set ?_ GE304.out | refine below_set ?_ GE305.out | refine below_set ?_ GE306.out) | exact HB.out)⟩⟩
  case rest =>
    clear HC4
    try clear c1
    try clear c2
    try clear p2
    try clear c3
    try clear c5
    try clear c9
    try clear c11
    try clear c13
    try clear c14
    try clear c16
    try clear c18
    try clear c21
    try clear c22
    try clear c26
    try clear c33
    try clear c34
    try clear c38
    try clear hcz15_0
    try clear hcz15_1
    try clear hcz15_2
    try clear hcz23_0
    try clear hcz23_1
    try clear hcz23_2
    try clear hcz25_0
    try clear hcz25_1
    try clear hcz25_2
    try clear hcz27_0
    try clear hcz27_1
    try clear hcz27_2
    try clear hcz29_0
    try clear hcz29_1
    try clear hcz29_2
    try clear hcz30_0
    try clear hcz30_1
    try clear hcz30_2
    try clear hcz35_0
    try clear hcz35_1
    try clear hcz35_2
    try clear hcz37_0
    try clear hcz37_1
    try clear hcz37_2
    try clear hcz39_0
    try clear hcz39_1
    try clear hcz39_2
    try clear hfz15_0
    try clear hfz15_1
    try clear hfz15_2
    try clear hfz23_0
    try clear hfz23_1
    try clear hfz23_2
    try clear hfz25_0
    try clear hfz25_1
    try clear hfz25_2
    try clear hfz27_0
    try clear hfz27_1
    try clear hfz27_2
    try clear hfz29_0
    try clear hfz29_1
    try clear hfz29_2
    try clear hfz30_0
    try clear hfz30_1
    try clear hfz30_2
    try clear hfz35_0
    try clear hfz35_1
    try clear hfz35_2
    try clear hfz37_0
    try clear hfz37_1
    try clear hfz37_2
    try clear hfz39_0
    try clear hfz39_1
    try clear hfz39_2
    obtain ⟨kq, x23_3, rfl, HA, HJ3, BK304, BK305, BK306, HB⟩ := hcut
    cases kq with
    | zero => exact absurd HA.out (by simp [whittlelaw3_PlaceOrder.j0])
    | succ kj3 =>
      have H := HA.out
      clear HA
      simp only [whittlelaw3_PlaceOrder.j0] at H
      by_cases c42 : x23_3 = true
      · subst c42
        have H1 : (some false) = some r := by rw [if_pos rfl] at H; exact H
        clear H
        have H := H1
        clear H1
        obtain rfl := Option.some.inj H
        go_wp2
        go_ret
        exact ⟨by first | rfl | (simp [errW_none, errW_some] <;> rfl) | (simp [*, errW_none, errW_some] <;> rfl), by repeat (first | (with_reducible first | exact HB.out | apply below_alloc | apply pw_below_drewN | apply below_drew1 | refine below_set ?_ GE304.out | refine below_set ?_ GE305.out | refine below_set ?_ GE306.out) | exact HB.out)⟩
      · replace c42 := Bool.eq_false_iff.mpr c42
        subst c42
        have H1 : ((place_Before.f a0_0 a0_1 a0_2 a1_0 a1_1 a1_2).bind fun t311 => (if t311 = true then (whittlelaw3_PlaceOrder.j1 kj3 false a0_0 a0_1 a0_2 a1_0 a1_1 a1_2 a2_0 a2_1 a2_2) else ((place_Before.f a1_0 a1_1 a1_2 a0_0 a0_1 a0_2).bind fun t312 => (if t312 = true then (whittlelaw3_PlaceOrder.j1 kj3 false a0_0 a0_1 a0_2 a1_0 a1_1 a1_2 a2_0 a2_1 a2_2) else (whittlelaw3_PlaceOrder.j1 kj3 (!(a0_0 == a1_0) || (!(a0_1 == a1_1) || (!(a0_2 == a1_2)))) a0_0 a0_1 a0_2 a1_0 a1_1 a1_2 a2_0 a2_1 a2_2))))) = some r := by rw [if_neg (show ¬ (false = true) by decide)] at H; exact H
        clear H
        have H := H1
        clear H1
        have HC43 := Aside0.mk H
        clear H
        go_upto_region 3 with (fail)
        go_cut [38] (fun v38 wc => ∃ (kq : Nat) (x38_42 : Bool), v38 = .bool x38_42 ∧ Aside0 (whittlelaw3_PlaceOrder.j1 kq x38_42 a0_0 a0_1 a0_2 a1_0 a1_1 a1_2 a2_0 a2_1 a2_2 = some r) ∧ Aside0 (kq ≤ kj3) ∧ Aside0 (wc.heap[gb304]? = some (.cells #[.int .i64 a0_0, .int .i64 a0_1, .int .i64 a0_2] 23 (0, 0))) ∧ Aside0 (wc.heap[gb305]? = some (.cells #[.int .i64 a1_0, .int .i64 a1_1, .int .i64 a1_2] 23 (0, 0))) ∧ Aside0 (wc.heap[gb306]? = some (.cells #[.int .i64 a2_0, .int .i64 a2_1, .int .i64 a2_2] 23 (0, 0))) ∧ Aside0 (Below w.heap.size w wc))
        case first =>
          have H := HC43.out
          clear HC43
          replace H := Option.bind_eq_some_iff.mp H
          obtain ⟨t311, A440, H⟩ := H
          replace H : (if t311 = true then (whittlelaw3_PlaceOrder.j1 kj3 false a0_0 a0_1 a0_2 a1_0 a1_1 a1_2 a2_0 a2_1 a2_2) else ((place_Before.f a1_0 a1_1 a1_2 a0_0 a0_1 a0_2).bind fun t312 => (if t312 = true then (whittlelaw3_PlaceOrder.j1 kj3 false a0_0 a0_1 a0_2 a1_0 a1_1 a1_2 a2_0 a2_1 a2_2) else (whittlelaw3_PlaceOrder.j1 kj3 (!(a0_0 == a1_0) || (!(a0_1 == a1_1) || (!(a0_2 == a1_2)))) a0_0 a0_1 a0_2 a1_0 a1_1 a1_2 a2_0 a2_1 a2_2)))) = some r := H
          have A44 := Aside0.mk A440
          clear A440
          by_cases c45 : t311 = true
          · subst c45
            have H1 : (whittlelaw3_PlaceOrder.j1 kj3 false a0_0 a0_1 a0_2 a1_0 a1_1 a1_2 a2_0 a2_1 a2_2) = some r := by rw [if_pos rfl] at H; exact H
            clear H
            have H := H1
            clear H1
            have H' := Aside0.mk H
            clear H
            have hnb46 := NB304_305.out
            have hnc46 := NB305_304.out
            have hnb47 := NB304_306.out
            have hnc47 := NB306_304.out
            have hcz48_0 : wc.cell? ⟨gb304, 0, none⟩ = some (.int .i64 a0_0) := (blk_cell BK304.out 0).trans rfl
            have hcz48_1 : wc.cell? ⟨gb304, 1, none⟩ = some (.int .i64 a0_1) := (blk_cell BK304.out 1).trans rfl
            have hcz48_2 : wc.cell? ⟨gb304, 2, none⟩ = some (.int .i64 a0_2) := (blk_cell BK304.out 2).trans rfl
            have hfz48_0 := blk_frozen BK304.out 0
            have hfz48_1 := blk_frozen BK304.out 1
            have hfz48_2 := blk_frozen BK304.out 2
            have hnb49 := NB305_306.out
            have hnc49 := NB306_305.out
            have hcz50_0 : wc.cell? ⟨gb305, 0, none⟩ = some (.int .i64 a1_0) := (blk_cell BK305.out 0).trans rfl
            have hcz50_1 : wc.cell? ⟨gb305, 1, none⟩ = some (.int .i64 a1_1) := (blk_cell BK305.out 1).trans rfl
            have hcz50_2 : wc.cell? ⟨gb305, 2, none⟩ = some (.int .i64 a1_2) := (blk_cell BK305.out 2).trans rfl
            have hfz50_0 := blk_frozen BK305.out 0
            have hfz50_1 := blk_frozen BK305.out 1
            have hfz50_2 := blk_frozen BK305.out 2
            go_wp2_with (first | ((with_reducible refine gate_callee (f := 29) rfl ?_); refine goesL_ (some 26) rfl rfl Tryd.func29 (by kernel_rfl) rfl #[.agg #[.int .i64 a0_0, .int .i64 a0_1, .int .i64 a0_2], .agg #[.int .i64 a1_0, .int .i64 a1_1, .int .i64 a1_2]] rfl (by (try simp only [List.map_toArray, List.map_cons, List.map_nil]); first | done | rfl | (simp only [List.length_drop, List.length_take]; rfl)) ?_; (with_reducible refine (place_Before.calls a0_0 a0_1 a0_2 a1_0 a1_1 a1_2 true _ A44.out).mono ?_); rintro e w51 ⟨rfl, hb⟩; refine ⟨_, rfl, ?_⟩; have n0_ := Aside0.mk (blk_below (g := gb304) (o := .cells #[.int .i64 a0_0, .int .i64 a0_1, .int .i64 a0_2] 23 (0, 0)) (by (with_reducible repeat (first | refine blk_drewN ?_ _ | refine blk_drew ?_ | refine blk_alloc ?_ _)); exact BK304.out) hb); have n1_ := Aside0.mk (blk_below (g := gb305) (o := .cells #[.int .i64 a1_0, .int .i64 a1_1, .int .i64 a1_2] 23 (0, 0)) (by (with_reducible repeat (first | refine blk_drewN ?_ _ | refine blk_drew ?_ | refine blk_alloc ?_ _)); exact BK305.out) hb); have n2_ := Aside0.mk (blk_below (g := gb306) (o := .cells #[.int .i64 a2_0, .int .i64 a2_1, .int .i64 a2_2] 23 (0, 0)) (by (with_reducible repeat (first | refine blk_drewN ?_ _ | refine blk_drew ?_ | refine blk_alloc ?_ _)); exact BK306.out) hb); have n3_ := Aside0.mk (below_step (by repeat (first | (with_reducible first | exact HB.out | apply below_alloc | apply pw_below_drewN | apply below_drew1 | refine below_set ?_ GE304.out | refine below_set ?_ GE305.out | refine below_set ?_ GE306.out) | exact HB.out)) hb); clear BK304; clear BK305; clear BK306; clear HB; have BK304 := n0_; have BK305 := n1_; have BK306 := n2_; have HB := n3_; clear n0_ n1_ n2_ n3_; (try clear hb); (try clear hb2); (try clear hk); (try clear hi)))
            go_meet
            case rel => exact ⟨_, (false), (by first | rfl | (simp; done) | (simp [*]; done)), H', ⟨by have := HJ3.out; first | omega | exact Nat.le_refl _⟩, ⟨by (with_reducible repeat (first | refine blk_drewN ?_ _ | refine blk_drew ?_ | refine blk_alloc ?_ _)); exact BK304.out⟩, ⟨by (with_reducible repeat (first | refine blk_drewN ?_ _ | refine blk_drew ?_ | refine blk_alloc ?_ _)); exact BK305.out⟩, ⟨by (with_reducible repeat (first | refine blk_drewN ?_ _ | refine blk_drew ?_ | refine blk_alloc ?_ _)); exact BK306.out⟩, ⟨by repeat (first | (with_reducible first | exact HB.out | apply below_alloc | apply pw_below_drewN | apply below_drew1 | refine below_set ?_ GE304.out | refine below_set ?_ GE305.out | refine below_set ?_ GE306.out) | exact HB.out)⟩⟩
          · replace c45 := Bool.eq_false_iff.mpr c45
            subst c45
            have H1 : ((place_Before.f a1_0 a1_1 a1_2 a0_0 a0_1 a0_2).bind fun t312 => (if t312 = true then (whittlelaw3_PlaceOrder.j1 kj3 false a0_0 a0_1 a0_2 a1_0 a1_1 a1_2 a2_0 a2_1 a2_2) else (whittlelaw3_PlaceOrder.j1 kj3 (!(a0_0 == a1_0) || (!(a0_1 == a1_1) || (!(a0_2 == a1_2)))) a0_0 a0_1 a0_2 a1_0 a1_1 a1_2 a2_0 a2_1 a2_2))) = some r := by rw [if_neg (show ¬ (false = true) by decide)] at H; exact H
            clear H
            have H := H1
            clear H1
            replace H := Option.bind_eq_some_iff.mp H
            obtain ⟨t312, A520, H⟩ := H
            replace H : (if t312 = true then (whittlelaw3_PlaceOrder.j1 kj3 false a0_0 a0_1 a0_2 a1_0 a1_1 a1_2 a2_0 a2_1 a2_2) else (whittlelaw3_PlaceOrder.j1 kj3 (!(a0_0 == a1_0) || (!(a0_1 == a1_1) || (!(a0_2 == a1_2)))) a0_0 a0_1 a0_2 a1_0 a1_1 a1_2 a2_0 a2_1 a2_2)) = some r := H
            have A52 := Aside0.mk A520
            clear A520
            by_cases c53 : t312 = true
            · subst c53
              have H1 : (whittlelaw3_PlaceOrder.j1 kj3 false a0_0 a0_1 a0_2 a1_0 a1_1 a1_2 a2_0 a2_1 a2_2) = some r := by rw [if_pos rfl] at H; exact H
              clear H
              have H := H1
              clear H1
              have H' := Aside0.mk H
              clear H
              have hnb54 := NB304_305.out
              have hnc54 := NB305_304.out
              have hnb55 := NB304_306.out
              have hnc55 := NB306_304.out
              have hcz56_0 : wc.cell? ⟨gb304, 0, none⟩ = some (.int .i64 a0_0) := (blk_cell BK304.out 0).trans rfl
              have hcz56_1 : wc.cell? ⟨gb304, 1, none⟩ = some (.int .i64 a0_1) := (blk_cell BK304.out 1).trans rfl
              have hcz56_2 : wc.cell? ⟨gb304, 2, none⟩ = some (.int .i64 a0_2) := (blk_cell BK304.out 2).trans rfl
              have hfz56_0 := blk_frozen BK304.out 0
              have hfz56_1 := blk_frozen BK304.out 1
              have hfz56_2 := blk_frozen BK304.out 2
              have hnb57 := NB305_306.out
              have hnc57 := NB306_305.out
              have hcz58_0 : wc.cell? ⟨gb305, 0, none⟩ = some (.int .i64 a1_0) := (blk_cell BK305.out 0).trans rfl
              have hcz58_1 : wc.cell? ⟨gb305, 1, none⟩ = some (.int .i64 a1_1) := (blk_cell BK305.out 1).trans rfl
              have hcz58_2 : wc.cell? ⟨gb305, 2, none⟩ = some (.int .i64 a1_2) := (blk_cell BK305.out 2).trans rfl
              have hfz58_0 := blk_frozen BK305.out 0
              have hfz58_1 := blk_frozen BK305.out 1
              have hfz58_2 := blk_frozen BK305.out 2
              go_wp2_with (first | ((with_reducible refine gate_callee (f := 29) rfl ?_); refine goesL_ (some 26) rfl rfl Tryd.func29 (by kernel_rfl) rfl #[.agg #[.int .i64 a0_0, .int .i64 a0_1, .int .i64 a0_2], .agg #[.int .i64 a1_0, .int .i64 a1_1, .int .i64 a1_2]] rfl (by (try simp only [List.map_toArray, List.map_cons, List.map_nil]); first | done | rfl | (simp only [List.length_drop, List.length_take]; rfl)) ?_; (with_reducible refine (place_Before.calls a0_0 a0_1 a0_2 a1_0 a1_1 a1_2 false _ A44.out).mono ?_); rintro e w59 ⟨rfl, hb⟩; refine ⟨_, rfl, ?_⟩; have n0_ := Aside0.mk (blk_below (g := gb304) (o := .cells #[.int .i64 a0_0, .int .i64 a0_1, .int .i64 a0_2] 23 (0, 0)) (by (with_reducible repeat (first | refine blk_drewN ?_ _ | refine blk_drew ?_ | refine blk_alloc ?_ _)); exact BK304.out) hb); have n1_ := Aside0.mk (blk_below (g := gb305) (o := .cells #[.int .i64 a1_0, .int .i64 a1_1, .int .i64 a1_2] 23 (0, 0)) (by (with_reducible repeat (first | refine blk_drewN ?_ _ | refine blk_drew ?_ | refine blk_alloc ?_ _)); exact BK305.out) hb); have n2_ := Aside0.mk (blk_below (g := gb306) (o := .cells #[.int .i64 a2_0, .int .i64 a2_1, .int .i64 a2_2] 23 (0, 0)) (by (with_reducible repeat (first | refine blk_drewN ?_ _ | refine blk_drew ?_ | refine blk_alloc ?_ _)); exact BK306.out) hb); have n3_ := Aside0.mk (below_step (by repeat (first | (with_reducible first | exact HB.out | apply below_alloc | apply pw_below_drewN | apply below_drew1 | refine below_set ?_ GE304.out | refine below_set ?_ GE305.out | refine below_set ?_ GE306.out) | exact HB.out)) hb); clear BK304; clear BK305; clear BK306; clear HB; have BK304 := n0_; have BK305 := n1_; have BK306 := n2_; have HB := n3_; clear n0_ n1_ n2_ n3_; (try clear hb); (try clear hb2); (try clear hk); (try clear hi); have hcz60_0 : w59.cell? ⟨gb305, 0, none⟩ = some (.int .i64 a1_0) := (blk_cell BK305.out 0).trans rfl; have hcz60_1 : w59.cell? ⟨gb305, 1, none⟩ = some (.int .i64 a1_1) := (blk_cell BK305.out 1).trans rfl; have hcz60_2 : w59.cell? ⟨gb305, 2, none⟩ = some (.int .i64 a1_2) := (blk_cell BK305.out 2).trans rfl; have hfz60_0 := blk_frozen BK305.out 0; have hfz60_1 := blk_frozen BK305.out 1; have hfz60_2 := blk_frozen BK305.out 2; have hcz61_0 : w59.cell? ⟨gb304, 0, none⟩ = some (.int .i64 a0_0) := (blk_cell BK304.out 0).trans rfl; have hcz61_1 : w59.cell? ⟨gb304, 1, none⟩ = some (.int .i64 a0_1) := (blk_cell BK304.out 1).trans rfl; have hcz61_2 : w59.cell? ⟨gb304, 2, none⟩ = some (.int .i64 a0_2) := (blk_cell BK304.out 2).trans rfl; have hfz61_0 := blk_frozen BK304.out 0; have hfz61_1 := blk_frozen BK304.out 1; have hfz61_2 := blk_frozen BK304.out 2) | (go_at_call 29; (with_reducible refine (place_Before.calls a1_0 a1_1 a1_2 a0_0 a0_1 a0_2 true _ A52.out).mono ?_); rintro e w62 ⟨rfl, hb⟩; have n0_ := Aside0.mk (blk_below (g := gb304) (o := .cells #[.int .i64 a0_0, .int .i64 a0_1, .int .i64 a0_2] 23 (0, 0)) (by (with_reducible repeat (first | refine blk_drewN ?_ _ | refine blk_drew ?_ | refine blk_alloc ?_ _)); exact BK304.out) hb); have n1_ := Aside0.mk (blk_below (g := gb305) (o := .cells #[.int .i64 a1_0, .int .i64 a1_1, .int .i64 a1_2] 23 (0, 0)) (by (with_reducible repeat (first | refine blk_drewN ?_ _ | refine blk_drew ?_ | refine blk_alloc ?_ _)); exact BK305.out) hb); have n2_ := Aside0.mk (blk_below (g := gb306) (o := .cells #[.int .i64 a2_0, .int .i64 a2_1, .int .i64 a2_2] 23 (0, 0)) (by (with_reducible repeat (first | refine blk_drewN ?_ _ | refine blk_drew ?_ | refine blk_alloc ?_ _)); exact BK306.out) hb); have n3_ := Aside0.mk (below_step (by repeat (first | (with_reducible first | exact HB.out | apply below_alloc | apply pw_below_drewN | apply below_drew1 | refine below_set ?_ GE304.out | refine below_set ?_ GE305.out | refine below_set ?_ GE306.out) | exact HB.out)) hb); clear BK304; clear BK305; clear BK306; clear HB; have BK304 := n0_; have BK305 := n1_; have BK306 := n2_; have HB := n3_; clear n0_ n1_ n2_ n3_; (try clear hb); (try clear hb2); (try clear hk); (try clear hi)))
              go_meet
              case rel => exact ⟨_, (false), (by first | rfl | (simp; done) | (simp [*]; done)), H', ⟨by have := HJ3.out; first | omega | exact Nat.le_refl _⟩, ⟨by (with_reducible repeat (first | refine blk_drewN ?_ _ | refine blk_drew ?_ | refine blk_alloc ?_ _)); exact BK304.out⟩, ⟨by (with_reducible repeat (first | refine blk_drewN ?_ _ | refine blk_drew ?_ | refine blk_alloc ?_ _)); exact BK305.out⟩, ⟨by (with_reducible repeat (first | refine blk_drewN ?_ _ | refine blk_drew ?_ | refine blk_alloc ?_ _)); exact BK306.out⟩, ⟨by repeat (first | (with_reducible first | exact HB.out | apply below_alloc | apply pw_below_drewN | apply below_drew1 | refine below_set ?_ GE304.out | refine below_set ?_ GE305.out | refine below_set ?_ GE306.out) | exact HB.out)⟩⟩
            · replace c53 := Bool.eq_false_iff.mpr c53
              subst c53
              have H1 : (whittlelaw3_PlaceOrder.j1 kj3 (!(a0_0 == a1_0) || (!(a0_1 == a1_1) || (!(a0_2 == a1_2)))) a0_0 a0_1 a0_2 a1_0 a1_1 a1_2 a2_0 a2_1 a2_2) = some r := by rw [if_neg (show ¬ (false = true) by decide)] at H; exact H
              clear H
              have H := H1
              clear H1
              have H' := Aside0.mk H
              clear H
              have hnb63 := NB304_305.out
              have hnc63 := NB305_304.out
              have hnb64 := NB304_306.out
              have hnc64 := NB306_304.out
              have hcz65_0 : wc.cell? ⟨gb304, 0, none⟩ = some (.int .i64 a0_0) := (blk_cell BK304.out 0).trans rfl
              have hcz65_1 : wc.cell? ⟨gb304, 1, none⟩ = some (.int .i64 a0_1) := (blk_cell BK304.out 1).trans rfl
              have hcz65_2 : wc.cell? ⟨gb304, 2, none⟩ = some (.int .i64 a0_2) := (blk_cell BK304.out 2).trans rfl
              have hfz65_0 := blk_frozen BK304.out 0
              have hfz65_1 := blk_frozen BK304.out 1
              have hfz65_2 := blk_frozen BK304.out 2
              have hnb66 := NB305_306.out
              have hnc66 := NB306_305.out
              have hcz67_0 : wc.cell? ⟨gb305, 0, none⟩ = some (.int .i64 a1_0) := (blk_cell BK305.out 0).trans rfl
              have hcz67_1 : wc.cell? ⟨gb305, 1, none⟩ = some (.int .i64 a1_1) := (blk_cell BK305.out 1).trans rfl
              have hcz67_2 : wc.cell? ⟨gb305, 2, none⟩ = some (.int .i64 a1_2) := (blk_cell BK305.out 2).trans rfl
              have hfz67_0 := blk_frozen BK305.out 0
              have hfz67_1 := blk_frozen BK305.out 1
              have hfz67_2 := blk_frozen BK305.out 2
              go_wp2_with (first | ((with_reducible refine gate_callee (f := 29) rfl ?_); refine goesL_ (some 26) rfl rfl Tryd.func29 (by kernel_rfl) rfl #[.agg #[.int .i64 a0_0, .int .i64 a0_1, .int .i64 a0_2], .agg #[.int .i64 a1_0, .int .i64 a1_1, .int .i64 a1_2]] rfl (by (try simp only [List.map_toArray, List.map_cons, List.map_nil]); first | done | rfl | (simp only [List.length_drop, List.length_take]; rfl)) ?_; (with_reducible refine (place_Before.calls a0_0 a0_1 a0_2 a1_0 a1_1 a1_2 false _ A44.out).mono ?_); rintro e w68 ⟨rfl, hb⟩; refine ⟨_, rfl, ?_⟩; have n0_ := Aside0.mk (blk_below (g := gb304) (o := .cells #[.int .i64 a0_0, .int .i64 a0_1, .int .i64 a0_2] 23 (0, 0)) (by (with_reducible repeat (first | refine blk_drewN ?_ _ | refine blk_drew ?_ | refine blk_alloc ?_ _)); exact BK304.out) hb); have n1_ := Aside0.mk (blk_below (g := gb305) (o := .cells #[.int .i64 a1_0, .int .i64 a1_1, .int .i64 a1_2] 23 (0, 0)) (by (with_reducible repeat (first | refine blk_drewN ?_ _ | refine blk_drew ?_ | refine blk_alloc ?_ _)); exact BK305.out) hb); have n2_ := Aside0.mk (blk_below (g := gb306) (o := .cells #[.int .i64 a2_0, .int .i64 a2_1, .int .i64 a2_2] 23 (0, 0)) (by (with_reducible repeat (first | refine blk_drewN ?_ _ | refine blk_drew ?_ | refine blk_alloc ?_ _)); exact BK306.out) hb); have n3_ := Aside0.mk (below_step (by repeat (first | (with_reducible first | exact HB.out | apply below_alloc | apply pw_below_drewN | apply below_drew1 | refine below_set ?_ GE304.out | refine below_set ?_ GE305.out | refine below_set ?_ GE306.out) | exact HB.out)) hb); clear BK304; clear BK305; clear BK306; clear HB; have BK304 := n0_; have BK305 := n1_; have BK306 := n2_; have HB := n3_; clear n0_ n1_ n2_ n3_; (try clear hb); (try clear hb2); (try clear hk); (try clear hi); have hcz69_0 : w68.cell? ⟨gb305, 0, none⟩ = some (.int .i64 a1_0) := (blk_cell BK305.out 0).trans rfl; have hcz69_1 : w68.cell? ⟨gb305, 1, none⟩ = some (.int .i64 a1_1) := (blk_cell BK305.out 1).trans rfl; have hcz69_2 : w68.cell? ⟨gb305, 2, none⟩ = some (.int .i64 a1_2) := (blk_cell BK305.out 2).trans rfl; have hfz69_0 := blk_frozen BK305.out 0; have hfz69_1 := blk_frozen BK305.out 1; have hfz69_2 := blk_frozen BK305.out 2; have hcz70_0 : w68.cell? ⟨gb304, 0, none⟩ = some (.int .i64 a0_0) := (blk_cell BK304.out 0).trans rfl; have hcz70_1 : w68.cell? ⟨gb304, 1, none⟩ = some (.int .i64 a0_1) := (blk_cell BK304.out 1).trans rfl; have hcz70_2 : w68.cell? ⟨gb304, 2, none⟩ = some (.int .i64 a0_2) := (blk_cell BK304.out 2).trans rfl; have hfz70_0 := blk_frozen BK304.out 0; have hfz70_1 := blk_frozen BK304.out 1; have hfz70_2 := blk_frozen BK304.out 2) | (go_at_call 29; (with_reducible refine (place_Before.calls a1_0 a1_1 a1_2 a0_0 a0_1 a0_2 false _ A52.out).mono ?_); rintro e w71 ⟨rfl, hb⟩; have n0_ := Aside0.mk (blk_below (g := gb304) (o := .cells #[.int .i64 a0_0, .int .i64 a0_1, .int .i64 a0_2] 23 (0, 0)) (by (with_reducible repeat (first | refine blk_drewN ?_ _ | refine blk_drew ?_ | refine blk_alloc ?_ _)); exact BK304.out) hb); have n1_ := Aside0.mk (blk_below (g := gb305) (o := .cells #[.int .i64 a1_0, .int .i64 a1_1, .int .i64 a1_2] 23 (0, 0)) (by (with_reducible repeat (first | refine blk_drewN ?_ _ | refine blk_drew ?_ | refine blk_alloc ?_ _)); exact BK305.out) hb); have n2_ := Aside0.mk (blk_below (g := gb306) (o := .cells #[.int .i64 a2_0, .int .i64 a2_1, .int .i64 a2_2] 23 (0, 0)) (by (with_reducible repeat (first | refine blk_drewN ?_ _ | refine blk_drew ?_ | refine blk_alloc ?_ _)); exact BK306.out) hb); have n3_ := Aside0.mk (below_step (by repeat (first | (with_reducible first | exact HB.out | apply below_alloc | apply pw_below_drewN | apply below_drew1 | refine below_set ?_ GE304.out | refine below_set ?_ GE305.out | refine below_set ?_ GE306.out) | exact HB.out)) hb); clear BK304; clear BK305; clear BK306; clear HB; have BK304 := n0_; have BK305 := n1_; have BK306 := n2_; have HB := n3_; clear n0_ n1_ n2_ n3_; (try clear hb); (try clear hb2); (try clear hk); (try clear hi); have hcz72_0 : w71.cell? ⟨gb304, 0, none⟩ = some (.int .i64 a0_0) := (blk_cell BK304.out 0).trans rfl; have hcz72_1 : w71.cell? ⟨gb304, 1, none⟩ = some (.int .i64 a0_1) := (blk_cell BK304.out 1).trans rfl; have hcz72_2 : w71.cell? ⟨gb304, 2, none⟩ = some (.int .i64 a0_2) := (blk_cell BK304.out 2).trans rfl; have hfz72_0 := blk_frozen BK304.out 0; have hfz72_1 := blk_frozen BK304.out 1; have hfz72_2 := blk_frozen BK304.out 2; have hcz73_0 : w71.cell? ⟨gb305, 0, none⟩ = some (.int .i64 a1_0) := (blk_cell BK305.out 0).trans rfl; have hcz73_1 : w71.cell? ⟨gb305, 1, none⟩ = some (.int .i64 a1_1) := (blk_cell BK305.out 1).trans rfl; have hcz73_2 : w71.cell? ⟨gb305, 2, none⟩ = some (.int .i64 a1_2) := (blk_cell BK305.out 2).trans rfl; have hfz73_0 := blk_frozen BK305.out 0; have hfz73_1 := blk_frozen BK305.out 1; have hfz73_2 := blk_frozen BK305.out 2))
              go_meet
              case rel => exact ⟨_, ((!(a0_0 == a1_0) || (!(a0_1 == a1_1) || (!(a0_2 == a1_2))))), (by first | rfl | (simp; done) | (simp [*]; done)), H', ⟨by have := HJ3.out; first | omega | exact Nat.le_refl _⟩, ⟨by (with_reducible repeat (first | refine blk_drewN ?_ _ | refine blk_drew ?_ | refine blk_alloc ?_ _)); exact BK304.out⟩, ⟨by (with_reducible repeat (first | refine blk_drewN ?_ _ | refine blk_drew ?_ | refine blk_alloc ?_ _)); exact BK305.out⟩, ⟨by (with_reducible repeat (first | refine blk_drewN ?_ _ | refine blk_drew ?_ | refine blk_alloc ?_ _)); exact BK306.out⟩, ⟨by repeat (first | (with_reducible first | exact HB.out | apply below_alloc | apply pw_below_drewN | apply below_drew1 | refine below_set ?_ GE304.out | refine below_set ?_ GE305.out | refine below_set ?_ GE306.out) | exact HB.out)⟩⟩
        case rest =>
          clear HC43
          try clear c1
          try clear c2
          try clear p2
          try clear c3
          try clear c4
          try clear c5
          try clear c6
          try clear c9
          try clear c11
          try clear c13
          try clear c14
          try clear c16
          try clear c18
          try clear c21
          try clear c22
          try clear c26
          try clear c29
          try clear c33
          try clear c34
          try clear c38
          try clear c42
          try clear c45
          try clear c46
          try clear c47
          try clear c49
          try clear c53
          try clear c54
          try clear c55
          try clear c57
          try clear c63
          try clear c64
          try clear c66
          try clear hcz15_0
          try clear hcz15_1
          try clear hcz15_2
          try clear hcz23_0
          try clear hcz23_1
          try clear hcz23_2
          try clear hcz25_0
          try clear hcz25_1
          try clear hcz25_2
          try clear hcz27_0
          try clear hcz27_1
          try clear hcz27_2
          try clear hcz29_0
          try clear hcz29_1
          try clear hcz29_2
          try clear hcz30_0
          try clear hcz30_1
          try clear hcz30_2
          try clear hcz35_0
          try clear hcz35_1
          try clear hcz35_2
          try clear hcz37_0
          try clear hcz37_1
          try clear hcz37_2
          try clear hcz39_0
          try clear hcz39_1
          try clear hcz39_2
          try clear hcz48_0
          try clear hcz48_1
          try clear hcz48_2
          try clear hcz50_0
          try clear hcz50_1
          try clear hcz50_2
          try clear hcz56_0
          try clear hcz56_1
          try clear hcz56_2
          try clear hcz58_0
          try clear hcz58_1
          try clear hcz58_2
          try clear hcz60_0
          try clear hcz60_1
          try clear hcz60_2
          try clear hcz61_0
          try clear hcz61_1
          try clear hcz61_2
          try clear hcz65_0
          try clear hcz65_1
          try clear hcz65_2
          try clear hcz67_0
          try clear hcz67_1
          try clear hcz67_2
          try clear hcz69_0
          try clear hcz69_1
          try clear hcz69_2
          try clear hcz70_0
          try clear hcz70_1
          try clear hcz70_2
          try clear hcz72_0
          try clear hcz72_1
          try clear hcz72_2
          try clear hcz73_0
          try clear hcz73_1
          try clear hcz73_2
          try clear hfz15_0
          try clear hfz15_1
          try clear hfz15_2
          try clear hfz23_0
          try clear hfz23_1
          try clear hfz23_2
          try clear hfz25_0
          try clear hfz25_1
          try clear hfz25_2
          try clear hfz27_0
          try clear hfz27_1
          try clear hfz27_2
          try clear hfz29_0
          try clear hfz29_1
          try clear hfz29_2
          try clear hfz30_0
          try clear hfz30_1
          try clear hfz30_2
          try clear hfz35_0
          try clear hfz35_1
          try clear hfz35_2
          try clear hfz37_0
          try clear hfz37_1
          try clear hfz37_2
          try clear hfz39_0
          try clear hfz39_1
          try clear hfz39_2
          try clear hfz48_0
          try clear hfz48_1
          try clear hfz48_2
          try clear hfz50_0
          try clear hfz50_1
          try clear hfz50_2
          try clear hfz56_0
          try clear hfz56_1
          try clear hfz56_2
          try clear hfz58_0
          try clear hfz58_1
          try clear hfz58_2
          try clear hfz60_0
          try clear hfz60_1
          try clear hfz60_2
          try clear hfz61_0
          try clear hfz61_1
          try clear hfz61_2
          try clear hfz65_0
          try clear hfz65_1
          try clear hfz65_2
          try clear hfz67_0
          try clear hfz67_1
          try clear hfz67_2
          try clear hfz69_0
          try clear hfz69_1
          try clear hfz69_2
          try clear hfz70_0
          try clear hfz70_1
          try clear hfz70_2
          try clear hfz72_0
          try clear hfz72_1
          try clear hfz72_2
          try clear hfz73_0
          try clear hfz73_1
          try clear hfz73_2
          try clear p2
          obtain ⟨kq, x38_42, rfl, HA, HJ42, BK304, BK305, BK306, HB⟩ := hcut
          cases kq with
          | zero => exact absurd HA.out (by simp [whittlelaw3_PlaceOrder.j1])
          | succ kj42 =>
            have H := HA.out
            clear HA
            simp only [whittlelaw3_PlaceOrder.j1] at H
            by_cases c74 : x38_42 = true
            · subst c74
              have H1 : (some false) = some r := by rw [if_pos rfl] at H; exact H
              clear H
              have H := H1
              clear H1
              obtain rfl := Option.some.inj H
              go_wp2
              go_ret
              exact ⟨by first | rfl | (simp [errW_none, errW_some] <;> rfl) | (simp [*, errW_none, errW_some] <;> rfl), by repeat (first | (with_reducible first | exact HB.out | apply below_alloc | apply pw_below_drewN | apply below_drew1 | refine below_set ?_ GE304.out | refine below_set ?_ GE305.out | refine below_set ?_ GE306.out) | exact HB.out)⟩
            · replace c74 := Bool.eq_false_iff.mpr c74
              subst c74
              have H1 : ((place_Before.f a0_0 a0_1 a0_2 a1_0 a1_1 a1_2).bind fun t313 => (if t313 = true then ((place_Before.f a1_0 a1_1 a1_2 a2_0 a2_1 a2_2).bind fun t314 => (if t314 = true then ((place_Before.f a0_0 a0_1 a0_2 a2_0 a2_1 a2_2).bind fun t315 => (some t315)) else (some true))) else (some true))) = some r := by rw [if_neg (show ¬ (false = true) by decide)] at H; exact H
              clear H
              have H := H1
              clear H1
              replace H := Option.bind_eq_some_iff.mp H
              obtain ⟨t313, A750, H⟩ := H
              replace H : (if t313 = true then ((place_Before.f a1_0 a1_1 a1_2 a2_0 a2_1 a2_2).bind fun t314 => (if t314 = true then ((place_Before.f a0_0 a0_1 a0_2 a2_0 a2_1 a2_2).bind fun t315 => (some t315)) else (some true))) else (some true)) = some r := H
              have A75 := Aside0.mk A750
              clear A750
              by_cases c76 : t313 = true
              · subst c76
                have H1 : ((place_Before.f a1_0 a1_1 a1_2 a2_0 a2_1 a2_2).bind fun t314 => (if t314 = true then ((place_Before.f a0_0 a0_1 a0_2 a2_0 a2_1 a2_2).bind fun t315 => (some t315)) else (some true))) = some r := by rw [if_pos rfl] at H; exact H
                clear H
                have H := H1
                clear H1
                replace H := Option.bind_eq_some_iff.mp H
                obtain ⟨t314, A770, H⟩ := H
                replace H : (if t314 = true then ((place_Before.f a0_0 a0_1 a0_2 a2_0 a2_1 a2_2).bind fun t315 => (some t315)) else (some true)) = some r := H
                have A77 := Aside0.mk A770
                clear A770
                by_cases c78 : t314 = true
                · subst c78
                  have H1 : ((place_Before.f a0_0 a0_1 a0_2 a2_0 a2_1 a2_2).bind fun t315 => (some t315)) = some r := by rw [if_pos rfl] at H; exact H
                  clear H
                  have H := H1
                  clear H1
                  replace H := Option.bind_eq_some_iff.mp H
                  obtain ⟨t315, A790, H⟩ := H
                  replace H : (some t315) = some r := H
                  have A79 := Aside0.mk A790
                  clear A790
                  obtain rfl := Option.some.inj H
                  have hnb80 := NB304_305.out
                  have hnc80 := NB305_304.out
                  have hnb81 := NB304_306.out
                  have hnc81 := NB306_304.out
                  have hcz82_0 : wc.cell? ⟨gb304, 0, none⟩ = some (.int .i64 a0_0) := (blk_cell BK304.out 0).trans rfl
                  have hcz82_1 : wc.cell? ⟨gb304, 1, none⟩ = some (.int .i64 a0_1) := (blk_cell BK304.out 1).trans rfl
                  have hcz82_2 : wc.cell? ⟨gb304, 2, none⟩ = some (.int .i64 a0_2) := (blk_cell BK304.out 2).trans rfl
                  have hfz82_0 := blk_frozen BK304.out 0
                  have hfz82_1 := blk_frozen BK304.out 1
                  have hfz82_2 := blk_frozen BK304.out 2
                  have hnb83 := NB305_306.out
                  have hnc83 := NB306_305.out
                  have hcz84_0 : wc.cell? ⟨gb305, 0, none⟩ = some (.int .i64 a1_0) := (blk_cell BK305.out 0).trans rfl
                  have hcz84_1 : wc.cell? ⟨gb305, 1, none⟩ = some (.int .i64 a1_1) := (blk_cell BK305.out 1).trans rfl
                  have hcz84_2 : wc.cell? ⟨gb305, 2, none⟩ = some (.int .i64 a1_2) := (blk_cell BK305.out 2).trans rfl
                  have hfz84_0 := blk_frozen BK305.out 0
                  have hfz84_1 := blk_frozen BK305.out 1
                  have hfz84_2 := blk_frozen BK305.out 2
                  go_wp2_with (first | ((with_reducible refine gate_callee (f := 29) rfl ?_); refine goesL_ (some 41) rfl rfl Tryd.func29 (by kernel_rfl) rfl #[.agg #[.int .i64 a0_0, .int .i64 a0_1, .int .i64 a0_2], .agg #[.int .i64 a1_0, .int .i64 a1_1, .int .i64 a1_2]] rfl (by (try simp only [List.map_toArray, List.map_cons, List.map_nil]); first | done | rfl | (simp only [List.length_drop, List.length_take]; rfl)) ?_; (with_reducible refine (place_Before.calls a0_0 a0_1 a0_2 a1_0 a1_1 a1_2 true _ A75.out).mono ?_); rintro e w85 ⟨rfl, hb⟩; refine ⟨_, rfl, ?_⟩; have n0_ := Aside0.mk (blk_below (g := gb304) (o := .cells #[.int .i64 a0_0, .int .i64 a0_1, .int .i64 a0_2] 23 (0, 0)) (by (with_reducible repeat (first | refine blk_drewN ?_ _ | refine blk_drew ?_ | refine blk_alloc ?_ _)); exact BK304.out) hb); have n1_ := Aside0.mk (blk_below (g := gb305) (o := .cells #[.int .i64 a1_0, .int .i64 a1_1, .int .i64 a1_2] 23 (0, 0)) (by (with_reducible repeat (first | refine blk_drewN ?_ _ | refine blk_drew ?_ | refine blk_alloc ?_ _)); exact BK305.out) hb); have n2_ := Aside0.mk (blk_below (g := gb306) (o := .cells #[.int .i64 a2_0, .int .i64 a2_1, .int .i64 a2_2] 23 (0, 0)) (by (with_reducible repeat (first | refine blk_drewN ?_ _ | refine blk_drew ?_ | refine blk_alloc ?_ _)); exact BK306.out) hb); have n3_ := Aside0.mk (below_step (by repeat (first | (with_reducible first | exact HB.out | apply below_alloc | apply pw_below_drewN | apply below_drew1 | refine below_set ?_ GE304.out | refine below_set ?_ GE305.out | refine below_set ?_ GE306.out) | exact HB.out)) hb); clear BK304; clear BK305; clear BK306; clear HB; have BK304 := n0_; have BK305 := n1_; have BK306 := n2_; have HB := n3_; clear n0_ n1_ n2_ n3_; (try clear hb); (try clear hb2); (try clear hk); (try clear hi); have hcz86_0 : w85.cell? ⟨gb305, 0, none⟩ = some (.int .i64 a1_0) := (blk_cell BK305.out 0).trans rfl; have hcz86_1 : w85.cell? ⟨gb305, 1, none⟩ = some (.int .i64 a1_1) := (blk_cell BK305.out 1).trans rfl; have hcz86_2 : w85.cell? ⟨gb305, 2, none⟩ = some (.int .i64 a1_2) := (blk_cell BK305.out 2).trans rfl; have hfz86_0 := blk_frozen BK305.out 0; have hfz86_1 := blk_frozen BK305.out 1; have hfz86_2 := blk_frozen BK305.out 2; have hcz87_0 : w85.cell? ⟨gb306, 0, none⟩ = some (.int .i64 a2_0) := (blk_cell BK306.out 0).trans rfl; have hcz87_1 : w85.cell? ⟨gb306, 1, none⟩ = some (.int .i64 a2_1) := (blk_cell BK306.out 1).trans rfl; have hcz87_2 : w85.cell? ⟨gb306, 2, none⟩ = some (.int .i64 a2_2) := (blk_cell BK306.out 2).trans rfl; have hfz87_0 := blk_frozen BK306.out 0; have hfz87_1 := blk_frozen BK306.out 1; have hfz87_2 := blk_frozen BK306.out 2) | (go_at_call 29; (with_reducible refine (place_Before.calls a1_0 a1_1 a1_2 a2_0 a2_1 a2_2 true _ A77.out).mono ?_); rintro e w88 ⟨rfl, hb⟩; have n0_ := Aside0.mk (blk_below (g := gb304) (o := .cells #[.int .i64 a0_0, .int .i64 a0_1, .int .i64 a0_2] 23 (0, 0)) (by (with_reducible repeat (first | refine blk_drewN ?_ _ | refine blk_drew ?_ | refine blk_alloc ?_ _)); exact BK304.out) hb); have n1_ := Aside0.mk (blk_below (g := gb305) (o := .cells #[.int .i64 a1_0, .int .i64 a1_1, .int .i64 a1_2] 23 (0, 0)) (by (with_reducible repeat (first | refine blk_drewN ?_ _ | refine blk_drew ?_ | refine blk_alloc ?_ _)); exact BK305.out) hb); have n2_ := Aside0.mk (blk_below (g := gb306) (o := .cells #[.int .i64 a2_0, .int .i64 a2_1, .int .i64 a2_2] 23 (0, 0)) (by (with_reducible repeat (first | refine blk_drewN ?_ _ | refine blk_drew ?_ | refine blk_alloc ?_ _)); exact BK306.out) hb); have n3_ := Aside0.mk (below_step (by repeat (first | (with_reducible first | exact HB.out | apply below_alloc | apply pw_below_drewN | apply below_drew1 | refine below_set ?_ GE304.out | refine below_set ?_ GE305.out | refine below_set ?_ GE306.out) | exact HB.out)) hb); clear BK304; clear BK305; clear BK306; clear HB; have BK304 := n0_; have BK305 := n1_; have BK306 := n2_; have HB := n3_; clear n0_ n1_ n2_ n3_; (try clear hb); (try clear hb2); (try clear hk); (try clear hi); have hcz89_0 : w88.cell? ⟨gb304, 0, none⟩ = some (.int .i64 a0_0) := (blk_cell BK304.out 0).trans rfl; have hcz89_1 : w88.cell? ⟨gb304, 1, none⟩ = some (.int .i64 a0_1) := (blk_cell BK304.out 1).trans rfl; have hcz89_2 : w88.cell? ⟨gb304, 2, none⟩ = some (.int .i64 a0_2) := (blk_cell BK304.out 2).trans rfl; have hfz89_0 := blk_frozen BK304.out 0; have hfz89_1 := blk_frozen BK304.out 1; have hfz89_2 := blk_frozen BK304.out 2; have hcz90_0 : w88.cell? ⟨gb306, 0, none⟩ = some (.int .i64 a2_0) := (blk_cell BK306.out 0).trans rfl; have hcz90_1 : w88.cell? ⟨gb306, 1, none⟩ = some (.int .i64 a2_1) := (blk_cell BK306.out 1).trans rfl; have hcz90_2 : w88.cell? ⟨gb306, 2, none⟩ = some (.int .i64 a2_2) := (blk_cell BK306.out 2).trans rfl; have hfz90_0 := blk_frozen BK306.out 0; have hfz90_1 := blk_frozen BK306.out 1; have hfz90_2 := blk_frozen BK306.out 2) | (go_at_call 29; (with_reducible refine (place_Before.calls a0_0 a0_1 a0_2 a2_0 a2_1 a2_2 t315 _ A79.out).mono ?_); rintro e w91 ⟨rfl, hb⟩; have n0_ := Aside0.mk (blk_below (g := gb304) (o := .cells #[.int .i64 a0_0, .int .i64 a0_1, .int .i64 a0_2] 23 (0, 0)) (by (with_reducible repeat (first | refine blk_drewN ?_ _ | refine blk_drew ?_ | refine blk_alloc ?_ _)); exact BK304.out) hb); have n1_ := Aside0.mk (blk_below (g := gb305) (o := .cells #[.int .i64 a1_0, .int .i64 a1_1, .int .i64 a1_2] 23 (0, 0)) (by (with_reducible repeat (first | refine blk_drewN ?_ _ | refine blk_drew ?_ | refine blk_alloc ?_ _)); exact BK305.out) hb); have n2_ := Aside0.mk (blk_below (g := gb306) (o := .cells #[.int .i64 a2_0, .int .i64 a2_1, .int .i64 a2_2] 23 (0, 0)) (by (with_reducible repeat (first | refine blk_drewN ?_ _ | refine blk_drew ?_ | refine blk_alloc ?_ _)); exact BK306.out) hb); have n3_ := Aside0.mk (below_step (by repeat (first | (with_reducible first | exact HB.out | apply below_alloc | apply pw_below_drewN | apply below_drew1 | refine below_set ?_ GE304.out | refine below_set ?_ GE305.out | refine below_set ?_ GE306.out) | exact HB.out)) hb); clear BK304; clear BK305; clear BK306; clear HB; have BK304 := n0_; have BK305 := n1_; have BK306 := n2_; have HB := n3_; clear n0_ n1_ n2_ n3_; (try clear hb); (try clear hb2); (try clear hk); (try clear hi)))
                  go_ret
                  exact ⟨by first | rfl | (simp [errW_none, errW_some] <;> rfl) | (simp [*, errW_none, errW_some] <;> rfl), by repeat (first | (with_reducible first | exact HB.out | apply below_alloc | apply pw_below_drewN | apply below_drew1 | refine below_set ?_ GE304.out | refine below_set ?_ GE305.out | refine below_set ?_ GE306.out) | exact HB.out)⟩
                · replace c78 := Bool.eq_false_iff.mpr c78
                  subst c78
                  have H1 : (some true) = some r := by rw [if_neg (show ¬ (false = true) by decide)] at H; exact H
                  clear H
                  have H := H1
                  clear H1
                  obtain rfl := Option.some.inj H
                  have hnb92 := NB304_305.out
                  have hnc92 := NB305_304.out
                  have hnb93 := NB304_306.out
                  have hnc93 := NB306_304.out
                  have hcz94_0 : wc.cell? ⟨gb304, 0, none⟩ = some (.int .i64 a0_0) := (blk_cell BK304.out 0).trans rfl
                  have hcz94_1 : wc.cell? ⟨gb304, 1, none⟩ = some (.int .i64 a0_1) := (blk_cell BK304.out 1).trans rfl
                  have hcz94_2 : wc.cell? ⟨gb304, 2, none⟩ = some (.int .i64 a0_2) := (blk_cell BK304.out 2).trans rfl
                  have hfz94_0 := blk_frozen BK304.out 0
                  have hfz94_1 := blk_frozen BK304.out 1
                  have hfz94_2 := blk_frozen BK304.out 2
                  have hnb95 := NB305_306.out
                  have hnc95 := NB306_305.out
                  have hcz96_0 : wc.cell? ⟨gb305, 0, none⟩ = some (.int .i64 a1_0) := (blk_cell BK305.out 0).trans rfl
                  have hcz96_1 : wc.cell? ⟨gb305, 1, none⟩ = some (.int .i64 a1_1) := (blk_cell BK305.out 1).trans rfl
                  have hcz96_2 : wc.cell? ⟨gb305, 2, none⟩ = some (.int .i64 a1_2) := (blk_cell BK305.out 2).trans rfl
                  have hfz96_0 := blk_frozen BK305.out 0
                  have hfz96_1 := blk_frozen BK305.out 1
                  have hfz96_2 := blk_frozen BK305.out 2
                  go_wp2_with (first | ((with_reducible refine gate_callee (f := 29) rfl ?_); refine goesL_ (some 41) rfl rfl Tryd.func29 (by kernel_rfl) rfl #[.agg #[.int .i64 a0_0, .int .i64 a0_1, .int .i64 a0_2], .agg #[.int .i64 a1_0, .int .i64 a1_1, .int .i64 a1_2]] rfl (by (try simp only [List.map_toArray, List.map_cons, List.map_nil]); first | done | rfl | (simp only [List.length_drop, List.length_take]; rfl)) ?_; (with_reducible refine (place_Before.calls a0_0 a0_1 a0_2 a1_0 a1_1 a1_2 true _ A75.out).mono ?_); rintro e w97 ⟨rfl, hb⟩; refine ⟨_, rfl, ?_⟩; have n0_ := Aside0.mk (blk_below (g := gb304) (o := .cells #[.int .i64 a0_0, .int .i64 a0_1, .int .i64 a0_2] 23 (0, 0)) (by (with_reducible repeat (first | refine blk_drewN ?_ _ | refine blk_drew ?_ | refine blk_alloc ?_ _)); exact BK304.out) hb); have n1_ := Aside0.mk (blk_below (g := gb305) (o := .cells #[.int .i64 a1_0, .int .i64 a1_1, .int .i64 a1_2] 23 (0, 0)) (by (with_reducible repeat (first | refine blk_drewN ?_ _ | refine blk_drew ?_ | refine blk_alloc ?_ _)); exact BK305.out) hb); have n2_ := Aside0.mk (blk_below (g := gb306) (o := .cells #[.int .i64 a2_0, .int .i64 a2_1, .int .i64 a2_2] 23 (0, 0)) (by (with_reducible repeat (first | refine blk_drewN ?_ _ | refine blk_drew ?_ | refine blk_alloc ?_ _)); exact BK306.out) hb); have n3_ := Aside0.mk (below_step (by repeat (first | (with_reducible first | exact HB.out | apply below_alloc | apply pw_below_drewN | apply below_drew1 | refine below_set ?_ GE304.out | refine below_set ?_ GE305.out | refine below_set ?_ GE306.out) | exact HB.out)) hb); clear BK304; clear BK305; clear BK306; clear HB; have BK304 := n0_; have BK305 := n1_; have BK306 := n2_; have HB := n3_; clear n0_ n1_ n2_ n3_; (try clear hb); (try clear hb2); (try clear hk); (try clear hi); have hcz98_0 : w97.cell? ⟨gb305, 0, none⟩ = some (.int .i64 a1_0) := (blk_cell BK305.out 0).trans rfl; have hcz98_1 : w97.cell? ⟨gb305, 1, none⟩ = some (.int .i64 a1_1) := (blk_cell BK305.out 1).trans rfl; have hcz98_2 : w97.cell? ⟨gb305, 2, none⟩ = some (.int .i64 a1_2) := (blk_cell BK305.out 2).trans rfl; have hfz98_0 := blk_frozen BK305.out 0; have hfz98_1 := blk_frozen BK305.out 1; have hfz98_2 := blk_frozen BK305.out 2; have hcz99_0 : w97.cell? ⟨gb306, 0, none⟩ = some (.int .i64 a2_0) := (blk_cell BK306.out 0).trans rfl; have hcz99_1 : w97.cell? ⟨gb306, 1, none⟩ = some (.int .i64 a2_1) := (blk_cell BK306.out 1).trans rfl; have hcz99_2 : w97.cell? ⟨gb306, 2, none⟩ = some (.int .i64 a2_2) := (blk_cell BK306.out 2).trans rfl; have hfz99_0 := blk_frozen BK306.out 0; have hfz99_1 := blk_frozen BK306.out 1; have hfz99_2 := blk_frozen BK306.out 2) | (go_at_call 29; (with_reducible refine (place_Before.calls a1_0 a1_1 a1_2 a2_0 a2_1 a2_2 false _ A77.out).mono ?_); rintro e w100 ⟨rfl, hb⟩; have n0_ := Aside0.mk (blk_below (g := gb304) (o := .cells #[.int .i64 a0_0, .int .i64 a0_1, .int .i64 a0_2] 23 (0, 0)) (by (with_reducible repeat (first | refine blk_drewN ?_ _ | refine blk_drew ?_ | refine blk_alloc ?_ _)); exact BK304.out) hb); have n1_ := Aside0.mk (blk_below (g := gb305) (o := .cells #[.int .i64 a1_0, .int .i64 a1_1, .int .i64 a1_2] 23 (0, 0)) (by (with_reducible repeat (first | refine blk_drewN ?_ _ | refine blk_drew ?_ | refine blk_alloc ?_ _)); exact BK305.out) hb); have n2_ := Aside0.mk (blk_below (g := gb306) (o := .cells #[.int .i64 a2_0, .int .i64 a2_1, .int .i64 a2_2] 23 (0, 0)) (by (with_reducible repeat (first | refine blk_drewN ?_ _ | refine blk_drew ?_ | refine blk_alloc ?_ _)); exact BK306.out) hb); have n3_ := Aside0.mk (below_step (by repeat (first | (with_reducible first | exact HB.out | apply below_alloc | apply pw_below_drewN | apply below_drew1 | refine below_set ?_ GE304.out | refine below_set ?_ GE305.out | refine below_set ?_ GE306.out) | exact HB.out)) hb); clear BK304; clear BK305; clear BK306; clear HB; have BK304 := n0_; have BK305 := n1_; have BK306 := n2_; have HB := n3_; clear n0_ n1_ n2_ n3_; (try clear hb); (try clear hb2); (try clear hk); (try clear hi)))
                  go_ret
                  exact ⟨by first | rfl | (simp [errW_none, errW_some] <;> rfl) | (simp [*, errW_none, errW_some] <;> rfl), by repeat (first | (with_reducible first | exact HB.out | apply below_alloc | apply pw_below_drewN | apply below_drew1 | refine below_set ?_ GE304.out | refine below_set ?_ GE305.out | refine below_set ?_ GE306.out) | exact HB.out)⟩
              · replace c76 := Bool.eq_false_iff.mpr c76
                subst c76
                have H1 : (some true) = some r := by rw [if_neg (show ¬ (false = true) by decide)] at H; exact H
                clear H
                have H := H1
                clear H1
                obtain rfl := Option.some.inj H
                have hnb101 := NB304_305.out
                have hnc101 := NB305_304.out
                have hnb102 := NB304_306.out
                have hnc102 := NB306_304.out
                have hcz103_0 : wc.cell? ⟨gb304, 0, none⟩ = some (.int .i64 a0_0) := (blk_cell BK304.out 0).trans rfl
                have hcz103_1 : wc.cell? ⟨gb304, 1, none⟩ = some (.int .i64 a0_1) := (blk_cell BK304.out 1).trans rfl
                have hcz103_2 : wc.cell? ⟨gb304, 2, none⟩ = some (.int .i64 a0_2) := (blk_cell BK304.out 2).trans rfl
                have hfz103_0 := blk_frozen BK304.out 0
                have hfz103_1 := blk_frozen BK304.out 1
                have hfz103_2 := blk_frozen BK304.out 2
                have hnb104 := NB305_306.out
                have hnc104 := NB306_305.out
                have hcz105_0 : wc.cell? ⟨gb305, 0, none⟩ = some (.int .i64 a1_0) := (blk_cell BK305.out 0).trans rfl
                have hcz105_1 : wc.cell? ⟨gb305, 1, none⟩ = some (.int .i64 a1_1) := (blk_cell BK305.out 1).trans rfl
                have hcz105_2 : wc.cell? ⟨gb305, 2, none⟩ = some (.int .i64 a1_2) := (blk_cell BK305.out 2).trans rfl
                have hfz105_0 := blk_frozen BK305.out 0
                have hfz105_1 := blk_frozen BK305.out 1
                have hfz105_2 := blk_frozen BK305.out 2
                go_wp2_with (first | ((with_reducible refine gate_callee (f := 29) rfl ?_); refine goesL_ (some 41) rfl rfl Tryd.func29 (by kernel_rfl) rfl #[.agg #[.int .i64 a0_0, .int .i64 a0_1, .int .i64 a0_2], .agg #[.int .i64 a1_0, .int .i64 a1_1, .int .i64 a1_2]] rfl (by (try simp only [List.map_toArray, List.map_cons, List.map_nil]); first | done | rfl | (simp only [List.length_drop, List.length_take]; rfl)) ?_; (with_reducible refine (place_Before.calls a0_0 a0_1 a0_2 a1_0 a1_1 a1_2 false _ A75.out).mono ?_); rintro e w106 ⟨rfl, hb⟩; refine ⟨_, rfl, ?_⟩; have n0_ := Aside0.mk (blk_below (g := gb304) (o := .cells #[.int .i64 a0_0, .int .i64 a0_1, .int .i64 a0_2] 23 (0, 0)) (by (with_reducible repeat (first | refine blk_drewN ?_ _ | refine blk_drew ?_ | refine blk_alloc ?_ _)); exact BK304.out) hb); have n1_ := Aside0.mk (blk_below (g := gb305) (o := .cells #[.int .i64 a1_0, .int .i64 a1_1, .int .i64 a1_2] 23 (0, 0)) (by (with_reducible repeat (first | refine blk_drewN ?_ _ | refine blk_drew ?_ | refine blk_alloc ?_ _)); exact BK305.out) hb); have n2_ := Aside0.mk (blk_below (g := gb306) (o := .cells #[.int .i64 a2_0, .int .i64 a2_1, .int .i64 a2_2] 23 (0, 0)) (by (with_reducible repeat (first | refine blk_drewN ?_ _ | refine blk_drew ?_ | refine blk_alloc ?_ _)); exact BK306.out) hb); have n3_ := Aside0.mk (below_step (by repeat (first | (with_reducible first | exact HB.out | apply below_alloc | apply pw_below_drewN | apply below_drew1 | refine below_set ?_ GE304.out | refine below_set ?_ GE305.out | refine below_set ?_ GE306.out) | exact HB.out)) hb); clear BK304; clear BK305; clear BK306; clear HB; have BK304 := n0_; have BK305 := n1_; have BK306 := n2_; have HB := n3_; clear n0_ n1_ n2_ n3_; (try clear hb); (try clear hb2); (try clear hk); (try clear hi)))
                go_ret
                exact ⟨by first | rfl | (simp [errW_none, errW_some] <;> rfl) | (simp [*, errW_none, errW_some] <;> rfl), by repeat (first | (with_reducible first | exact HB.out | apply below_alloc | apply pw_below_drewN | apply below_drew1 | refine below_set ?_ GE304.out | refine below_set ?_ GE305.out | refine below_set ?_ GE306.out) | exact HB.out)⟩

end Go.Proofs.YtijmipnafhljkaaDoor.P
