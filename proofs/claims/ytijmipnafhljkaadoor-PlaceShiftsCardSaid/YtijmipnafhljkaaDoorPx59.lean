-- Written by a program of this session (it drives the kit's print.py, with the contracts of some functions given by hand). Not trusted: Lean checks it.
import Derived.Test.YtijmipnafhljkaaDoorPx0
import Derived.Test.YtijmipnafhljkaaDoorPx41
namespace Go.Proofs.YtijmipnafhljkaaDoor.P
open Go.RowKit Go.Proofs.YtijmipnafhljkaaDoorW.PrintWords Go.Proofs.YtijmipnafhljkaaDoorW.PrintLast Go.Proofs.YtijmipnafhljkaaDoorW.PrintMore
attribute [local go_sem] max2_int min2_int max_two min_two max_three min_three max_four min_four   -- for this text's walks alone
set_option linter.unusedVariables false
set_option linter.unusedSimpArgs false

/-! ### whittleref3_Shift: function 33 -/
def whittleref3_Shift.j0 : Nat → Int → Int → Bool → Int → Int → Int → Option (Int × Int × Int × Bool)
  | 0, _, _, _, _, _, _ => none
  | k + 1, x1, x2, x28, x401000, x401001, x401002 => if x28 = true then (some (0, 0, 0, false)) else ((whittleref3_Right.f x401000 (wrap64 (x401001 + x1)) (wrap64 (x401002 + x2))).bind fun t403 => (if t403 = true then (some (x401000, wrap64 (x401001 + x1), wrap64 (x401002 + x2), true)) else (some (0, 0, 0, false))))
def whittleref3_Shift.f (k : Nat) (a0_0 : Int) (a0_1 : Int) (a0_2 : Int) (a1 : Int) (a2 : Int) : Option (Int × Int × Int × Bool) := (whittleref3_Right.f a0_0 a0_1 a0_2).bind fun t402 => (if t402 = true then (if a1 < (-65536) then (whittleref3_Shift.j0 k a1 a2 true a0_0 a0_1 a0_2) else (if a1 > 65536 then (whittleref3_Shift.j0 k a1 a2 true a0_0 a0_1 a0_2) else (if a2 < (-256) then (whittleref3_Shift.j0 k a1 a2 true a0_0 a0_1 a0_2) else (whittleref3_Shift.j0 k a1 a2 (decide (a2 > 256)) a0_0 a0_1 a0_2)))) else (whittleref3_Shift.j0 k a1 a2 true a0_0 a0_1 a0_2))
theorem whittleref3_Shift.mono_l : ∀ k, (∀ y0 y1 y2 y3 y4 y5, LeO (whittleref3_Shift.j0 k y0 y1 y2 y3 y4 y5) (whittleref3_Shift.j0 (k + 1) y0 y1 y2 y3 y4 y5))
  | 0 => fun _ _ _ _ _ _ r h => by simp [whittleref3_Shift.j0] at h
  | k + 1 => by
    have ih0 := whittleref3_Shift.mono_l k
    · intro y0 y1 y2 y3 y4 y5
      unfold whittleref3_Shift.j0
      repeat' first
      | (with_reducible exact ih0 _ _ _ _ _ _)
      | (with_reducible exact LeO.refl _)
      | (with_reducible exact LeO.none _)
      | (with_reducible refine LeO.ite ?_ ?_)
      | (with_reducible refine LeO.bind ?_ (fun _ => ?_))
      | exact ih0 _ _ _ _ _ _
      | exact LeO.none _
      | refine LeO.ite ?_ ?_
      | refine LeO.bind ?_ (fun _ => ?_)
theorem whittleref3_Shift.mono : ∀ a0 a1 a2 a3 a4 k, LeO (whittleref3_Shift.f k a0 a1 a2 a3 a4) (whittleref3_Shift.f (k + 1) a0 a1 a2 a3 a4) := by
  intro a0 a1 a2 a3 a4 k
  have ih0 := whittleref3_Shift.mono_l k
  unfold whittleref3_Shift.f
  repeat' first
      | (with_reducible exact ih0 _ _ _ _ _ _)
      | (with_reducible exact LeO.refl _)
      | (with_reducible exact LeO.none _)
      | (with_reducible refine LeO.ite ?_ ?_)
      | (with_reducible refine LeO.bind ?_ (fun _ => ?_))
      | exact ih0 _ _ _ _ _ _
      | exact LeO.none _
      | refine LeO.ite ?_ ?_
      | refine LeO.bind ?_ (fun _ => ?_)
set_option maxHeartbeats 8000000 in
set_option maxRecDepth 100000 in
theorem whittleref3_Shift.calls (k : Nat) (a0_0 : Int) (a0_1 : Int) (a0_2 : Int) (a1 : Int) (a2 : Int) (r1 : Int) (r2 : Int) (r3 : Int) (r4 : Bool) (w : World) (h : whittleref3_Shift.f k a0_0 a0_1 a0_2 a1 a2 = some (r1, r2, r3, r4)) :
    Calls Tryd.prog 33 #[.agg #[.int .i64 a0_0, .int .i64 a0_1, .int .i64 a0_2], .int .i64 a1, .int .i64 a2] w fun e w' => e = .returned (.tuple #[.agg #[.int .i64 r1, .int .i64 r2, .int .i64 r3], .bool r4]) ∧ Below w.heap.size w w' := by
  have hu23 := Tryd.underlying23
  have HB := Aside0.mk (Below.refl w.heap.size w)
  have H : ((whittleref3_Right.f a0_0 a0_1 a0_2).bind fun t402 => (if t402 = true then (if a1 < (-65536) then (whittleref3_Shift.j0 k a1 a2 true a0_0 a0_1 a0_2) else (if a1 > 65536 then (whittleref3_Shift.j0 k a1 a2 true a0_0 a0_1 a0_2) else (if a2 < (-256) then (whittleref3_Shift.j0 k a1 a2 true a0_0 a0_1 a0_2) else (whittleref3_Shift.j0 k a1 a2 (decide (a2 > 256)) a0_0 a0_1 a0_2)))) else (whittleref3_Shift.j0 k a1 a2 true a0_0 a0_1 a0_2))) = some (r1, r2, r3, r4) := h
  clear h
  replace H := Option.bind_eq_some_iff.mp H
  obtain ⟨t402, A40, H⟩ := H
  replace H : (if t402 = true then (if a1 < (-65536) then (whittleref3_Shift.j0 k a1 a2 true a0_0 a0_1 a0_2) else (if a1 > 65536 then (whittleref3_Shift.j0 k a1 a2 true a0_0 a0_1 a0_2) else (if a2 < (-256) then (whittleref3_Shift.j0 k a1 a2 true a0_0 a0_1 a0_2) else (whittleref3_Shift.j0 k a1 a2 (decide (a2 > 256)) a0_0 a0_1 a0_2)))) else (whittleref3_Shift.j0 k a1 a2 true a0_0 a0_1 a0_2)) = some (r1, r2, r3, r4) := H
  have A4 := Aside0.mk A40
  clear A40
  have HC5 := Aside0.mk H
  clear H
  go_enter Tryd.func33, Tryd.ntmps33
  go_upto_region 2 with (first | ((with_reducible refine gate_dst (N := 3) rfl ?_); refine box_event ?hg (N := 3) ?hd (cs := #[.int .i64 a0_0, .int .i64 a0_1, .int .i64 a0_2]) (t := 23) ?hr ?_; (case hd => rfl); (case hg => rfl); (case hr => first | (go_simp; done) | (go_simp; rfl)); intro gb400 hg w6 hbox hb; have n0_ := Aside0.mk (below_step (by repeat (first | (with_reducible first | exact HB.out | apply below_alloc | apply pw_below_drewN | apply below_drew1) | exact HB.out)) hb); have n1_ := Aside0.mk (hbox); have n2_ := Aside0.mk ((by rw [hg]; exact (below_size (by repeat (first | (with_reducible first | exact HB.out | apply below_alloc | apply pw_below_drewN | apply below_drew1) | exact HB.out))) : w.heap.size ≤ gb400)); have n3_ := Aside0.mk ((by rw [hg]; exact (below_size (by repeat (first | (with_reducible first | exact HB.out | apply below_alloc | apply pw_below_drewN | apply below_drew1) | exact HB.out))) : w.heap.size ≤ gb400)); clear HB; have HB := n0_; have BK400 := n1_; have GW400 := n2_; have GE400 := n3_; clear n0_ n1_ n2_ n3_; clear hb hbox hg) | ((with_reducible refine gate_dst (N := 6) rfl ?_); refine box_event ?hg (N := 6) ?hd (cs := #[.int .i64 0, .int .i64 0, .int .i64 0]) (t := 23) ?hr ?_; (case hd => rfl); (case hg => rfl); (case hr => first | (go_simp; done) | (go_simp; rfl)); intro gb401 hg w7 hbox hb; have n0_ := Aside0.mk (blk_below (g := gb400) (o := .cells #[.int .i64 a0_0, .int .i64 a0_1, .int .i64 a0_2] 23 (0, 0)) (by (with_reducible repeat (first | refine blk_drewN ?_ _ | refine blk_drew ?_ | refine blk_alloc ?_ _)); exact BK400.out) hb); have n1_ := Aside0.mk (below_step (by repeat (first | (with_reducible first | exact HB.out | apply below_alloc | apply pw_below_drewN | apply below_drew1 | refine below_set ?_ GE400.out) | exact HB.out)) hb); have n2_ := Aside0.mk (hbox); have n3_ := Aside0.mk ((by rw [hg]; exact (below_size (by repeat (first | (with_reducible first | exact HB.out | apply below_alloc | apply pw_below_drewN | apply below_drew1 | refine below_set ?_ GE400.out) | exact HB.out))) : w.heap.size ≤ gb401)); have n4_ := Aside0.mk ((by rw [hg]; exact (below_size (by repeat (first | (with_reducible first | exact HB.out | apply below_alloc | apply pw_below_drewN | apply below_drew1 | refine below_set ?_ GE400.out) | exact HB.out))) : w.heap.size ≤ gb401)); have n5_ := Aside0.mk ((by rw [hg]; exact Nat.ne_of_lt (blk_lt (g := gb400) (o := .cells #[.int .i64 a0_0, .int .i64 a0_1, .int .i64 a0_2] 23 (0, 0)) (by (with_reducible repeat (first | refine blk_drewN ?_ _ | refine blk_drew ?_ | refine blk_alloc ?_ _)); exact BK400.out)) : gb400 ≠ gb401)); have n6_ := Aside0.mk ((by rw [hg]; exact Nat.ne_of_gt (blk_lt (g := gb400) (o := .cells #[.int .i64 a0_0, .int .i64 a0_1, .int .i64 a0_2] 23 (0, 0)) (by (with_reducible repeat (first | refine blk_drewN ?_ _ | refine blk_drew ?_ | refine blk_alloc ?_ _)); exact BK400.out)) : gb401 ≠ gb400)); clear BK400; clear HB; have BK400 := n0_; have HB := n1_; have BK401 := n2_; have GW401 := n3_; have GE401 := n4_; have NB400_401 := n5_; have NB401_400 := n6_; clear n0_ n1_ n2_ n3_ n4_ n5_ n6_; clear hb hbox hg; have hnb8 := NB400_401.out; have hnc8 := NB401_400.out; have hcz9_0 : w7.cell? ⟨gb400, 0, none⟩ = some (.int .i64 a0_0) := (blk_cell BK400.out 0).trans rfl; have hcz9_1 : w7.cell? ⟨gb400, 1, none⟩ = some (.int .i64 a0_1) := (blk_cell BK400.out 1).trans rfl; have hcz9_2 : w7.cell? ⟨gb400, 2, none⟩ = some (.int .i64 a0_2) := (blk_cell BK400.out 2).trans rfl; have hfz9_0 := blk_frozen BK400.out 0; have hfz9_1 := blk_frozen BK400.out 1; have hfz9_2 := blk_frozen BK400.out 2) | ((with_reducible refine gate_callee (f := 18) rfl ?_); refine goesL_ (some 10) rfl rfl Tryd.func18 (by kernel_rfl) rfl #[.agg #[.int .i64 a0_0, .int .i64 a0_1, .int .i64 a0_2]] rfl (by (try simp only [List.map_toArray, List.map_cons, List.map_nil]); first | done | rfl | (simp only [List.length_drop, List.length_take]; rfl)) ?_; (with_reducible refine (whittleref3_Right.calls a0_0 a0_1 a0_2 t402 _ A4.out).mono ?_); rintro e w10 ⟨rfl, hb⟩; refine ⟨_, rfl, ?_⟩; have n0_ := Aside0.mk (blk_below (g := gb400) (o := .cells #[.int .i64 a0_0, .int .i64 a0_1, .int .i64 a0_2] 23 (0, 0)) (by (with_reducible repeat (first | refine blk_drewN ?_ _ | refine blk_drew ?_ | refine blk_alloc ?_ _)); exact BK400.out) hb); have n1_ := Aside0.mk (blk_below (g := gb401) (o := .cells #[.int .i64 0, .int .i64 0, .int .i64 0] 23 (0, 0)) (by (with_reducible repeat (first | refine blk_drewN ?_ _ | refine blk_drew ?_ | refine blk_alloc ?_ _)); exact BK401.out) hb); have n2_ := Aside0.mk (below_step (by repeat (first | (with_reducible first | exact HB.out | apply below_alloc | apply pw_below_drewN | apply below_drew1 | refine below_set ?_ GE400.out | refine below_set ?_ GE401.out) | exact HB.out)) hb); clear BK400; clear BK401; clear HB; have BK400 := n0_; have BK401 := n1_; have HB := n2_; clear n0_ n1_ n2_; (try clear hb); (try clear hb2); (try clear hk); (try clear hi)))
  (try simp only [Act.put, List.setIfInBounds_toArray, List.set_cons_zero, List.set_cons_succ])
  go_cut [28] (fun v28 wc => ∃ (kq : Nat) (x28_4 : Bool), v28 = .bool x28_4 ∧ Aside0 (whittleref3_Shift.j0 kq a1 a2 x28_4 a0_0 a0_1 a0_2 = some (r1, r2, r3, r4)) ∧ Aside0 (kq ≤ k) ∧ Aside0 (wc.heap[gb400]? = some (.cells #[.int .i64 a0_0, .int .i64 a0_1, .int .i64 a0_2] 23 (0, 0))) ∧ Aside0 (wc.heap[gb401]? = some (.cells #[.int .i64 0, .int .i64 0, .int .i64 0] 23 (0, 0))) ∧ Aside0 (Below w.heap.size w wc))
  case first =>
    have H := HC5.out
    clear HC5
    by_cases c11 : t402 = true
    · subst c11
      have H1 : (if a1 < (-65536) then (whittleref3_Shift.j0 k a1 a2 true a0_0 a0_1 a0_2) else (if a1 > 65536 then (whittleref3_Shift.j0 k a1 a2 true a0_0 a0_1 a0_2) else (if a2 < (-256) then (whittleref3_Shift.j0 k a1 a2 true a0_0 a0_1 a0_2) else (whittleref3_Shift.j0 k a1 a2 (decide (a2 > 256)) a0_0 a0_1 a0_2)))) = some (r1, r2, r3, r4) := by rw [if_pos rfl] at H; exact H
      clear H
      have H := H1
      clear H1
      by_cases c12 : a1 < (-65536)
      · rw [if_pos c12] at H
        have c12b0 : decide (a1 < (-65536)) = true := decide_eq_true c12
        clear c12
        (first | rw [c12b0] | (simp only [i64_w, i32_w]; rw [c12b0]) | skip)
        have H' := Aside0.mk H
        clear H
        go_wp2
        go_meet
        case rel => exact ⟨_, (true), (by first | rfl | (simp; done) | (simp [*]; done)), H', ⟨by first | omega | exact Nat.le_refl _⟩, ⟨by (with_reducible repeat (first | refine blk_drewN ?_ _ | refine blk_drew ?_ | refine blk_alloc ?_ _)); exact BK400.out⟩, ⟨by (with_reducible repeat (first | refine blk_drewN ?_ _ | refine blk_drew ?_ | refine blk_alloc ?_ _)); exact BK401.out⟩, ⟨by repeat (first | (with_reducible first | exact HB.out | apply below_alloc | apply pw_below_drewN | apply below_drew1 | refine below_set ?_ GE400.out | refine below_set ?_ GE401.out) | exact HB.out)⟩⟩
      · rw [if_neg c12] at H
        have c12b0 : decide (a1 < (-65536)) = false := decide_eq_false c12
        clear c12
        (first | rw [c12b0] | (simp only [i64_w, i32_w]; rw [c12b0]) | skip)
        by_cases c13 : a1 > 65536
        · rw [if_pos c13] at H
          have c13b0 : decide (65536 < a1) = true := decide_eq_true c13
          clear c13
          have H' := Aside0.mk H
          clear H
          go_wp2
          go_meet
          case rel => exact ⟨_, (true), (by first | rfl | (simp; done) | (simp [*]; done)), H', ⟨by first | omega | exact Nat.le_refl _⟩, ⟨by (with_reducible repeat (first | refine blk_drewN ?_ _ | refine blk_drew ?_ | refine blk_alloc ?_ _)); exact BK400.out⟩, ⟨by (with_reducible repeat (first | refine blk_drewN ?_ _ | refine blk_drew ?_ | refine blk_alloc ?_ _)); exact BK401.out⟩, ⟨by repeat (first | (with_reducible first | exact HB.out | apply below_alloc | apply pw_below_drewN | apply below_drew1 | refine below_set ?_ GE400.out | refine below_set ?_ GE401.out) | exact HB.out)⟩⟩
        · rw [if_neg c13] at H
          have c13b0 : decide (65536 < a1) = false := decide_eq_false c13
          clear c13
          by_cases c14 : a2 < (-256)
          · rw [if_pos c14] at H
            have c14b0 : decide (a2 < (-256)) = true := decide_eq_true c14
            clear c14
            have H' := Aside0.mk H
            clear H
            go_wp2
            go_meet
            case rel => exact ⟨_, (true), (by first | rfl | (simp; done) | (simp [*]; done)), H', ⟨by first | omega | exact Nat.le_refl _⟩, ⟨by (with_reducible repeat (first | refine blk_drewN ?_ _ | refine blk_drew ?_ | refine blk_alloc ?_ _)); exact BK400.out⟩, ⟨by (with_reducible repeat (first | refine blk_drewN ?_ _ | refine blk_drew ?_ | refine blk_alloc ?_ _)); exact BK401.out⟩, ⟨by repeat (first | (with_reducible first | exact HB.out | apply below_alloc | apply pw_below_drewN | apply below_drew1 | refine below_set ?_ GE400.out | refine below_set ?_ GE401.out) | exact HB.out)⟩⟩
          · rw [if_neg c14] at H
            have c14b0 : decide (a2 < (-256)) = false := decide_eq_false c14
            clear c14
            have H' := Aside0.mk H
            clear H
            go_wp2
            go_meet
            case rel => exact ⟨_, (decide (a2 > 256)), (by first | rfl | (simp; done) | (simp [*]; done)), H', ⟨by first | omega | exact Nat.le_refl _⟩, ⟨by (with_reducible repeat (first | refine blk_drewN ?_ _ | refine blk_drew ?_ | refine blk_alloc ?_ _)); exact BK400.out⟩, ⟨by (with_reducible repeat (first | refine blk_drewN ?_ _ | refine blk_drew ?_ | refine blk_alloc ?_ _)); exact BK401.out⟩, ⟨by repeat (first | (with_reducible first | exact HB.out | apply below_alloc | apply pw_below_drewN | apply below_drew1 | refine below_set ?_ GE400.out | refine below_set ?_ GE401.out) | exact HB.out)⟩⟩
    · replace c11 := Bool.eq_false_iff.mpr c11
      subst c11
      have H1 : (whittleref3_Shift.j0 k a1 a2 true a0_0 a0_1 a0_2) = some (r1, r2, r3, r4) := by rw [if_neg (show ¬ (false = true) by decide)] at H; exact H
      clear H
      have H := H1
      clear H1
      have H' := Aside0.mk H
      clear H
      go_wp2
      go_meet
      case rel => exact ⟨_, (true), (by first | rfl | (simp; done) | (simp [*]; done)), H', ⟨by first | omega | exact Nat.le_refl _⟩, ⟨by (with_reducible repeat (first | refine blk_drewN ?_ _ | refine blk_drew ?_ | refine blk_alloc ?_ _)); exact BK400.out⟩, ⟨by (with_reducible repeat (first | refine blk_drewN ?_ _ | refine blk_drew ?_ | refine blk_alloc ?_ _)); exact BK401.out⟩, ⟨by repeat (first | (with_reducible first | exact HB.out | apply below_alloc | apply pw_below_drewN | apply below_drew1 | refine below_set ?_ GE400.out | refine below_set ?_ GE401.out) | exact HB.out)⟩⟩
  case rest =>
    clear HC5
    try clear c1
    try clear p2
    try clear c3
    try clear c8
    try clear c11
    try clear c12
    try clear c12b0
    try clear c13
    try clear c13b0
    try clear c14
    try clear c14b0
    try clear hcz9_0
    try clear hcz9_1
    try clear hcz9_2
    try clear hfz9_0
    try clear hfz9_1
    try clear hfz9_2
    obtain ⟨kq, x28_4, rfl, HA, HJ4, BK400, BK401, HB⟩ := hcut
    cases kq with
    | zero => exact absurd HA.out (by simp [whittleref3_Shift.j0])
    | succ kj4 =>
      have H := HA.out
      clear HA
      simp only [whittleref3_Shift.j0] at H
      by_cases c15 : x28_4 = true
      · subst c15
        have H1 : (some (0, 0, 0, false)) = some (r1, r2, r3, r4) := by rw [if_pos rfl] at H; exact H
        clear H
        have H := H1
        clear H1
        simp only [Option.some.injEq, Prod.mk.injEq] at H
        obtain ⟨rfl, rfl, rfl, rfl⟩ := H
        have hnb16 := NB401_400.out
        have hnc16 := NB400_401.out
        have hcz17_0 : wc.cell? ⟨gb401, 0, none⟩ = some (.int .i64 0) := (blk_cell BK401.out 0).trans rfl
        have hcz17_1 : wc.cell? ⟨gb401, 1, none⟩ = some (.int .i64 0) := (blk_cell BK401.out 1).trans rfl
        have hcz17_2 : wc.cell? ⟨gb401, 2, none⟩ = some (.int .i64 0) := (blk_cell BK401.out 2).trans rfl
        have hfz17_0 := blk_frozen BK401.out 0
        have hfz17_1 := blk_frozen BK401.out 1
        have hfz17_2 := blk_frozen BK401.out 2
        go_wp2
        refine bodyPost_ret (results_ct rfl _ _ gb401 23 #[.int .i64 0, .int .i64 0, .int .i64 0] (0, 0) _ rfl (by (with_reducible repeat (first | refine blk_drewN ?_ _ | refine blk_drew ?_ | refine blk_alloc ?_ _)); refine blk_put (cs := #[.int .i64 0, .int .i64 0, .int .i64 0]) ?_ 2 _ rfl; (with_reducible repeat (first | refine blk_drewN ?_ _ | refine blk_drew ?_ | refine blk_alloc ?_ _)); refine blk_put (cs := #[.int .i64 0, .int .i64 0, .int .i64 0]) ?_ 1 _ rfl; (with_reducible repeat (first | refine blk_drewN ?_ _ | refine blk_drew ?_ | refine blk_alloc ?_ _)); refine blk_put (cs := #[.int .i64 0, .int .i64 0, .int .i64 0]) ?_ 0 _ rfl; (with_reducible repeat (first | refine blk_drewN ?_ _ | refine blk_drew ?_ | refine blk_alloc ?_ _)); exact BK401.out) Tryd.underlying23 rfl (by kernel_rfl)) rfl ?_
        exact ⟨by first | rfl | (simp [errW_none, errW_some] <;> rfl) | (simp [*, errW_none, errW_some] <;> rfl), by repeat (first | (with_reducible first | exact HB.out | apply below_alloc | apply pw_below_drewN | apply below_drew1 | refine below_set ?_ GE400.out | refine below_set ?_ GE401.out) | exact HB.out)⟩
      · replace c15 := Bool.eq_false_iff.mpr c15
        subst c15
        have H1 : ((whittleref3_Right.f a0_0 (wrap64 (a0_1 + a1)) (wrap64 (a0_2 + a2))).bind fun t403 => (if t403 = true then (some (a0_0, wrap64 (a0_1 + a1), wrap64 (a0_2 + a2), true)) else (some (0, 0, 0, false)))) = some (r1, r2, r3, r4) := by rw [if_neg (show ¬ (false = true) by decide)] at H; exact H
        clear H
        have H := H1
        clear H1
        replace H := Option.bind_eq_some_iff.mp H
        obtain ⟨t403, A180, H⟩ := H
        replace H : (if t403 = true then (some (a0_0, wrap64 (a0_1 + a1), wrap64 (a0_2 + a2), true)) else (some (0, 0, 0, false))) = some (r1, r2, r3, r4) := H
        have A18 := Aside0.mk A180
        clear A180
        by_cases c19 : t403 = true
        · subst c19
          have H1 : (some (a0_0, wrap64 (a0_1 + a1), wrap64 (a0_2 + a2), true)) = some (r1, r2, r3, r4) := by rw [if_pos rfl] at H; exact H
          clear H
          have H := H1
          clear H1
          simp only [Option.some.injEq, Prod.mk.injEq] at H
          obtain ⟨rfl, rfl, rfl, rfl⟩ := H
          have hnb20 := NB400_401.out
          have hnc20 := NB401_400.out
          have hcz21_0 : wc.cell? ⟨gb400, 0, none⟩ = some (.int .i64 a0_0) := (blk_cell BK400.out 0).trans rfl
          have hcz21_1 : wc.cell? ⟨gb400, 1, none⟩ = some (.int .i64 a0_1) := (blk_cell BK400.out 1).trans rfl
          have hcz21_2 : wc.cell? ⟨gb400, 2, none⟩ = some (.int .i64 a0_2) := (blk_cell BK400.out 2).trans rfl
          have hfz21_0 := blk_frozen BK400.out 0
          have hfz21_1 := blk_frozen BK400.out 1
          have hfz21_2 := blk_frozen BK400.out 2
          go_wp2_with (first | ((with_reducible refine gate_callee (f := 18) rfl ?_); refine goesL_ (some 41) rfl rfl Tryd.func18 (by kernel_rfl) rfl #[.agg #[.int .i64 a0_0, .int .i64 (wrap64 (a0_1 + a1)), .int .i64 (wrap64 (a0_2 + a2))]] rfl (by (try simp only [List.map_toArray, List.map_cons, List.map_nil]); first | done | rfl | (simp only [List.length_drop, List.length_take]; rfl)) ?_; (with_reducible refine (whittleref3_Right.calls a0_0 (wrap64 (a0_1 + a1)) (wrap64 (a0_2 + a2)) true _ A18.out).mono ?_); rintro e w22 ⟨rfl, hb⟩; refine ⟨_, rfl, ?_⟩; have n0_ := Aside0.mk (blk_below (g := gb400) (o := .cells #[.int .i64 a0_0, .int .i64 (wrap64 (a0_1 + a1)), .int .i64 (wrap64 (a0_2 + a2))] 23 (0, 0)) (by (with_reducible repeat (first | refine blk_drewN ?_ _ | refine blk_drew ?_ | refine blk_alloc ?_ _)); refine blk_put (cs := #[.int .i64 a0_0, .int .i64 (wrap64 (a0_1 + a1)), .int .i64 a0_2]) ?_ 2 _ rfl; (with_reducible repeat (first | refine blk_drewN ?_ _ | refine blk_drew ?_ | refine blk_alloc ?_ _)); refine blk_put (cs := #[.int .i64 a0_0, .int .i64 a0_1, .int .i64 a0_2]) ?_ 1 _ rfl; (with_reducible repeat (first | refine blk_drewN ?_ _ | refine blk_drew ?_ | refine blk_alloc ?_ _)); exact BK400.out) hb); have n1_ := Aside0.mk (blk_below (g := gb401) (o := .cells #[.int .i64 0, .int .i64 0, .int .i64 0] 23 (0, 0)) (by (with_reducible repeat (first | refine blk_drewN ?_ _ | refine blk_drew ?_ | refine blk_alloc ?_ _)); refine blk_far ?_ NB401_400.out _; (with_reducible repeat (first | refine blk_drewN ?_ _ | refine blk_drew ?_ | refine blk_alloc ?_ _)); refine blk_far ?_ NB401_400.out _; (with_reducible repeat (first | refine blk_drewN ?_ _ | refine blk_drew ?_ | refine blk_alloc ?_ _)); exact BK401.out) hb); have n2_ := Aside0.mk (below_step (by repeat (first | (with_reducible first | exact HB.out | apply below_alloc | apply pw_below_drewN | apply below_drew1 | refine below_set ?_ GE400.out | refine below_set ?_ GE401.out) | exact HB.out)) hb); clear BK400; clear BK401; clear HB; have BK400 := n0_; have BK401 := n1_; have HB := n2_; clear n0_ n1_ n2_; (try clear hb); (try clear hb2); (try clear hk); (try clear hi); have hcz23_0 : w22.cell? ⟨gb400, 0, none⟩ = some (.int .i64 a0_0) := (blk_cell BK400.out 0).trans rfl; have hcz23_1 : w22.cell? ⟨gb400, 1, none⟩ = some (.int .i64 (wrap64 (a0_1 + a1))) := (blk_cell BK400.out 1).trans rfl; have hcz23_2 : w22.cell? ⟨gb400, 2, none⟩ = some (.int .i64 (wrap64 (a0_2 + a2))) := (blk_cell BK400.out 2).trans rfl; have hfz23_0 := blk_frozen BK400.out 0; have hfz23_1 := blk_frozen BK400.out 1; have hfz23_2 := blk_frozen BK400.out 2; have hcz24_0 : w22.cell? ⟨gb401, 0, none⟩ = some (.int .i64 0) := (blk_cell BK401.out 0).trans rfl; have hcz24_1 : w22.cell? ⟨gb401, 1, none⟩ = some (.int .i64 0) := (blk_cell BK401.out 1).trans rfl; have hcz24_2 : w22.cell? ⟨gb401, 2, none⟩ = some (.int .i64 0) := (blk_cell BK401.out 2).trans rfl; have hfz24_0 := blk_frozen BK401.out 0; have hfz24_1 := blk_frozen BK401.out 1; have hfz24_2 := blk_frozen BK401.out 2))
          refine bodyPost_ret (results_ct rfl _ _ gb401 23 #[.int .i64 a0_0, .int .i64 (wrap64 (a0_1 + a1)), .int .i64 (wrap64 (a0_2 + a2))] (0, 0) _ rfl (by (with_reducible repeat (first | refine blk_drewN ?_ _ | refine blk_drew ?_ | refine blk_alloc ?_ _)); refine blk_put (cs := #[.int .i64 a0_0, .int .i64 (wrap64 (a0_1 + a1)), .int .i64 0]) ?_ 2 _ rfl; (with_reducible repeat (first | refine blk_drewN ?_ _ | refine blk_drew ?_ | refine blk_alloc ?_ _)); refine blk_put (cs := #[.int .i64 a0_0, .int .i64 0, .int .i64 0]) ?_ 1 _ rfl; (with_reducible repeat (first | refine blk_drewN ?_ _ | refine blk_drew ?_ | refine blk_alloc ?_ _)); refine blk_put (cs := #[.int .i64 0, .int .i64 0, .int .i64 0]) ?_ 0 _ rfl; (with_reducible repeat (first | refine blk_drewN ?_ _ | refine blk_drew ?_ | refine blk_alloc ?_ _)); exact BK401.out) Tryd.underlying23 rfl (by kernel_rfl)) rfl ?_
          exact ⟨by first | rfl | (simp [errW_none, errW_some] <;> rfl) | (simp [*, errW_none, errW_some] <;> rfl), by repeat (first | (with_reducible first | exact HB.out | apply below_alloc | apply pw_below_drewN | apply below_drew1 | refine below_set ?_ GE400.out | refine below_set ?_ GE401.out) | exact HB.out)⟩
        · replace c19 := Bool.eq_false_iff.mpr c19
          subst c19
          have H1 : (some (0, 0, 0, false)) = some (r1, r2, r3, r4) := by rw [if_neg (show ¬ (false = true) by decide)] at H; exact H
          clear H
          have H := H1
          clear H1
          simp only [Option.some.injEq, Prod.mk.injEq] at H
          obtain ⟨rfl, rfl, rfl, rfl⟩ := H
          have hnb25 := NB400_401.out
          have hnc25 := NB401_400.out
          have hcz26_0 : wc.cell? ⟨gb400, 0, none⟩ = some (.int .i64 a0_0) := (blk_cell BK400.out 0).trans rfl
          have hcz26_1 : wc.cell? ⟨gb400, 1, none⟩ = some (.int .i64 a0_1) := (blk_cell BK400.out 1).trans rfl
          have hcz26_2 : wc.cell? ⟨gb400, 2, none⟩ = some (.int .i64 a0_2) := (blk_cell BK400.out 2).trans rfl
          have hfz26_0 := blk_frozen BK400.out 0
          have hfz26_1 := blk_frozen BK400.out 1
          have hfz26_2 := blk_frozen BK400.out 2
          go_wp2_with (first | ((with_reducible refine gate_callee (f := 18) rfl ?_); refine goesL_ (some 41) rfl rfl Tryd.func18 (by kernel_rfl) rfl #[.agg #[.int .i64 a0_0, .int .i64 (wrap64 (a0_1 + a1)), .int .i64 (wrap64 (a0_2 + a2))]] rfl (by (try simp only [List.map_toArray, List.map_cons, List.map_nil]); first | done | rfl | (simp only [List.length_drop, List.length_take]; rfl)) ?_; (with_reducible refine (whittleref3_Right.calls a0_0 (wrap64 (a0_1 + a1)) (wrap64 (a0_2 + a2)) false _ A18.out).mono ?_); rintro e w27 ⟨rfl, hb⟩; refine ⟨_, rfl, ?_⟩; have n0_ := Aside0.mk (blk_below (g := gb400) (o := .cells #[.int .i64 a0_0, .int .i64 (wrap64 (a0_1 + a1)), .int .i64 (wrap64 (a0_2 + a2))] 23 (0, 0)) (by (with_reducible repeat (first | refine blk_drewN ?_ _ | refine blk_drew ?_ | refine blk_alloc ?_ _)); refine blk_put (cs := #[.int .i64 a0_0, .int .i64 (wrap64 (a0_1 + a1)), .int .i64 a0_2]) ?_ 2 _ rfl; (with_reducible repeat (first | refine blk_drewN ?_ _ | refine blk_drew ?_ | refine blk_alloc ?_ _)); refine blk_put (cs := #[.int .i64 a0_0, .int .i64 a0_1, .int .i64 a0_2]) ?_ 1 _ rfl; (with_reducible repeat (first | refine blk_drewN ?_ _ | refine blk_drew ?_ | refine blk_alloc ?_ _)); exact BK400.out) hb); have n1_ := Aside0.mk (blk_below (g := gb401) (o := .cells #[.int .i64 0, .int .i64 0, .int .i64 0] 23 (0, 0)) (by (with_reducible repeat (first | refine blk_drewN ?_ _ | refine blk_drew ?_ | refine blk_alloc ?_ _)); refine blk_far ?_ NB401_400.out _; (with_reducible repeat (first | refine blk_drewN ?_ _ | refine blk_drew ?_ | refine blk_alloc ?_ _)); refine blk_far ?_ NB401_400.out _; (with_reducible repeat (first | refine blk_drewN ?_ _ | refine blk_drew ?_ | refine blk_alloc ?_ _)); exact BK401.out) hb); have n2_ := Aside0.mk (below_step (by repeat (first | (with_reducible first | exact HB.out | apply below_alloc | apply pw_below_drewN | apply below_drew1 | refine below_set ?_ GE400.out | refine below_set ?_ GE401.out) | exact HB.out)) hb); clear BK400; clear BK401; clear HB; have BK400 := n0_; have BK401 := n1_; have HB := n2_; clear n0_ n1_ n2_; (try clear hb); (try clear hb2); (try clear hk); (try clear hi); have hcz28_0 : w27.cell? ⟨gb401, 0, none⟩ = some (.int .i64 0) := (blk_cell BK401.out 0).trans rfl; have hcz28_1 : w27.cell? ⟨gb401, 1, none⟩ = some (.int .i64 0) := (blk_cell BK401.out 1).trans rfl; have hcz28_2 : w27.cell? ⟨gb401, 2, none⟩ = some (.int .i64 0) := (blk_cell BK401.out 2).trans rfl; have hfz28_0 := blk_frozen BK401.out 0; have hfz28_1 := blk_frozen BK401.out 1; have hfz28_2 := blk_frozen BK401.out 2))
          refine bodyPost_ret (results_ct rfl _ _ gb401 23 #[.int .i64 0, .int .i64 0, .int .i64 0] (0, 0) _ rfl (by (with_reducible repeat (first | refine blk_drewN ?_ _ | refine blk_drew ?_ | refine blk_alloc ?_ _)); refine blk_put (cs := #[.int .i64 0, .int .i64 0, .int .i64 0]) ?_ 2 _ rfl; (with_reducible repeat (first | refine blk_drewN ?_ _ | refine blk_drew ?_ | refine blk_alloc ?_ _)); refine blk_put (cs := #[.int .i64 0, .int .i64 0, .int .i64 0]) ?_ 1 _ rfl; (with_reducible repeat (first | refine blk_drewN ?_ _ | refine blk_drew ?_ | refine blk_alloc ?_ _)); refine blk_put (cs := #[.int .i64 0, .int .i64 0, .int .i64 0]) ?_ 0 _ rfl; (with_reducible repeat (first | refine blk_drewN ?_ _ | refine blk_drew ?_ | refine blk_alloc ?_ _)); exact BK401.out) Tryd.underlying23 rfl (by kernel_rfl)) rfl ?_
          exact ⟨by first | rfl | (simp [errW_none, errW_some] <;> rfl) | (simp [*, errW_none, errW_some] <;> rfl), by repeat (first | (with_reducible first | exact HB.out | apply below_alloc | apply pw_below_drewN | apply below_drew1 | refine below_set ?_ GE400.out | refine below_set ?_ GE401.out) | exact HB.out)⟩

end Go.Proofs.YtijmipnafhljkaaDoor.P
