-- Written by a program of this session (it drives the kit's print.py, with the contracts of some functions given by hand). Not trusted: Lean checks it.
import Derived.Test.YtijmipnafhljkaaDoorPx0
import Derived.Test.YtijmipnafhljkaaDoorPx41
import Derived.Test.YtijmipnafhljkaaDoorPx56
namespace Go.Proofs.YtijmipnafhljkaaDoor.P
open Go.RowKit Go.Proofs.YtijmipnafhljkaaDoorW.PrintWords Go.Proofs.YtijmipnafhljkaaDoorW.PrintLast Go.Proofs.YtijmipnafhljkaaDoorW.PrintMore
attribute [local go_sem] max2_int min2_int max_two min_two max_three min_three max_four min_four   -- for this text's walks alone
set_option linter.unusedVariables false
set_option linter.unusedSimpArgs false

/-! ### whittleref3_Hull: function 32 -/
mutual
def whittleref3_Hull.l0 : Nat → List (S23) → Int → Int → Int → Int → Int → Int → Option (Int × Int × Int × Int × Int × Bool)
  | 0, _, _, _, _, _, _, _ => none
  | k + 1, x0, x5, x355000, x355001, x355002, x355003, x355004 => if x5 < (x0.length : Int) then (if 0 ≤ x5 then ((whittleref3_Right.f ((rd_T23 x0 x5).f0) ((rd_T23 x0 x5).f1) ((rd_T23 x0 x5).f2)).bind fun t357 => (if t357 = true then (if 0 < (x0.length : Int) then (whittleref3_Hull.j1 k x0 x5 (((rd_T23 x0 x5).f0) != ((rd_T23 x0 0).f0)) x355000 x355001 x355002 x355003 x355004 ((rd_T23 x0 x5).f0) ((rd_T23 x0 x5).f1) ((rd_T23 x0 x5).f2)) else (none)) else (whittleref3_Hull.j1 k x0 x5 true x355000 x355001 x355002 x355003 x355004 ((rd_T23 x0 x5).f0) ((rd_T23 x0 x5).f1) ((rd_T23 x0 x5).f2)))) else (none)) else (some (x355000, x355001, x355002, x355003, x355004, decide ((x0.length : Int) > 0)))
def whittleref3_Hull.j1 : Nat → List (S23) → Int → Bool → Int → Int → Int → Int → Int → Int → Int → Int → Option (Int × Int × Int × Int × Int × Bool)
  | 0, _, _, _, _, _, _, _, _, _, _, _ => none
  | k + 1, x0, x5, x30, x355000, x355001, x355002, x355003, x355004, x357000, x357001, x357002 => if x30 = true then (some (0, 0, 0, 0, 0, false)) else (if x5 = 0 then ((whittleref3_One.f x357000 x357001 x357002).bind fun bt359 => (whittleref3_Hull.l0 k x0 (wrap64 (x5 + 1)) bt359.1 (mn bt359.2.1 x357001) (mn bt359.2.2.1 x357002) (mx bt359.2.2.2.1 x357001) (mx bt359.2.2.2.2.1 x357002))) else (whittleref3_Hull.l0 k x0 (wrap64 (x5 + 1)) x355000 (mn x355001 x357001) (mn x355002 x357002) (mx x355003 x357001) (mx x355004 x357002)))
end
def whittleref3_Hull.f (k : Nat) (l0 : List (S23)) : Option (Int × Int × Int × Int × Int × Bool) := whittleref3_Hull.l0 k l0 0 0 0 0 0 0
theorem whittleref3_Hull.mono_l : ∀ k, (∀ y0 y1 y2 y3 y4 y5 y6, LeO (whittleref3_Hull.l0 k y0 y1 y2 y3 y4 y5 y6) (whittleref3_Hull.l0 (k + 1) y0 y1 y2 y3 y4 y5 y6)) ∧ (∀ y0 y1 y2 y3 y4 y5 y6 y7 y8 y9 y10, LeO (whittleref3_Hull.j1 k y0 y1 y2 y3 y4 y5 y6 y7 y8 y9 y10) (whittleref3_Hull.j1 (k + 1) y0 y1 y2 y3 y4 y5 y6 y7 y8 y9 y10))
  | 0 => ⟨fun _ _ _ _ _ _ _ r h => by simp [whittleref3_Hull.l0] at h, fun _ _ _ _ _ _ _ _ _ _ _ r h => by simp [whittleref3_Hull.j1] at h⟩
  | k + 1 => by
    obtain ⟨ih0, ih1⟩ := whittleref3_Hull.mono_l k
    refine ⟨?_, ?_⟩
    · intro y0 y1 y2 y3 y4 y5 y6
      unfold whittleref3_Hull.l0
      repeat' first
      | (with_reducible exact ih0 _ _ _ _ _ _ _)
      | (with_reducible exact ih1 _ _ _ _ _ _ _ _ _ _ _)
      | (with_reducible exact LeO.refl _)
      | (with_reducible exact LeO.none _)
      | (with_reducible refine LeO.ite ?_ ?_)
      | (with_reducible refine LeO.bind ?_ (fun _ => ?_))
      | exact ih0 _ _ _ _ _ _ _
      | exact ih1 _ _ _ _ _ _ _ _ _ _ _
      | exact LeO.none _
      | refine LeO.ite ?_ ?_
      | refine LeO.bind ?_ (fun _ => ?_)
    · intro y0 y1 y2 y3 y4 y5 y6 y7 y8 y9 y10
      unfold whittleref3_Hull.j1
      repeat' first
      | (with_reducible exact ih0 _ _ _ _ _ _ _)
      | (with_reducible exact ih1 _ _ _ _ _ _ _ _ _ _ _)
      | (with_reducible exact LeO.refl _)
      | (with_reducible exact LeO.none _)
      | (with_reducible refine LeO.ite ?_ ?_)
      | (with_reducible refine LeO.bind ?_ (fun _ => ?_))
      | exact ih0 _ _ _ _ _ _ _
      | exact ih1 _ _ _ _ _ _ _ _ _ _ _
      | exact LeO.none _
      | refine LeO.ite ?_ ?_
      | refine LeO.bind ?_ (fun _ => ?_)
theorem whittleref3_Hull.mono : ∀ a0 k, LeO (whittleref3_Hull.f k a0) (whittleref3_Hull.f (k + 1) a0) := by
  intro a0 k
  obtain ⟨ih0, ih1⟩ := whittleref3_Hull.mono_l k
  unfold whittleref3_Hull.f
  repeat' first
      | (with_reducible exact ih0 _ _ _ _ _ _ _)
      | (with_reducible exact ih1 _ _ _ _ _ _ _ _ _ _ _)
      | (with_reducible exact LeO.refl _)
      | (with_reducible exact LeO.none _)
      | (with_reducible refine LeO.ite ?_ ?_)
      | (with_reducible refine LeO.bind ?_ (fun _ => ?_))
      | exact ih0 _ _ _ _ _ _ _
      | exact ih1 _ _ _ _ _ _ _ _ _ _ _
      | exact LeO.none _
      | refine LeO.ite ?_ ?_
      | refine LeO.bind ?_ (fun _ => ?_)
set_option maxHeartbeats 8000000 in
set_option maxRecDepth 100000 in
theorem whittleref3_Hull.calls (k : Nat) (A0 : Option Addr) (c0 : Nat) (l0 : List (S23)) (r1 : Int) (r2 : Int) (r3 : Int) (r4 : Int) (r5 : Int) (r6 : Bool) (w : World) (hr0 : Kd.C k23 w A0 l0.length l0) (hc0 : l0.length ≤ c0) (h : whittleref3_Hull.f k l0 = some (r1, r2, r3, r4, r5, r6)) :
    Calls Tryd.prog 32 #[.slice A0 l0.length c0] w fun e w' => e = .returned (.tuple #[.agg #[.int .i64 r1, .int .i64 r2, .int .i64 r3, .int .i64 r4, .int .i64 r5], .bool r6]) ∧ Below w.heap.size w w' := by
  have hu25 := Tryd.underlying25
  have hu23 := Tryd.underlying23
  have HR0 := Aside0.mk hr0
  have HC0 := Aside0.mk hc0
  clear hr0 hc0
  have HB := Aside0.mk (Below.refl w.heap.size w)
  have H : (whittleref3_Hull.l0 k l0 0 0 0 0 0 0) = some (r1, r2, r3, r4, r5, r6) := h
  clear h
  have H' := Aside0.mk H
  clear H
  go_enter Tryd.func32, Tryd.ntmps32
  go_wp2_with (first | ((with_reducible refine gate_dst (N := 2) rfl ?_); refine box_event ?hg (N := 2) ?hd (cs := #[.int .i64 0, .int .i64 0, .int .i64 0, .int .i64 0, .int .i64 0]) (t := 25) ?hr ?_; (case hd => rfl); (case hg => rfl); (case hr => first | (go_simp; done) | (go_simp; rfl)); intro gb353 hg w2 hbox hb; have n0_ := Aside0.mk (below_step (by repeat (first | (with_reducible first | exact HB.out | apply below_alloc | apply pw_below_drewN | apply below_drew1) | exact HB.out)) hb); have n1_ := Aside0.mk (hbox); have n2_ := Aside0.mk ((by rw [hg]; exact (below_size (by repeat (first | (with_reducible first | exact HB.out | apply below_alloc | apply pw_below_drewN | apply below_drew1) | exact HB.out))) : w.heap.size ≤ gb353)); have n3_ := Aside0.mk ((by rw [hg]; exact (below_size (by repeat (first | (with_reducible first | exact HB.out | apply below_alloc | apply pw_below_drewN | apply below_drew1) | exact HB.out))) : w.heap.size ≤ gb353)); clear HB; have HB := n0_; have BK353 := n1_; have GW353 := n2_; have GE353 := n3_; clear n0_ n1_ n2_ n3_; clear hb hbox hg) | ((with_reducible refine gate_dst (N := 4) rfl ?_); refine box_event ?hg (N := 4) ?hd (cs := #[.int .i64 0, .int .i64 0, .int .i64 0, .int .i64 0, .int .i64 0]) (t := 25) ?hr ?_; (case hd => rfl); (case hg => rfl); (case hr => first | (go_simp; done) | (go_simp; rfl)); intro gb354 hg w3 hbox hb; have n0_ := Aside0.mk (blk_below (g := gb353) (o := .cells #[.int .i64 0, .int .i64 0, .int .i64 0, .int .i64 0, .int .i64 0] 25 (0, 0)) (by (with_reducible repeat (first | refine blk_drewN ?_ _ | refine blk_drew ?_ | refine blk_alloc ?_ _)); exact BK353.out) hb); have n1_ := Aside0.mk (below_step (by repeat (first | (with_reducible first | exact HB.out | apply below_alloc | apply pw_below_drewN | apply below_drew1 | refine below_set ?_ GE353.out) | exact HB.out)) hb); have n2_ := Aside0.mk (hbox); have n3_ := Aside0.mk ((by rw [hg]; exact (below_size (by repeat (first | (with_reducible first | exact HB.out | apply below_alloc | apply pw_below_drewN | apply below_drew1 | refine below_set ?_ GE353.out) | exact HB.out))) : w.heap.size ≤ gb354)); have n4_ := Aside0.mk ((by rw [hg]; exact (below_size (by repeat (first | (with_reducible first | exact HB.out | apply below_alloc | apply pw_below_drewN | apply below_drew1 | refine below_set ?_ GE353.out) | exact HB.out))) : w.heap.size ≤ gb354)); have n5_ := Aside0.mk ((by rw [hg]; exact Nat.ne_of_lt (blk_lt (g := gb353) (o := .cells #[.int .i64 0, .int .i64 0, .int .i64 0, .int .i64 0, .int .i64 0] 25 (0, 0)) (by (with_reducible repeat (first | refine blk_drewN ?_ _ | refine blk_drew ?_ | refine blk_alloc ?_ _)); exact BK353.out)) : gb353 ≠ gb354)); have n6_ := Aside0.mk ((by rw [hg]; exact Nat.ne_of_gt (blk_lt (g := gb353) (o := .cells #[.int .i64 0, .int .i64 0, .int .i64 0, .int .i64 0, .int .i64 0] 25 (0, 0)) (by (with_reducible repeat (first | refine blk_drewN ?_ _ | refine blk_drew ?_ | refine blk_alloc ?_ _)); exact BK353.out)) : gb354 ≠ gb353)); clear BK353; clear HB; have BK353 := n0_; have HB := n1_; have BK354 := n2_; have GW354 := n3_; have GE354 := n4_; have NB353_354 := n5_; have NB354_353 := n6_; clear n0_ n1_ n2_ n3_ n4_ n5_ n6_; clear hb hbox hg))
  repeat (go_quiet (first | ((with_reducible refine gate_dst (N := 2) rfl ?_); refine box_event ?hg (N := 2) ?hd (cs := #[.int .i64 0, .int .i64 0, .int .i64 0, .int .i64 0, .int .i64 0]) (t := 25) ?hr ?_; (case hd => rfl); (case hg => rfl); (case hr => first | (go_simp; done) | (go_simp; rfl)); intro gb353 hg w2 hbox hb; have n0_ := Aside0.mk (below_step (by repeat (first | (with_reducible first | exact HB.out | apply below_alloc | apply pw_below_drewN | apply below_drew1) | exact HB.out)) hb); have n1_ := Aside0.mk (hbox); have n2_ := Aside0.mk ((by rw [hg]; exact (below_size (by repeat (first | (with_reducible first | exact HB.out | apply below_alloc | apply pw_below_drewN | apply below_drew1) | exact HB.out))) : w.heap.size ≤ gb353)); have n3_ := Aside0.mk ((by rw [hg]; exact (below_size (by repeat (first | (with_reducible first | exact HB.out | apply below_alloc | apply pw_below_drewN | apply below_drew1) | exact HB.out))) : w.heap.size ≤ gb353)); clear HB; have HB := n0_; have BK353 := n1_; have GW353 := n2_; have GE353 := n3_; clear n0_ n1_ n2_ n3_; clear hb hbox hg) | ((with_reducible refine gate_dst (N := 4) rfl ?_); refine box_event ?hg (N := 4) ?hd (cs := #[.int .i64 0, .int .i64 0, .int .i64 0, .int .i64 0, .int .i64 0]) (t := 25) ?hr ?_; (case hd => rfl); (case hg => rfl); (case hr => first | (go_simp; done) | (go_simp; rfl)); intro gb354 hg w3 hbox hb; have n0_ := Aside0.mk (blk_below (g := gb353) (o := .cells #[.int .i64 0, .int .i64 0, .int .i64 0, .int .i64 0, .int .i64 0] 25 (0, 0)) (by (with_reducible repeat (first | refine blk_drewN ?_ _ | refine blk_drew ?_ | refine blk_alloc ?_ _)); exact BK353.out) hb); have n1_ := Aside0.mk (below_step (by repeat (first | (with_reducible first | exact HB.out | apply below_alloc | apply pw_below_drewN | apply below_drew1 | refine below_set ?_ GE353.out) | exact HB.out)) hb); have n2_ := Aside0.mk (hbox); have n3_ := Aside0.mk ((by rw [hg]; exact (below_size (by repeat (first | (with_reducible first | exact HB.out | apply below_alloc | apply pw_below_drewN | apply below_drew1 | refine below_set ?_ GE353.out) | exact HB.out))) : w.heap.size ≤ gb354)); have n4_ := Aside0.mk ((by rw [hg]; exact (below_size (by repeat (first | (with_reducible first | exact HB.out | apply below_alloc | apply pw_below_drewN | apply below_drew1 | refine below_set ?_ GE353.out) | exact HB.out))) : w.heap.size ≤ gb354)); have n5_ := Aside0.mk ((by rw [hg]; exact Nat.ne_of_lt (blk_lt (g := gb353) (o := .cells #[.int .i64 0, .int .i64 0, .int .i64 0, .int .i64 0, .int .i64 0] 25 (0, 0)) (by (with_reducible repeat (first | refine blk_drewN ?_ _ | refine blk_drew ?_ | refine blk_alloc ?_ _)); exact BK353.out)) : gb353 ≠ gb354)); have n6_ := Aside0.mk ((by rw [hg]; exact Nat.ne_of_gt (blk_lt (g := gb353) (o := .cells #[.int .i64 0, .int .i64 0, .int .i64 0, .int .i64 0, .int .i64 0] 25 (0, 0)) (by (with_reducible repeat (first | refine blk_drewN ?_ _ | refine blk_drew ?_ | refine blk_alloc ?_ _)); exact BK353.out)) : gb354 ≠ gb353)); clear BK353; clear HB; have BK353 := n0_; have HB := n1_; have BK354 := n2_; have GW354 := n3_; have GE354 := n4_; have NB353_354 := n5_; have NB354_353 := n6_; clear n0_ n1_ n2_ n3_ n4_ n5_ n6_; clear hb hbox hg)); try go_wp2_with (first | ((with_reducible refine gate_dst (N := 2) rfl ?_); refine box_event ?hg (N := 2) ?hd (cs := #[.int .i64 0, .int .i64 0, .int .i64 0, .int .i64 0, .int .i64 0]) (t := 25) ?hr ?_; (case hd => rfl); (case hg => rfl); (case hr => first | (go_simp; done) | (go_simp; rfl)); intro gb353 hg w2 hbox hb; have n0_ := Aside0.mk (below_step (by repeat (first | (with_reducible first | exact HB.out | apply below_alloc | apply pw_below_drewN | apply below_drew1) | exact HB.out)) hb); have n1_ := Aside0.mk (hbox); have n2_ := Aside0.mk ((by rw [hg]; exact (below_size (by repeat (first | (with_reducible first | exact HB.out | apply below_alloc | apply pw_below_drewN | apply below_drew1) | exact HB.out))) : w.heap.size ≤ gb353)); have n3_ := Aside0.mk ((by rw [hg]; exact (below_size (by repeat (first | (with_reducible first | exact HB.out | apply below_alloc | apply pw_below_drewN | apply below_drew1) | exact HB.out))) : w.heap.size ≤ gb353)); clear HB; have HB := n0_; have BK353 := n1_; have GW353 := n2_; have GE353 := n3_; clear n0_ n1_ n2_ n3_; clear hb hbox hg) | ((with_reducible refine gate_dst (N := 4) rfl ?_); refine box_event ?hg (N := 4) ?hd (cs := #[.int .i64 0, .int .i64 0, .int .i64 0, .int .i64 0, .int .i64 0]) (t := 25) ?hr ?_; (case hd => rfl); (case hg => rfl); (case hr => first | (go_simp; done) | (go_simp; rfl)); intro gb354 hg w3 hbox hb; have n0_ := Aside0.mk (blk_below (g := gb353) (o := .cells #[.int .i64 0, .int .i64 0, .int .i64 0, .int .i64 0, .int .i64 0] 25 (0, 0)) (by (with_reducible repeat (first | refine blk_drewN ?_ _ | refine blk_drew ?_ | refine blk_alloc ?_ _)); exact BK353.out) hb); have n1_ := Aside0.mk (below_step (by repeat (first | (with_reducible first | exact HB.out | apply below_alloc | apply pw_below_drewN | apply below_drew1 | refine below_set ?_ GE353.out) | exact HB.out)) hb); have n2_ := Aside0.mk (hbox); have n3_ := Aside0.mk ((by rw [hg]; exact (below_size (by repeat (first | (with_reducible first | exact HB.out | apply below_alloc | apply pw_below_drewN | apply below_drew1 | refine below_set ?_ GE353.out) | exact HB.out))) : w.heap.size ≤ gb354)); have n4_ := Aside0.mk ((by rw [hg]; exact (below_size (by repeat (first | (with_reducible first | exact HB.out | apply below_alloc | apply pw_below_drewN | apply below_drew1 | refine below_set ?_ GE353.out) | exact HB.out))) : w.heap.size ≤ gb354)); have n5_ := Aside0.mk ((by rw [hg]; exact Nat.ne_of_lt (blk_lt (g := gb353) (o := .cells #[.int .i64 0, .int .i64 0, .int .i64 0, .int .i64 0, .int .i64 0] 25 (0, 0)) (by (with_reducible repeat (first | refine blk_drewN ?_ _ | refine blk_drew ?_ | refine blk_alloc ?_ _)); exact BK353.out)) : gb353 ≠ gb354)); have n6_ := Aside0.mk ((by rw [hg]; exact Nat.ne_of_gt (blk_lt (g := gb353) (o := .cells #[.int .i64 0, .int .i64 0, .int .i64 0, .int .i64 0, .int .i64 0] 25 (0, 0)) (by (with_reducible repeat (first | refine blk_drewN ?_ _ | refine blk_drew ?_ | refine blk_alloc ?_ _)); exact BK353.out)) : gb354 ≠ gb353)); clear BK353; clear HB; have BK353 := n0_; have HB := n1_; have BK354 := n2_; have GW354 := n3_; have GE354 := n4_; have NB353_354 := n5_; have NB354_353 := n6_; clear n0_ n1_ n2_ n3_ n4_ n5_ n6_; clear hb hbox hg)))
  go_loopg [5] k (fun kq v5 w' => ∃ (x5_1 : Int) (x354000_1 : Int) (x354001_1 : Int) (x354002_1 : Int) (x354003_1 : Int) (x354004_1 : Int) (x355000_1 : Int) (x355001_1 : Int) (x355002_1 : Int) (x355003_1 : Int) (x355004_1 : Int), v5 = .int .i64 x5_1 ∧ Aside0 (whittleref3_Hull.l0 kq l0 x5_1 x355000_1 x355001_1 x355002_1 x355003_1 x355004_1 = some (r1, r2, r3, r4, r5, r6)) ∧ Aside0 (kq ≤ k) ∧ Aside0 (w'.heap[gb353]? = some (.cells #[.int .i64 x354000_1, .int .i64 x354001_1, .int .i64 x354002_1, .int .i64 x354003_1, .int .i64 x354004_1] 25 (0, 0))) ∧ Aside0 (w'.heap[gb354]? = some (.cells #[.int .i64 x355000_1, .int .i64 x355001_1, .int .i64 x355002_1, .int .i64 x355003_1, .int .i64 x355004_1] 25 (0, 0))) ∧ Aside0 (Below w.heap.size w w'))
  case atStart => exact ⟨(0), (0), (0), (0), (0), (0), (0), (0), (0), (0), (0), (by first | rfl | (simp; done) | (simp [*]; done)), H', ⟨Nat.le_refl _⟩, ⟨by (with_reducible repeat (first | refine blk_drewN ?_ _ | refine blk_drew ?_ | refine blk_alloc ?_ _)); exact BK353.out⟩, ⟨by (with_reducible repeat (first | refine blk_drewN ?_ _ | refine blk_drew ?_ | refine blk_alloc ?_ _)); exact BK354.out⟩, ⟨by repeat (first | (with_reducible first | exact HB.out | apply below_alloc | apply pw_below_drewN | apply below_drew1 | refine below_set ?_ GE353.out | refine below_set ?_ GE354.out) | exact HB.out)⟩⟩
  case round =>
    clear H'
    try clear p2
    try clear c3
    obtain ⟨x5_1, x354000_1, x354001_1, x354002_1, x354003_1, x354004_1, x355000_1, x355001_1, x355002_1, x355003_1, x355004_1, rfl, HA, HK1, BK353, BK354, HB⟩ := hrel
    cases gk with
    | zero => exact absurd HA.out (by simp [whittleref3_Hull.l0])
    | succ k1 =>
      have H := HA.out
      clear HA
      simp only [whittleref3_Hull.l0] at H
      by_cases c4 : x5_1 < (l0.length : Int)
      · rw [if_pos c4] at H
        have c4b0 : decide (x5_1 < (l0.length : Int)) = true := decide_eq_true c4
        clear c4
        by_cases c5 : 0 ≤ x5_1
        · rw [if_pos c5] at H
          have c5b0 : decide (0 ≤ x5_1) = true := decide_eq_true c5
          clear c5
          replace H := Option.bind_eq_some_iff.mp H
          obtain ⟨t357, A60, H⟩ := H
          replace H : (if t357 = true then (if 0 < (l0.length : Int) then (whittleref3_Hull.j1 k1 l0 x5_1 (((rd_T23 l0 x5_1).f0) != ((rd_T23 l0 0).f0)) x355000_1 x355001_1 x355002_1 x355003_1 x355004_1 ((rd_T23 l0 x5_1).f0) ((rd_T23 l0 x5_1).f1) ((rd_T23 l0 x5_1).f2)) else (none)) else (whittleref3_Hull.j1 k1 l0 x5_1 true x355000_1 x355001_1 x355002_1 x355003_1 x355004_1 ((rd_T23 l0 x5_1).f0) ((rd_T23 l0 x5_1).f1) ((rd_T23 l0 x5_1).f2))) = some (r1, r2, r3, r4, r5, r6) := H
          have A6 := Aside0.mk A60
          clear A60
          have HC7 := Aside0.mk H
          clear H
          have p355 : 0 ≤ (x5_1 : Int) := of_decide_eq_true (by first | (with_reducible assumption) | assumption)
          have q355 : x5_1 < (l0.length : Int) := of_decide_eq_true (by first | (with_reducible assumption) | assumption)
          obtain ⟨ad355, e355, hx355_0, hx355_1, hx355_2⟩ := at_T23 HR0.out x5_1 p355 q355
          cases e355
          replace hx355_0 := (HB.out.cell (World.block_lt_of_cell? w _ hx355_0)).trans hx355_0
          replace hx355_1 := (HB.out.cell (World.block_lt_of_cell? w _ hx355_1)).trans hx355_1
          replace hx355_2 := (HB.out.cell (World.block_lt_of_cell? w _ hx355_2)).trans hx355_2
          replace p355 := eq_true p355
          replace q355 := eq_true q355
          go_upto_region 7 with (first | ((with_reducible refine gate_dst (N := 6) rfl ?_); refine box_event ?hg (N := 6) ?hd (cs := #[.int .i64 0, .int .i64 0, .int .i64 0]) (t := 23) ?hr ?_; (case hd => rfl); (case hg => rfl); (case hr => first | (go_simp; done) | (go_simp; rfl)); intro gb356 hg w8 hbox hb; have n0_ := Aside0.mk (blk_below (g := gb353) (o := .cells #[.int .i64 x354000_1, .int .i64 x354001_1, .int .i64 x354002_1, .int .i64 x354003_1, .int .i64 x354004_1] 25 (0, 0)) (by (with_reducible repeat (first | refine blk_drewN ?_ _ | refine blk_drew ?_ | refine blk_alloc ?_ _)); exact BK353.out) hb); have n1_ := Aside0.mk (blk_below (g := gb354) (o := .cells #[.int .i64 x355000_1, .int .i64 x355001_1, .int .i64 x355002_1, .int .i64 x355003_1, .int .i64 x355004_1] 25 (0, 0)) (by (with_reducible repeat (first | refine blk_drewN ?_ _ | refine blk_drew ?_ | refine blk_alloc ?_ _)); exact BK354.out) hb); have n2_ := Aside0.mk (below_step (by repeat (first | (with_reducible first | exact HB.out | apply below_alloc | apply pw_below_drewN | apply below_drew1 | refine below_set ?_ GE353.out | refine below_set ?_ GE354.out) | exact HB.out)) hb); have n3_ := Aside0.mk (hbox); have n4_ := Aside0.mk ((by rw [hg]; exact (below_size (by repeat (first | (with_reducible first | exact HB.out | apply below_alloc | apply pw_below_drewN | apply below_drew1 | refine below_set ?_ GE353.out | refine below_set ?_ GE354.out) | exact HB.out))) : w.heap.size ≤ gb356)); have n5_ := Aside0.mk ((by rw [hg]; exact (below_size (by repeat (first | (with_reducible first | exact HB.out | apply below_alloc | apply pw_below_drewN | apply below_drew1 | refine below_set ?_ GE353.out | refine below_set ?_ GE354.out) | exact HB.out))) : w.heap.size ≤ gb356)); have n6_ := Aside0.mk ((by rw [hg]; exact Nat.ne_of_lt (blk_lt (g := gb353) (o := .cells #[.int .i64 x354000_1, .int .i64 x354001_1, .int .i64 x354002_1, .int .i64 x354003_1, .int .i64 x354004_1] 25 (0, 0)) (by (with_reducible repeat (first | refine blk_drewN ?_ _ | refine blk_drew ?_ | refine blk_alloc ?_ _)); exact BK353.out)) : gb353 ≠ gb356)); have n7_ := Aside0.mk ((by rw [hg]; exact Nat.ne_of_gt (blk_lt (g := gb353) (o := .cells #[.int .i64 x354000_1, .int .i64 x354001_1, .int .i64 x354002_1, .int .i64 x354003_1, .int .i64 x354004_1] 25 (0, 0)) (by (with_reducible repeat (first | refine blk_drewN ?_ _ | refine blk_drew ?_ | refine blk_alloc ?_ _)); exact BK353.out)) : gb356 ≠ gb353)); have n8_ := Aside0.mk ((by rw [hg]; exact Nat.ne_of_lt (blk_lt (g := gb354) (o := .cells #[.int .i64 x355000_1, .int .i64 x355001_1, .int .i64 x355002_1, .int .i64 x355003_1, .int .i64 x355004_1] 25 (0, 0)) (by (with_reducible repeat (first | refine blk_drewN ?_ _ | refine blk_drew ?_ | refine blk_alloc ?_ _)); exact BK354.out)) : gb354 ≠ gb356)); have n9_ := Aside0.mk ((by rw [hg]; exact Nat.ne_of_gt (blk_lt (g := gb354) (o := .cells #[.int .i64 x355000_1, .int .i64 x355001_1, .int .i64 x355002_1, .int .i64 x355003_1, .int .i64 x355004_1] 25 (0, 0)) (by (with_reducible repeat (first | refine blk_drewN ?_ _ | refine blk_drew ?_ | refine blk_alloc ?_ _)); exact BK354.out)) : gb356 ≠ gb354)); clear BK353; clear BK354; clear HB; have BK353 := n0_; have BK354 := n1_; have HB := n2_; have BK356 := n3_; have GW356 := n4_; have GE356 := n5_; have NB353_356 := n6_; have NB356_353 := n7_; have NB354_356 := n8_; have NB356_354 := n9_; clear n0_ n1_ n2_ n3_ n4_ n5_ n6_ n7_ n8_ n9_; clear hb hbox hg; have hnb9 := NB356_353.out; have hnc9 := NB353_356.out; have hnb10 := NB356_354.out; have hnc10 := NB354_356.out; have hcz11_0 : w8.cell? ⟨gb356, 0, none⟩ = some (.int .i64 0) := (blk_cell BK356.out 0).trans rfl; have hcz11_1 : w8.cell? ⟨gb356, 1, none⟩ = some (.int .i64 0) := (blk_cell BK356.out 1).trans rfl; have hcz11_2 : w8.cell? ⟨gb356, 2, none⟩ = some (.int .i64 0) := (blk_cell BK356.out 2).trans rfl; have hfz11_0 := blk_frozen BK356.out 0; have hfz11_1 := blk_frozen BK356.out 1; have hfz11_2 := blk_frozen BK356.out 2) | (go_at_call 18; (with_reducible refine (whittleref3_Right.calls ((rd_T23 l0 x5_1).f0) ((rd_T23 l0 x5_1).f1) ((rd_T23 l0 x5_1).f2) t357 _ A6.out).mono ?_); rintro e w12 ⟨rfl, hb⟩; have n0_ := Aside0.mk (blk_below (g := gb353) (o := .cells #[.int .i64 x354000_1, .int .i64 x354001_1, .int .i64 x354002_1, .int .i64 x354003_1, .int .i64 x354004_1] 25 (0, 0)) (by (with_reducible repeat (first | refine blk_drewN ?_ _ | refine blk_drew ?_ | refine blk_alloc ?_ _)); refine blk_far ?_ NB353_356.out _; (with_reducible repeat (first | refine blk_drewN ?_ _ | refine blk_drew ?_ | refine blk_alloc ?_ _)); refine blk_far ?_ NB353_356.out _; (with_reducible repeat (first | refine blk_drewN ?_ _ | refine blk_drew ?_ | refine blk_alloc ?_ _)); refine blk_far ?_ NB353_356.out _; (with_reducible repeat (first | refine blk_drewN ?_ _ | refine blk_drew ?_ | refine blk_alloc ?_ _)); exact BK353.out) hb); have n1_ := Aside0.mk (blk_below (g := gb354) (o := .cells #[.int .i64 x355000_1, .int .i64 x355001_1, .int .i64 x355002_1, .int .i64 x355003_1, .int .i64 x355004_1] 25 (0, 0)) (by (with_reducible repeat (first | refine blk_drewN ?_ _ | refine blk_drew ?_ | refine blk_alloc ?_ _)); refine blk_far ?_ NB354_356.out _; (with_reducible repeat (first | refine blk_drewN ?_ _ | refine blk_drew ?_ | refine blk_alloc ?_ _)); refine blk_far ?_ NB354_356.out _; (with_reducible repeat (first | refine blk_drewN ?_ _ | refine blk_drew ?_ | refine blk_alloc ?_ _)); refine blk_far ?_ NB354_356.out _; (with_reducible repeat (first | refine blk_drewN ?_ _ | refine blk_drew ?_ | refine blk_alloc ?_ _)); exact BK354.out) hb); have n2_ := Aside0.mk (blk_below (g := gb356) (o := .cells #[.int .i64 ((rd_T23 l0 x5_1).f0), .int .i64 ((rd_T23 l0 x5_1).f1), .int .i64 ((rd_T23 l0 x5_1).f2)] 23 (0, 0)) (by (with_reducible repeat (first | refine blk_drewN ?_ _ | refine blk_drew ?_ | refine blk_alloc ?_ _)); refine blk_put (cs := #[.int .i64 ((rd_T23 l0 x5_1).f0), .int .i64 ((rd_T23 l0 x5_1).f1), .int .i64 0]) ?_ 2 _ rfl; (with_reducible repeat (first | refine blk_drewN ?_ _ | refine blk_drew ?_ | refine blk_alloc ?_ _)); refine blk_put (cs := #[.int .i64 ((rd_T23 l0 x5_1).f0), .int .i64 0, .int .i64 0]) ?_ 1 _ rfl; (with_reducible repeat (first | refine blk_drewN ?_ _ | refine blk_drew ?_ | refine blk_alloc ?_ _)); refine blk_put (cs := #[.int .i64 0, .int .i64 0, .int .i64 0]) ?_ 0 _ rfl; (with_reducible repeat (first | refine blk_drewN ?_ _ | refine blk_drew ?_ | refine blk_alloc ?_ _)); exact BK356.out) hb); have n3_ := Aside0.mk (below_step (by repeat (first | (with_reducible first | exact HB.out | apply below_alloc | apply pw_below_drewN | apply below_drew1 | refine below_set ?_ GE353.out | refine below_set ?_ GE354.out | refine below_set ?_ GE356.out) | exact HB.out)) hb); clear BK353; clear BK354; clear BK356; clear HB; have BK353 := n0_; have BK354 := n1_; have BK356 := n2_; have HB := n3_; clear n0_ n1_ n2_ n3_; (try clear hb); (try clear hb2); (try clear hk); (try clear hi)))
          repeat (go_quiet (first | ((with_reducible refine gate_dst (N := 6) rfl ?_); refine box_event ?hg (N := 6) ?hd (cs := #[.int .i64 0, .int .i64 0, .int .i64 0]) (t := 23) ?hr ?_; (case hd => rfl); (case hg => rfl); (case hr => first | (go_simp; done) | (go_simp; rfl)); intro gb356 hg w8 hbox hb; have n0_ := Aside0.mk (blk_below (g := gb353) (o := .cells #[.int .i64 x354000_1, .int .i64 x354001_1, .int .i64 x354002_1, .int .i64 x354003_1, .int .i64 x354004_1] 25 (0, 0)) (by (with_reducible repeat (first | refine blk_drewN ?_ _ | refine blk_drew ?_ | refine blk_alloc ?_ _)); exact BK353.out) hb); have n1_ := Aside0.mk (blk_below (g := gb354) (o := .cells #[.int .i64 x355000_1, .int .i64 x355001_1, .int .i64 x355002_1, .int .i64 x355003_1, .int .i64 x355004_1] 25 (0, 0)) (by (with_reducible repeat (first | refine blk_drewN ?_ _ | refine blk_drew ?_ | refine blk_alloc ?_ _)); exact BK354.out) hb); have n2_ := Aside0.mk (below_step (by repeat (first | (with_reducible first | exact HB.out | apply below_alloc | apply pw_below_drewN | apply below_drew1 | refine below_set ?_ GE353.out | refine below_set ?_ GE354.out) | exact HB.out)) hb); have n3_ := Aside0.mk (hbox); have n4_ := Aside0.mk ((by rw [hg]; exact (below_size (by repeat (first | (with_reducible first | exact HB.out | apply below_alloc | apply pw_below_drewN | apply below_drew1 | refine below_set ?_ GE353.out | refine below_set ?_ GE354.out) | exact HB.out))) : w.heap.size ≤ gb356)); have n5_ := Aside0.mk ((by rw [hg]; exact (below_size (by repeat (first | (with_reducible first | exact HB.out | apply below_alloc | apply pw_below_drewN | apply below_drew1 | refine below_set ?_ GE353.out | refine below_set ?_ GE354.out) | exact HB.out))) : w.heap.size ≤ gb356)); have n6_ := Aside0.mk ((by rw [hg]; exact Nat.ne_of_lt (blk_lt (g := gb353) (o := .cells #[.int .i64 x354000_1, .int .i64 x354001_1, .int .i64 x354002_1, .int .i64 x354003_1, .int .i64 x354004_1] 25 (0, 0)) (by (with_reducible repeat (first | refine blk_drewN ?_ _ | refine blk_drew ?_ | refine blk_alloc ?_ _)); exact BK353.out)) : gb353 ≠ gb356)); have n7_ := Aside0.mk ((by rw [hg]; exact Nat.ne_of_gt (blk_lt (g := gb353) (o := .cells #[.int .i64 x354000_1, .int .i64 x354001_1, .int .i64 x354002_1, .int .i64 x354003_1, .int .i64 x354004_1] 25 (0, 0)) (by (with_reducible repeat (first | refine blk_drewN ?_ _ | refine blk_drew ?_ | refine blk_alloc ?_ _)); exact BK353.out)) : gb356 ≠ gb353)); have n8_ := Aside0.mk ((by rw [hg]; exact Nat.ne_of_lt (blk_lt (g := gb354) (o := .cells #[.int .i64 x355000_1, .int .i64 x355001_1, .int .i64 x355002_1, .int .i64 x355003_1, .int .i64 x355004_1] 25 (0, 0)) (by (with_reducible repeat (first | refine blk_drewN ?_ _ | refine blk_drew ?_ | refine blk_alloc ?_ _)); exact BK354.out)) : gb354 ≠ gb356)); have n9_ := Aside0.mk ((by rw [hg]; exact Nat.ne_of_gt (blk_lt (g := gb354) (o := .cells #[.int .i64 x355000_1, .int .i64 x355001_1, .int .i64 x355002_1, .int .i64 x355003_1, .int .i64 x355004_1] 25 (0, 0)) (by (with_reducible repeat (first | refine blk_drewN ?_ _ | refine blk_drew ?_ | refine blk_alloc ?_ _)); exact BK354.out)) : gb356 ≠ gb354)); clear BK353; clear BK354; clear HB; have BK353 := n0_; have BK354 := n1_; have HB := n2_; have BK356 := n3_; have GW356 := n4_; have GE356 := n5_; have NB353_356 := n6_; have NB356_353 := n7_; have NB354_356 := n8_; have NB356_354 := n9_; clear n0_ n1_ n2_ n3_ n4_ n5_ n6_ n7_ n8_ n9_; clear hb hbox hg; have hnb9 := NB356_353.out; have hnc9 := NB353_356.out; have hnb10 := NB356_354.out; have hnc10 := NB354_356.out; have hcz11_0 : w8.cell? ⟨gb356, 0, none⟩ = some (.int .i64 0) := (blk_cell BK356.out 0).trans rfl; have hcz11_1 : w8.cell? ⟨gb356, 1, none⟩ = some (.int .i64 0) := (blk_cell BK356.out 1).trans rfl; have hcz11_2 : w8.cell? ⟨gb356, 2, none⟩ = some (.int .i64 0) := (blk_cell BK356.out 2).trans rfl; have hfz11_0 := blk_frozen BK356.out 0; have hfz11_1 := blk_frozen BK356.out 1; have hfz11_2 := blk_frozen BK356.out 2) | (go_at_call 18; (with_reducible refine (whittleref3_Right.calls ((rd_T23 l0 x5_1).f0) ((rd_T23 l0 x5_1).f1) ((rd_T23 l0 x5_1).f2) t357 _ A6.out).mono ?_); rintro e w12 ⟨rfl, hb⟩; have n0_ := Aside0.mk (blk_below (g := gb353) (o := .cells #[.int .i64 x354000_1, .int .i64 x354001_1, .int .i64 x354002_1, .int .i64 x354003_1, .int .i64 x354004_1] 25 (0, 0)) (by (with_reducible repeat (first | refine blk_drewN ?_ _ | refine blk_drew ?_ | refine blk_alloc ?_ _)); refine blk_far ?_ NB353_356.out _; (with_reducible repeat (first | refine blk_drewN ?_ _ | refine blk_drew ?_ | refine blk_alloc ?_ _)); refine blk_far ?_ NB353_356.out _; (with_reducible repeat (first | refine blk_drewN ?_ _ | refine blk_drew ?_ | refine blk_alloc ?_ _)); refine blk_far ?_ NB353_356.out _; (with_reducible repeat (first | refine blk_drewN ?_ _ | refine blk_drew ?_ | refine blk_alloc ?_ _)); exact BK353.out) hb); have n1_ := Aside0.mk (blk_below (g := gb354) (o := .cells #[.int .i64 x355000_1, .int .i64 x355001_1, .int .i64 x355002_1, .int .i64 x355003_1, .int .i64 x355004_1] 25 (0, 0)) (by (with_reducible repeat (first | refine blk_drewN ?_ _ | refine blk_drew ?_ | refine blk_alloc ?_ _)); refine blk_far ?_ NB354_356.out _; (with_reducible repeat (first | refine blk_drewN ?_ _ | refine blk_drew ?_ | refine blk_alloc ?_ _)); refine blk_far ?_ NB354_356.out _; (with_reducible repeat (first | refine blk_drewN ?_ _ | refine blk_drew ?_ | refine blk_alloc ?_ _)); refine blk_far ?_ NB354_356.out _; (with_reducible repeat (first | refine blk_drewN ?_ _ | refine blk_drew ?_ | refine blk_alloc ?_ _)); exact BK354.out) hb); have n2_ := Aside0.mk (blk_below (g := gb356) (o := .cells #[.int .i64 ((rd_T23 l0 x5_1).f0), .int .i64 ((rd_T23 l0 x5_1).f1), .int .i64 ((rd_T23 l0 x5_1).f2)] 23 (0, 0)) (by (with_reducible repeat (first | refine blk_drewN ?_ _ | refine blk_drew ?_ | refine blk_alloc ?_ _)); refine blk_put (cs := #[.int .i64 ((rd_T23 l0 x5_1).f0), .int .i64 ((rd_T23 l0 x5_1).f1), .int .i64 0]) ?_ 2 _ rfl; (with_reducible repeat (first | refine blk_drewN ?_ _ | refine blk_drew ?_ | refine blk_alloc ?_ _)); refine blk_put (cs := #[.int .i64 ((rd_T23 l0 x5_1).f0), .int .i64 0, .int .i64 0]) ?_ 1 _ rfl; (with_reducible repeat (first | refine blk_drewN ?_ _ | refine blk_drew ?_ | refine blk_alloc ?_ _)); refine blk_put (cs := #[.int .i64 0, .int .i64 0, .int .i64 0]) ?_ 0 _ rfl; (with_reducible repeat (first | refine blk_drewN ?_ _ | refine blk_drew ?_ | refine blk_alloc ?_ _)); exact BK356.out) hb); have n3_ := Aside0.mk (below_step (by repeat (first | (with_reducible first | exact HB.out | apply below_alloc | apply pw_below_drewN | apply below_drew1 | refine below_set ?_ GE353.out | refine below_set ?_ GE354.out | refine below_set ?_ GE356.out) | exact HB.out)) hb); clear BK353; clear BK354; clear BK356; clear HB; have BK353 := n0_; have BK354 := n1_; have BK356 := n2_; have HB := n3_; clear n0_ n1_ n2_ n3_; (try clear hb); (try clear hb2); (try clear hk); (try clear hi))); go_upto_region 7 with (first | ((with_reducible refine gate_dst (N := 6) rfl ?_); refine box_event ?hg (N := 6) ?hd (cs := #[.int .i64 0, .int .i64 0, .int .i64 0]) (t := 23) ?hr ?_; (case hd => rfl); (case hg => rfl); (case hr => first | (go_simp; done) | (go_simp; rfl)); intro gb356 hg w8 hbox hb; have n0_ := Aside0.mk (blk_below (g := gb353) (o := .cells #[.int .i64 x354000_1, .int .i64 x354001_1, .int .i64 x354002_1, .int .i64 x354003_1, .int .i64 x354004_1] 25 (0, 0)) (by (with_reducible repeat (first | refine blk_drewN ?_ _ | refine blk_drew ?_ | refine blk_alloc ?_ _)); exact BK353.out) hb); have n1_ := Aside0.mk (blk_below (g := gb354) (o := .cells #[.int .i64 x355000_1, .int .i64 x355001_1, .int .i64 x355002_1, .int .i64 x355003_1, .int .i64 x355004_1] 25 (0, 0)) (by (with_reducible repeat (first | refine blk_drewN ?_ _ | refine blk_drew ?_ | refine blk_alloc ?_ _)); exact BK354.out) hb); have n2_ := Aside0.mk (below_step (by repeat (first | (with_reducible first | exact HB.out | apply below_alloc | apply pw_below_drewN | apply below_drew1 | refine below_set ?_ GE353.out | refine below_set ?_ GE354.out) | exact HB.out)) hb); have n3_ := Aside0.mk (hbox); have n4_ := Aside0.mk ((by rw [hg]; exact (below_size (by repeat (first | (with_reducible first | exact HB.out | apply below_alloc | apply pw_below_drewN | apply below_drew1 | refine below_set ?_ GE353.out | refine below_set ?_ GE354.out) | exact HB.out))) : w.heap.size ≤ gb356)); have n5_ := Aside0.mk ((by rw [hg]; exact (below_size (by repeat (first | (with_reducible first | exact HB.out | apply below_alloc | apply pw_below_drewN | apply below_drew1 | refine below_set ?_ GE353.out | refine below_set ?_ GE354.out) | exact HB.out))) : w.heap.size ≤ gb356)); have n6_ := Aside0.mk ((by rw [hg]; exact Nat.ne_of_lt (blk_lt (g := gb353) (o := .cells #[.int .i64 x354000_1, .int .i64 x354001_1, .int .i64 x354002_1, .int .i64 x354003_1, .int .i64 x354004_1] 25 (0, 0)) (by (with_reducible repeat (first | refine blk_drewN ?_ _ | refine blk_drew ?_ | refine blk_alloc ?_ _)); exact BK353.out)) : gb353 ≠ gb356)); have n7_ := Aside0.mk ((by rw [hg]; exact Nat.ne_of_gt (blk_lt (g := gb353) (o := .cells #[.int .i64 x354000_1, .int .i64 x354001_1, .int .i64 x354002_1, .int .i64 x354003_1, .int .i64 x354004_1] 25 (0, 0)) (by (with_reducible repeat (first | refine blk_drewN ?_ _ | refine blk_drew ?_ | refine blk_alloc ?_ _)); exact BK353.out)) : gb356 ≠ gb353)); have n8_ := Aside0.mk ((by rw [hg]; exact Nat.ne_of_lt (blk_lt (g := gb354) (o := .cells #[.int .i64 x355000_1, .int .i64 x355001_1, .int .i64 x355002_1, .int .i64 x355003_1, .int .i64 x355004_1] 25 (0, 0)) (by (with_reducible repeat (first | refine blk_drewN ?_ _ | refine blk_drew ?_ | refine blk_alloc ?_ _)); exact BK354.out)) : gb354 ≠ gb356)); have n9_ := Aside0.mk ((by rw [hg]; exact Nat.ne_of_gt (blk_lt (g := gb354) (o := .cells #[.int .i64 x355000_1, .int .i64 x355001_1, .int .i64 x355002_1, .int .i64 x355003_1, .int .i64 x355004_1] 25 (0, 0)) (by (with_reducible repeat (first | refine blk_drewN ?_ _ | refine blk_drew ?_ | refine blk_alloc ?_ _)); exact BK354.out)) : gb356 ≠ gb354)); clear BK353; clear BK354; clear HB; have BK353 := n0_; have BK354 := n1_; have HB := n2_; have BK356 := n3_; have GW356 := n4_; have GE356 := n5_; have NB353_356 := n6_; have NB356_353 := n7_; have NB354_356 := n8_; have NB356_354 := n9_; clear n0_ n1_ n2_ n3_ n4_ n5_ n6_ n7_ n8_ n9_; clear hb hbox hg; have hnb9 := NB356_353.out; have hnc9 := NB353_356.out; have hnb10 := NB356_354.out; have hnc10 := NB354_356.out; have hcz11_0 : w8.cell? ⟨gb356, 0, none⟩ = some (.int .i64 0) := (blk_cell BK356.out 0).trans rfl; have hcz11_1 : w8.cell? ⟨gb356, 1, none⟩ = some (.int .i64 0) := (blk_cell BK356.out 1).trans rfl; have hcz11_2 : w8.cell? ⟨gb356, 2, none⟩ = some (.int .i64 0) := (blk_cell BK356.out 2).trans rfl; have hfz11_0 := blk_frozen BK356.out 0; have hfz11_1 := blk_frozen BK356.out 1; have hfz11_2 := blk_frozen BK356.out 2) | (go_at_call 18; (with_reducible refine (whittleref3_Right.calls ((rd_T23 l0 x5_1).f0) ((rd_T23 l0 x5_1).f1) ((rd_T23 l0 x5_1).f2) t357 _ A6.out).mono ?_); rintro e w12 ⟨rfl, hb⟩; have n0_ := Aside0.mk (blk_below (g := gb353) (o := .cells #[.int .i64 x354000_1, .int .i64 x354001_1, .int .i64 x354002_1, .int .i64 x354003_1, .int .i64 x354004_1] 25 (0, 0)) (by (with_reducible repeat (first | refine blk_drewN ?_ _ | refine blk_drew ?_ | refine blk_alloc ?_ _)); refine blk_far ?_ NB353_356.out _; (with_reducible repeat (first | refine blk_drewN ?_ _ | refine blk_drew ?_ | refine blk_alloc ?_ _)); refine blk_far ?_ NB353_356.out _; (with_reducible repeat (first | refine blk_drewN ?_ _ | refine blk_drew ?_ | refine blk_alloc ?_ _)); refine blk_far ?_ NB353_356.out _; (with_reducible repeat (first | refine blk_drewN ?_ _ | refine blk_drew ?_ | refine blk_alloc ?_ _)); exact BK353.out) hb); have n1_ := Aside0.mk (blk_below (g := gb354) (o := .cells #[.int .i64 x355000_1, .int .i64 x355001_1, .int .i64 x355002_1, .int .i64 x355003_1, .int .i64 x355004_1] 25 (0, 0)) (by (with_reducible repeat (first | refine blk_drewN ?_ _ | refine blk_drew ?_ | refine blk_alloc ?_ _)); refine blk_far ?_ NB354_356.out _; (with_reducible repeat (first | refine blk_drewN ?_ _ | refine blk_drew ?_ | refine blk_alloc ?_ _)); refine blk_far ?_ NB354_356.out _; (with_reducible repeat (first | refine blk_drewN ?_ _ | refine blk_drew ?_ | refine blk_alloc ?_ _)); refine blk_far ?_ NB354_356.out _; (with_reducible repeat (first | refine blk_drewN ?_ _ | refine blk_drew ?_ | refine blk_alloc ?_ _)); exact BK354.out) hb); have n2_ := Aside0.mk (blk_below (g := gb356) (o := .cells #[.int .i64 ((rd_T23 l0 x5_1).f0), .int .i64 ((rd_T23 l0 x5_1).f1), .int .i64 ((rd_T23 l0 x5_1).f2)] 23 (0, 0)) (by (with_reducible repeat (first | refine blk_drewN ?_ _ | refine blk_drew ?_ | refine blk_alloc ?_ _)); refine blk_put (cs := #[.int .i64 ((rd_T23 l0 x5_1).f0), .int .i64 ((rd_T23 l0 x5_1).f1), .int .i64 0]) ?_ 2 _ rfl; (with_reducible repeat (first | refine blk_drewN ?_ _ | refine blk_drew ?_ | refine blk_alloc ?_ _)); refine blk_put (cs := #[.int .i64 ((rd_T23 l0 x5_1).f0), .int .i64 0, .int .i64 0]) ?_ 1 _ rfl; (with_reducible repeat (first | refine blk_drewN ?_ _ | refine blk_drew ?_ | refine blk_alloc ?_ _)); refine blk_put (cs := #[.int .i64 0, .int .i64 0, .int .i64 0]) ?_ 0 _ rfl; (with_reducible repeat (first | refine blk_drewN ?_ _ | refine blk_drew ?_ | refine blk_alloc ?_ _)); exact BK356.out) hb); have n3_ := Aside0.mk (below_step (by repeat (first | (with_reducible first | exact HB.out | apply below_alloc | apply pw_below_drewN | apply below_drew1 | refine below_set ?_ GE353.out | refine below_set ?_ GE354.out | refine below_set ?_ GE356.out) | exact HB.out)) hb); clear BK353; clear BK354; clear BK356; clear HB; have BK353 := n0_; have BK354 := n1_; have BK356 := n2_; have HB := n3_; clear n0_ n1_ n2_ n3_; (try clear hb); (try clear hb2); (try clear hk); (try clear hi))))
          (try simp only [Act.put, List.setIfInBounds_toArray, List.set_cons_zero, List.set_cons_succ])
          go_cut [30] (fun v30 wc => ∃ (kq : Nat) (x30_6 : Bool), v30 = .bool x30_6 ∧ Aside0 (whittleref3_Hull.j1 kq l0 x5_1 x30_6 x355000_1 x355001_1 x355002_1 x355003_1 x355004_1 ((rd_T23 l0 x5_1).f0) ((rd_T23 l0 x5_1).f1) ((rd_T23 l0 x5_1).f2) = some (r1, r2, r3, r4, r5, r6)) ∧ Aside0 (kq ≤ k1) ∧ Aside0 (wc.heap[gb353]? = some (.cells #[.int .i64 x354000_1, .int .i64 x354001_1, .int .i64 x354002_1, .int .i64 x354003_1, .int .i64 x354004_1] 25 (0, 0))) ∧ Aside0 (wc.heap[gb354]? = some (.cells #[.int .i64 x355000_1, .int .i64 x355001_1, .int .i64 x355002_1, .int .i64 x355003_1, .int .i64 x355004_1] 25 (0, 0))) ∧ Aside0 (wc.heap[gb356]? = some (.cells #[.int .i64 ((rd_T23 l0 x5_1).f0), .int .i64 ((rd_T23 l0 x5_1).f1), .int .i64 ((rd_T23 l0 x5_1).f2)] 23 (0, 0))) ∧ Aside0 (Below w.heap.size w wc))
          case first =>
            have H := HC7.out
            clear HC7
            by_cases c13 : t357 = true
            · subst c13
              have H1 : (if 0 < (l0.length : Int) then (whittleref3_Hull.j1 k1 l0 x5_1 (((rd_T23 l0 x5_1).f0) != ((rd_T23 l0 0).f0)) x355000_1 x355001_1 x355002_1 x355003_1 x355004_1 ((rd_T23 l0 x5_1).f0) ((rd_T23 l0 x5_1).f1) ((rd_T23 l0 x5_1).f2)) else (none)) = some (r1, r2, r3, r4, r5, r6) := by rw [if_pos rfl] at H; exact H
              clear H
              have H := H1
              clear H1
              by_cases c14 : 0 < (l0.length : Int)
              · rw [if_pos c14] at H
                have c14b0 : decide (0 < (l0.length : Int)) = true := decide_eq_true c14
                have c14b1 : decide (0 < l0.length) = true := decide_eq_true (by omega)
                clear c14
                (first | rw [c14b0] | (simp only [i64_w, i32_w]; rw [c14b0]) | skip)
                have H' := Aside0.mk H
                clear H
                have hnb15 := NB356_353.out
                have hnc15 := NB353_356.out
                have hnb16 := NB356_354.out
                have hnc16 := NB354_356.out
                have hcz17_0 : w12.cell? ⟨gb356, 0, none⟩ = some (.int .i64 ((rd_T23 l0 x5_1).f0)) := (blk_cell BK356.out 0).trans rfl
                have hcz17_1 : w12.cell? ⟨gb356, 1, none⟩ = some (.int .i64 ((rd_T23 l0 x5_1).f1)) := (blk_cell BK356.out 1).trans rfl
                have hcz17_2 : w12.cell? ⟨gb356, 2, none⟩ = some (.int .i64 ((rd_T23 l0 x5_1).f2)) := (blk_cell BK356.out 2).trans rfl
                have hfz17_0 := blk_frozen BK356.out 0
                have hfz17_1 := blk_frozen BK356.out 1
                have hfz17_2 := blk_frozen BK356.out 2
                have p358 : 0 ≤ (0 : Int) := (by omega)
                have q358 : 0 < (l0.length : Int) := of_decide_eq_true (by first | (with_reducible assumption) | assumption)
                obtain ⟨ad358, e358, hx358_0, hx358_1, hx358_2⟩ := at_T23 HR0.out 0 p358 q358
                obtain rfl : ad355 = ad358 := (by injection e358)
                have qi358 : (0 < l0.length) = True := eq_true (by omega)
                (try rw [show ((0 : Int)).toNat = 0 from rfl] at hx358_0)
                (try rw [show 0 * 3 = 0 from rfl] at hx358_0)
                (try rw [Addr.add_zero'] at hx358_0)
                (try rw [show ((0 : Int)).toNat = 0 from rfl] at hx358_1)
                (try rw [show 0 * 3 = 0 from rfl] at hx358_1)
                (try rw [Addr.add_zero'] at hx358_1)
                (try rw [show ((0 : Int)).toNat = 0 from rfl] at hx358_2)
                (try rw [show 0 * 3 = 0 from rfl] at hx358_2)
                (try rw [Addr.add_zero'] at hx358_2)
                replace hx358_0 := (HB.out.cell (World.block_lt_of_cell? w _ hx358_0)).trans hx358_0
                replace hx358_1 := (HB.out.cell (World.block_lt_of_cell? w _ hx358_1)).trans hx358_1
                replace hx358_2 := (HB.out.cell (World.block_lt_of_cell? w _ hx358_2)).trans hx358_2
                replace p358 := eq_true p358
                replace q358 := eq_true q358
                go_wp2
                repeat (go_quiet (fail); try go_wp2)
                go_meet
                case rel => exact ⟨_, ((((rd_T23 l0 x5_1).f0) != ((rd_T23 l0 0).f0))), (by first | rfl | (simp; done) | (simp [*]; done)), H', ⟨by have := HK1.out; first | omega | exact Nat.le_refl _⟩, ⟨by (with_reducible repeat (first | refine blk_drewN ?_ _ | refine blk_drew ?_ | refine blk_alloc ?_ _)); exact BK353.out⟩, ⟨by (with_reducible repeat (first | refine blk_drewN ?_ _ | refine blk_drew ?_ | refine blk_alloc ?_ _)); exact BK354.out⟩, ⟨by (with_reducible repeat (first | refine blk_drewN ?_ _ | refine blk_drew ?_ | refine blk_alloc ?_ _)); exact BK356.out⟩, ⟨by repeat (first | (with_reducible first | exact HB.out | apply below_alloc | apply pw_below_drewN | apply below_drew1 | refine below_set ?_ GE353.out | refine below_set ?_ GE354.out | refine below_set ?_ GE356.out) | exact HB.out)⟩⟩
              · rw [if_neg c14] at H
                exact absurd H (by simp)
            · replace c13 := Bool.eq_false_iff.mpr c13
              subst c13
              have H1 : (whittleref3_Hull.j1 k1 l0 x5_1 true x355000_1 x355001_1 x355002_1 x355003_1 x355004_1 ((rd_T23 l0 x5_1).f0) ((rd_T23 l0 x5_1).f1) ((rd_T23 l0 x5_1).f2)) = some (r1, r2, r3, r4, r5, r6) := by rw [if_neg (show ¬ (false = true) by decide)] at H; exact H
              clear H
              have H := H1
              clear H1
              have H' := Aside0.mk H
              clear H
              go_wp2
              repeat (go_quiet (fail); try go_wp2)
              go_meet
              case rel => exact ⟨_, (true), (by first | rfl | (simp; done) | (simp [*]; done)), H', ⟨by have := HK1.out; first | omega | exact Nat.le_refl _⟩, ⟨by (with_reducible repeat (first | refine blk_drewN ?_ _ | refine blk_drew ?_ | refine blk_alloc ?_ _)); exact BK353.out⟩, ⟨by (with_reducible repeat (first | refine blk_drewN ?_ _ | refine blk_drew ?_ | refine blk_alloc ?_ _)); exact BK354.out⟩, ⟨by (with_reducible repeat (first | refine blk_drewN ?_ _ | refine blk_drew ?_ | refine blk_alloc ?_ _)); exact BK356.out⟩, ⟨by repeat (first | (with_reducible first | exact HB.out | apply below_alloc | apply pw_below_drewN | apply below_drew1 | refine below_set ?_ GE353.out | refine below_set ?_ GE354.out | refine below_set ?_ GE356.out) | exact HB.out)⟩⟩
          case rest =>
            clear HC7
            try clear c1
            try clear p2
            try clear c3
            try clear p3
            try clear q3
            try clear hx3
            try clear qi3
            try clear c4
            try clear c4b0
            try clear c5
            try clear c5b0
            try clear c9
            try clear c10
            try clear c13
            try clear c14
            try clear c14b0
            try clear c14b1
            try clear c15
            try clear c16
            try clear hcz11_0
            try clear hcz11_1
            try clear hcz11_2
            try clear hcz17_0
            try clear hcz17_1
            try clear hcz17_2
            try clear hfz11_0
            try clear hfz11_1
            try clear hfz11_2
            try clear hfz17_0
            try clear hfz17_1
            try clear hfz17_2
            try clear hx355_0
            try clear hx355_1
            try clear hx355_2
            try clear hx358_0
            try clear hx358_1
            try clear hx358_2
            try clear p2
            try clear p355
            try clear p358
            try clear q355
            try clear q358
            obtain ⟨kq, x30_6, rfl, HA, HJ6, BK353, BK354, BK356, HB⟩ := hcut
            cases kq with
            | zero => exact absurd HA.out (by simp [whittleref3_Hull.j1])
            | succ kj6 =>
              have H := HA.out
              clear HA
              simp only [whittleref3_Hull.j1] at H
              by_cases c18 : x30_6 = true
              · subst c18
                have H1 : (some (0, 0, 0, 0, 0, false)) = some (r1, r2, r3, r4, r5, r6) := by rw [if_pos rfl] at H; exact H
                clear H
                have H := H1
                clear H1
                simp only [Option.some.injEq, Prod.mk.injEq] at H
                obtain ⟨rfl, rfl, rfl, rfl, rfl, rfl⟩ := H
                have hnb19 := NB353_354.out
                have hnc19 := NB354_353.out
                have hnb20 := NB353_356.out
                have hnc20 := NB356_353.out
                have hcz21_0 : wc.cell? ⟨gb353, 0, none⟩ = some (.int .i64 x354000_1) := (blk_cell BK353.out 0).trans rfl
                have hcz21_1 : wc.cell? ⟨gb353, 1, none⟩ = some (.int .i64 x354001_1) := (blk_cell BK353.out 1).trans rfl
                have hcz21_2 : wc.cell? ⟨gb353, 2, none⟩ = some (.int .i64 x354002_1) := (blk_cell BK353.out 2).trans rfl
                have hcz21_3 : wc.cell? ⟨gb353, 3, none⟩ = some (.int .i64 x354003_1) := (blk_cell BK353.out 3).trans rfl
                have hcz21_4 : wc.cell? ⟨gb353, 4, none⟩ = some (.int .i64 x354004_1) := (blk_cell BK353.out 4).trans rfl
                have hfz21_0 := blk_frozen BK353.out 0
                have hfz21_1 := blk_frozen BK353.out 1
                have hfz21_2 := blk_frozen BK353.out 2
                have hfz21_3 := blk_frozen BK353.out 3
                have hfz21_4 := blk_frozen BK353.out 4
                go_wp2
                repeat (go_quiet (fail); try go_wp2)
                refine bodyPost_ret (results_ct rfl _ _ gb353 25 #[.int .i64 0, .int .i64 0, .int .i64 0, .int .i64 0, .int .i64 0] (0, 0) _ rfl (by (with_reducible repeat (first | refine blk_drewN ?_ _ | refine blk_drew ?_ | refine blk_alloc ?_ _)); refine blk_put (cs := #[.int .i64 0, .int .i64 0, .int .i64 0, .int .i64 0, .int .i64 x354004_1]) ?_ 4 _ rfl; (with_reducible repeat (first | refine blk_drewN ?_ _ | refine blk_drew ?_ | refine blk_alloc ?_ _)); refine blk_put (cs := #[.int .i64 0, .int .i64 0, .int .i64 0, .int .i64 x354003_1, .int .i64 x354004_1]) ?_ 3 _ rfl; (with_reducible repeat (first | refine blk_drewN ?_ _ | refine blk_drew ?_ | refine blk_alloc ?_ _)); refine blk_put (cs := #[.int .i64 0, .int .i64 0, .int .i64 x354002_1, .int .i64 x354003_1, .int .i64 x354004_1]) ?_ 2 _ rfl; (with_reducible repeat (first | refine blk_drewN ?_ _ | refine blk_drew ?_ | refine blk_alloc ?_ _)); refine blk_put (cs := #[.int .i64 0, .int .i64 x354001_1, .int .i64 x354002_1, .int .i64 x354003_1, .int .i64 x354004_1]) ?_ 1 _ rfl; (with_reducible repeat (first | refine blk_drewN ?_ _ | refine blk_drew ?_ | refine blk_alloc ?_ _)); refine blk_put (cs := #[.int .i64 x354000_1, .int .i64 x354001_1, .int .i64 x354002_1, .int .i64 x354003_1, .int .i64 x354004_1]) ?_ 0 _ rfl; (with_reducible repeat (first | refine blk_drewN ?_ _ | refine blk_drew ?_ | refine blk_alloc ?_ _)); exact BK353.out) Tryd.underlying25 rfl (by kernel_rfl)) rfl ?_
                exact ⟨by first | rfl | (simp [errW_none, errW_some] <;> rfl) | (simp [*, errW_none, errW_some] <;> rfl), by repeat (first | (with_reducible first | exact HB.out | apply below_alloc | apply pw_below_drewN | apply below_drew1 | refine below_set ?_ GE353.out | refine below_set ?_ GE354.out | refine below_set ?_ GE356.out) | exact HB.out)⟩
              · replace c18 := Bool.eq_false_iff.mpr c18
                subst c18
                have H1 : (if x5_1 = 0 then ((whittleref3_One.f ((rd_T23 l0 x5_1).f0) ((rd_T23 l0 x5_1).f1) ((rd_T23 l0 x5_1).f2)).bind fun bt359 => (whittleref3_Hull.l0 kj6 l0 (wrap64 (x5_1 + 1)) bt359.1 (mn bt359.2.1 ((rd_T23 l0 x5_1).f1)) (mn bt359.2.2.1 ((rd_T23 l0 x5_1).f2)) (mx bt359.2.2.2.1 ((rd_T23 l0 x5_1).f1)) (mx bt359.2.2.2.2.1 ((rd_T23 l0 x5_1).f2)))) else (whittleref3_Hull.l0 kj6 l0 (wrap64 (x5_1 + 1)) x355000_1 (mn x355001_1 ((rd_T23 l0 x5_1).f1)) (mn x355002_1 ((rd_T23 l0 x5_1).f2)) (mx x355003_1 ((rd_T23 l0 x5_1).f1)) (mx x355004_1 ((rd_T23 l0 x5_1).f2)))) = some (r1, r2, r3, r4, r5, r6) := by rw [if_neg (show ¬ (false = true) by decide)] at H; exact H
                clear H
                have H := H1
                clear H1
                by_cases c22 : x5_1 = 0
                · rw [if_pos c22] at H
                  have c22b0 : (x5_1 == 0) = true := beq_iff_eq.mpr c22
                  have c22b1 : (x5_1 != 0) = false := bne_eq_false_iff_eq.mpr c22
                  clear c22
                  replace H := Option.bind_eq_some_iff.mp H
                  obtain ⟨⟨t359, t360, t361, t362, t363, t364⟩, A230, H⟩ := H
                  replace H : (whittleref3_Hull.l0 kj6 l0 (wrap64 (x5_1 + 1)) t359 (mn t360 ((rd_T23 l0 x5_1).f1)) (mn t361 ((rd_T23 l0 x5_1).f2)) (mx t362 ((rd_T23 l0 x5_1).f1)) (mx t363 ((rd_T23 l0 x5_1).f2))) = some (r1, r2, r3, r4, r5, r6) := H
                  have A23 := Aside0.mk A230
                  clear A230
                  obtain ⟨ji24, hji24⟩ : ∃ j_ : Int, (mn t360 ((rd_T23 l0 x5_1).f1)) = j_ := ⟨_, rfl⟩
                  replace H : (whittleref3_Hull.l0 kj6 l0 (wrap64 (x5_1 + 1)) t359 ji24 (mn t361 ((rd_T23 l0 x5_1).f2)) (mx t362 ((rd_T23 l0 x5_1).f1)) (mx t363 ((rd_T23 l0 x5_1).f2))) = some (r1, r2, r3, r4, r5, r6) := by first | (rw [hji24] at H; exact H) | (simp only [hji24] at H ⊢; exact H)
                  (try rw [hji24] at A23)
                  have hji24_ : (if ((rd_T23 l0 x5_1).f1) < t360 then ((rd_T23 l0 x5_1).f1) else t360) = ji24 := hji24
                  obtain ⟨ji25, hji25⟩ : ∃ j_ : Int, (mx t362 ((rd_T23 l0 x5_1).f1)) = j_ := ⟨_, rfl⟩
                  replace H : (whittleref3_Hull.l0 kj6 l0 (wrap64 (x5_1 + 1)) t359 ji24 (mn t361 ((rd_T23 l0 x5_1).f2)) ji25 (mx t363 ((rd_T23 l0 x5_1).f2))) = some (r1, r2, r3, r4, r5, r6) := by first | (rw [hji25] at H; exact H) | (simp only [hji25] at H ⊢; exact H)
                  (try rw [hji25] at A23)
                  have hji25_ : (if t362 < ((rd_T23 l0 x5_1).f1) then ((rd_T23 l0 x5_1).f1) else t362) = ji25 := hji25
                  obtain ⟨ji26, hji26⟩ : ∃ j_ : Int, (mn t361 ((rd_T23 l0 x5_1).f2)) = j_ := ⟨_, rfl⟩
                  replace H : (whittleref3_Hull.l0 kj6 l0 (wrap64 (x5_1 + 1)) t359 ji24 ji26 ji25 (mx t363 ((rd_T23 l0 x5_1).f2))) = some (r1, r2, r3, r4, r5, r6) := by first | (rw [hji26] at H; exact H) | (simp only [hji26] at H ⊢; exact H)
                  (try rw [hji26] at A23)
                  have hji26_ : (if ((rd_T23 l0 x5_1).f2) < t361 then ((rd_T23 l0 x5_1).f2) else t361) = ji26 := hji26
                  obtain ⟨ji27, hji27⟩ : ∃ j_ : Int, (mx t363 ((rd_T23 l0 x5_1).f2)) = j_ := ⟨_, rfl⟩
                  replace H : (whittleref3_Hull.l0 kj6 l0 (wrap64 (x5_1 + 1)) t359 ji24 ji26 ji25 ji27) = some (r1, r2, r3, r4, r5, r6) := by first | (rw [hji27] at H; exact H) | (simp only [hji27] at H ⊢; exact H)
                  (try rw [hji27] at A23)
                  have hji27_ : (if t363 < ((rd_T23 l0 x5_1).f2) then ((rd_T23 l0 x5_1).f2) else t363) = ji27 := hji27
                  have H' := Aside0.mk H
                  clear H
                  have hnb28 := NB356_353.out
                  have hnc28 := NB353_356.out
                  have hnb29 := NB356_354.out
                  have hnc29 := NB354_356.out
                  have hcz30_0 : wc.cell? ⟨gb356, 0, none⟩ = some (.int .i64 ((rd_T23 l0 x5_1).f0)) := (blk_cell BK356.out 0).trans rfl
                  have hcz30_1 : wc.cell? ⟨gb356, 1, none⟩ = some (.int .i64 ((rd_T23 l0 x5_1).f1)) := (blk_cell BK356.out 1).trans rfl
                  have hcz30_2 : wc.cell? ⟨gb356, 2, none⟩ = some (.int .i64 ((rd_T23 l0 x5_1).f2)) := (blk_cell BK356.out 2).trans rfl
                  have hfz30_0 := blk_frozen BK356.out 0
                  have hfz30_1 := blk_frozen BK356.out 1
                  have hfz30_2 := blk_frozen BK356.out 2
                  go_wp2_with (first | (go_at_call 49; (with_reducible refine (whittleref3_One.calls ((rd_T23 l0 x5_1).f0) ((rd_T23 l0 x5_1).f1) ((rd_T23 l0 x5_1).f2) t359 t360 t361 t362 t363 t364 _ A23.out).mono ?_); rintro e w31 ⟨rfl, hb⟩; have n0_ := Aside0.mk (blk_below (g := gb353) (o := .cells #[.int .i64 x354000_1, .int .i64 x354001_1, .int .i64 x354002_1, .int .i64 x354003_1, .int .i64 x354004_1] 25 (0, 0)) (by (with_reducible repeat (first | refine blk_drewN ?_ _ | refine blk_drew ?_ | refine blk_alloc ?_ _)); exact BK353.out) hb); have n1_ := Aside0.mk (blk_below (g := gb354) (o := .cells #[.int .i64 x355000_1, .int .i64 x355001_1, .int .i64 x355002_1, .int .i64 x355003_1, .int .i64 x355004_1] 25 (0, 0)) (by (with_reducible repeat (first | refine blk_drewN ?_ _ | refine blk_drew ?_ | refine blk_alloc ?_ _)); exact BK354.out) hb); have n2_ := Aside0.mk (blk_below (g := gb356) (o := .cells #[.int .i64 ((rd_T23 l0 x5_1).f0), .int .i64 ((rd_T23 l0 x5_1).f1), .int .i64 ((rd_T23 l0 x5_1).f2)] 23 (0, 0)) (by (with_reducible repeat (first | refine blk_drewN ?_ _ | refine blk_drew ?_ | refine blk_alloc ?_ _)); exact BK356.out) hb); have n3_ := Aside0.mk (below_step (by repeat (first | (with_reducible first | exact HB.out | apply below_alloc | apply pw_below_drewN | apply below_drew1 | refine below_set ?_ GE353.out | refine below_set ?_ GE354.out | refine below_set ?_ GE356.out) | exact HB.out)) hb); clear BK353; clear BK354; clear BK356; clear HB; have BK353 := n0_; have BK354 := n1_; have BK356 := n2_; have HB := n3_; clear n0_ n1_ n2_ n3_; (try clear hb); (try clear hb2); (try clear hk); (try clear hi); have hnb32 := NB354_353.out; have hnc32 := NB353_354.out; have hcz33_0 : w31.cell? ⟨gb354, 0, none⟩ = some (.int .i64 x355000_1) := (blk_cell BK354.out 0).trans rfl; have hcz33_1 : w31.cell? ⟨gb354, 1, none⟩ = some (.int .i64 x355001_1) := (blk_cell BK354.out 1).trans rfl; have hcz33_2 : w31.cell? ⟨gb354, 2, none⟩ = some (.int .i64 x355002_1) := (blk_cell BK354.out 2).trans rfl; have hcz33_3 : w31.cell? ⟨gb354, 3, none⟩ = some (.int .i64 x355003_1) := (blk_cell BK354.out 3).trans rfl; have hcz33_4 : w31.cell? ⟨gb354, 4, none⟩ = some (.int .i64 x355004_1) := (blk_cell BK354.out 4).trans rfl; have hfz33_0 := blk_frozen BK354.out 0; have hfz33_1 := blk_frozen BK354.out 1; have hfz33_2 := blk_frozen BK354.out 2; have hfz33_3 := blk_frozen BK354.out 3; have hfz33_4 := blk_frozen BK354.out 4; have hcz34_0 : w31.cell? ⟨gb356, 0, none⟩ = some (.int .i64 ((rd_T23 l0 x5_1).f0)) := (blk_cell BK356.out 0).trans rfl; have hcz34_1 : w31.cell? ⟨gb356, 1, none⟩ = some (.int .i64 ((rd_T23 l0 x5_1).f1)) := (blk_cell BK356.out 1).trans rfl; have hcz34_2 : w31.cell? ⟨gb356, 2, none⟩ = some (.int .i64 ((rd_T23 l0 x5_1).f2)) := (blk_cell BK356.out 2).trans rfl; have hfz34_0 := blk_frozen BK356.out 0; have hfz34_1 := blk_frozen BK356.out 1; have hfz34_2 := blk_frozen BK356.out 2))
                  repeat (go_quiet (first | (go_at_call 49; (with_reducible refine (whittleref3_One.calls ((rd_T23 l0 x5_1).f0) ((rd_T23 l0 x5_1).f1) ((rd_T23 l0 x5_1).f2) t359 t360 t361 t362 t363 t364 _ A23.out).mono ?_); rintro e w31 ⟨rfl, hb⟩; have n0_ := Aside0.mk (blk_below (g := gb353) (o := .cells #[.int .i64 x354000_1, .int .i64 x354001_1, .int .i64 x354002_1, .int .i64 x354003_1, .int .i64 x354004_1] 25 (0, 0)) (by (with_reducible repeat (first | refine blk_drewN ?_ _ | refine blk_drew ?_ | refine blk_alloc ?_ _)); exact BK353.out) hb); have n1_ := Aside0.mk (blk_below (g := gb354) (o := .cells #[.int .i64 x355000_1, .int .i64 x355001_1, .int .i64 x355002_1, .int .i64 x355003_1, .int .i64 x355004_1] 25 (0, 0)) (by (with_reducible repeat (first | refine blk_drewN ?_ _ | refine blk_drew ?_ | refine blk_alloc ?_ _)); exact BK354.out) hb); have n2_ := Aside0.mk (blk_below (g := gb356) (o := .cells #[.int .i64 ((rd_T23 l0 x5_1).f0), .int .i64 ((rd_T23 l0 x5_1).f1), .int .i64 ((rd_T23 l0 x5_1).f2)] 23 (0, 0)) (by (with_reducible repeat (first | refine blk_drewN ?_ _ | refine blk_drew ?_ | refine blk_alloc ?_ _)); exact BK356.out) hb); have n3_ := Aside0.mk (below_step (by repeat (first | (with_reducible first | exact HB.out | apply below_alloc | apply pw_below_drewN | apply below_drew1 | refine below_set ?_ GE353.out | refine below_set ?_ GE354.out | refine below_set ?_ GE356.out) | exact HB.out)) hb); clear BK353; clear BK354; clear BK356; clear HB; have BK353 := n0_; have BK354 := n1_; have BK356 := n2_; have HB := n3_; clear n0_ n1_ n2_ n3_; (try clear hb); (try clear hb2); (try clear hk); (try clear hi); have hnb32 := NB354_353.out; have hnc32 := NB353_354.out; have hcz33_0 : w31.cell? ⟨gb354, 0, none⟩ = some (.int .i64 x355000_1) := (blk_cell BK354.out 0).trans rfl; have hcz33_1 : w31.cell? ⟨gb354, 1, none⟩ = some (.int .i64 x355001_1) := (blk_cell BK354.out 1).trans rfl; have hcz33_2 : w31.cell? ⟨gb354, 2, none⟩ = some (.int .i64 x355002_1) := (blk_cell BK354.out 2).trans rfl; have hcz33_3 : w31.cell? ⟨gb354, 3, none⟩ = some (.int .i64 x355003_1) := (blk_cell BK354.out 3).trans rfl; have hcz33_4 : w31.cell? ⟨gb354, 4, none⟩ = some (.int .i64 x355004_1) := (blk_cell BK354.out 4).trans rfl; have hfz33_0 := blk_frozen BK354.out 0; have hfz33_1 := blk_frozen BK354.out 1; have hfz33_2 := blk_frozen BK354.out 2; have hfz33_3 := blk_frozen BK354.out 3; have hfz33_4 := blk_frozen BK354.out 4; have hcz34_0 : w31.cell? ⟨gb356, 0, none⟩ = some (.int .i64 ((rd_T23 l0 x5_1).f0)) := (blk_cell BK356.out 0).trans rfl; have hcz34_1 : w31.cell? ⟨gb356, 1, none⟩ = some (.int .i64 ((rd_T23 l0 x5_1).f1)) := (blk_cell BK356.out 1).trans rfl; have hcz34_2 : w31.cell? ⟨gb356, 2, none⟩ = some (.int .i64 ((rd_T23 l0 x5_1).f2)) := (blk_cell BK356.out 2).trans rfl; have hfz34_0 := blk_frozen BK356.out 0; have hfz34_1 := blk_frozen BK356.out 1; have hfz34_2 := blk_frozen BK356.out 2)); try go_wp2_with (first | (go_at_call 49; (with_reducible refine (whittleref3_One.calls ((rd_T23 l0 x5_1).f0) ((rd_T23 l0 x5_1).f1) ((rd_T23 l0 x5_1).f2) t359 t360 t361 t362 t363 t364 _ A23.out).mono ?_); rintro e w31 ⟨rfl, hb⟩; have n0_ := Aside0.mk (blk_below (g := gb353) (o := .cells #[.int .i64 x354000_1, .int .i64 x354001_1, .int .i64 x354002_1, .int .i64 x354003_1, .int .i64 x354004_1] 25 (0, 0)) (by (with_reducible repeat (first | refine blk_drewN ?_ _ | refine blk_drew ?_ | refine blk_alloc ?_ _)); exact BK353.out) hb); have n1_ := Aside0.mk (blk_below (g := gb354) (o := .cells #[.int .i64 x355000_1, .int .i64 x355001_1, .int .i64 x355002_1, .int .i64 x355003_1, .int .i64 x355004_1] 25 (0, 0)) (by (with_reducible repeat (first | refine blk_drewN ?_ _ | refine blk_drew ?_ | refine blk_alloc ?_ _)); exact BK354.out) hb); have n2_ := Aside0.mk (blk_below (g := gb356) (o := .cells #[.int .i64 ((rd_T23 l0 x5_1).f0), .int .i64 ((rd_T23 l0 x5_1).f1), .int .i64 ((rd_T23 l0 x5_1).f2)] 23 (0, 0)) (by (with_reducible repeat (first | refine blk_drewN ?_ _ | refine blk_drew ?_ | refine blk_alloc ?_ _)); exact BK356.out) hb); have n3_ := Aside0.mk (below_step (by repeat (first | (with_reducible first | exact HB.out | apply below_alloc | apply pw_below_drewN | apply below_drew1 | refine below_set ?_ GE353.out | refine below_set ?_ GE354.out | refine below_set ?_ GE356.out) | exact HB.out)) hb); clear BK353; clear BK354; clear BK356; clear HB; have BK353 := n0_; have BK354 := n1_; have BK356 := n2_; have HB := n3_; clear n0_ n1_ n2_ n3_; (try clear hb); (try clear hb2); (try clear hk); (try clear hi); have hnb32 := NB354_353.out; have hnc32 := NB353_354.out; have hcz33_0 : w31.cell? ⟨gb354, 0, none⟩ = some (.int .i64 x355000_1) := (blk_cell BK354.out 0).trans rfl; have hcz33_1 : w31.cell? ⟨gb354, 1, none⟩ = some (.int .i64 x355001_1) := (blk_cell BK354.out 1).trans rfl; have hcz33_2 : w31.cell? ⟨gb354, 2, none⟩ = some (.int .i64 x355002_1) := (blk_cell BK354.out 2).trans rfl; have hcz33_3 : w31.cell? ⟨gb354, 3, none⟩ = some (.int .i64 x355003_1) := (blk_cell BK354.out 3).trans rfl; have hcz33_4 : w31.cell? ⟨gb354, 4, none⟩ = some (.int .i64 x355004_1) := (blk_cell BK354.out 4).trans rfl; have hfz33_0 := blk_frozen BK354.out 0; have hfz33_1 := blk_frozen BK354.out 1; have hfz33_2 := blk_frozen BK354.out 2; have hfz33_3 := blk_frozen BK354.out 3; have hfz33_4 := blk_frozen BK354.out 4; have hcz34_0 : w31.cell? ⟨gb356, 0, none⟩ = some (.int .i64 ((rd_T23 l0 x5_1).f0)) := (blk_cell BK356.out 0).trans rfl; have hcz34_1 : w31.cell? ⟨gb356, 1, none⟩ = some (.int .i64 ((rd_T23 l0 x5_1).f1)) := (blk_cell BK356.out 1).trans rfl; have hcz34_2 : w31.cell? ⟨gb356, 2, none⟩ = some (.int .i64 ((rd_T23 l0 x5_1).f2)) := (blk_cell BK356.out 2).trans rfl; have hfz34_0 := blk_frozen BK356.out 0; have hfz34_1 := blk_frozen BK356.out 1; have hfz34_2 := blk_frozen BK356.out 2)))
                  go_roundg kj6
                  case measure => have := HK1.out; have := HJ6.out; omega
                  case rel => exact ⟨(wrap64 (x5_1 + 1)), (x354000_1), (x354001_1), (x354002_1), (x354003_1), (x354004_1), (t359), (ji24), (ji26), (ji25), (ji27), (by first | rfl | (simp; done) | (simp [*]; done)), H', ⟨by have := HK1.out; have := HJ6.out; omega⟩, ⟨by (with_reducible repeat (first | refine blk_drewN ?_ _ | refine blk_drew ?_ | refine blk_alloc ?_ _)); refine blk_far ?_ NB353_354.out _; (with_reducible repeat (first | refine blk_drewN ?_ _ | refine blk_drew ?_ | refine blk_alloc ?_ _)); refine blk_far ?_ NB353_354.out _; (with_reducible repeat (first | refine blk_drewN ?_ _ | refine blk_drew ?_ | refine blk_alloc ?_ _)); refine blk_far ?_ NB353_354.out _; (with_reducible repeat (first | refine blk_drewN ?_ _ | refine blk_drew ?_ | refine blk_alloc ?_ _)); refine blk_far ?_ NB353_354.out _; (with_reducible repeat (first | refine blk_drewN ?_ _ | refine blk_drew ?_ | refine blk_alloc ?_ _)); refine blk_far ?_ NB353_354.out _; (with_reducible repeat (first | refine blk_drewN ?_ _ | refine blk_drew ?_ | refine blk_alloc ?_ _)); refine blk_far ?_ NB353_354.out _; (with_reducible repeat (first | refine blk_drewN ?_ _ | refine blk_drew ?_ | refine blk_alloc ?_ _)); refine blk_far ?_ NB353_354.out _; (with_reducible repeat (first | refine blk_drewN ?_ _ | refine blk_drew ?_ | refine blk_alloc ?_ _)); refine blk_far ?_ NB353_354.out _; (with_reducible repeat (first | refine blk_drewN ?_ _ | refine blk_drew ?_ | refine blk_alloc ?_ _)); refine blk_far ?_ NB353_354.out _; (with_reducible repeat (first | refine blk_drewN ?_ _ | refine blk_drew ?_ | refine blk_alloc ?_ _)); exact BK353.out⟩, ⟨by (with_reducible repeat (first | refine blk_drewN ?_ _ | refine blk_drew ?_ | refine blk_alloc ?_ _)); refine blk_put (cs := #[.int .i64 t359, .int .i64 ji24, .int .i64 ji26, .int .i64 ji25, .int .i64 t363]) ?_ 4 _ rfl; (with_reducible repeat (first | refine blk_drewN ?_ _ | refine blk_drew ?_ | refine blk_alloc ?_ _)); refine blk_put (cs := #[.int .i64 t359, .int .i64 ji24, .int .i64 t361, .int .i64 ji25, .int .i64 t363]) ?_ 2 _ rfl; (with_reducible repeat (first | refine blk_drewN ?_ _ | refine blk_drew ?_ | refine blk_alloc ?_ _)); refine blk_put (cs := #[.int .i64 t359, .int .i64 ji24, .int .i64 t361, .int .i64 t362, .int .i64 t363]) ?_ 3 _ rfl; (with_reducible repeat (first | refine blk_drewN ?_ _ | refine blk_drew ?_ | refine blk_alloc ?_ _)); refine blk_put (cs := #[.int .i64 t359, .int .i64 t360, .int .i64 t361, .int .i64 t362, .int .i64 t363]) ?_ 1 _ rfl; (with_reducible repeat (first | refine blk_drewN ?_ _ | refine blk_drew ?_ | refine blk_alloc ?_ _)); refine blk_put (cs := #[.int .i64 t359, .int .i64 t360, .int .i64 t361, .int .i64 t362, .int .i64 x355004_1]) ?_ 4 _ rfl; (with_reducible repeat (first | refine blk_drewN ?_ _ | refine blk_drew ?_ | refine blk_alloc ?_ _)); refine blk_put (cs := #[.int .i64 t359, .int .i64 t360, .int .i64 t361, .int .i64 x355003_1, .int .i64 x355004_1]) ?_ 3 _ rfl; (with_reducible repeat (first | refine blk_drewN ?_ _ | refine blk_drew ?_ | refine blk_alloc ?_ _)); refine blk_put (cs := #[.int .i64 t359, .int .i64 t360, .int .i64 x355002_1, .int .i64 x355003_1, .int .i64 x355004_1]) ?_ 2 _ rfl; (with_reducible repeat (first | refine blk_drewN ?_ _ | refine blk_drew ?_ | refine blk_alloc ?_ _)); refine blk_put (cs := #[.int .i64 t359, .int .i64 x355001_1, .int .i64 x355002_1, .int .i64 x355003_1, .int .i64 x355004_1]) ?_ 1 _ rfl; (with_reducible repeat (first | refine blk_drewN ?_ _ | refine blk_drew ?_ | refine blk_alloc ?_ _)); refine blk_put (cs := #[.int .i64 x355000_1, .int .i64 x355001_1, .int .i64 x355002_1, .int .i64 x355003_1, .int .i64 x355004_1]) ?_ 0 _ rfl; (with_reducible repeat (first | refine blk_drewN ?_ _ | refine blk_drew ?_ | refine blk_alloc ?_ _)); exact BK354.out⟩, ⟨by repeat (first | (with_reducible first | exact HB.out | apply below_alloc | apply pw_below_drewN | apply below_drew1 | refine below_set ?_ GE353.out | refine below_set ?_ GE354.out | refine below_set ?_ GE356.out) | exact HB.out)⟩⟩
                · rw [if_neg c22] at H
                  have c22b0 : (x5_1 == 0) = false := beq_eq_false_iff_ne.mpr c22
                  have c22b1 : (x5_1 != 0) = true := bne_iff_ne.mpr c22
                  obtain ⟨ji35, hji35⟩ : ∃ j_ : Int, (mn x355001_1 ((rd_T23 l0 x5_1).f1)) = j_ := ⟨_, rfl⟩
                  replace H : (whittleref3_Hull.l0 kj6 l0 (wrap64 (x5_1 + 1)) x355000_1 ji35 (mn x355002_1 ((rd_T23 l0 x5_1).f2)) (mx x355003_1 ((rd_T23 l0 x5_1).f1)) (mx x355004_1 ((rd_T23 l0 x5_1).f2))) = some (r1, r2, r3, r4, r5, r6) := by first | (rw [hji35] at H; exact H) | (simp only [hji35] at H ⊢; exact H)
                  have hji35_ : (if ((rd_T23 l0 x5_1).f1) < x355001_1 then ((rd_T23 l0 x5_1).f1) else x355001_1) = ji35 := hji35
                  obtain ⟨ji36, hji36⟩ : ∃ j_ : Int, (mx x355003_1 ((rd_T23 l0 x5_1).f1)) = j_ := ⟨_, rfl⟩
                  replace H : (whittleref3_Hull.l0 kj6 l0 (wrap64 (x5_1 + 1)) x355000_1 ji35 (mn x355002_1 ((rd_T23 l0 x5_1).f2)) ji36 (mx x355004_1 ((rd_T23 l0 x5_1).f2))) = some (r1, r2, r3, r4, r5, r6) := by first | (rw [hji36] at H; exact H) | (simp only [hji36] at H ⊢; exact H)
                  have hji36_ : (if x355003_1 < ((rd_T23 l0 x5_1).f1) then ((rd_T23 l0 x5_1).f1) else x355003_1) = ji36 := hji36
                  obtain ⟨ji37, hji37⟩ : ∃ j_ : Int, (mn x355002_1 ((rd_T23 l0 x5_1).f2)) = j_ := ⟨_, rfl⟩
                  replace H : (whittleref3_Hull.l0 kj6 l0 (wrap64 (x5_1 + 1)) x355000_1 ji35 ji37 ji36 (mx x355004_1 ((rd_T23 l0 x5_1).f2))) = some (r1, r2, r3, r4, r5, r6) := by first | (rw [hji37] at H; exact H) | (simp only [hji37] at H ⊢; exact H)
                  have hji37_ : (if ((rd_T23 l0 x5_1).f2) < x355002_1 then ((rd_T23 l0 x5_1).f2) else x355002_1) = ji37 := hji37
                  obtain ⟨ji38, hji38⟩ : ∃ j_ : Int, (mx x355004_1 ((rd_T23 l0 x5_1).f2)) = j_ := ⟨_, rfl⟩
                  replace H : (whittleref3_Hull.l0 kj6 l0 (wrap64 (x5_1 + 1)) x355000_1 ji35 ji37 ji36 ji38) = some (r1, r2, r3, r4, r5, r6) := by first | (rw [hji38] at H; exact H) | (simp only [hji38] at H ⊢; exact H)
                  have hji38_ : (if x355004_1 < ((rd_T23 l0 x5_1).f2) then ((rd_T23 l0 x5_1).f2) else x355004_1) = ji38 := hji38
                  have H' := Aside0.mk H
                  clear H
                  have hnb39 := NB354_353.out
                  have hnc39 := NB353_354.out
                  have hnb40 := NB354_356.out
                  have hnc40 := NB356_354.out
                  have hcz41_0 : wc.cell? ⟨gb354, 0, none⟩ = some (.int .i64 x355000_1) := (blk_cell BK354.out 0).trans rfl
                  have hcz41_1 : wc.cell? ⟨gb354, 1, none⟩ = some (.int .i64 x355001_1) := (blk_cell BK354.out 1).trans rfl
                  have hcz41_2 : wc.cell? ⟨gb354, 2, none⟩ = some (.int .i64 x355002_1) := (blk_cell BK354.out 2).trans rfl
                  have hcz41_3 : wc.cell? ⟨gb354, 3, none⟩ = some (.int .i64 x355003_1) := (blk_cell BK354.out 3).trans rfl
                  have hcz41_4 : wc.cell? ⟨gb354, 4, none⟩ = some (.int .i64 x355004_1) := (blk_cell BK354.out 4).trans rfl
                  have hfz41_0 := blk_frozen BK354.out 0
                  have hfz41_1 := blk_frozen BK354.out 1
                  have hfz41_2 := blk_frozen BK354.out 2
                  have hfz41_3 := blk_frozen BK354.out 3
                  have hfz41_4 := blk_frozen BK354.out 4
                  have hnb42 := NB356_353.out
                  have hnc42 := NB353_356.out
                  have hcz43_0 : wc.cell? ⟨gb356, 0, none⟩ = some (.int .i64 ((rd_T23 l0 x5_1).f0)) := (blk_cell BK356.out 0).trans rfl
                  have hcz43_1 : wc.cell? ⟨gb356, 1, none⟩ = some (.int .i64 ((rd_T23 l0 x5_1).f1)) := (blk_cell BK356.out 1).trans rfl
                  have hcz43_2 : wc.cell? ⟨gb356, 2, none⟩ = some (.int .i64 ((rd_T23 l0 x5_1).f2)) := (blk_cell BK356.out 2).trans rfl
                  have hfz43_0 := blk_frozen BK356.out 0
                  have hfz43_1 := blk_frozen BK356.out 1
                  have hfz43_2 := blk_frozen BK356.out 2
                  go_wp2
                  repeat (go_quiet (fail); try go_wp2)
                  go_roundg kj6
                  case measure => have := HK1.out; have := HJ6.out; omega
                  case rel => exact ⟨(wrap64 (x5_1 + 1)), (x354000_1), (x354001_1), (x354002_1), (x354003_1), (x354004_1), (x355000_1), (ji35), (ji37), (ji36), (ji38), (by first | rfl | (simp; done) | (simp [*]; done)), H', ⟨by have := HK1.out; have := HJ6.out; omega⟩, ⟨by (with_reducible repeat (first | refine blk_drewN ?_ _ | refine blk_drew ?_ | refine blk_alloc ?_ _)); refine blk_far ?_ NB353_354.out _; (with_reducible repeat (first | refine blk_drewN ?_ _ | refine blk_drew ?_ | refine blk_alloc ?_ _)); refine blk_far ?_ NB353_354.out _; (with_reducible repeat (first | refine blk_drewN ?_ _ | refine blk_drew ?_ | refine blk_alloc ?_ _)); refine blk_far ?_ NB353_354.out _; (with_reducible repeat (first | refine blk_drewN ?_ _ | refine blk_drew ?_ | refine blk_alloc ?_ _)); refine blk_far ?_ NB353_354.out _; (with_reducible repeat (first | refine blk_drewN ?_ _ | refine blk_drew ?_ | refine blk_alloc ?_ _)); exact BK353.out⟩, ⟨by (with_reducible repeat (first | refine blk_drewN ?_ _ | refine blk_drew ?_ | refine blk_alloc ?_ _)); refine blk_put (cs := #[.int .i64 x355000_1, .int .i64 ji35, .int .i64 ji37, .int .i64 ji36, .int .i64 x355004_1]) ?_ 4 _ rfl; (with_reducible repeat (first | refine blk_drewN ?_ _ | refine blk_drew ?_ | refine blk_alloc ?_ _)); refine blk_put (cs := #[.int .i64 x355000_1, .int .i64 ji35, .int .i64 x355002_1, .int .i64 ji36, .int .i64 x355004_1]) ?_ 2 _ rfl; (with_reducible repeat (first | refine blk_drewN ?_ _ | refine blk_drew ?_ | refine blk_alloc ?_ _)); refine blk_put (cs := #[.int .i64 x355000_1, .int .i64 ji35, .int .i64 x355002_1, .int .i64 x355003_1, .int .i64 x355004_1]) ?_ 3 _ rfl; (with_reducible repeat (first | refine blk_drewN ?_ _ | refine blk_drew ?_ | refine blk_alloc ?_ _)); refine blk_put (cs := #[.int .i64 x355000_1, .int .i64 x355001_1, .int .i64 x355002_1, .int .i64 x355003_1, .int .i64 x355004_1]) ?_ 1 _ rfl; (with_reducible repeat (first | refine blk_drewN ?_ _ | refine blk_drew ?_ | refine blk_alloc ?_ _)); exact BK354.out⟩, ⟨by repeat (first | (with_reducible first | exact HB.out | apply below_alloc | apply pw_below_drewN | apply below_drew1 | refine below_set ?_ GE353.out | refine below_set ?_ GE354.out | refine below_set ?_ GE356.out) | exact HB.out)⟩⟩
        · rw [if_neg c5] at H
          exact absurd H (by simp)
      · rw [if_neg c4] at H
        have c4b0 : decide (x5_1 < (l0.length : Int)) = false := decide_eq_false c4
        clear c4
        simp only [Option.some.injEq, Prod.mk.injEq] at H
        obtain ⟨rfl, rfl, rfl, rfl, rfl, rfl⟩ := H
        have hnb44 := NB354_353.out
        have hnc44 := NB353_354.out
        have hcz45_0 : wr.cell? ⟨gb354, 0, none⟩ = some (.int .i64 x355000_1) := (blk_cell BK354.out 0).trans rfl
        have hcz45_1 : wr.cell? ⟨gb354, 1, none⟩ = some (.int .i64 x355001_1) := (blk_cell BK354.out 1).trans rfl
        have hcz45_2 : wr.cell? ⟨gb354, 2, none⟩ = some (.int .i64 x355002_1) := (blk_cell BK354.out 2).trans rfl
        have hcz45_3 : wr.cell? ⟨gb354, 3, none⟩ = some (.int .i64 x355003_1) := (blk_cell BK354.out 3).trans rfl
        have hcz45_4 : wr.cell? ⟨gb354, 4, none⟩ = some (.int .i64 x355004_1) := (blk_cell BK354.out 4).trans rfl
        have hfz45_0 := blk_frozen BK354.out 0
        have hfz45_1 := blk_frozen BK354.out 1
        have hfz45_2 := blk_frozen BK354.out 2
        have hfz45_3 := blk_frozen BK354.out 3
        have hfz45_4 := blk_frozen BK354.out 4
        have hcz46_0 : wr.cell? ⟨gb353, 0, none⟩ = some (.int .i64 x354000_1) := (blk_cell BK353.out 0).trans rfl
        have hcz46_1 : wr.cell? ⟨gb353, 1, none⟩ = some (.int .i64 x354001_1) := (blk_cell BK353.out 1).trans rfl
        have hcz46_2 : wr.cell? ⟨gb353, 2, none⟩ = some (.int .i64 x354002_1) := (blk_cell BK353.out 2).trans rfl
        have hcz46_3 : wr.cell? ⟨gb353, 3, none⟩ = some (.int .i64 x354003_1) := (blk_cell BK353.out 3).trans rfl
        have hcz46_4 : wr.cell? ⟨gb353, 4, none⟩ = some (.int .i64 x354004_1) := (blk_cell BK353.out 4).trans rfl
        have hfz46_0 := blk_frozen BK353.out 0
        have hfz46_1 := blk_frozen BK353.out 1
        have hfz46_2 := blk_frozen BK353.out 2
        have hfz46_3 := blk_frozen BK353.out 3
        have hfz46_4 := blk_frozen BK353.out 4
        go_wp2
        repeat (go_quiet (fail); try go_wp2)
        refine bodyPost_ret (results_ct rfl _ _ gb353 25 #[.int .i64 x355000_1, .int .i64 x355001_1, .int .i64 x355002_1, .int .i64 x355003_1, .int .i64 x355004_1] (0, 0) _ rfl (by (with_reducible repeat (first | refine blk_drewN ?_ _ | refine blk_drew ?_ | refine blk_alloc ?_ _)); refine blk_put (cs := #[.int .i64 x355000_1, .int .i64 x355001_1, .int .i64 x355002_1, .int .i64 x355003_1, .int .i64 x354004_1]) ?_ 4 _ rfl; (with_reducible repeat (first | refine blk_drewN ?_ _ | refine blk_drew ?_ | refine blk_alloc ?_ _)); refine blk_put (cs := #[.int .i64 x355000_1, .int .i64 x355001_1, .int .i64 x355002_1, .int .i64 x354003_1, .int .i64 x354004_1]) ?_ 3 _ rfl; (with_reducible repeat (first | refine blk_drewN ?_ _ | refine blk_drew ?_ | refine blk_alloc ?_ _)); refine blk_put (cs := #[.int .i64 x355000_1, .int .i64 x355001_1, .int .i64 x354002_1, .int .i64 x354003_1, .int .i64 x354004_1]) ?_ 2 _ rfl; (with_reducible repeat (first | refine blk_drewN ?_ _ | refine blk_drew ?_ | refine blk_alloc ?_ _)); refine blk_put (cs := #[.int .i64 x355000_1, .int .i64 x354001_1, .int .i64 x354002_1, .int .i64 x354003_1, .int .i64 x354004_1]) ?_ 1 _ rfl; (with_reducible repeat (first | refine blk_drewN ?_ _ | refine blk_drew ?_ | refine blk_alloc ?_ _)); refine blk_put (cs := #[.int .i64 x354000_1, .int .i64 x354001_1, .int .i64 x354002_1, .int .i64 x354003_1, .int .i64 x354004_1]) ?_ 0 _ rfl; (with_reducible repeat (first | refine blk_drewN ?_ _ | refine blk_drew ?_ | refine blk_alloc ?_ _)); exact BK353.out) Tryd.underlying25 rfl (by kernel_rfl)) rfl ?_
        exact ⟨by first | rfl | (simp [errW_none, errW_some] <;> rfl) | (simp [*, errW_none, errW_some] <;> rfl), by repeat (first | (with_reducible first | exact HB.out | apply below_alloc | apply pw_below_drewN | apply below_drew1 | refine below_set ?_ GE353.out | refine below_set ?_ GE354.out) | exact HB.out)⟩

end Go.Proofs.YtijmipnafhljkaaDoor.P
