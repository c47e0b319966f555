-- Written by a program of this session (it drives the kit's print.py, with the contracts of some functions given by hand). Not trusted: Lean checks it.
import Derived.Test.YtijmipnafhljkaaDoorPx0
import Derived.Test.YtijmipnafhljkaaDoorPx6
namespace Go.Proofs.YtijmipnafhljkaaDoor.P
open Go.RowKit Go.Proofs.YtijmipnafhljkaaDoorW.PrintWords Go.Proofs.YtijmipnafhljkaaDoorW.PrintLast Go.Proofs.YtijmipnafhljkaaDoorW.PrintMore
attribute [local go_sem] max2_int min2_int max_two min_two max_three min_three max_four min_four   -- for this text's walks alone
set_option linter.unusedVariables false
set_option linter.unusedSimpArgs false

/-! ### place_Hull: function 31 -/
def place_Hull.l0 : Nat → List (S23) → Int → Int → Int → Int → Int → Int → Int → Option (Int × Int × Int × Int × Int × Bool)
  | 0, _, _, _, _, _, _, _, _ => none
  | k + 1, x26, x27, x28, x347000, x347001, x347002, x347003, x347004 => if x28 < x27 then (if 0 ≤ x28 then (if x28 < (x26.length : Int) then ((place_Right.f ((rd_T23 x26 x28).f0) ((rd_T23 x26 x28).f1) ((rd_T23 x26 x28).f2)).bind fun t349 => (if t349 = true then (if ((rd_T23 x26 x28).f0) = x347000 then (place_Hull.l0 k x26 x27 (wrap64 (x28 + 1)) x347000 (mn x347001 ((rd_T23 x26 x28).f1)) (mn x347002 ((rd_T23 x26 x28).f2)) (mx x347003 ((rd_T23 x26 x28).f1)) (mx x347004 ((rd_T23 x26 x28).f2))) else (some (0, 0, 0, 0, 0, false))) else (some (0, 0, 0, 0, 0, false)))) else (none)) else (none)) else (some (x347000, x347001, x347002, x347003, x347004, true))
def place_Hull.f (k : Nat) (l0 : List (S23)) : Option (Int × Int × Int × Int × Int × Bool) := if (l0.length : Int) = 0 then (some (0, 0, 0, 0, 0, false)) else (if 0 < (l0.length : Int) then (place_Hull.l0 k l0 (l0.length : Int) 0 ((rd_T23 l0 0).f0) ((rd_T23 l0 0).f1) ((rd_T23 l0 0).f2) ((rd_T23 l0 0).f1) ((rd_T23 l0 0).f2)) else (none))
theorem place_Hull.mono_l : ∀ k, (∀ y0 y1 y2 y3 y4 y5 y6 y7, LeO (place_Hull.l0 k y0 y1 y2 y3 y4 y5 y6 y7) (place_Hull.l0 (k + 1) y0 y1 y2 y3 y4 y5 y6 y7))
  | 0 => fun _ _ _ _ _ _ _ _ r h => by simp [place_Hull.l0] at h
  | k + 1 => by
    have ih0 := place_Hull.mono_l k
    · intro y0 y1 y2 y3 y4 y5 y6 y7
      unfold place_Hull.l0
      repeat' first
      | (with_reducible exact ih0 _ _ _ _ _ _ _ _)
      | (with_reducible exact LeO.refl _)
      | (with_reducible exact LeO.none _)
      | (with_reducible refine LeO.ite ?_ ?_)
      | (with_reducible refine LeO.bind ?_ (fun _ => ?_))
      | exact ih0 _ _ _ _ _ _ _ _
      | exact LeO.none _
      | refine LeO.ite ?_ ?_
      | refine LeO.bind ?_ (fun _ => ?_)
theorem place_Hull.mono : ∀ a0 k, LeO (place_Hull.f k a0) (place_Hull.f (k + 1) a0) := by
  intro a0 k
  have ih0 := place_Hull.mono_l k
  unfold place_Hull.f
  repeat' first
      | (with_reducible exact ih0 _ _ _ _ _ _ _ _)
      | (with_reducible exact LeO.refl _)
      | (with_reducible exact LeO.none _)
      | (with_reducible refine LeO.ite ?_ ?_)
      | (with_reducible refine LeO.bind ?_ (fun _ => ?_))
      | exact ih0 _ _ _ _ _ _ _ _
      | exact LeO.none _
      | refine LeO.ite ?_ ?_
      | refine LeO.bind ?_ (fun _ => ?_)
def place_Hull.T10 : Bool × List (List Nat × List Nat) := (true, [([], []), ([0], [0]), ([], []), ([2], [2]), ([1, 3], [1, 3]), ([], []), ([5], [5]), ([], []), ([7], [7]), ([6, 8], [6, 8]), ([0, 1, 2, 3, 4, 5, 6], []), ([10, 4, 0, 1, 2, 3, 4, 5, 6], [4, 10]), ([0, 1, 2, 3, 4, 5, 6, 7, 8, 9, 10, 11], []), ([12, 9, 11, 0, 1, 2, 3, 4, 5, 6, 7, 8, 9, 10, 11], [9, 12])])
def place_Hull.B10 : List Nat := [0, 1, 0, 4, 15, 0, 32, 0, 128, 480, 127, 1151, 4095, 8191]
theorem place_Hull.tab10 : rtab .any (opsOf Tryd.f31 10) = place_Hull.T10 := by kernel_rfl
theorem place_Hull.bits10 : waitsOk place_Hull.T10.2 place_Hull.B10 = true := by kernel_rfl
def place_Hull.T11 : Bool × List (List Nat × List Nat) := (true, [([], []), ([0], [0]), ([], []), ([2], [2]), ([1, 3], [1, 3]), ([], []), ([5], [5]), ([], []), ([7], [7]), ([6, 8], [6, 8]), ([0, 1, 2, 3, 4, 5, 6], []), ([10, 4, 0, 1, 2, 3, 4, 5, 6], [4, 10]), ([0, 1, 2, 3, 4, 5, 6, 7, 8, 9, 10, 11], []), ([12, 9, 11, 0, 1, 2, 3, 4, 5, 6, 7, 8, 9, 10, 11], [9, 12])])
def place_Hull.B11 : List Nat := [0, 1, 0, 4, 15, 0, 32, 0, 128, 480, 127, 1151, 4095, 8191]
theorem place_Hull.tab11 : rtab .any (opsOf Tryd.f31 11) = place_Hull.T11 := by kernel_rfl
theorem place_Hull.bits11 : waitsOk place_Hull.T11.2 place_Hull.B11 = true := by kernel_rfl
set_option maxHeartbeats 8000000 in
set_option maxRecDepth 100000 in
theorem place_Hull.calls (k : Nat) (A0 : Option Addr) (c0 : Nat) (l0 : List (S23)) (r1 : Int) (r2 : Int) (r3 : Int) (r4 : Int) (r5 : Int) (r6 : Bool) (w : World) (hr0 : Kd.C k23 w A0 l0.length l0) (hc0 : l0.length ≤ c0) (h : place_Hull.f k l0 = some (r1, r2, r3, r4, r5, r6)) :
    Calls Tryd.prog 31 #[.slice A0 l0.length c0] w fun e w' => e = .returned (.tuple #[.agg #[.int .i64 r1, .int .i64 r2, .int .i64 r3, .int .i64 r4, .int .i64 r5], .bool r6]) ∧ Below w.heap.size w w' := by
  have hu25 := Tryd.underlying25
  have hu23 := Tryd.underlying23
  have HR0 := Aside0.mk hr0
  have HC0 := Aside0.mk hc0
  clear hr0 hc0
  have HB := Aside0.mk (Below.refl w.heap.size w)
  have H : (if (l0.length : Int) = 0 then (some (0, 0, 0, 0, 0, false)) else (if 0 < (l0.length : Int) then (place_Hull.l0 k l0 (l0.length : Int) 0 ((rd_T23 l0 0).f0) ((rd_T23 l0 0).f1) ((rd_T23 l0 0).f2) ((rd_T23 l0 0).f1) ((rd_T23 l0 0).f2)) else (none))) = some (r1, r2, r3, r4, r5, r6) := h
  clear h
  by_cases c2 : (l0.length : Int) = 0
  · rw [if_pos c2] at H
    have c2b0 : ((l0.length : Int) == 0) = true := beq_iff_eq.mpr c2
    have c2b1 : ((l0.length : Int) != 0) = false := bne_eq_false_iff_eq.mpr c2
    clear c2
    simp only [Option.some.injEq, Prod.mk.injEq] at H
    obtain ⟨rfl, rfl, rfl, rfl, rfl, rfl⟩ := H
    go_enter Tryd.func31, Tryd.ntmps31
    go_wp2_with (first | ((with_reducible refine gate_dst (N := 2) rfl ?_); refine box_event ?hg (N := 2) ?hd (cs := #[.int .i64 0, .int .i64 0, .int .i64 0, .int .i64 0, .int .i64 0]) (t := 25) ?hr ?_; (case hd => rfl); (case hg => rfl); (case hr => go_simp <;> rfl); intro gb343 hg w3 hbox hb; have BK343 := Aside0.mk (hbox); have GW343 := Aside0.mk ((by rw [hg]; exact (below_size (by repeat first | exact HB.out)) : w.heap.size ≤ gb343)); have GE343 := GW343; replace HB := Aside0.mk (below_step (by repeat first | exact HB.out) hb); clear hb hbox hg; have hcz4_0 : w3.cell? ⟨gb343, 0, none⟩ = some (.int .i64 0) := (blk_cell BK343.out 0).trans rfl; have hcz4_1 : w3.cell? ⟨gb343, 1, none⟩ = some (.int .i64 0) := (blk_cell BK343.out 1).trans rfl; have hcz4_2 : w3.cell? ⟨gb343, 2, none⟩ = some (.int .i64 0) := (blk_cell BK343.out 2).trans rfl; have hcz4_3 : w3.cell? ⟨gb343, 3, none⟩ = some (.int .i64 0) := (blk_cell BK343.out 3).trans rfl; have hcz4_4 : w3.cell? ⟨gb343, 4, none⟩ = some (.int .i64 0) := (blk_cell BK343.out 4).trans rfl; have hfz4_0 := blk_frozen BK343.out 0; have hfz4_1 := blk_frozen BK343.out 1; have hfz4_2 := blk_frozen BK343.out 2; have hfz4_3 := blk_frozen BK343.out 3; have hfz4_4 := blk_frozen BK343.out 4))
    refine bodyPost_ret (results_ct rfl _ _ gb343 25 #[.int .i64 0, .int .i64 0, .int .i64 0, .int .i64 0, .int .i64 0] (0, 0) _ rfl (by (with_reducible repeat first | apply blk_drewN | apply blk_drew | apply blk_alloc); refine blk_put (cs := #[.int .i64 0, .int .i64 0, .int .i64 0, .int .i64 0, .int .i64 0]) ?_ 4 _ rfl; (with_reducible repeat first | apply blk_drewN | apply blk_drew | apply blk_alloc); refine blk_put (cs := #[.int .i64 0, .int .i64 0, .int .i64 0, .int .i64 0, .int .i64 0]) ?_ 3 _ rfl; (with_reducible repeat first | apply blk_drewN | apply blk_drew | apply blk_alloc); refine blk_put (cs := #[.int .i64 0, .int .i64 0, .int .i64 0, .int .i64 0, .int .i64 0]) ?_ 2 _ rfl; (with_reducible repeat first | apply blk_drewN | apply blk_drew | apply blk_alloc); refine blk_put (cs := #[.int .i64 0, .int .i64 0, .int .i64 0, .int .i64 0, .int .i64 0]) ?_ 1 _ rfl; (with_reducible repeat first | apply blk_drewN | apply blk_drew | apply blk_alloc); refine blk_put (cs := #[.int .i64 0, .int .i64 0, .int .i64 0, .int .i64 0, .int .i64 0]) ?_ 0 _ rfl; (with_reducible repeat first | apply blk_drewN | apply blk_drew | apply blk_alloc); exact BK343.out) Tryd.underlying25 rfl (by kernel_rfl)) rfl ?_
    exact ⟨by first | rfl | (simp [errW_none, errW_some] <;> rfl) | (simp [*, errW_none, errW_some] <;> rfl), by repeat (first | (with_reducible first | exact HB.out | apply below_alloc | apply pw_below_drewN | apply below_drew1 | refine below_set ?_ GE343.out) | exact HB.out)⟩
  · rw [if_neg c2] at H
    have c2b0 : ((l0.length : Int) == 0) = false := beq_eq_false_iff_ne.mpr c2
    have c2b1 : ((l0.length : Int) != 0) = true := bne_iff_ne.mpr c2
    have c2b2 : ¬ (l0 = []) := fun h_ => c2 (by rw [h_]; rfl)
    by_cases c5 : 0 < (l0.length : Int)
    · rw [if_pos c5] at H
      have c5b0 : decide (0 < (l0.length : Int)) = true := decide_eq_true c5
      have c5b1 : decide (0 < l0.length) = true := decide_eq_true (by omega)
      clear c5
      have H' := Aside0.mk H
      clear H
      go_enter Tryd.func31, Tryd.ntmps31
      go_wp2_with (first | ((with_reducible refine gate_dst (N := 2) rfl ?_); refine box_event ?hg (N := 2) ?hd (cs := #[.int .i64 0, .int .i64 0, .int .i64 0, .int .i64 0, .int .i64 0]) (t := 25) ?hr ?_; (case hd => rfl); (case hg => rfl); (case hr => go_simp <;> rfl); intro gb343 hg w6 hbox hb; have BK343 := Aside0.mk (hbox); have GW343 := Aside0.mk ((by rw [hg]; exact (below_size (by repeat first | exact HB.out)) : w.heap.size ≤ gb343)); have GE343 := GW343; replace HB := Aside0.mk (below_step (by repeat first | exact HB.out) hb); clear hb hbox hg; have p344 : 0 ≤ (0 : Int) := (by omega); have q344 : 0 < (l0.length : Int) := of_decide_eq_true (by first | (with_reducible assumption) | assumption); obtain ⟨ad344, e344, hx344_0, hx344_1, hx344_2⟩ := at_T23 HR0.out 0 p344 q344; cases e344; have qi344 : (0 < l0.length) = True := eq_true (by omega); (try rw [show ((0 : Int)).toNat = 0 from rfl] at hx344_0); (try rw [show 0 * 3 = 0 from rfl] at hx344_0); (try rw [Addr.add_zero'] at hx344_0); (try rw [show ((0 : Int)).toNat = 0 from rfl] at hx344_1); (try rw [show 0 * 3 = 0 from rfl] at hx344_1); (try rw [Addr.add_zero'] at hx344_1); (try rw [show ((0 : Int)).toNat = 0 from rfl] at hx344_2); (try rw [show 0 * 3 = 0 from rfl] at hx344_2); (try rw [Addr.add_zero'] at hx344_2); replace hx344_0 := (HB.out.cell (World.block_lt_of_cell? w _ hx344_0)).trans hx344_0; replace hx344_1 := (HB.out.cell (World.block_lt_of_cell? w _ hx344_1)).trans hx344_1; replace hx344_2 := (HB.out.cell (World.block_lt_of_cell? w _ hx344_2)).trans hx344_2; replace p344 := eq_true p344; replace q344 := eq_true q344) | ((with_reducible refine gate_dst (N := 4) rfl ?_); refine box_event ?hg (N := 4) ?hd (cs := #[.int .i64 0, .int .i64 0, .int .i64 0]) (t := 23) ?hr ?_; (case hd => rfl); (case hg => rfl); (case hr => go_simp <;> rfl); intro gb345 hg w7 hbox hb; have BK345 := Aside0.mk (hbox); have GW345 := Aside0.mk ((by rw [hg]; exact (below_size (by repeat first | exact HB.out | refine below_set ?_ GE343.out)) : w.heap.size ≤ gb345)); have GE345 := GW345; have NB343_345 := Aside0.mk ((by rw [hg]; exact Nat.ne_of_lt (blk_lt BK343.out) : gb343 ≠ gb345)); have NB345_343 := Aside0.mk ((by rw [hg]; exact Nat.ne_of_gt (blk_lt BK343.out) : gb345 ≠ gb343)); replace BK343 := Aside0.mk (blk_below BK343.out hb); replace HB := Aside0.mk (below_step (by repeat first | exact HB.out | refine below_set ?_ GE343.out) hb); clear hb hbox hg; have hnb8 := NB345_343.out; have hnc8 := NB343_345.out; have hcz9_0 : w7.cell? ⟨gb345, 0, none⟩ = some (.int .i64 0) := (blk_cell BK345.out 0).trans rfl; have hcz9_1 : w7.cell? ⟨gb345, 1, none⟩ = some (.int .i64 0) := (blk_cell BK345.out 1).trans rfl; have hcz9_2 : w7.cell? ⟨gb345, 2, none⟩ = some (.int .i64 0) := (blk_cell BK345.out 2).trans rfl; have hfz9_0 := blk_frozen BK345.out 0; have hfz9_1 := blk_frozen BK345.out 1; have hfz9_2 := blk_frozen BK345.out 2) | ((with_reducible refine gate_dst (N := 5) rfl ?_); refine box_event ?hg (N := 5) ?hd (cs := #[.int .i64 0, .int .i64 0, .int .i64 0, .int .i64 0, .int .i64 0]) (t := 25) ?hr ?_; (case hd => rfl); (case hg => rfl); (case hr => go_simp <;> rfl); intro gb346 hg w10 hbox hb; have BK346 := Aside0.mk (hbox); have GW346 := Aside0.mk ((by rw [hg]; exact (below_size (by repeat first | exact HB.out | refine below_set ?_ GE343.out | refine below_set ?_ GE345.out)) : w.heap.size ≤ gb346)); have GE346 := GW346; have NB343_346 := Aside0.mk ((by rw [hg]; exact Nat.ne_of_lt (blk_lt (g := gb343) (o := .cells #[.int .i64 0, .int .i64 0, .int .i64 0, .int .i64 0, .int .i64 0] 25 (0, 0)) (by (repeat refine blk_far ?_ NB343_345.out _); exact BK343.out)) : gb343 ≠ gb346)); have NB346_343 := Aside0.mk ((by rw [hg]; exact Nat.ne_of_gt (blk_lt (g := gb343) (o := .cells #[.int .i64 0, .int .i64 0, .int .i64 0, .int .i64 0, .int .i64 0] 25 (0, 0)) (by (repeat refine blk_far ?_ NB343_345.out _); exact BK343.out)) : gb346 ≠ gb343)); have NB345_346 := Aside0.mk ((by rw [hg]; exact Nat.ne_of_lt (blk_lt (g := gb345) (o := .cells #[.int .i64 ((rd_T23 l0 0).f0), .int .i64 ((rd_T23 l0 0).f1), .int .i64 ((rd_T23 l0 0).f2)] 23 (0, 0)) (by (with_reducible repeat first | apply blk_drewN | apply blk_drew | apply blk_alloc); refine blk_put (cs := #[.int .i64 ((rd_T23 l0 0).f0), .int .i64 ((rd_T23 l0 0).f1), .int .i64 0]) ?_ 2 _ rfl; (with_reducible repeat first | apply blk_drewN | apply blk_drew | apply blk_alloc); refine blk_put (cs := #[.int .i64 ((rd_T23 l0 0).f0), .int .i64 0, .int .i64 0]) ?_ 1 _ rfl; (with_reducible repeat first | apply blk_drewN | apply blk_drew | apply blk_alloc); refine blk_put (cs := #[.int .i64 0, .int .i64 0, .int .i64 0]) ?_ 0 _ rfl; (with_reducible repeat first | apply blk_drewN | apply blk_drew | apply blk_alloc); exact BK345.out)) : gb345 ≠ gb346)); have NB346_345 := Aside0.mk ((by rw [hg]; exact Nat.ne_of_gt (blk_lt (g := gb345) (o := .cells #[.int .i64 ((rd_T23 l0 0).f0), .int .i64 ((rd_T23 l0 0).f1), .int .i64 ((rd_T23 l0 0).f2)] 23 (0, 0)) (by (with_reducible repeat first | apply blk_drewN | apply blk_drew | apply blk_alloc); refine blk_put (cs := #[.int .i64 ((rd_T23 l0 0).f0), .int .i64 ((rd_T23 l0 0).f1), .int .i64 0]) ?_ 2 _ rfl; (with_reducible repeat first | apply blk_drewN | apply blk_drew | apply blk_alloc); refine blk_put (cs := #[.int .i64 ((rd_T23 l0 0).f0), .int .i64 0, .int .i64 0]) ?_ 1 _ rfl; (with_reducible repeat first | apply blk_drewN | apply blk_drew | apply blk_alloc); refine blk_put (cs := #[.int .i64 0, .int .i64 0, .int .i64 0]) ?_ 0 _ rfl; (with_reducible repeat first | apply blk_drewN | apply blk_drew | apply blk_alloc); exact BK345.out)) : gb346 ≠ gb345)); replace BK343 := Aside0.mk (blk_below (g := gb343) (o := .cells #[.int .i64 0, .int .i64 0, .int .i64 0, .int .i64 0, .int .i64 0] 25 (0, 0)) (by (repeat refine blk_far ?_ NB343_345.out _); exact BK343.out) hb); replace BK345 := Aside0.mk (blk_below (g := gb345) (o := .cells #[.int .i64 ((rd_T23 l0 0).f0), .int .i64 ((rd_T23 l0 0).f1), .int .i64 ((rd_T23 l0 0).f2)] 23 (0, 0)) (by (with_reducible repeat first | apply blk_drewN | apply blk_drew | apply blk_alloc); refine blk_put (cs := #[.int .i64 ((rd_T23 l0 0).f0), .int .i64 ((rd_T23 l0 0).f1), .int .i64 0]) ?_ 2 _ rfl; (with_reducible repeat first | apply blk_drewN | apply blk_drew | apply blk_alloc); refine blk_put (cs := #[.int .i64 ((rd_T23 l0 0).f0), .int .i64 0, .int .i64 0]) ?_ 1 _ rfl; (with_reducible repeat first | apply blk_drewN | apply blk_drew | apply blk_alloc); refine blk_put (cs := #[.int .i64 0, .int .i64 0, .int .i64 0]) ?_ 0 _ rfl; (with_reducible repeat first | apply blk_drewN | apply blk_drew | apply blk_alloc); exact BK345.out) hb); replace HB := Aside0.mk (below_step (by repeat first | exact HB.out | refine below_set ?_ GE343.out | refine below_set ?_ GE345.out) hb); clear hb hbox hg; have hnb11 := NB346_343.out; have hnc11 := NB343_346.out; have hnb12 := NB346_345.out; have hnc12 := NB345_346.out; have hcz13_0 : w10.cell? ⟨gb346, 0, none⟩ = some (.int .i64 0) := (blk_cell BK346.out 0).trans rfl; have hcz13_1 : w10.cell? ⟨gb346, 1, none⟩ = some (.int .i64 0) := (blk_cell BK346.out 1).trans rfl; have hcz13_2 : w10.cell? ⟨gb346, 2, none⟩ = some (.int .i64 0) := (blk_cell BK346.out 2).trans rfl; have hcz13_3 : w10.cell? ⟨gb346, 3, none⟩ = some (.int .i64 0) := (blk_cell BK346.out 3).trans rfl; have hcz13_4 : w10.cell? ⟨gb346, 4, none⟩ = some (.int .i64 0) := (blk_cell BK346.out 4).trans rfl; have hfz13_0 := blk_frozen BK346.out 0; have hfz13_1 := blk_frozen BK346.out 1; have hfz13_2 := blk_frozen BK346.out 2; have hfz13_3 := blk_frozen BK346.out 3; have hfz13_4 := blk_frozen BK346.out 4))
      go_loopg [28] k (fun kq v28 w' => ∃ (x28_1 : Int) (x344000_1 : Int) (x344001_1 : Int) (x344002_1 : Int) (x344003_1 : Int) (x344004_1 : Int) (x347001_1 : Int) (x347002_1 : Int) (x347003_1 : Int) (x347004_1 : Int), v28 = .int .i64 x28_1 ∧ Aside0 (place_Hull.l0 kq l0 (l0.length : Int) x28_1 ((rd_T23 l0 0).f0) x347001_1 x347002_1 x347003_1 x347004_1 = some (r1, r2, r3, r4, r5, r6)) ∧ Aside0 (kq ≤ k) ∧ Aside0 (w'.heap[gb343]? = some (.cells #[.int .i64 x344000_1, .int .i64 x344001_1, .int .i64 x344002_1, .int .i64 x344003_1, .int .i64 x344004_1] 25 (0, 0))) ∧ Aside0 (w'.heap[gb345]? = some (.cells #[.int .i64 ((rd_T23 l0 0).f0), .int .i64 ((rd_T23 l0 0).f1), .int .i64 ((rd_T23 l0 0).f2)] 23 (0, 0))) ∧ Aside0 (w'.heap[gb346]? = some (.cells #[.int .i64 ((rd_T23 l0 0).f0), .int .i64 x347001_1, .int .i64 x347002_1, .int .i64 x347003_1, .int .i64 x347004_1] 25 (0, 0))) ∧ Aside0 (Below w.heap.size w w'))
      case atStart => exact ⟨(0), (0), (0), (0), (0), (0), ((rd_T23 l0 0).f1), ((rd_T23 l0 0).f2), ((rd_T23 l0 0).f1), ((rd_T23 l0 0).f2), (by first | rfl | (simp; done) | (simp [*]; done)), H', ⟨Nat.le_refl _⟩, ⟨by (with_reducible repeat first | apply blk_drewN | apply blk_drew | apply blk_alloc); refine blk_far ?_ NB343_346.out _; (with_reducible repeat first | apply blk_drewN | apply blk_drew | apply blk_alloc); refine blk_far ?_ NB343_346.out _; (with_reducible repeat first | apply blk_drewN | apply blk_drew | apply blk_alloc); refine blk_far ?_ NB343_346.out _; (with_reducible repeat first | apply blk_drewN | apply blk_drew | apply blk_alloc); refine blk_far ?_ NB343_346.out _; (with_reducible repeat first | apply blk_drewN | apply blk_drew | apply blk_alloc); refine blk_far ?_ NB343_346.out _; (with_reducible repeat first | apply blk_drewN | apply blk_drew | apply blk_alloc); exact BK343.out⟩, ⟨by (with_reducible repeat first | apply blk_drewN | apply blk_drew | apply blk_alloc); refine blk_far ?_ NB345_346.out _; (with_reducible repeat first | apply blk_drewN | apply blk_drew | apply blk_alloc); refine blk_far ?_ NB345_346.out _; (with_reducible repeat first | apply blk_drewN | apply blk_drew | apply blk_alloc); refine blk_far ?_ NB345_346.out _; (with_reducible repeat first | apply blk_drewN | apply blk_drew | apply blk_alloc); refine blk_far ?_ NB345_346.out _; (with_reducible repeat first | apply blk_drewN | apply blk_drew | apply blk_alloc); refine blk_far ?_ NB345_346.out _; (with_reducible repeat first | apply blk_drewN | apply blk_drew | apply blk_alloc); exact BK345.out⟩, ⟨by (with_reducible repeat first | apply blk_drewN | apply blk_drew | apply blk_alloc); refine blk_put (cs := #[.int .i64 ((rd_T23 l0 0).f0), .int .i64 ((rd_T23 l0 0).f1), .int .i64 ((rd_T23 l0 0).f2), .int .i64 ((rd_T23 l0 0).f1), .int .i64 0]) ?_ 4 _ rfl; (with_reducible repeat first | apply blk_drewN | apply blk_drew | apply blk_alloc); refine blk_put (cs := #[.int .i64 ((rd_T23 l0 0).f0), .int .i64 ((rd_T23 l0 0).f1), .int .i64 ((rd_T23 l0 0).f2), .int .i64 0, .int .i64 0]) ?_ 3 _ rfl; (with_reducible repeat first | apply blk_drewN | apply blk_drew | apply blk_alloc); refine blk_put (cs := #[.int .i64 ((rd_T23 l0 0).f0), .int .i64 ((rd_T23 l0 0).f1), .int .i64 0, .int .i64 0, .int .i64 0]) ?_ 2 _ rfl; (with_reducible repeat first | apply blk_drewN | apply blk_drew | apply blk_alloc); refine blk_put (cs := #[.int .i64 ((rd_T23 l0 0).f0), .int .i64 0, .int .i64 0, .int .i64 0, .int .i64 0]) ?_ 1 _ rfl; (with_reducible repeat first | apply blk_drewN | apply blk_drew | apply blk_alloc); refine blk_put (cs := #[.int .i64 0, .int .i64 0, .int .i64 0, .int .i64 0, .int .i64 0]) ?_ 0 _ rfl; (with_reducible repeat first | apply blk_drewN | apply blk_drew | apply blk_alloc); exact BK346.out⟩, ⟨by repeat (first | (with_reducible first | exact HB.out | apply below_alloc | apply pw_below_drewN | apply below_drew1 | refine below_set ?_ GE343.out | refine below_set ?_ GE345.out | refine below_set ?_ GE346.out) | exact HB.out)⟩⟩
      case round =>
        clear H'
        try clear c1
        try clear c2
        try clear c2b0
        try clear c2b1
        try clear c2b2
        try clear p2
        try clear c3
        try clear p3
        try clear q3
        try clear hx3
        try clear qi3
        try clear c5
        try clear c5b0
        try clear c5b1
        try clear c8
        try clear c11
        try clear c12
        try clear hcz13_0
        try clear hcz13_1
        try clear hcz13_2
        try clear hcz13_3
        try clear hcz13_4
        try clear hcz4_0
        try clear hcz4_1
        try clear hcz4_2
        try clear hcz4_3
        try clear hcz4_4
        try clear hcz9_0
        try clear hcz9_1
        try clear hcz9_2
        try clear hfz13_0
        try clear hfz13_1
        try clear hfz13_2
        try clear hfz13_3
        try clear hfz13_4
        try clear hfz4_0
        try clear hfz4_1
        try clear hfz4_2
        try clear hfz4_3
        try clear hfz4_4
        try clear hfz9_0
        try clear hfz9_1
        try clear hfz9_2
        try clear hx344_0
        try clear hx344_1
        try clear hx344_2
        try clear p344
        try clear q344
        obtain ⟨x28_1, x344000_1, x344001_1, x344002_1, x344003_1, x344004_1, x347001_1, x347002_1, x347003_1, x347004_1, rfl, HA, HK1, BK343, BK345, BK346, HB⟩ := hrel
        cases gk with
        | zero => exact absurd HA.out (by simp [place_Hull.l0])
        | succ k1 =>
          have H := HA.out
          clear HA
          simp only [place_Hull.l0] at H
          by_cases c14 : x28_1 < (l0.length : Int)
          · rw [if_pos c14] at H
            have c14b0 : decide (x28_1 < (l0.length : Int)) = true := decide_eq_true c14
            clear c14
            by_cases c15 : 0 ≤ x28_1
            · rw [if_pos c15] at H
              have c15b0 : decide (0 ≤ x28_1) = true := decide_eq_true c15
              clear c15
              by_cases c16 : x28_1 < (l0.length : Int)
              · rw [if_pos c16] at H
                have c16b0 : decide (x28_1 < (l0.length : Int)) = true := decide_eq_true c16
                clear c16
                replace H := Option.bind_eq_some_iff.mp H
                obtain ⟨t349, A170, H⟩ := H
                replace H : (if t349 = true then (if ((rd_T23 l0 x28_1).f0) = ((rd_T23 l0 0).f0) then (place_Hull.l0 k1 l0 (l0.length : Int) (wrap64 (x28_1 + 1)) ((rd_T23 l0 0).f0) (mn x347001_1 ((rd_T23 l0 x28_1).f1)) (mn x347002_1 ((rd_T23 l0 x28_1).f2)) (mx x347003_1 ((rd_T23 l0 x28_1).f1)) (mx x347004_1 ((rd_T23 l0 x28_1).f2))) else (some (0, 0, 0, 0, 0, false))) else (some (0, 0, 0, 0, 0, false))) = some (r1, r2, r3, r4, r5, r6) := H
                have A17 := Aside0.mk A170
                clear A170
                by_cases c18 : t349 = true
                · subst c18
                  have H1 : (if ((rd_T23 l0 x28_1).f0) = ((rd_T23 l0 0).f0) then (place_Hull.l0 k1 l0 (l0.length : Int) (wrap64 (x28_1 + 1)) ((rd_T23 l0 0).f0) (mn x347001_1 ((rd_T23 l0 x28_1).f1)) (mn x347002_1 ((rd_T23 l0 x28_1).f2)) (mx x347003_1 ((rd_T23 l0 x28_1).f1)) (mx x347004_1 ((rd_T23 l0 x28_1).f2))) else (some (0, 0, 0, 0, 0, false))) = some (r1, r2, r3, r4, r5, r6) := by rw [if_pos rfl] at H; exact H
                  clear H
                  have H := H1
                  clear H1
                  by_cases c19 : ((rd_T23 l0 x28_1).f0) = ((rd_T23 l0 0).f0)
                  · rw [if_pos c19] at H
                    have c19b0 : (((rd_T23 l0 x28_1).f0) == ((rd_T23 l0 0).f0)) = true := beq_iff_eq.mpr c19
                    have c19b1 : (((rd_T23 l0 x28_1).f0) != ((rd_T23 l0 0).f0)) = false := bne_eq_false_iff_eq.mpr c19
                    clear c19
                    obtain ⟨ji20, hji20⟩ : ∃ j_ : Int, (mn x347001_1 ((rd_T23 l0 x28_1).f1)) = j_ := ⟨_, rfl⟩
                    replace H : (place_Hull.l0 k1 l0 (l0.length : Int) (wrap64 (x28_1 + 1)) ((rd_T23 l0 0).f0) ji20 (mn x347002_1 ((rd_T23 l0 x28_1).f2)) (mx x347003_1 ((rd_T23 l0 x28_1).f1)) (mx x347004_1 ((rd_T23 l0 x28_1).f2))) = some (r1, r2, r3, r4, r5, r6) := by first | (rw [hji20] at H; exact H) | (simp only [hji20] at H ⊢; exact H)
                    (try rw [hji20] at A17)
                    have hji20_ : (if ((rd_T23 l0 x28_1).f1) < x347001_1 then ((rd_T23 l0 x28_1).f1) else x347001_1) = ji20 := hji20
                    obtain ⟨ji21, hji21⟩ : ∃ j_ : Int, (mx x347003_1 ((rd_T23 l0 x28_1).f1)) = j_ := ⟨_, rfl⟩
                    replace H : (place_Hull.l0 k1 l0 (l0.length : Int) (wrap64 (x28_1 + 1)) ((rd_T23 l0 0).f0) ji20 (mn x347002_1 ((rd_T23 l0 x28_1).f2)) ji21 (mx x347004_1 ((rd_T23 l0 x28_1).f2))) = some (r1, r2, r3, r4, r5, r6) := by first | (rw [hji21] at H; exact H) | (simp only [hji21] at H ⊢; exact H)
                    (try rw [hji21] at A17)
                    have hji21_ : (if x347003_1 < ((rd_T23 l0 x28_1).f1) then ((rd_T23 l0 x28_1).f1) else x347003_1) = ji21 := hji21
                    obtain ⟨ji22, hji22⟩ : ∃ j_ : Int, (mn x347002_1 ((rd_T23 l0 x28_1).f2)) = j_ := ⟨_, rfl⟩
                    replace H : (place_Hull.l0 k1 l0 (l0.length : Int) (wrap64 (x28_1 + 1)) ((rd_T23 l0 0).f0) ji20 ji22 ji21 (mx x347004_1 ((rd_T23 l0 x28_1).f2))) = some (r1, r2, r3, r4, r5, r6) := by first | (rw [hji22] at H; exact H) | (simp only [hji22] at H ⊢; exact H)
                    (try rw [hji22] at A17)
                    have hji22_ : (if ((rd_T23 l0 x28_1).f2) < x347002_1 then ((rd_T23 l0 x28_1).f2) else x347002_1) = ji22 := hji22
                    obtain ⟨ji23, hji23⟩ : ∃ j_ : Int, (mx x347004_1 ((rd_T23 l0 x28_1).f2)) = j_ := ⟨_, rfl⟩
                    replace H : (place_Hull.l0 k1 l0 (l0.length : Int) (wrap64 (x28_1 + 1)) ((rd_T23 l0 0).f0) ji20 ji22 ji21 ji23) = some (r1, r2, r3, r4, r5, r6) := by first | (rw [hji23] at H; exact H) | (simp only [hji23] at H ⊢; exact H)
                    (try rw [hji23] at A17)
                    have hji23_ : (if x347004_1 < ((rd_T23 l0 x28_1).f2) then ((rd_T23 l0 x28_1).f2) else x347004_1) = ji23 := hji23
                    have H' := Aside0.mk H
                    clear H
                    have p347 : 0 ≤ (x28_1 : Int) := of_decide_eq_true (by first | (with_reducible assumption) | assumption)
                    have q347 : x28_1 < (l0.length : Int) := of_decide_eq_true (by first | (with_reducible assumption) | assumption)
                    obtain ⟨ad347, e347, hx347_0, hx347_1, hx347_2⟩ := at_T23 HR0.out x28_1 p347 q347
                    obtain rfl : ad344 = ad347 := (by injection e347)
                    replace hx347_0 := (HB.out.cell (World.block_lt_of_cell? w _ hx347_0)).trans hx347_0
                    replace hx347_1 := (HB.out.cell (World.block_lt_of_cell? w _ hx347_1)).trans hx347_1
                    replace hx347_2 := (HB.out.cell (World.block_lt_of_cell? w _ hx347_2)).trans hx347_2
                    replace p347 := eq_true p347
                    replace q347 := eq_true q347
                    try go_wp2_with (first | ((with_reducible refine gate_dst (N := 7) rfl ?_); refine box_event ?hg (N := 7) ?hd (cs := #[.int .i64 0, .int .i64 0, .int .i64 0]) (t := 23) ?hr ?_; (case hd => rfl); (case hg => rfl); (case hr => go_simp <;> rfl); intro gb348 hg w24 hbox hb; have BK348 := Aside0.mk (hbox); have GW348 := Aside0.mk ((by rw [hg]; exact (below_size (by repeat first | exact HB.out | refine below_set ?_ GE343.out | refine below_set ?_ GE345.out | refine below_set ?_ GE346.out)) : w.heap.size ≤ gb348)); have GE348 := GW348; have NB343_348 := Aside0.mk ((by rw [hg]; exact Nat.ne_of_lt (blk_lt BK343.out) : gb343 ≠ gb348)); have NB348_343 := Aside0.mk ((by rw [hg]; exact Nat.ne_of_gt (blk_lt BK343.out) : gb348 ≠ gb343)); have NB345_348 := Aside0.mk ((by rw [hg]; exact Nat.ne_of_lt (blk_lt BK345.out) : gb345 ≠ gb348)); have NB348_345 := Aside0.mk ((by rw [hg]; exact Nat.ne_of_gt (blk_lt BK345.out) : gb348 ≠ gb345)); have NB346_348 := Aside0.mk ((by rw [hg]; exact Nat.ne_of_lt (blk_lt BK346.out) : gb346 ≠ gb348)); have NB348_346 := Aside0.mk ((by rw [hg]; exact Nat.ne_of_gt (blk_lt BK346.out) : gb348 ≠ gb346)); replace BK343 := Aside0.mk (blk_below BK343.out hb); replace BK345 := Aside0.mk (blk_below BK345.out hb); replace BK346 := Aside0.mk (blk_below BK346.out hb); replace HB := Aside0.mk (below_step (by repeat first | exact HB.out | refine below_set ?_ GE343.out | refine below_set ?_ GE345.out | refine below_set ?_ GE346.out) hb); clear hb hbox hg; have hnb25 := NB348_343.out; have hnc25 := NB343_348.out; have hnb26 := NB348_345.out; have hnc26 := NB345_348.out; have hnb27 := NB348_346.out; have hnc27 := NB346_348.out; have hcz28_0 : w24.cell? ⟨gb348, 0, none⟩ = some (.int .i64 0) := (blk_cell BK348.out 0).trans rfl; have hcz28_1 : w24.cell? ⟨gb348, 1, none⟩ = some (.int .i64 0) := (blk_cell BK348.out 1).trans rfl; have hcz28_2 : w24.cell? ⟨gb348, 2, none⟩ = some (.int .i64 0) := (blk_cell BK348.out 2).trans rfl; have hfz28_0 := blk_frozen BK348.out 0; have hfz28_1 := blk_frozen BK348.out 1; have hfz28_2 := blk_frozen BK348.out 2) | ((with_reducible refine gate_callee (f := 17) rfl ?_); refine goesL_ (some 33) rfl rfl Tryd.func17 (by kernel_rfl) rfl #[.agg #[.int .i64 ((rd_T23 l0 x28_1).f0), .int .i64 ((rd_T23 l0 x28_1).f1), .int .i64 ((rd_T23 l0 x28_1).f2)]] rfl (by (try simp only [List.map_toArray, List.map_cons, List.map_nil]); first | done | rfl | (simp only [List.length_drop, List.length_take]; rfl)) ?_; (with_reducible refine (place_Right.calls ((rd_T23 l0 x28_1).f0) ((rd_T23 l0 x28_1).f1) ((rd_T23 l0 x28_1).f2) true _ A17.out).mono ?_); rintro e w29 ⟨rfl, hb⟩; refine ⟨_, rfl, ?_⟩; replace BK343 := Aside0.mk (blk_below (g := gb343) (o := .cells #[.int .i64 x344000_1, .int .i64 x344001_1, .int .i64 x344002_1, .int .i64 x344003_1, .int .i64 x344004_1] 25 (0, 0)) (by (repeat refine blk_far ?_ NB343_348.out _); exact BK343.out) hb); replace BK345 := Aside0.mk (blk_below (g := gb345) (o := .cells #[.int .i64 ((rd_T23 l0 0).f0), .int .i64 ((rd_T23 l0 0).f1), .int .i64 ((rd_T23 l0 0).f2)] 23 (0, 0)) (by (repeat refine blk_far ?_ NB345_348.out _); exact BK345.out) hb); replace BK346 := Aside0.mk (blk_below (g := gb346) (o := .cells #[.int .i64 ((rd_T23 l0 0).f0), .int .i64 x347001_1, .int .i64 x347002_1, .int .i64 x347003_1, .int .i64 x347004_1] 25 (0, 0)) (by (repeat refine blk_far ?_ NB346_348.out _); exact BK346.out) hb); replace BK348 := Aside0.mk (blk_below (g := gb348) (o := .cells #[.int .i64 ((rd_T23 l0 x28_1).f0), .int .i64 ((rd_T23 l0 x28_1).f1), .int .i64 ((rd_T23 l0 x28_1).f2)] 23 (0, 0)) (by (with_reducible repeat first | apply blk_drewN | apply blk_drew | apply blk_alloc); refine blk_put (cs := #[.int .i64 ((rd_T23 l0 x28_1).f0), .int .i64 ((rd_T23 l0 x28_1).f1), .int .i64 0]) ?_ 2 _ rfl; (with_reducible repeat first | apply blk_drewN | apply blk_drew | apply blk_alloc); refine blk_put (cs := #[.int .i64 ((rd_T23 l0 x28_1).f0), .int .i64 0, .int .i64 0]) ?_ 1 _ rfl; (with_reducible repeat first | apply blk_drewN | apply blk_drew | apply blk_alloc); refine blk_put (cs := #[.int .i64 0, .int .i64 0, .int .i64 0]) ?_ 0 _ rfl; (with_reducible repeat first | apply blk_drewN | apply blk_drew | apply blk_alloc); exact BK348.out) hb); replace HB := Aside0.mk (below_step (by repeat first | exact HB.out | refine below_set ?_ GE343.out | refine below_set ?_ GE345.out | refine below_set ?_ GE346.out | refine below_set ?_ GE348.out) hb); (try clear hb); (try clear hb2); (try clear hk); (try clear hi); have hcz30_0 : w29.cell? ⟨gb348, 0, none⟩ = some (.int .i64 ((rd_T23 l0 x28_1).f0)) := (blk_cell BK348.out 0).trans rfl; have hcz30_1 : w29.cell? ⟨gb348, 1, none⟩ = some (.int .i64 ((rd_T23 l0 x28_1).f1)) := (blk_cell BK348.out 1).trans rfl; have hcz30_2 : w29.cell? ⟨gb348, 2, none⟩ = some (.int .i64 ((rd_T23 l0 x28_1).f2)) := (blk_cell BK348.out 2).trans rfl; have hfz30_0 := blk_frozen BK348.out 0; have hfz30_1 := blk_frozen BK348.out 1; have hfz30_2 := blk_frozen BK348.out 2; have hnb31 := NB346_343.out; have hnc31 := NB343_346.out; have hnb32 := NB346_345.out; have hnc32 := NB345_346.out; have hcz33_0 : w29.cell? ⟨gb346, 0, none⟩ = some (.int .i64 ((rd_T23 l0 0).f0)) := (blk_cell BK346.out 0).trans rfl; have hcz33_1 : w29.cell? ⟨gb346, 1, none⟩ = some (.int .i64 x347001_1) := (blk_cell BK346.out 1).trans rfl; have hcz33_2 : w29.cell? ⟨gb346, 2, none⟩ = some (.int .i64 x347002_1) := (blk_cell BK346.out 2).trans rfl; have hcz33_3 : w29.cell? ⟨gb346, 3, none⟩ = some (.int .i64 x347003_1) := (blk_cell BK346.out 3).trans rfl; have hcz33_4 : w29.cell? ⟨gb346, 4, none⟩ = some (.int .i64 x347004_1) := (blk_cell BK346.out 4).trans rfl; have hfz33_0 := blk_frozen BK346.out 0; have hfz33_1 := blk_frozen BK346.out 1; have hfz33_2 := blk_frozen BK346.out 2; have hfz33_3 := blk_frozen BK346.out 3; have hfz33_4 := blk_frozen BK346.out 4))
                    have n0_ := Aside0.mk (blk_drew BK343.out)
                    have n1_ := Aside0.mk (blk_drew BK345.out)
                    have n2_ := Aside0.mk (blk_drew BK346.out)
                    have n3_ := Aside0.mk (blk_drew BK348.out)
                    have n4_ := Aside0.mk (below_drew1 HB.out)
                    clear BK343
                    clear BK345
                    clear BK346
                    clear BK348
                    clear HB
                    have BK343 := n0_
                    have BK345 := n1_
                    have BK346 := n2_
                    have BK348 := n3_
                    have HB := n4_
                    clear n0_ n1_ n2_ n3_ n4_
                    refine start_ (n := 14) (S := fun w' => w'.cell? ⟨gb346, 0, none⟩ = some (.int .i64 ((rd_T23 l0 0).f0)) ∧ w'.cell? ⟨gb346, 2, none⟩ = some (.int .i64 x347002_1) ∧ w'.cell? ⟨gb346, 3, none⟩ = some (.int .i64 x347003_1) ∧ w'.cell? ⟨gb346, 4, none⟩ = some (.int .i64 x347004_1) ∧ w'.cell? ⟨gb348, 0, none⟩ = some (.int .i64 ((rd_T23 l0 x28_1).f0)) ∧ w'.cell? ⟨gb348, 1, none⟩ = some (.int .i64 ((rd_T23 l0 x28_1).f1)) ∧ w'.cell? ⟨gb348, 2, none⟩ = some (.int .i64 ((rd_T23 l0 x28_1).f2))) (ds := [13]) #[false, false, false, false, false, false, false, false, false, false, false, false, false, false] (by kernel_rfl) rfl rfl ⟨(blk_cell BK346.out 0).trans rfl, (blk_cell BK346.out 2).trans rfl, (blk_cell BK346.out 3).trans rfl, (blk_cell BK346.out 4).trans rfl, (blk_cell BK348.out 0).trans rfl, (blk_cell BK348.out 1).trans rfl, (blk_cell BK348.out 2).trans rfl⟩ (fun hHeld => ?_); refine with_tabW place_Hull.tab10 place_Hull.bits10 (fun HT_ HW_ => ?_)
                    generalize w29.drew = w34 at BK343 BK345 BK346 BK348 HB hHeld ⊢
                    refine pure_ (i := 0) (N := some 43) (v := ?_) (a' := ?_) #[true, false, false, false, false, false, false, false, false, false, false, false, false, false] rfl rfl (any_of HT_.out (by kernel_rfl)) (fun _ _ _ h => h) (Or.inl ⟨by rfl, ?_⟩) ?_ ?_
                    rotate_left
                    · intro w'
                      go_simp
                      with_reducible rfl
                    rotate_left
                    · simp only [Act.put, List.setIfInBounds_toArray, List.set_cons_zero, List.set_cons_succ, i64_w, i32_w]
                      rfl
                    refine pure_ (i := 2) (N := some 45) (v := ?_) (a' := ?_) #[true, false, true, false, false, false, false, false, false, false, false, false, false, false] rfl rfl (any_of HT_.out (by kernel_rfl)) (fun _ _ _ h => h) (Or.inl ⟨by rfl, ?_⟩) ?_ ?_
                    rotate_left
                    · intro w'
                      go_simp
                      with_reducible rfl
                    rotate_left
                    · simp only [Act.put, List.setIfInBounds_toArray, List.set_cons_zero, List.set_cons_succ, i64_w, i32_w]
                      rfl
                    refine pure_ (i := 5) (N := some 48) (v := ?_) (a' := ?_) #[true, false, true, false, false, true, false, false, false, false, false, false, false, false] rfl rfl (any_of HT_.out (by kernel_rfl)) (fun _ _ _ h => h) (Or.inl ⟨by rfl, ?_⟩) ?_ ?_
                    rotate_left
                    · intro w'
                      go_simp
                      with_reducible rfl
                    rotate_left
                    · simp only [Act.put, List.setIfInBounds_toArray, List.set_cons_zero, List.set_cons_succ, i64_w, i32_w]
                      rfl
                    refine pure_ (i := 7) (N := some 50) (v := ?_) (a' := ?_) #[true, false, true, false, false, true, false, true, false, false, false, false, false, false] rfl rfl (any_of HT_.out (by kernel_rfl)) (fun _ _ _ h => h) (Or.inl ⟨by rfl, ?_⟩) ?_ ?_
                    rotate_left
                    · intro w'
                      go_simp
                      with_reducible rfl
                    rotate_left
                    · simp only [Act.put, List.setIfInBounds_toArray, List.set_cons_zero, List.set_cons_succ, i64_w, i32_w]
                      rfl
                    refine take_ (i := 3) (N := some 46) (v := ?_) (a' := ?_) #[true, false, true, true, false, true, false, true, false, false, false, false, false, false] rfl rfl (take_ofW HT_.out HW_.out (by kernel_rfl)) (fun _ _ _ h => h) (Or.inl ⟨by rfl, ?_⟩) hHeld ?_ ?_
                    rotate_left
                    · rintro w' ⟨s0, s1, s2, s3, s4, s5, s6⟩
                      go_simp
                      with_reducible rfl
                    rotate_left
                    · simp only [Act.put, List.setIfInBounds_toArray, List.set_cons_zero, List.set_cons_succ, i64_w, i32_w]
                      rfl
                    refine take_ (i := 6) (N := some 49) (v := ?_) (a' := ?_) #[true, false, true, true, false, true, true, true, false, false, false, false, false, false] rfl rfl (take_ofW HT_.out HW_.out (by kernel_rfl)) (fun _ _ _ h => h) (Or.inl ⟨by rfl, ?_⟩) hHeld ?_ ?_
                    rotate_left
                    · rintro w' ⟨s0, s1, s2, s3, s4, s5, s6⟩
                      go_simp
                      with_reducible rfl
                    rotate_left
                    · simp only [Act.put, List.setIfInBounds_toArray, List.set_cons_zero, List.set_cons_succ, i64_w, i32_w]
                      rfl
                    refine take_ (i := 8) (N := some 51) (v := ?_) (a' := ?_) #[true, false, true, true, false, true, true, true, true, false, false, false, false, false] rfl rfl (take_ofW HT_.out HW_.out (by kernel_rfl)) (fun _ _ _ h => h) (Or.inl ⟨by rfl, ?_⟩) hHeld ?_ ?_
                    rotate_left
                    · rintro w' ⟨s0, s1, s2, s3, s4, s5, s6⟩
                      go_simp
                      with_reducible rfl
                    rotate_left
                    · simp only [Act.put, List.setIfInBounds_toArray, List.set_cons_zero, List.set_cons_succ, i64_w, i32_w]
                      rfl
                    refine pure_ (i := 9) (N := some 52) (v := ?_) (a' := ?_) #[true, false, true, true, false, true, true, true, true, true, false, false, false, false] rfl rfl (any_of HT_.out (by kernel_rfl)) (fun _ _ _ h => h) (Or.inl ⟨by rfl, ?_⟩) ?_ ?_
                    rotate_left
                    · intro w'
                      go_simp
                      with_reducible rfl
                    rotate_left
                    · simp only [Act.put, List.setIfInBounds_toArray, List.set_cons_zero, List.set_cons_succ, i64_w, i32_w]
                      rfl
                    refine one_ (i := 1) (N := some 44) #[true, true, true, true, false, true, true, true, true, true, false, false, false, false] rfl rfl (one_of HT_.out (by kernel_rfl)) (by decide) (fun K hK => ?_)
                    have he1_ := blk_cell BK346.out 1
                    refine value_ (w1 := ?_) (v := ?_) (by rfl) rfl ?_ ?_
                    rotate_left 2
                    · go_simp
                      constructor
                      · rfl
                      · rfl
                    refine hK.out _ _ ⟨hHeld.1, hHeld.2.1, hHeld.2.2.1, hHeld.2.2.2.1, hHeld.2.2.2.2.1, hHeld.2.2.2.2.2.1, hHeld.2.2.2.2.2.2⟩ (fun hHeld => ?_)
                    clear hK K
                    refine norm_ (a' := ?_) ?_ ?_
                    rotate_left
                    · show Act.put _ (some 44) _ = _
                      simp only [Act.put, List.setIfInBounds_toArray, List.set_cons_zero, List.set_cons_succ, i64_w, i32_w]
                      rfl
                    refine pure_ (i := 4) (N := some 47) (v := ?_) (a' := ?_) #[true, true, true, true, true, true, true, true, true, true, false, false, false, false] rfl rfl (any_of HT_.out (by kernel_rfl)) (fun _ _ _ h => h) (Or.inl ⟨by rfl, ?_⟩) ?_ ?_
                    rotate_left
                    · intro w'
                      go_simp
                      with_reducible rfl
                    rotate_left
                    · simp only [Act.put, List.setIfInBounds_toArray, List.set_cons_zero, List.set_cons_succ, i64_w, i32_w]
                      rfl
                    refine pure_ (i := 10) (N := some 53) (v := ?_) (a' := ?_) #[true, true, true, true, true, true, true, true, true, true, true, false, false, false] rfl rfl (any_of HT_.out (by kernel_rfl)) (fun _ _ _ h => h) (Or.inl ⟨by rfl, ?_⟩) ?_ ?_
                    rotate_left
                    · intro w'
                      go_simp
                      with_reducible rfl
                    rotate_left
                    · simp only [Act.put, List.setIfInBounds_toArray, List.set_cons_zero, List.set_cons_succ, i64_w, i32_w]
                      rfl
                    refine one_ (i := 11) (N := none) #[true, true, true, true, true, true, true, true, true, true, true, true, false, false] rfl rfl (one_of HT_.out (by kernel_rfl)) (by decide) (fun K hK => ?_)
                    have hs35 : w34.cell? ⟨gb346, 1, none⟩ = some (.int .i64 x347001_1) := (blk_cell BK346.out 1).trans rfl
                    have hfs35 := blk_frozen BK346.out 1
                    have hns35_0 := NB343_346.out
                    have hns35_1 := NB345_346.out
                    have hns35_3 := NB348_346.out
                    have hms35_0 := NB346_343.out
                    have hms35_1 := NB346_345.out
                    have hms35_3 := NB346_348.out
                    refine skip_ (w1 := ?_) (by rfl) rfl ?_ ?_
                    rotate_left
                    · go_simp
                      rfl
                    refine hK.out _ _ ⟨((World.cell?_setCell_other _ _ _ _ (by intro h; simp only [Addr.mk.injEq] at h; omega)).trans (hHeld.1)), ((World.cell?_setCell_other _ _ _ _ (by intro h; simp only [Addr.mk.injEq] at h; omega)).trans (hHeld.2.1)), ((World.cell?_setCell_other _ _ _ _ (by intro h; simp only [Addr.mk.injEq] at h; omega)).trans (hHeld.2.2.1)), ((World.cell?_setCell_other _ _ _ _ (by intro h; simp only [Addr.mk.injEq] at h; omega)).trans (hHeld.2.2.2.1)), ((cell_far (p := ⟨gb346, _, none⟩) NB348_346.out _).trans (hHeld.2.2.2.2.1)), ((cell_far (p := ⟨gb346, _, none⟩) NB348_346.out _).trans (hHeld.2.2.2.2.2.1)), ((cell_far (p := ⟨gb346, _, none⟩) NB348_346.out _).trans (hHeld.2.2.2.2.2.2))⟩ (fun hHeld => ?_)
                    clear hK K
                    refine pure_ (i := 12) (N := some 54) (v := ?_) (a' := ?_) #[true, true, true, true, true, true, true, true, true, true, true, true, true, false] rfl rfl (any_of HT_.out (by kernel_rfl)) (fun _ _ _ h => h) (Or.inl ⟨by rfl, ?_⟩) ?_ ?_
                    rotate_left
                    · intro w'
                      go_simp
                      with_reducible rfl
                    rotate_left
                    · simp only [Act.put, List.setIfInBounds_toArray, List.set_cons_zero, List.set_cons_succ, i64_w, i32_w]
                      rfl
                    refine last_ (i := 13) (N := none) #[true, true, true, true, true, true, true, true, true, true, true, true, true, true] rfl rfl (one_of HT_.out (by kernel_rfl)) (by decide) (fun K hK => ?_)
                    have hs36 : w34.cell? ⟨gb346, 3, none⟩ = some (.int .i64 x347003_1) := (blk_cell BK346.out 3).trans rfl
                    have hfs36 := blk_frozen BK346.out 3
                    have hns36_0 := NB343_346.out
                    have hns36_1 := NB345_346.out
                    have hns36_3 := NB348_346.out
                    have hms36_0 := NB346_343.out
                    have hms36_1 := NB346_345.out
                    have hms36_3 := NB346_348.out
                    refine skip_ (w1 := ?_) (by rfl) rfl ?_ ?_
                    rotate_left
                    · go_simp
                      rfl
                    refine hK.out _ _ ?_
                    clear hK K
                    refine done_ (done_of HT_.out (by kernel_rfl)) ?_
                    try go_wp2
                    have n0_ : Aside0 (((w34.setCell ⟨gb346, 1, none⟩ (.int .i64 ji20)).setCell ⟨gb346, 3, none⟩ (.int .i64 ji21)).heap[gb343]? = some (.cells #[.int .i64 x344000_1, .int .i64 x344001_1, .int .i64 x344002_1, .int .i64 x344003_1, .int .i64 x344004_1] 25 (0, 0))) := ⟨by (with_reducible repeat first | apply blk_drewN | apply blk_drew | apply blk_alloc); refine blk_far ?_ NB343_346.out _; (with_reducible repeat first | apply blk_drewN | apply blk_drew | apply blk_alloc); refine blk_far ?_ NB343_346.out _; (with_reducible repeat first | apply blk_drewN | apply blk_drew | apply blk_alloc); exact BK343.out⟩
                    have n1_ : Aside0 (((w34.setCell ⟨gb346, 1, none⟩ (.int .i64 ji20)).setCell ⟨gb346, 3, none⟩ (.int .i64 ji21)).heap[gb345]? = some (.cells #[.int .i64 ((rd_T23 l0 0).f0), .int .i64 ((rd_T23 l0 0).f1), .int .i64 ((rd_T23 l0 0).f2)] 23 (0, 0))) := ⟨by (with_reducible repeat first | apply blk_drewN | apply blk_drew | apply blk_alloc); refine blk_far ?_ NB345_346.out _; (with_reducible repeat first | apply blk_drewN | apply blk_drew | apply blk_alloc); refine blk_far ?_ NB345_346.out _; (with_reducible repeat first | apply blk_drewN | apply blk_drew | apply blk_alloc); exact BK345.out⟩
                    have n2_ : Aside0 (((w34.setCell ⟨gb346, 1, none⟩ (.int .i64 ji20)).setCell ⟨gb346, 3, none⟩ (.int .i64 ji21)).heap[gb346]? = some (.cells #[.int .i64 ((rd_T23 l0 0).f0), .int .i64 ji20, .int .i64 x347002_1, .int .i64 ji21, .int .i64 x347004_1] 25 (0, 0))) := ⟨by (with_reducible repeat first | apply blk_drewN | apply blk_drew | apply blk_alloc); refine blk_put (cs := #[.int .i64 ((rd_T23 l0 0).f0), .int .i64 ji20, .int .i64 x347002_1, .int .i64 x347003_1, .int .i64 x347004_1]) ?_ 3 _ rfl; (with_reducible repeat first | apply blk_drewN | apply blk_drew | apply blk_alloc); refine blk_put (cs := #[.int .i64 ((rd_T23 l0 0).f0), .int .i64 x347001_1, .int .i64 x347002_1, .int .i64 x347003_1, .int .i64 x347004_1]) ?_ 1 _ rfl; (with_reducible repeat first | apply blk_drewN | apply blk_drew | apply blk_alloc); exact BK346.out⟩
                    have n3_ : Aside0 (((w34.setCell ⟨gb346, 1, none⟩ (.int .i64 ji20)).setCell ⟨gb346, 3, none⟩ (.int .i64 ji21)).heap[gb348]? = some (.cells #[.int .i64 ((rd_T23 l0 x28_1).f0), .int .i64 ((rd_T23 l0 x28_1).f1), .int .i64 ((rd_T23 l0 x28_1).f2)] 23 (0, 0))) := ⟨by (with_reducible repeat first | apply blk_drewN | apply blk_drew | apply blk_alloc); refine blk_far ?_ NB348_346.out _; (with_reducible repeat first | apply blk_drewN | apply blk_drew | apply blk_alloc); refine blk_far ?_ NB348_346.out _; (with_reducible repeat first | apply blk_drewN | apply blk_drew | apply blk_alloc); exact BK348.out⟩
                    have n4_ : Aside0 (Below w.heap.size w ((w34.setCell ⟨gb346, 1, none⟩ (.int .i64 ji20)).setCell ⟨gb346, 3, none⟩ (.int .i64 ji21))) := ⟨by repeat (first | (with_reducible first | exact HB.out | apply below_alloc | apply pw_below_drewN | apply below_drew1 | refine below_set ?_ GE343.out | refine below_set ?_ GE345.out | refine below_set ?_ GE346.out | refine below_set ?_ GE348.out) | exact HB.out)⟩
                    (try clear BK343)
                    (try clear BK345)
                    (try clear BK346)
                    (try clear BK348)
                    (try clear HB)
                    generalize ((w34.setCell ⟨gb346, 1, none⟩ (.int .i64 ji20)).setCell ⟨gb346, 3, none⟩ (.int .i64 ji21)) = w37 at n0_ n1_ n2_ n3_ n4_ ⊢
                    have BK343 := n0_
                    have BK345 := n1_
                    have BK346 := n2_
                    have BK348 := n3_
                    have HB := n4_
                    clear n0_ n1_ n2_ n3_ n4_
                    have n0_ := Aside0.mk (blk_drew BK343.out)
                    have n1_ := Aside0.mk (blk_drew BK345.out)
                    have n2_ := Aside0.mk (blk_drew BK346.out)
                    have n3_ := Aside0.mk (blk_drew BK348.out)
                    have n4_ := Aside0.mk (below_drew1 HB.out)
                    clear BK343
                    clear BK345
                    clear BK346
                    clear BK348
                    clear HB
                    have BK343 := n0_
                    have BK345 := n1_
                    have BK346 := n2_
                    have BK348 := n3_
                    have HB := n4_
                    clear n0_ n1_ n2_ n3_ n4_
                    refine start_ (n := 14) (S := fun w' => w'.cell? ⟨gb346, 0, none⟩ = some (.int .i64 ((rd_T23 l0 0).f0)) ∧ w'.cell? ⟨gb346, 1, none⟩ = some (.int .i64 ji20) ∧ w'.cell? ⟨gb346, 3, none⟩ = some (.int .i64 ji21) ∧ w'.cell? ⟨gb346, 4, none⟩ = some (.int .i64 x347004_1) ∧ w'.cell? ⟨gb348, 0, none⟩ = some (.int .i64 ((rd_T23 l0 x28_1).f0)) ∧ w'.cell? ⟨gb348, 1, none⟩ = some (.int .i64 ((rd_T23 l0 x28_1).f1)) ∧ w'.cell? ⟨gb348, 2, none⟩ = some (.int .i64 ((rd_T23 l0 x28_1).f2))) (ds := [13]) #[false, false, false, false, false, false, false, false, false, false, false, false, false, false] (by kernel_rfl) rfl rfl ⟨(blk_cell BK346.out 0).trans rfl, (blk_cell BK346.out 1).trans rfl, (blk_cell BK346.out 3).trans rfl, (blk_cell BK346.out 4).trans rfl, (blk_cell BK348.out 0).trans rfl, (blk_cell BK348.out 1).trans rfl, (blk_cell BK348.out 2).trans rfl⟩ (fun hHeld => ?_); refine with_tabW place_Hull.tab11 place_Hull.bits11 (fun HT_ HW_ => ?_)
                    generalize w37.drew = w38 at BK343 BK345 BK346 BK348 HB hHeld ⊢
                    refine pure_ (i := 0) (N := some 55) (v := ?_) (a' := ?_) #[true, false, false, false, false, false, false, false, false, false, false, false, false, false] rfl rfl (any_of HT_.out (by kernel_rfl)) (fun _ _ _ h => h) (Or.inl ⟨by rfl, ?_⟩) ?_ ?_
                    rotate_left
                    · intro w'
                      go_simp
                      with_reducible rfl
                    rotate_left
                    · simp only [Act.put, List.setIfInBounds_toArray, List.set_cons_zero, List.set_cons_succ, i64_w, i32_w]
                      rfl
                    refine pure_ (i := 2) (N := some 57) (v := ?_) (a' := ?_) #[true, false, true, false, false, false, false, false, false, false, false, false, false, false] rfl rfl (any_of HT_.out (by kernel_rfl)) (fun _ _ _ h => h) (Or.inl ⟨by rfl, ?_⟩) ?_ ?_
                    rotate_left
                    · intro w'
                      go_simp
                      with_reducible rfl
                    rotate_left
                    · simp only [Act.put, List.setIfInBounds_toArray, List.set_cons_zero, List.set_cons_succ, i64_w, i32_w]
                      rfl
                    refine pure_ (i := 5) (N := some 60) (v := ?_) (a' := ?_) #[true, false, true, false, false, true, false, false, false, false, false, false, false, false] rfl rfl (any_of HT_.out (by kernel_rfl)) (fun _ _ _ h => h) (Or.inl ⟨by rfl, ?_⟩) ?_ ?_
                    rotate_left
                    · intro w'
                      go_simp
                      with_reducible rfl
                    rotate_left
                    · simp only [Act.put, List.setIfInBounds_toArray, List.set_cons_zero, List.set_cons_succ, i64_w, i32_w]
                      rfl
                    refine pure_ (i := 7) (N := some 62) (v := ?_) (a' := ?_) #[true, false, true, false, false, true, false, true, false, false, false, false, false, false] rfl rfl (any_of HT_.out (by kernel_rfl)) (fun _ _ _ h => h) (Or.inl ⟨by rfl, ?_⟩) ?_ ?_
                    rotate_left
                    · intro w'
                      go_simp
                      with_reducible rfl
                    rotate_left
                    · simp only [Act.put, List.setIfInBounds_toArray, List.set_cons_zero, List.set_cons_succ, i64_w, i32_w]
                      rfl
                    refine take_ (i := 3) (N := some 58) (v := ?_) (a' := ?_) #[true, false, true, true, false, true, false, true, false, false, false, false, false, false] rfl rfl (take_ofW HT_.out HW_.out (by kernel_rfl)) (fun _ _ _ h => h) (Or.inl ⟨by rfl, ?_⟩) hHeld ?_ ?_
                    rotate_left
                    · rintro w' ⟨s0, s1, s2, s3, s4, s5, s6⟩
                      go_simp
                      with_reducible rfl
                    rotate_left
                    · simp only [Act.put, List.setIfInBounds_toArray, List.set_cons_zero, List.set_cons_succ, i64_w, i32_w]
                      rfl
                    refine take_ (i := 6) (N := some 61) (v := ?_) (a' := ?_) #[true, false, true, true, false, true, true, true, false, false, false, false, false, false] rfl rfl (take_ofW HT_.out HW_.out (by kernel_rfl)) (fun _ _ _ h => h) (Or.inl ⟨by rfl, ?_⟩) hHeld ?_ ?_
                    rotate_left
                    · rintro w' ⟨s0, s1, s2, s3, s4, s5, s6⟩
                      go_simp
                      with_reducible rfl
                    rotate_left
                    · simp only [Act.put, List.setIfInBounds_toArray, List.set_cons_zero, List.set_cons_succ, i64_w, i32_w]
                      rfl
                    refine take_ (i := 8) (N := some 63) (v := ?_) (a' := ?_) #[true, false, true, true, false, true, true, true, true, false, false, false, false, false] rfl rfl (take_ofW HT_.out HW_.out (by kernel_rfl)) (fun _ _ _ h => h) (Or.inl ⟨by rfl, ?_⟩) hHeld ?_ ?_
                    rotate_left
                    · rintro w' ⟨s0, s1, s2, s3, s4, s5, s6⟩
                      go_simp
                      with_reducible rfl
                    rotate_left
                    · simp only [Act.put, List.setIfInBounds_toArray, List.set_cons_zero, List.set_cons_succ, i64_w, i32_w]
                      rfl
                    refine pure_ (i := 9) (N := some 64) (v := ?_) (a' := ?_) #[true, false, true, true, false, true, true, true, true, true, false, false, false, false] rfl rfl (any_of HT_.out (by kernel_rfl)) (fun _ _ _ h => h) (Or.inl ⟨by rfl, ?_⟩) ?_ ?_
                    rotate_left
                    · intro w'
                      go_simp
                      with_reducible rfl
                    rotate_left
                    · simp only [Act.put, List.setIfInBounds_toArray, List.set_cons_zero, List.set_cons_succ, i64_w, i32_w]
                      rfl
                    refine one_ (i := 1) (N := some 56) #[true, true, true, true, false, true, true, true, true, true, false, false, false, false] rfl rfl (one_of HT_.out (by kernel_rfl)) (by decide) (fun K hK => ?_)
                    have he1_ := blk_cell BK346.out 2
                    refine value_ (w1 := ?_) (v := ?_) (by rfl) rfl ?_ ?_
                    rotate_left 2
                    · go_simp
                      constructor
                      · rfl
                      · rfl
                    refine hK.out _ _ ⟨hHeld.1, hHeld.2.1, hHeld.2.2.1, hHeld.2.2.2.1, hHeld.2.2.2.2.1, hHeld.2.2.2.2.2.1, hHeld.2.2.2.2.2.2⟩ (fun hHeld => ?_)
                    clear hK K
                    refine norm_ (a' := ?_) ?_ ?_
                    rotate_left
                    · show Act.put _ (some 56) _ = _
                      simp only [Act.put, List.setIfInBounds_toArray, List.set_cons_zero, List.set_cons_succ, i64_w, i32_w]
                      rfl
                    refine pure_ (i := 4) (N := some 59) (v := ?_) (a' := ?_) #[true, true, true, true, true, true, true, true, true, true, false, false, false, false] rfl rfl (any_of HT_.out (by kernel_rfl)) (fun _ _ _ h => h) (Or.inl ⟨by rfl, ?_⟩) ?_ ?_
                    rotate_left
                    · intro w'
                      go_simp
                      with_reducible rfl
                    rotate_left
                    · simp only [Act.put, List.setIfInBounds_toArray, List.set_cons_zero, List.set_cons_succ, i64_w, i32_w]
                      rfl
                    refine pure_ (i := 10) (N := some 65) (v := ?_) (a' := ?_) #[true, true, true, true, true, true, true, true, true, true, true, false, false, false] rfl rfl (any_of HT_.out (by kernel_rfl)) (fun _ _ _ h => h) (Or.inl ⟨by rfl, ?_⟩) ?_ ?_
                    rotate_left
                    · intro w'
                      go_simp
                      with_reducible rfl
                    rotate_left
                    · simp only [Act.put, List.setIfInBounds_toArray, List.set_cons_zero, List.set_cons_succ, i64_w, i32_w]
                      rfl
                    refine one_ (i := 11) (N := none) #[true, true, true, true, true, true, true, true, true, true, true, true, false, false] rfl rfl (one_of HT_.out (by kernel_rfl)) (by decide) (fun K hK => ?_)
                    have hs39 : w38.cell? ⟨gb346, 2, none⟩ = some (.int .i64 x347002_1) := (blk_cell BK346.out 2).trans rfl
                    have hfs39 := blk_frozen BK346.out 2
                    have hns39_0 := NB343_346.out
                    have hns39_1 := NB345_346.out
                    have hns39_3 := NB348_346.out
                    have hms39_0 := NB346_343.out
                    have hms39_1 := NB346_345.out
                    have hms39_3 := NB346_348.out
                    refine skip_ (w1 := ?_) (by rfl) rfl ?_ ?_
                    rotate_left
                    · go_simp
                      rfl
                    refine hK.out _ _ ⟨((World.cell?_setCell_other _ _ _ _ (by intro h; simp only [Addr.mk.injEq] at h; omega)).trans (hHeld.1)), ((World.cell?_setCell_other _ _ _ _ (by intro h; simp only [Addr.mk.injEq] at h; omega)).trans (hHeld.2.1)), ((World.cell?_setCell_other _ _ _ _ (by intro h; simp only [Addr.mk.injEq] at h; omega)).trans (hHeld.2.2.1)), ((World.cell?_setCell_other _ _ _ _ (by intro h; simp only [Addr.mk.injEq] at h; omega)).trans (hHeld.2.2.2.1)), ((cell_far (p := ⟨gb346, _, none⟩) NB348_346.out _).trans (hHeld.2.2.2.2.1)), ((cell_far (p := ⟨gb346, _, none⟩) NB348_346.out _).trans (hHeld.2.2.2.2.2.1)), ((cell_far (p := ⟨gb346, _, none⟩) NB348_346.out _).trans (hHeld.2.2.2.2.2.2))⟩ (fun hHeld => ?_)
                    clear hK K
                    refine pure_ (i := 12) (N := some 66) (v := ?_) (a' := ?_) #[true, true, true, true, true, true, true, true, true, true, true, true, true, false] rfl rfl (any_of HT_.out (by kernel_rfl)) (fun _ _ _ h => h) (Or.inl ⟨by rfl, ?_⟩) ?_ ?_
                    rotate_left
                    · intro w'
                      go_simp
                      with_reducible rfl
                    rotate_left
                    · simp only [Act.put, List.setIfInBounds_toArray, List.set_cons_zero, List.set_cons_succ, i64_w, i32_w]
                      rfl
                    refine last_ (i := 13) (N := none) #[true, true, true, true, true, true, true, true, true, true, true, true, true, true] rfl rfl (one_of HT_.out (by kernel_rfl)) (by decide) (fun K hK => ?_)
                    have hs40 : w38.cell? ⟨gb346, 4, none⟩ = some (.int .i64 x347004_1) := (blk_cell BK346.out 4).trans rfl
                    have hfs40 := blk_frozen BK346.out 4
                    have hns40_0 := NB343_346.out
                    have hns40_1 := NB345_346.out
                    have hns40_3 := NB348_346.out
                    have hms40_0 := NB346_343.out
                    have hms40_1 := NB346_345.out
                    have hms40_3 := NB346_348.out
                    refine skip_ (w1 := ?_) (by rfl) rfl ?_ ?_
                    rotate_left
                    · go_simp
                      rfl
                    refine hK.out _ _ ?_
                    clear hK K
                    refine done_ (done_of HT_.out (by kernel_rfl)) ?_
                    try go_wp2
                    go_roundg k1
                    case measure => have := HK1.out; omega
                    case rel => exact ⟨(wrap64 (x28_1 + 1)), (x344000_1), (x344001_1), (x344002_1), (x344003_1), (x344004_1), (ji20), (ji22), (ji21), (ji23), (by first | rfl | (simp; done) | (simp [*]; done)), H', ⟨by have := HK1.out; omega⟩, ⟨by (with_reducible repeat first | apply blk_drewN | apply blk_drew | apply blk_alloc); refine blk_far ?_ NB343_346.out _; (with_reducible repeat first | apply blk_drewN | apply blk_drew | apply blk_alloc); refine blk_far ?_ NB343_346.out _; (with_reducible repeat first | apply blk_drewN | apply blk_drew | apply blk_alloc); exact BK343.out⟩, ⟨by (with_reducible repeat first | apply blk_drewN | apply blk_drew | apply blk_alloc); refine blk_far ?_ NB345_346.out _; (with_reducible repeat first | apply blk_drewN | apply blk_drew | apply blk_alloc); refine blk_far ?_ NB345_346.out _; (with_reducible repeat first | apply blk_drewN | apply blk_drew | apply blk_alloc); exact BK345.out⟩, ⟨by (with_reducible repeat first | apply blk_drewN | apply blk_drew | apply blk_alloc); refine blk_put (cs := #[.int .i64 ((rd_T23 l0 0).f0), .int .i64 ji20, .int .i64 ji22, .int .i64 ji21, .int .i64 x347004_1]) ?_ 4 _ rfl; (with_reducible repeat first | apply blk_drewN | apply blk_drew | apply blk_alloc); refine blk_put (cs := #[.int .i64 ((rd_T23 l0 0).f0), .int .i64 ji20, .int .i64 x347002_1, .int .i64 ji21, .int .i64 x347004_1]) ?_ 2 _ rfl; (with_reducible repeat first | apply blk_drewN | apply blk_drew | apply blk_alloc); exact BK346.out⟩, ⟨by repeat (first | (with_reducible first | exact HB.out | apply below_alloc | apply pw_below_drewN | apply below_drew1 | refine below_set ?_ GE343.out | refine below_set ?_ GE345.out | refine below_set ?_ GE346.out | refine below_set ?_ GE348.out) | exact HB.out)⟩⟩
                  · rw [if_neg c19] at H
                    have c19b0 : (((rd_T23 l0 x28_1).f0) == ((rd_T23 l0 0).f0)) = false := beq_eq_false_iff_ne.mpr c19
                    have c19b1 : (((rd_T23 l0 x28_1).f0) != ((rd_T23 l0 0).f0)) = true := bne_iff_ne.mpr c19
                    simp only [Option.some.injEq, Prod.mk.injEq] at H
                    obtain ⟨rfl, rfl, rfl, rfl, rfl, rfl⟩ := H
                    have p347 : 0 ≤ (x28_1 : Int) := of_decide_eq_true (by first | (with_reducible assumption) | assumption)
                    have q347 : x28_1 < (l0.length : Int) := of_decide_eq_true (by first | (with_reducible assumption) | assumption)
                    obtain ⟨ad347, e347, hx347_0, hx347_1, hx347_2⟩ := at_T23 HR0.out x28_1 p347 q347
                    obtain rfl : ad344 = ad347 := (by injection e347)
                    replace hx347_0 := (HB.out.cell (World.block_lt_of_cell? w _ hx347_0)).trans hx347_0
                    replace hx347_1 := (HB.out.cell (World.block_lt_of_cell? w _ hx347_1)).trans hx347_1
                    replace hx347_2 := (HB.out.cell (World.block_lt_of_cell? w _ hx347_2)).trans hx347_2
                    replace p347 := eq_true p347
                    replace q347 := eq_true q347
                    go_wp2_with (first | ((with_reducible refine gate_dst (N := 7) rfl ?_); refine box_event ?hg (N := 7) ?hd (cs := #[.int .i64 0, .int .i64 0, .int .i64 0]) (t := 23) ?hr ?_; (case hd => rfl); (case hg => rfl); (case hr => go_simp <;> rfl); intro gb348 hg w41 hbox hb; have BK348 := Aside0.mk (hbox); have GW348 := Aside0.mk ((by rw [hg]; exact (below_size (by repeat first | exact HB.out | refine below_set ?_ GE343.out | refine below_set ?_ GE345.out | refine below_set ?_ GE346.out)) : w.heap.size ≤ gb348)); have GE348 := GW348; have NB343_348 := Aside0.mk ((by rw [hg]; exact Nat.ne_of_lt (blk_lt BK343.out) : gb343 ≠ gb348)); have NB348_343 := Aside0.mk ((by rw [hg]; exact Nat.ne_of_gt (blk_lt BK343.out) : gb348 ≠ gb343)); have NB345_348 := Aside0.mk ((by rw [hg]; exact Nat.ne_of_lt (blk_lt BK345.out) : gb345 ≠ gb348)); have NB348_345 := Aside0.mk ((by rw [hg]; exact Nat.ne_of_gt (blk_lt BK345.out) : gb348 ≠ gb345)); have NB346_348 := Aside0.mk ((by rw [hg]; exact Nat.ne_of_lt (blk_lt BK346.out) : gb346 ≠ gb348)); have NB348_346 := Aside0.mk ((by rw [hg]; exact Nat.ne_of_gt (blk_lt BK346.out) : gb348 ≠ gb346)); replace BK343 := Aside0.mk (blk_below BK343.out hb); replace BK345 := Aside0.mk (blk_below BK345.out hb); replace BK346 := Aside0.mk (blk_below BK346.out hb); replace HB := Aside0.mk (below_step (by repeat first | exact HB.out | refine below_set ?_ GE343.out | refine below_set ?_ GE345.out | refine below_set ?_ GE346.out) hb); clear hb hbox hg; have hnb42 := NB348_343.out; have hnc42 := NB343_348.out; have hnb43 := NB348_345.out; have hnc43 := NB345_348.out; have hnb44 := NB348_346.out; have hnc44 := NB346_348.out; have hcz45_0 : w41.cell? ⟨gb348, 0, none⟩ = some (.int .i64 0) := (blk_cell BK348.out 0).trans rfl; have hcz45_1 : w41.cell? ⟨gb348, 1, none⟩ = some (.int .i64 0) := (blk_cell BK348.out 1).trans rfl; have hcz45_2 : w41.cell? ⟨gb348, 2, none⟩ = some (.int .i64 0) := (blk_cell BK348.out 2).trans rfl; have hfz45_0 := blk_frozen BK348.out 0; have hfz45_1 := blk_frozen BK348.out 1; have hfz45_2 := blk_frozen BK348.out 2) | ((with_reducible refine gate_callee (f := 17) rfl ?_); refine goesL_ (some 33) rfl rfl Tryd.func17 (by kernel_rfl) rfl #[.agg #[.int .i64 ((rd_T23 l0 x28_1).f0), .int .i64 ((rd_T23 l0 x28_1).f1), .int .i64 ((rd_T23 l0 x28_1).f2)]] rfl (by (try simp only [List.map_toArray, List.map_cons, List.map_nil]); first | done | rfl | (simp only [List.length_drop, List.length_take]; rfl)) ?_; (with_reducible refine (place_Right.calls ((rd_T23 l0 x28_1).f0) ((rd_T23 l0 x28_1).f1) ((rd_T23 l0 x28_1).f2) true _ A17.out).mono ?_); rintro e w46 ⟨rfl, hb⟩; refine ⟨_, rfl, ?_⟩; replace BK343 := Aside0.mk (blk_below (g := gb343) (o := .cells #[.int .i64 x344000_1, .int .i64 x344001_1, .int .i64 x344002_1, .int .i64 x344003_1, .int .i64 x344004_1] 25 (0, 0)) (by (repeat refine blk_far ?_ NB343_348.out _); exact BK343.out) hb); replace BK345 := Aside0.mk (blk_below (g := gb345) (o := .cells #[.int .i64 ((rd_T23 l0 0).f0), .int .i64 ((rd_T23 l0 0).f1), .int .i64 ((rd_T23 l0 0).f2)] 23 (0, 0)) (by (repeat refine blk_far ?_ NB345_348.out _); exact BK345.out) hb); replace BK346 := Aside0.mk (blk_below (g := gb346) (o := .cells #[.int .i64 ((rd_T23 l0 0).f0), .int .i64 x347001_1, .int .i64 x347002_1, .int .i64 x347003_1, .int .i64 x347004_1] 25 (0, 0)) (by (repeat refine blk_far ?_ NB346_348.out _); exact BK346.out) hb); replace BK348 := Aside0.mk (blk_below (g := gb348) (o := .cells #[.int .i64 ((rd_T23 l0 x28_1).f0), .int .i64 ((rd_T23 l0 x28_1).f1), .int .i64 ((rd_T23 l0 x28_1).f2)] 23 (0, 0)) (by (with_reducible repeat first | apply blk_drewN | apply blk_drew | apply blk_alloc); refine blk_put (cs := #[.int .i64 ((rd_T23 l0 x28_1).f0), .int .i64 ((rd_T23 l0 x28_1).f1), .int .i64 0]) ?_ 2 _ rfl; (with_reducible repeat first | apply blk_drewN | apply blk_drew | apply blk_alloc); refine blk_put (cs := #[.int .i64 ((rd_T23 l0 x28_1).f0), .int .i64 0, .int .i64 0]) ?_ 1 _ rfl; (with_reducible repeat first | apply blk_drewN | apply blk_drew | apply blk_alloc); refine blk_put (cs := #[.int .i64 0, .int .i64 0, .int .i64 0]) ?_ 0 _ rfl; (with_reducible repeat first | apply blk_drewN | apply blk_drew | apply blk_alloc); exact BK348.out) hb); replace HB := Aside0.mk (below_step (by repeat first | exact HB.out | refine below_set ?_ GE343.out | refine below_set ?_ GE345.out | refine below_set ?_ GE346.out | refine below_set ?_ GE348.out) hb); (try clear hb); (try clear hb2); (try clear hk); (try clear hi); have hcz47_0 : w46.cell? ⟨gb348, 0, none⟩ = some (.int .i64 ((rd_T23 l0 x28_1).f0)) := (blk_cell BK348.out 0).trans rfl; have hcz47_1 : w46.cell? ⟨gb348, 1, none⟩ = some (.int .i64 ((rd_T23 l0 x28_1).f1)) := (blk_cell BK348.out 1).trans rfl; have hcz47_2 : w46.cell? ⟨gb348, 2, none⟩ = some (.int .i64 ((rd_T23 l0 x28_1).f2)) := (blk_cell BK348.out 2).trans rfl; have hfz47_0 := blk_frozen BK348.out 0; have hfz47_1 := blk_frozen BK348.out 1; have hfz47_2 := blk_frozen BK348.out 2; have hnb48 := NB346_343.out; have hnc48 := NB343_346.out; have hnb49 := NB346_345.out; have hnc49 := NB345_346.out; have hcz50_0 : w46.cell? ⟨gb346, 0, none⟩ = some (.int .i64 ((rd_T23 l0 0).f0)) := (blk_cell BK346.out 0).trans rfl; have hcz50_1 : w46.cell? ⟨gb346, 1, none⟩ = some (.int .i64 x347001_1) := (blk_cell BK346.out 1).trans rfl; have hcz50_2 : w46.cell? ⟨gb346, 2, none⟩ = some (.int .i64 x347002_1) := (blk_cell BK346.out 2).trans rfl; have hcz50_3 : w46.cell? ⟨gb346, 3, none⟩ = some (.int .i64 x347003_1) := (blk_cell BK346.out 3).trans rfl; have hcz50_4 : w46.cell? ⟨gb346, 4, none⟩ = some (.int .i64 x347004_1) := (blk_cell BK346.out 4).trans rfl; have hfz50_0 := blk_frozen BK346.out 0; have hfz50_1 := blk_frozen BK346.out 1; have hfz50_2 := blk_frozen BK346.out 2; have hfz50_3 := blk_frozen BK346.out 3; have hfz50_4 := blk_frozen BK346.out 4; have hnb51 := NB343_345.out; have hnc51 := NB345_343.out; have hcz52_0 : w46.cell? ⟨gb343, 0, none⟩ = some (.int .i64 x344000_1) := (blk_cell BK343.out 0).trans rfl; have hcz52_1 : w46.cell? ⟨gb343, 1, none⟩ = some (.int .i64 x344001_1) := (blk_cell BK343.out 1).trans rfl; have hcz52_2 : w46.cell? ⟨gb343, 2, none⟩ = some (.int .i64 x344002_1) := (blk_cell BK343.out 2).trans rfl; have hcz52_3 : w46.cell? ⟨gb343, 3, none⟩ = some (.int .i64 x344003_1) := (blk_cell BK343.out 3).trans rfl; have hcz52_4 : w46.cell? ⟨gb343, 4, none⟩ = some (.int .i64 x344004_1) := (blk_cell BK343.out 4).trans rfl; have hfz52_0 := blk_frozen BK343.out 0; have hfz52_1 := blk_frozen BK343.out 1; have hfz52_2 := blk_frozen BK343.out 2; have hfz52_3 := blk_frozen BK343.out 3; have hfz52_4 := blk_frozen BK343.out 4))
                    refine bodyPost_ret (results_ct rfl _ _ gb343 25 #[.int .i64 0, .int .i64 0, .int .i64 0, .int .i64 0, .int .i64 0] (0, 0) _ rfl (by (with_reducible repeat first | apply blk_drewN | apply blk_drew | apply blk_alloc); refine blk_put (cs := #[.int .i64 0, .int .i64 0, .int .i64 0, .int .i64 0, .int .i64 x344004_1]) ?_ 4 _ rfl; (with_reducible repeat first | apply blk_drewN | apply blk_drew | apply blk_alloc); refine blk_put (cs := #[.int .i64 0, .int .i64 0, .int .i64 0, .int .i64 x344003_1, .int .i64 x344004_1]) ?_ 3 _ rfl; (with_reducible repeat first | apply blk_drewN | apply blk_drew | apply blk_alloc); refine blk_put (cs := #[.int .i64 0, .int .i64 0, .int .i64 x344002_1, .int .i64 x344003_1, .int .i64 x344004_1]) ?_ 2 _ rfl; (with_reducible repeat first | apply blk_drewN | apply blk_drew | apply blk_alloc); refine blk_put (cs := #[.int .i64 0, .int .i64 x344001_1, .int .i64 x344002_1, .int .i64 x344003_1, .int .i64 x344004_1]) ?_ 1 _ rfl; (with_reducible repeat first | apply blk_drewN | apply blk_drew | apply blk_alloc); refine blk_put (cs := #[.int .i64 x344000_1, .int .i64 x344001_1, .int .i64 x344002_1, .int .i64 x344003_1, .int .i64 x344004_1]) ?_ 0 _ rfl; (with_reducible repeat first | apply blk_drewN | apply blk_drew | apply blk_alloc); exact BK343.out) Tryd.underlying25 rfl (by kernel_rfl)) rfl ?_
                    exact ⟨by first | rfl | (simp [errW_none, errW_some] <;> rfl) | (simp [*, errW_none, errW_some] <;> rfl), by repeat (first | (with_reducible first | exact HB.out | apply below_alloc | apply pw_below_drewN | apply below_drew1 | refine below_set ?_ GE343.out | refine below_set ?_ GE345.out | refine below_set ?_ GE346.out | refine below_set ?_ GE348.out) | exact HB.out)⟩
                · replace c18 := Bool.eq_false_iff.mpr c18
                  subst c18
                  have H1 : (some (0, 0, 0, 0, 0, false)) = some (r1, r2, r3, r4, r5, r6) := by rw [if_neg (show ¬ (false = true) by decide)] at H; exact H
                  clear H
                  have H := H1
                  clear H1
                  simp only [Option.some.injEq, Prod.mk.injEq] at H
                  obtain ⟨rfl, rfl, rfl, rfl, rfl, rfl⟩ := H
                  have p347 : 0 ≤ (x28_1 : Int) := of_decide_eq_true (by first | (with_reducible assumption) | assumption)
                  have q347 : x28_1 < (l0.length : Int) := of_decide_eq_true (by first | (with_reducible assumption) | assumption)
                  obtain ⟨ad347, e347, hx347_0, hx347_1, hx347_2⟩ := at_T23 HR0.out x28_1 p347 q347
                  obtain rfl : ad344 = ad347 := (by injection e347)
                  replace hx347_0 := (HB.out.cell (World.block_lt_of_cell? w _ hx347_0)).trans hx347_0
                  replace hx347_1 := (HB.out.cell (World.block_lt_of_cell? w _ hx347_1)).trans hx347_1
                  replace hx347_2 := (HB.out.cell (World.block_lt_of_cell? w _ hx347_2)).trans hx347_2
                  replace p347 := eq_true p347
                  replace q347 := eq_true q347
                  go_wp2_with (first | ((with_reducible refine gate_dst (N := 7) rfl ?_); refine box_event ?hg (N := 7) ?hd (cs := #[.int .i64 0, .int .i64 0, .int .i64 0]) (t := 23) ?hr ?_; (case hd => rfl); (case hg => rfl); (case hr => go_simp <;> rfl); intro gb348 hg w53 hbox hb; have BK348 := Aside0.mk (hbox); have GW348 := Aside0.mk ((by rw [hg]; exact (below_size (by repeat first | exact HB.out | refine below_set ?_ GE343.out | refine below_set ?_ GE345.out | refine below_set ?_ GE346.out)) : w.heap.size ≤ gb348)); have GE348 := GW348; have NB343_348 := Aside0.mk ((by rw [hg]; exact Nat.ne_of_lt (blk_lt BK343.out) : gb343 ≠ gb348)); have NB348_343 := Aside0.mk ((by rw [hg]; exact Nat.ne_of_gt (blk_lt BK343.out) : gb348 ≠ gb343)); have NB345_348 := Aside0.mk ((by rw [hg]; exact Nat.ne_of_lt (blk_lt BK345.out) : gb345 ≠ gb348)); have NB348_345 := Aside0.mk ((by rw [hg]; exact Nat.ne_of_gt (blk_lt BK345.out) : gb348 ≠ gb345)); have NB346_348 := Aside0.mk ((by rw [hg]; exact Nat.ne_of_lt (blk_lt BK346.out) : gb346 ≠ gb348)); have NB348_346 := Aside0.mk ((by rw [hg]; exact Nat.ne_of_gt (blk_lt BK346.out) : gb348 ≠ gb346)); replace BK343 := Aside0.mk (blk_below BK343.out hb); replace BK345 := Aside0.mk (blk_below BK345.out hb); replace BK346 := Aside0.mk (blk_below BK346.out hb); replace HB := Aside0.mk (below_step (by repeat first | exact HB.out | refine below_set ?_ GE343.out | refine below_set ?_ GE345.out | refine below_set ?_ GE346.out) hb); clear hb hbox hg; have hnb54 := NB348_343.out; have hnc54 := NB343_348.out; have hnb55 := NB348_345.out; have hnc55 := NB345_348.out; have hnb56 := NB348_346.out; have hnc56 := NB346_348.out; have hcz57_0 : w53.cell? ⟨gb348, 0, none⟩ = some (.int .i64 0) := (blk_cell BK348.out 0).trans rfl; have hcz57_1 : w53.cell? ⟨gb348, 1, none⟩ = some (.int .i64 0) := (blk_cell BK348.out 1).trans rfl; have hcz57_2 : w53.cell? ⟨gb348, 2, none⟩ = some (.int .i64 0) := (blk_cell BK348.out 2).trans rfl; have hfz57_0 := blk_frozen BK348.out 0; have hfz57_1 := blk_frozen BK348.out 1; have hfz57_2 := blk_frozen BK348.out 2) | ((with_reducible refine gate_callee (f := 17) rfl ?_); refine goesL_ (some 33) rfl rfl Tryd.func17 (by kernel_rfl) rfl #[.agg #[.int .i64 ((rd_T23 l0 x28_1).f0), .int .i64 ((rd_T23 l0 x28_1).f1), .int .i64 ((rd_T23 l0 x28_1).f2)]] rfl (by (try simp only [List.map_toArray, List.map_cons, List.map_nil]); first | done | rfl | (simp only [List.length_drop, List.length_take]; rfl)) ?_; (with_reducible refine (place_Right.calls ((rd_T23 l0 x28_1).f0) ((rd_T23 l0 x28_1).f1) ((rd_T23 l0 x28_1).f2) false _ A17.out).mono ?_); rintro e w58 ⟨rfl, hb⟩; refine ⟨_, rfl, ?_⟩; replace BK343 := Aside0.mk (blk_below (g := gb343) (o := .cells #[.int .i64 x344000_1, .int .i64 x344001_1, .int .i64 x344002_1, .int .i64 x344003_1, .int .i64 x344004_1] 25 (0, 0)) (by (repeat refine blk_far ?_ NB343_348.out _); exact BK343.out) hb); replace BK345 := Aside0.mk (blk_below (g := gb345) (o := .cells #[.int .i64 ((rd_T23 l0 0).f0), .int .i64 ((rd_T23 l0 0).f1), .int .i64 ((rd_T23 l0 0).f2)] 23 (0, 0)) (by (repeat refine blk_far ?_ NB345_348.out _); exact BK345.out) hb); replace BK346 := Aside0.mk (blk_below (g := gb346) (o := .cells #[.int .i64 ((rd_T23 l0 0).f0), .int .i64 x347001_1, .int .i64 x347002_1, .int .i64 x347003_1, .int .i64 x347004_1] 25 (0, 0)) (by (repeat refine blk_far ?_ NB346_348.out _); exact BK346.out) hb); replace BK348 := Aside0.mk (blk_below (g := gb348) (o := .cells #[.int .i64 ((rd_T23 l0 x28_1).f0), .int .i64 ((rd_T23 l0 x28_1).f1), .int .i64 ((rd_T23 l0 x28_1).f2)] 23 (0, 0)) (by (with_reducible repeat first | apply blk_drewN | apply blk_drew | apply blk_alloc); refine blk_put (cs := #[.int .i64 ((rd_T23 l0 x28_1).f0), .int .i64 ((rd_T23 l0 x28_1).f1), .int .i64 0]) ?_ 2 _ rfl; (with_reducible repeat first | apply blk_drewN | apply blk_drew | apply blk_alloc); refine blk_put (cs := #[.int .i64 ((rd_T23 l0 x28_1).f0), .int .i64 0, .int .i64 0]) ?_ 1 _ rfl; (with_reducible repeat first | apply blk_drewN | apply blk_drew | apply blk_alloc); refine blk_put (cs := #[.int .i64 0, .int .i64 0, .int .i64 0]) ?_ 0 _ rfl; (with_reducible repeat first | apply blk_drewN | apply blk_drew | apply blk_alloc); exact BK348.out) hb); replace HB := Aside0.mk (below_step (by repeat first | exact HB.out | refine below_set ?_ GE343.out | refine below_set ?_ GE345.out | refine below_set ?_ GE346.out | refine below_set ?_ GE348.out) hb); (try clear hb); (try clear hb2); (try clear hk); (try clear hi); have hnb59 := NB343_345.out; have hnc59 := NB345_343.out; have hnb60 := NB343_346.out; have hnc60 := NB346_343.out; have hcz61_0 : w58.cell? ⟨gb343, 0, none⟩ = some (.int .i64 x344000_1) := (blk_cell BK343.out 0).trans rfl; have hcz61_1 : w58.cell? ⟨gb343, 1, none⟩ = some (.int .i64 x344001_1) := (blk_cell BK343.out 1).trans rfl; have hcz61_2 : w58.cell? ⟨gb343, 2, none⟩ = some (.int .i64 x344002_1) := (blk_cell BK343.out 2).trans rfl; have hcz61_3 : w58.cell? ⟨gb343, 3, none⟩ = some (.int .i64 x344003_1) := (blk_cell BK343.out 3).trans rfl; have hcz61_4 : w58.cell? ⟨gb343, 4, none⟩ = some (.int .i64 x344004_1) := (blk_cell BK343.out 4).trans rfl; have hfz61_0 := blk_frozen BK343.out 0; have hfz61_1 := blk_frozen BK343.out 1; have hfz61_2 := blk_frozen BK343.out 2; have hfz61_3 := blk_frozen BK343.out 3; have hfz61_4 := blk_frozen BK343.out 4))
                  refine bodyPost_ret (results_ct rfl _ _ gb343 25 #[.int .i64 0, .int .i64 0, .int .i64 0, .int .i64 0, .int .i64 0] (0, 0) _ rfl (by (with_reducible repeat first | apply blk_drewN | apply blk_drew | apply blk_alloc); refine blk_put (cs := #[.int .i64 0, .int .i64 0, .int .i64 0, .int .i64 0, .int .i64 x344004_1]) ?_ 4 _ rfl; (with_reducible repeat first | apply blk_drewN | apply blk_drew | apply blk_alloc); refine blk_put (cs := #[.int .i64 0, .int .i64 0, .int .i64 0, .int .i64 x344003_1, .int .i64 x344004_1]) ?_ 3 _ rfl; (with_reducible repeat first | apply blk_drewN | apply blk_drew | apply blk_alloc); refine blk_put (cs := #[.int .i64 0, .int .i64 0, .int .i64 x344002_1, .int .i64 x344003_1, .int .i64 x344004_1]) ?_ 2 _ rfl; (with_reducible repeat first | apply blk_drewN | apply blk_drew | apply blk_alloc); refine blk_put (cs := #[.int .i64 0, .int .i64 x344001_1, .int .i64 x344002_1, .int .i64 x344003_1, .int .i64 x344004_1]) ?_ 1 _ rfl; (with_reducible repeat first | apply blk_drewN | apply blk_drew | apply blk_alloc); refine blk_put (cs := #[.int .i64 x344000_1, .int .i64 x344001_1, .int .i64 x344002_1, .int .i64 x344003_1, .int .i64 x344004_1]) ?_ 0 _ rfl; (with_reducible repeat first | apply blk_drewN | apply blk_drew | apply blk_alloc); exact BK343.out) Tryd.underlying25 rfl (by kernel_rfl)) rfl ?_
                  exact ⟨by first | rfl | (simp [errW_none, errW_some] <;> rfl) | (simp [*, errW_none, errW_some] <;> rfl), by repeat (first | (with_reducible first | exact HB.out | apply below_alloc | apply pw_below_drewN | apply below_drew1 | refine below_set ?_ GE343.out | refine below_set ?_ GE345.out | refine below_set ?_ GE346.out | refine below_set ?_ GE348.out) | exact HB.out)⟩
              · rw [if_neg c16] at H
                exact absurd H (by simp)
            · rw [if_neg c15] at H
              exact absurd H (by simp)
          · rw [if_neg c14] at H
            have c14b0 : decide (x28_1 < (l0.length : Int)) = false := decide_eq_false c14
            clear c14
            simp only [Option.some.injEq, Prod.mk.injEq] at H
            obtain ⟨rfl, rfl, rfl, rfl, rfl, rfl⟩ := H
            have hnb62 := NB346_343.out
            have hnc62 := NB343_346.out
            have hnb63 := NB346_345.out
            have hnc63 := NB345_346.out
            have hcz64_0 : wr.cell? ⟨gb346, 0, none⟩ = some (.int .i64 ((rd_T23 l0 0).f0)) := (blk_cell BK346.out 0).trans rfl
            have hcz64_1 : wr.cell? ⟨gb346, 1, none⟩ = some (.int .i64 x347001_1) := (blk_cell BK346.out 1).trans rfl
            have hcz64_2 : wr.cell? ⟨gb346, 2, none⟩ = some (.int .i64 x347002_1) := (blk_cell BK346.out 2).trans rfl
            have hcz64_3 : wr.cell? ⟨gb346, 3, none⟩ = some (.int .i64 x347003_1) := (blk_cell BK346.out 3).trans rfl
            have hcz64_4 : wr.cell? ⟨gb346, 4, none⟩ = some (.int .i64 x347004_1) := (blk_cell BK346.out 4).trans rfl
            have hfz64_0 := blk_frozen BK346.out 0
            have hfz64_1 := blk_frozen BK346.out 1
            have hfz64_2 := blk_frozen BK346.out 2
            have hfz64_3 := blk_frozen BK346.out 3
            have hfz64_4 := blk_frozen BK346.out 4
            have hnb65 := NB343_345.out
            have hnc65 := NB345_343.out
            have hcz66_0 : wr.cell? ⟨gb343, 0, none⟩ = some (.int .i64 x344000_1) := (blk_cell BK343.out 0).trans rfl
            have hcz66_1 : wr.cell? ⟨gb343, 1, none⟩ = some (.int .i64 x344001_1) := (blk_cell BK343.out 1).trans rfl
            have hcz66_2 : wr.cell? ⟨gb343, 2, none⟩ = some (.int .i64 x344002_1) := (blk_cell BK343.out 2).trans rfl
            have hcz66_3 : wr.cell? ⟨gb343, 3, none⟩ = some (.int .i64 x344003_1) := (blk_cell BK343.out 3).trans rfl
            have hcz66_4 : wr.cell? ⟨gb343, 4, none⟩ = some (.int .i64 x344004_1) := (blk_cell BK343.out 4).trans rfl
            have hfz66_0 := blk_frozen BK343.out 0
            have hfz66_1 := blk_frozen BK343.out 1
            have hfz66_2 := blk_frozen BK343.out 2
            have hfz66_3 := blk_frozen BK343.out 3
            have hfz66_4 := blk_frozen BK343.out 4
            go_wp2
            refine bodyPost_ret (results_ct rfl _ _ gb343 25 #[.int .i64 ((rd_T23 l0 0).f0), .int .i64 x347001_1, .int .i64 x347002_1, .int .i64 x347003_1, .int .i64 x347004_1] (0, 0) _ rfl (by (with_reducible repeat first | apply blk_drewN | apply blk_drew | apply blk_alloc); refine blk_put (cs := #[.int .i64 ((rd_T23 l0 0).f0), .int .i64 x347001_1, .int .i64 x347002_1, .int .i64 x347003_1, .int .i64 x344004_1]) ?_ 4 _ rfl; (with_reducible repeat first | apply blk_drewN | apply blk_drew | apply blk_alloc); refine blk_put (cs := #[.int .i64 ((rd_T23 l0 0).f0), .int .i64 x347001_1, .int .i64 x347002_1, .int .i64 x344003_1, .int .i64 x344004_1]) ?_ 3 _ rfl; (with_reducible repeat first | apply blk_drewN | apply blk_drew | apply blk_alloc); refine blk_put (cs := #[.int .i64 ((rd_T23 l0 0).f0), .int .i64 x347001_1, .int .i64 x344002_1, .int .i64 x344003_1, .int .i64 x344004_1]) ?_ 2 _ rfl; (with_reducible repeat first | apply blk_drewN | apply blk_drew | apply blk_alloc); refine blk_put (cs := #[.int .i64 ((rd_T23 l0 0).f0), .int .i64 x344001_1, .int .i64 x344002_1, .int .i64 x344003_1, .int .i64 x344004_1]) ?_ 1 _ rfl; (with_reducible repeat first | apply blk_drewN | apply blk_drew | apply blk_alloc); refine blk_put (cs := #[.int .i64 x344000_1, .int .i64 x344001_1, .int .i64 x344002_1, .int .i64 x344003_1, .int .i64 x344004_1]) ?_ 0 _ rfl; (with_reducible repeat first | apply blk_drewN | apply blk_drew | apply blk_alloc); exact BK343.out) Tryd.underlying25 rfl (by kernel_rfl)) rfl ?_
            exact ⟨by first | rfl | (simp [errW_none, errW_some] <;> rfl) | (simp [*, errW_none, errW_some] <;> rfl), by repeat (first | (with_reducible first | exact HB.out | apply below_alloc | apply pw_below_drewN | apply below_drew1 | refine below_set ?_ GE343.out | refine below_set ?_ GE345.out | refine below_set ?_ GE346.out) | exact HB.out)⟩
    · rw [if_neg c5] at H
      exact absurd H (by simp)

end Go.Proofs.YtijmipnafhljkaaDoor.P
