-- Written by a program of this session (it drives the kit's print.py, with the contracts of some functions given by hand). Not trusted: Lean checks it.
import Derived.Test.YtijmipnafhljkaaDoorPx0
import Derived.Test.YtijmipnafhljkaaDoorPx26
namespace Go.Proofs.YtijmipnafhljkaaDoor.P
open Go.RowKit Go.Proofs.YtijmipnafhljkaaDoorW.PrintWords Go.Proofs.YtijmipnafhljkaaDoorW.PrintLast Go.Proofs.YtijmipnafhljkaaDoorW.PrintMore
attribute [local go_sem] max2_int min2_int max_two min_two max_three min_three max_four min_four   -- for this text's walks alone
set_option linter.unusedVariables false
set_option linter.unusedSimpArgs false

/-! ### place_Over: function 38 -/
def place_Over.f (a0_0 : Int) (a0_1 : Int) (a0_2 : Int) (a0_3 : Int) (a0_4 : Int) : Option (Int × Int × Int × Int × Int × Int × Int) := (place_Size.f a0_0 a0_1 a0_2 a0_3 a0_4).bind fun t487 => (some (a0_0, a0_1, a0_2, a0_3, a0_4, 0, t487))
set_option maxHeartbeats 8000000 in
set_option maxRecDepth 100000 in
theorem place_Over.calls (a0_0 : Int) (a0_1 : Int) (a0_2 : Int) (a0_3 : Int) (a0_4 : Int) (r1 : Int) (r2 : Int) (r3 : Int) (r4 : Int) (r5 : Int) (r6 : Int) (r7 : Int) (w : World) (h : place_Over.f a0_0 a0_1 a0_2 a0_3 a0_4 = some (r1, r2, r3, r4, r5, r6, r7)) :
    Calls Tryd.prog 38 #[.agg #[.int .i64 a0_0, .int .i64 a0_1, .int .i64 a0_2, .int .i64 a0_3, .int .i64 a0_4]] w fun e w' => e = .returned (.agg #[.int .i64 r1, .int .i64 r2, .int .i64 r3, .int .i64 r4, .int .i64 r5, .int .i64 r6, .int .i64 r7]) ∧ Below w.heap.size w w' := by
  have hu25 := Tryd.underlying25
  have hu57 := Tryd.underlying57
  have hu55 := Tryd.underlying55
  have HB := Aside0.mk (Below.refl w.heap.size w)
  have H : ((place_Size.f a0_0 a0_1 a0_2 a0_3 a0_4).bind fun t487 => (some (a0_0, a0_1, a0_2, a0_3, a0_4, 0, t487))) = some (r1, r2, r3, r4, r5, r6, r7) := h
  clear h
  replace H := Option.bind_eq_some_iff.mp H
  obtain ⟨t487, A20, H⟩ := H
  replace H : (some (a0_0, a0_1, a0_2, a0_3, a0_4, 0, t487)) = some (r1, r2, r3, r4, r5, r6, r7) := H
  have A2 := Aside0.mk A20
  clear A20
  simp only [Option.some.injEq, Prod.mk.injEq] at H
  obtain ⟨rfl, rfl, rfl, rfl, rfl, rfl, rfl⟩ := H
  go_enter Tryd.func38, Tryd.ntmps38
  try go_wp2_with (first | ((with_reducible refine gate_dst (N := 1) rfl ?_); refine box_event ?hg (N := 1) ?hd (cs := #[.int .i64 a0_0, .int .i64 a0_1, .int .i64 a0_2, .int .i64 a0_3, .int .i64 a0_4]) (t := 25) ?hr ?_; (case hd => rfl); (case hg => rfl); (case hr => first | (go_simp; done) | (go_simp; rfl)); intro gb485 hg w3 hbox hb; have n0_ := Aside0.mk (below_step (by repeat (first | (with_reducible first | exact HB.out | apply below_alloc | apply pw_below_drewN | apply below_drew1) | exact HB.out)) hb); have n1_ := Aside0.mk (hbox); have n2_ := Aside0.mk ((by rw [hg]; exact (below_size (by repeat (first | (with_reducible first | exact HB.out | apply below_alloc | apply pw_below_drewN | apply below_drew1) | exact HB.out))) : w.heap.size ≤ gb485)); have n3_ := Aside0.mk ((by rw [hg]; exact (below_size (by repeat (first | (with_reducible first | exact HB.out | apply below_alloc | apply pw_below_drewN | apply below_drew1) | exact HB.out))) : w.heap.size ≤ gb485)); clear HB; have HB := n0_; have BK485 := n1_; have GW485 := n2_; have GE485 := n3_; clear n0_ n1_ n2_ n3_; clear hb hbox hg) | ((with_reducible refine gate_dst (N := 2) rfl ?_); refine box_event ?hg (N := 2) ?hd (cs := #[.int .i64 0, .int .i64 0, .int .i64 0, .int .i64 0, .int .i64 0, .int .i64 0, .int .i64 0]) (t := 57) ?hr ?_; (case hd => rfl); (case hg => rfl); (case hr => first | (go_simp; done) | (go_simp; rfl)); intro gb486 hg w4 hbox hb; have n0_ := Aside0.mk (blk_below (g := gb485) (o := .cells #[.int .i64 a0_0, .int .i64 a0_1, .int .i64 a0_2, .int .i64 a0_3, .int .i64 a0_4] 25 (0, 0)) (by (with_reducible repeat (first | refine blk_drewN ?_ _ | refine blk_drew ?_ | refine blk_alloc ?_ _)); exact BK485.out) hb); have n1_ := Aside0.mk (below_step (by repeat (first | (with_reducible first | exact HB.out | apply below_alloc | apply pw_below_drewN | apply below_drew1 | refine below_set ?_ GE485.out) | exact HB.out)) hb); have n2_ := Aside0.mk (hbox); have n3_ := Aside0.mk ((by rw [hg]; exact (below_size (by repeat (first | (with_reducible first | exact HB.out | apply below_alloc | apply pw_below_drewN | apply below_drew1 | refine below_set ?_ GE485.out) | exact HB.out))) : w.heap.size ≤ gb486)); have n4_ := Aside0.mk ((by rw [hg]; exact (below_size (by repeat (first | (with_reducible first | exact HB.out | apply below_alloc | apply pw_below_drewN | apply below_drew1 | refine below_set ?_ GE485.out) | exact HB.out))) : w.heap.size ≤ gb486)); have n5_ := Aside0.mk ((by rw [hg]; exact Nat.ne_of_lt (blk_lt (g := gb485) (o := .cells #[.int .i64 a0_0, .int .i64 a0_1, .int .i64 a0_2, .int .i64 a0_3, .int .i64 a0_4] 25 (0, 0)) (by (with_reducible repeat (first | refine blk_drewN ?_ _ | refine blk_drew ?_ | refine blk_alloc ?_ _)); exact BK485.out)) : gb485 ≠ gb486)); have n6_ := Aside0.mk ((by rw [hg]; exact Nat.ne_of_gt (blk_lt (g := gb485) (o := .cells #[.int .i64 a0_0, .int .i64 a0_1, .int .i64 a0_2, .int .i64 a0_3, .int .i64 a0_4] 25 (0, 0)) (by (with_reducible repeat (first | refine blk_drewN ?_ _ | refine blk_drew ?_ | refine blk_alloc ?_ _)); exact BK485.out)) : gb486 ≠ gb485)); clear BK485; clear HB; have BK485 := n0_; have HB := n1_; have BK486 := n2_; have GW486 := n3_; have GE486 := n4_; have NB485_486 := n5_; have NB486_485 := n6_; clear n0_ n1_ n2_ n3_ n4_ n5_ n6_; clear hb hbox hg))
  have n0_ := Aside0.mk (blk_drew BK485.out)
  have n1_ := Aside0.mk (blk_drew BK486.out)
  have n2_ := Aside0.mk (below_drew1 HB.out)
  clear BK485
  clear BK486
  clear HB
  have BK485 := n0_
  have BK486 := n1_
  have HB := n2_
  clear n0_ n1_ n2_
  refine start_ (n := 6) (S := fun w' => w'.cell? ⟨gb485, 0, none⟩ = some (.int .i64 a0_0) ∧ w'.cell? ⟨gb485, 1, none⟩ = some (.int .i64 a0_1) ∧ w'.cell? ⟨gb485, 2, none⟩ = some (.int .i64 a0_2) ∧ w'.cell? ⟨gb485, 3, none⟩ = some (.int .i64 a0_3) ∧ w'.cell? ⟨gb485, 4, none⟩ = some (.int .i64 a0_4)) (ds := []) #[false, false, false, false, false, false] (by kernel_rfl) rfl rfl ⟨(blk_cell BK485.out 0).trans rfl, (blk_cell BK485.out 1).trans rfl, (blk_cell BK485.out 2).trans rfl, (blk_cell BK485.out 3).trans rfl, (blk_cell BK485.out 4).trans rfl⟩ (fun hHeld => ?_)
  generalize w4.drew = w5 at BK485 BK486 HB hHeld ⊢
  refine take_ (i := 0) (N := some 3) (v := ?_) (a' := ?_) #[true, false, false, false, false, false] rfl rfl (by kernel_rfl) (fun _ _ _ h => h) (Or.inl ⟨by rfl, ?_⟩) hHeld ?_ ?_
  rotate_left
  · rintro w' ⟨s0, s1, s2, s3, s4⟩
    go_simp
    with_reducible rfl
  rotate_left
  · simp only [Act.put, List.setIfInBounds_toArray, List.set_cons_zero, List.set_cons_succ, i64_w, i32_w]
    rfl
  refine take_ (i := 1) (N := some 4) (v := ?_) (a' := ?_) #[true, true, false, false, false, false] rfl rfl (by kernel_rfl) (fun _ _ _ h => h) (Or.inl ⟨by rfl, ?_⟩) hHeld ?_ ?_
  rotate_left
  · rintro w' ⟨s0, s1, s2, s3, s4⟩
    go_simp
    with_reducible rfl
  rotate_left
  · simp only [Act.put, List.setIfInBounds_toArray, List.set_cons_zero, List.set_cons_succ, i64_w, i32_w]
    rfl
  refine one_ (i := 2) (N := some 5) #[true, true, true, false, false, false] rfl rfl (by kernel_rfl) (by decide) (fun K hK => ?_)
  refine goes_ Tryd.func36 (by kernel_rfl) rfl #[.agg #[.int .i64 a0_0, .int .i64 a0_1, .int .i64 a0_2, .int .i64 a0_3, .int .i64 a0_4]] (by rfl) rfl rfl (by (try simp only [List.map_toArray, List.map_cons, List.map_nil]); first | done | rfl | (simp only [List.length_drop, List.length_take]; rfl)) ?_
  with_reducible refine (place_Size.calls a0_0 a0_1 a0_2 a0_3 a0_4 t487 _ A2.out).mono ?_
  rintro e w6 ⟨rfl, hb⟩
  refine ⟨_, rfl, ?_⟩
  have n0_ := Aside0.mk (blk_below (g := gb485) (o := .cells #[.int .i64 a0_0, .int .i64 a0_1, .int .i64 a0_2, .int .i64 a0_3, .int .i64 a0_4] 25 (0, 0)) (by (with_reducible repeat (first | refine blk_drewN ?_ _ | refine blk_drew ?_ | refine blk_alloc ?_ _)); exact BK485.out) hb)
  have n1_ := Aside0.mk (blk_below (g := gb486) (o := .cells #[.int .i64 0, .int .i64 0, .int .i64 0, .int .i64 0, .int .i64 0, .int .i64 0, .int .i64 0] 57 (0, 0)) (by (with_reducible repeat (first | refine blk_drewN ?_ _ | refine blk_drew ?_ | refine blk_alloc ?_ _)); exact BK486.out) hb)
  have n2_ := Aside0.mk (below_step (by repeat (first | (with_reducible first | exact HB.out | apply below_alloc | apply pw_below_drewN | apply below_drew1 | refine below_set ?_ GE485.out | refine below_set ?_ GE486.out) | exact HB.out)) hb)
  clear BK485
  clear BK486
  clear HB
  have BK485 := n0_
  have BK486 := n1_
  have HB := n2_
  clear n0_ n1_ n2_
  (try clear hb)
  (try clear hb2)
  (try clear hk)
  (try clear hi)
  refine hK.out _ _ ⟨(blk_cell BK485.out 0).trans rfl, (blk_cell BK485.out 1).trans rfl, (blk_cell BK485.out 2).trans rfl, (blk_cell BK485.out 3).trans rfl, (blk_cell BK485.out 4).trans rfl⟩ (fun hHeld => ?_)
  clear hK K
  refine norm_ (a' := ?_) ?_ ?_
  rotate_left
  · show Act.put _ (some 5) _ = _
    simp only [Act.put, List.setIfInBounds_toArray, List.set_cons_zero, List.set_cons_succ, i64_w, i32_w]
    rfl
  refine pure_ (i := 3) (N := some 6) (v := ?_) (a' := ?_) #[true, true, true, true, false, false] rfl rfl (by kernel_rfl) (fun _ _ _ h => h) (Or.inl ⟨by rfl, ?_⟩) ?_ ?_
  rotate_left
  · intro w'
    go_simp
    with_reducible rfl
  rotate_left
  · simp only [Act.put, List.setIfInBounds_toArray, List.set_cons_zero, List.set_cons_succ, i64_w, i32_w]
    rfl
  refine pure_ (i := 4) (N := some 7) (v := ?_) (a' := ?_) #[true, true, true, true, true, false] rfl rfl (by kernel_rfl) (fun _ _ _ h => h) (Or.inl ⟨by rfl, ?_⟩) ?_ ?_
  rotate_left
  · intro w'
    go_simp
    with_reducible rfl
  rotate_left
  · simp only [Act.put, List.setIfInBounds_toArray, List.set_cons_zero, List.set_cons_succ, i64_w, i32_w]
    rfl
  refine one_ (i := 5) (N := none) #[true, true, true, true, true, true] rfl rfl (by kernel_rfl) (by decide) (fun K hK => ?_)
  have hs7 : w6.cell? ⟨gb486, 0, none⟩ = some (.int .i64 0) := (blk_cell BK486.out 0).trans rfl
  have hfs7 := blk_frozen BK486.out 0
  have hns7_0 := NB485_486.out
  have hms7_0 := NB486_485.out
  have hs8 : w6.cell? ⟨gb486, 1, none⟩ = some (.int .i64 0) := (blk_cell BK486.out 1).trans rfl
  have hfs8 := blk_frozen BK486.out 1
  have hns8_0 := NB485_486.out
  have hms8_0 := NB486_485.out
  have hs9 : w6.cell? ⟨gb486, 2, none⟩ = some (.int .i64 0) := (blk_cell BK486.out 2).trans rfl
  have hfs9 := blk_frozen BK486.out 2
  have hns9_0 := NB485_486.out
  have hms9_0 := NB486_485.out
  have hs10 : w6.cell? ⟨gb486, 3, none⟩ = some (.int .i64 0) := (blk_cell BK486.out 3).trans rfl
  have hfs10 := blk_frozen BK486.out 3
  have hns10_0 := NB485_486.out
  have hms10_0 := NB486_485.out
  have hs11 : w6.cell? ⟨gb486, 4, none⟩ = some (.int .i64 0) := (blk_cell BK486.out 4).trans rfl
  have hfs11 := blk_frozen BK486.out 4
  have hns11_0 := NB485_486.out
  have hms11_0 := NB486_485.out
  have hs12 : w6.cell? ⟨gb486, 5, none⟩ = some (.int .i64 0) := (blk_cell BK486.out 5).trans rfl
  have hfs12 := blk_frozen BK486.out 5
  have hns12_0 := NB485_486.out
  have hms12_0 := NB486_485.out
  have hs13 : w6.cell? ⟨gb486, 6, none⟩ = some (.int .i64 0) := (blk_cell BK486.out 6).trans rfl
  have hfs13 := blk_frozen BK486.out 6
  have hns13_0 := NB485_486.out
  have hms13_0 := NB486_485.out
  refine skip_ (w1 := ?_) (by rfl) rfl ?_ ?_
  rotate_left
  · go_simp
    rfl
  refine hK.out _ _ ⟨((cell_far (p := ⟨gb486, _, none⟩) NB485_486.out _).trans (((cell_far (p := ⟨gb486, _, none⟩) NB485_486.out _).trans (((cell_far (p := ⟨gb486, _, none⟩) NB485_486.out _).trans (((cell_far (p := ⟨gb486, _, none⟩) NB485_486.out _).trans (((cell_far (p := ⟨gb486, _, none⟩) NB485_486.out _).trans (((cell_far (p := ⟨gb486, _, none⟩) NB485_486.out _).trans (((cell_far (p := ⟨gb486, _, none⟩) NB485_486.out _).trans (hHeld.1)))))))))))))), ((cell_far (p := ⟨gb486, _, none⟩) NB485_486.out _).trans (((cell_far (p := ⟨gb486, _, none⟩) NB485_486.out _).trans (((cell_far (p := ⟨gb486, _, none⟩) NB485_486.out _).trans (((cell_far (p := ⟨gb486, _, none⟩) NB485_486.out _).trans (((cell_far (p := ⟨gb486, _, none⟩) NB485_486.out _).trans (((cell_far (p := ⟨gb486, _, none⟩) NB485_486.out _).trans (((cell_far (p := ⟨gb486, _, none⟩) NB485_486.out _).trans (hHeld.2.1)))))))))))))), ((cell_far (p := ⟨gb486, _, none⟩) NB485_486.out _).trans (((cell_far (p := ⟨gb486, _, none⟩) NB485_486.out _).trans (((cell_far (p := ⟨gb486, _, none⟩) NB485_486.out _).trans (((cell_far (p := ⟨gb486, _, none⟩) NB485_486.out _).trans (((cell_far (p := ⟨gb486, _, none⟩) NB485_486.out _).trans (((cell_far (p := ⟨gb486, _, none⟩) NB485_486.out _).trans (((cell_far (p := ⟨gb486, _, none⟩) NB485_486.out _).trans (hHeld.2.2.1)))))))))))))), ((cell_far (p := ⟨gb486, _, none⟩) NB485_486.out _).trans (((cell_far (p := ⟨gb486, _, none⟩) NB485_486.out _).trans (((cell_far (p := ⟨gb486, _, none⟩) NB485_486.out _).trans (((cell_far (p := ⟨gb486, _, none⟩) NB485_486.out _).trans (((cell_far (p := ⟨gb486, _, none⟩) NB485_486.out _).trans (((cell_far (p := ⟨gb486, _, none⟩) NB485_486.out _).trans (((cell_far (p := ⟨gb486, _, none⟩) NB485_486.out _).trans (hHeld.2.2.2.1)))))))))))))), ((cell_far (p := ⟨gb486, _, none⟩) NB485_486.out _).trans (((cell_far (p := ⟨gb486, _, none⟩) NB485_486.out _).trans (((cell_far (p := ⟨gb486, _, none⟩) NB485_486.out _).trans (((cell_far (p := ⟨gb486, _, none⟩) NB485_486.out _).trans (((cell_far (p := ⟨gb486, _, none⟩) NB485_486.out _).trans (((cell_far (p := ⟨gb486, _, none⟩) NB485_486.out _).trans (((cell_far (p := ⟨gb486, _, none⟩) NB485_486.out _).trans (hHeld.2.2.2.2))))))))))))))⟩ (fun hHeld => ?_)
  clear hK K
  refine done_ (by kernel_rfl) ?_
  try go_wp2
  refine bodyPost_ret (results_cell_row rfl _ _ gb486 57 #[.int .i64 a0_0, .int .i64 a0_1, .int .i64 a0_2, .int .i64 a0_3, .int .i64 a0_4, .int .i64 0, .int .i64 t487] (0, 0) _ rfl (by (with_reducible repeat (first | refine blk_drewN ?_ _ | refine blk_drew ?_ | refine blk_alloc ?_ _)); refine blk_put (cs := #[.int .i64 a0_0, .int .i64 a0_1, .int .i64 a0_2, .int .i64 a0_3, .int .i64 a0_4, .int .i64 0, .int .i64 0]) ?_ 6 _ rfl; (with_reducible repeat (first | refine blk_drewN ?_ _ | refine blk_drew ?_ | refine blk_alloc ?_ _)); refine blk_put (cs := #[.int .i64 a0_0, .int .i64 a0_1, .int .i64 a0_2, .int .i64 a0_3, .int .i64 a0_4, .int .i64 0, .int .i64 0]) ?_ 5 _ rfl; (with_reducible repeat (first | refine blk_drewN ?_ _ | refine blk_drew ?_ | refine blk_alloc ?_ _)); refine blk_put (cs := #[.int .i64 a0_0, .int .i64 a0_1, .int .i64 a0_2, .int .i64 a0_3, .int .i64 0, .int .i64 0, .int .i64 0]) ?_ 4 _ rfl; (with_reducible repeat (first | refine blk_drewN ?_ _ | refine blk_drew ?_ | refine blk_alloc ?_ _)); refine blk_put (cs := #[.int .i64 a0_0, .int .i64 a0_1, .int .i64 a0_2, .int .i64 0, .int .i64 0, .int .i64 0, .int .i64 0]) ?_ 3 _ rfl; (with_reducible repeat (first | refine blk_drewN ?_ _ | refine blk_drew ?_ | refine blk_alloc ?_ _)); refine blk_put (cs := #[.int .i64 a0_0, .int .i64 a0_1, .int .i64 0, .int .i64 0, .int .i64 0, .int .i64 0, .int .i64 0]) ?_ 2 _ rfl; (with_reducible repeat (first | refine blk_drewN ?_ _ | refine blk_drew ?_ | refine blk_alloc ?_ _)); refine blk_put (cs := #[.int .i64 a0_0, .int .i64 0, .int .i64 0, .int .i64 0, .int .i64 0, .int .i64 0, .int .i64 0]) ?_ 1 _ rfl; (with_reducible repeat (first | refine blk_drewN ?_ _ | refine blk_drew ?_ | refine blk_alloc ?_ _)); refine blk_put (cs := #[.int .i64 0, .int .i64 0, .int .i64 0, .int .i64 0, .int .i64 0, .int .i64 0, .int .i64 0]) ?_ 0 _ rfl; (with_reducible repeat (first | refine blk_drewN ?_ _ | refine blk_drew ?_ | refine blk_alloc ?_ _)); exact BK486.out) Tryd.underlying57 rfl (by kernel_rfl)) rfl ?_
  exact ⟨by first | rfl | (simp [errW_none, errW_some] <;> rfl) | (simp [*, errW_none, errW_some] <;> rfl), by repeat (first | (with_reducible first | exact HB.out | apply below_alloc | apply pw_below_drewN | apply below_drew1 | refine below_set ?_ GE485.out | refine below_set ?_ GE486.out) | exact HB.out)⟩

end Go.Proofs.YtijmipnafhljkaaDoor.P
