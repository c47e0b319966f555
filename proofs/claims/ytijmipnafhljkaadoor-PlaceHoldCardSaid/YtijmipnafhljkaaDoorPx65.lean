-- Written by a program of this session (it drives the kit's print.py, with the contracts of some functions given by hand). Not trusted: Lean checks it.
import Derived.Test.YtijmipnafhljkaaDoorPx0
import Derived.Test.YtijmipnafhljkaaDoorPx2
import Derived.Test.YtijmipnafhljkaaDoorPx24
import Derived.Test.YtijmipnafhljkaaDoorPx40
import Derived.Test.YtijmipnafhljkaaDoorPx49
import Derived.Test.YtijmipnafhljkaaDoorPx55
namespace Go.Proofs.YtijmipnafhljkaaDoor.P
open Go.RowKit Go.Proofs.YtijmipnafhljkaaDoorW.PrintWords Go.Proofs.YtijmipnafhljkaaDoorW.PrintLast Go.Proofs.YtijmipnafhljkaaDoorW.PrintMore
attribute [local go_sem] max2_int min2_int max_two min_two max_three min_three max_four min_four   -- for this text's walks alone
set_option linter.unusedVariables false
set_option linter.unusedSimpArgs false

attribute [local go_sem high] eqA25
/-! ### whittlelaw3_PlaceHold: function 10 -/
def whittlelaw3_PlaceHold.l0 : Nat → List (S23) → Bool → Int → Int → Int → Int → Int → Int → Int → Int → Int → Int → Int → Option (Bool)
  | 0, _, _, _, _, _, _, _, _, _, _, _, _, _ => none
  | k + 1, x0, x8, x9, x460000, x460001, x460002, x460003, x460004, x474000, x474001, x474002, x474003, x474004 => if x9 < (x0.length : Int) then (if 0 ≤ x9 then ((place_Has.f x474000 x474001 x474002 x474003 x474004 ((rd_T23 x0 x9).f0) ((rd_T23 x0 x9).f1) ((rd_T23 x0 x9).f2)).bind fun t482 => (if t482 = true then (if x8 = true then ((place_Has.f x460000 x460001 x460002 x460003 x460004 ((rd_T23 x0 x9).f0) ((rd_T23 x0 x9).f1) ((rd_T23 x0 x9).f2)).bind fun t484 => (whittlelaw3_PlaceHold.l0 k x0 t484 (wrap64 (x9 + 1)) x460000 x460001 x460002 x460003 x460004 x474000 x474001 x474002 x474003 x474004)) else (whittlelaw3_PlaceHold.l0 k x0 false (wrap64 (x9 + 1)) x460000 x460001 x460002 x460003 x460004 x474000 x474001 x474002 x474003 x474004)) else (some false))) else (none)) else ((place_Meet.f x474000 x474001 x474002 x474003 x474004 x460000 x460001 x460002 x460003 x460004).bind fun bt474 => (if x8 = true then (if bt474.2.2.2.2.2 = true then (some (bt474.1 == x474000 && (bt474.2.1 == x474001 && (bt474.2.2.1 == x474002 && (bt474.2.2.2.1 == x474003 && (bt474.2.2.2.2.1 == x474004)))))) else (some false)) else (some true)))
def whittlelaw3_PlaceHold.f (k : Nat) (l0 : List (S23)) (a1_0 : Int) (a1_1 : Int) (a1_2 : Int) (a1_3 : Int) (a1_4 : Int) : Option (Bool) := (whittlelaw3_able.f).bind fun t460 => (if t460 = true then ((some (([] : List (S23)) : List (S23))).bind fun y461 => (if y461.length + l0.length < 5864062014805 then ((place_Hull.f k (y461 ++ l0)).bind fun bt467 => (if bt467.2.2.2.2.2 = true then (whittlelaw3_PlaceHold.l0 k l0 true 0 a1_0 a1_1 a1_2 a1_3 a1_4 bt467.1 bt467.2.1 bt467.2.2.1 bt467.2.2.2.1 bt467.2.2.2.2.1) else (some (bt467.1 == 0 && (bt467.2.1 == 0 && (bt467.2.2.1 == 0 && (bt467.2.2.2.1 == 0 && (bt467.2.2.2.2.1 == 0)))))))) else (none))) else (some false))
theorem whittlelaw3_PlaceHold.mono_l : ∀ k, (∀ y0 y1 y2 y3 y4 y5 y6 y7 y8 y9 y10 y11 y12, LeO (whittlelaw3_PlaceHold.l0 k y0 y1 y2 y3 y4 y5 y6 y7 y8 y9 y10 y11 y12) (whittlelaw3_PlaceHold.l0 (k + 1) y0 y1 y2 y3 y4 y5 y6 y7 y8 y9 y10 y11 y12))
  | 0 => fun _ _ _ _ _ _ _ _ _ _ _ _ _ r h => by simp [whittlelaw3_PlaceHold.l0] at h
  | k + 1 => by
    have ih0 := whittlelaw3_PlaceHold.mono_l k
    · intro y0 y1 y2 y3 y4 y5 y6 y7 y8 y9 y10 y11 y12
      unfold whittlelaw3_PlaceHold.l0
      repeat' first
      | (with_reducible exact ih0 _ _ _ _ _ _ _ _ _ _ _ _ _)
      | (with_reducible exact place_Hull.mono _ _)
      | (with_reducible exact LeO.refl _)
      | (with_reducible exact LeO.none _)
      | (with_reducible refine LeO.ite ?_ ?_)
      | (with_reducible refine LeO.bind ?_ (fun _ => ?_))
      | exact ih0 _ _ _ _ _ _ _ _ _ _ _ _ _
      | exact place_Hull.mono _ _
      | exact LeO.none _
      | refine LeO.ite ?_ ?_
      | refine LeO.bind ?_ (fun _ => ?_)
theorem whittlelaw3_PlaceHold.mono : ∀ a0 a1 a2 a3 a4 a5 k, LeO (whittlelaw3_PlaceHold.f k a0 a1 a2 a3 a4 a5) (whittlelaw3_PlaceHold.f (k + 1) a0 a1 a2 a3 a4 a5) := by
  intro a0 a1 a2 a3 a4 a5 k
  have ih0 := whittlelaw3_PlaceHold.mono_l k
  unfold whittlelaw3_PlaceHold.f
  repeat' first
      | (with_reducible exact ih0 _ _ _ _ _ _ _ _ _ _ _ _ _)
      | (with_reducible exact place_Hull.mono _ _)
      | (with_reducible exact LeO.refl _)
      | (with_reducible exact LeO.none _)
      | (with_reducible refine LeO.ite ?_ ?_)
      | (with_reducible refine LeO.bind ?_ (fun _ => ?_))
      | exact ih0 _ _ _ _ _ _ _ _ _ _ _ _ _
      | exact place_Hull.mono _ _
      | exact LeO.none _
      | refine LeO.ite ?_ ?_
      | refine LeO.bind ?_ (fun _ => ?_)
def whittlelaw3_PlaceHold.T13 : Bool × List (List Nat × List Nat) := (true, [([], []), ([0], [0]), ([1], [1]), ([1], [1]), ([1], [1]), ([3, 4, 1], [1, 3, 4]), ([5, 1], [1, 5]), ([2, 6, 1, 1], [1, 2, 6]), ([1, 7], [1, 7]), ([8, 7, 0, 1, 2, 3, 4, 5, 6, 7, 8], [0, 8])])
def whittlelaw3_PlaceHold.B13 : List Nat := [0, 1, 3, 3, 3, 27, 59, 127, 255, 511]
theorem whittlelaw3_PlaceHold.tab13 : rtab .any (opsOf Tryd.f10 13) = whittlelaw3_PlaceHold.T13 := by kernel_rfl
theorem whittlelaw3_PlaceHold.bits13 : waitsOk whittlelaw3_PlaceHold.T13.2 whittlelaw3_PlaceHold.B13 = true := by kernel_rfl
set_option maxHeartbeats 8000000 in
set_option maxRecDepth 100000 in
theorem whittlelaw3_PlaceHold.calls (k : Nat) (A0 : Option Addr) (c0 : Nat) (l0 : List (S23)) (a1_0 : Int) (a1_1 : Int) (a1_2 : Int) (a1_3 : Int) (a1_4 : Int) (r : Bool) (w : World) (hr0 : Kd.C k23 w A0 l0.length l0) (hc0 : l0.length ≤ c0) (h : whittlelaw3_PlaceHold.f k l0 a1_0 a1_1 a1_2 a1_3 a1_4 = some r) :
    Calls Tryd.prog 10 #[.slice A0 l0.length c0, .agg #[.int .i64 a1_0, .int .i64 a1_1, .int .i64 a1_2, .int .i64 a1_3, .int .i64 a1_4]] w fun e w' => e = .returned (.bool r) ∧ Below w.heap.size w w' := by
  have hu25 := Tryd.underlying25
  have hu23 := Tryd.underlying23
  have HR0 := Aside0.mk hr0
  have HC0 := Aside0.mk hc0
  clear hr0 hc0
  have HB := Aside0.mk (Below.refl w.heap.size w)
  have H : ((whittlelaw3_able.f).bind fun t460 => (if t460 = true then ((some (([] : List (S23)) : List (S23))).bind fun y461 => (if y461.length + l0.length < 5864062014805 then ((place_Hull.f k (y461 ++ l0)).bind fun bt467 => (if bt467.2.2.2.2.2 = true then (whittlelaw3_PlaceHold.l0 k l0 true 0 a1_0 a1_1 a1_2 a1_3 a1_4 bt467.1 bt467.2.1 bt467.2.2.1 bt467.2.2.2.1 bt467.2.2.2.2.1) else (some (bt467.1 == 0 && (bt467.2.1 == 0 && (bt467.2.2.1 == 0 && (bt467.2.2.2.1 == 0 && (bt467.2.2.2.2.1 == 0)))))))) else (none))) else (some false))) = some r := h
  clear h
  replace H := Option.bind_eq_some_iff.mp H
  obtain ⟨t460, A30, H⟩ := H
  replace H : (if t460 = true then ((some (([] : List (S23)) : List (S23))).bind fun y461 => (if y461.length + l0.length < 5864062014805 then ((place_Hull.f k (y461 ++ l0)).bind fun bt467 => (if bt467.2.2.2.2.2 = true then (whittlelaw3_PlaceHold.l0 k l0 true 0 a1_0 a1_1 a1_2 a1_3 a1_4 bt467.1 bt467.2.1 bt467.2.2.1 bt467.2.2.2.1 bt467.2.2.2.2.1) else (some (bt467.1 == 0 && (bt467.2.1 == 0 && (bt467.2.2.1 == 0 && (bt467.2.2.2.1 == 0 && (bt467.2.2.2.2.1 == 0)))))))) else (none))) else (some false)) = some r := H
  have A3 := Aside0.mk A30
  clear A30
  by_cases c4 : t460 = true
  · subst c4
    have H1 : ((some (([] : List (S23)) : List (S23))).bind fun y461 => (if y461.length + l0.length < 5864062014805 then ((place_Hull.f k (y461 ++ l0)).bind fun bt467 => (if bt467.2.2.2.2.2 = true then (whittlelaw3_PlaceHold.l0 k l0 true 0 a1_0 a1_1 a1_2 a1_3 a1_4 bt467.1 bt467.2.1 bt467.2.2.1 bt467.2.2.2.1 bt467.2.2.2.2.1) else (some (bt467.1 == 0 && (bt467.2.1 == 0 && (bt467.2.2.1 == 0 && (bt467.2.2.2.1 == 0 && (bt467.2.2.2.2.1 == 0)))))))) else (none))) = some r := by rw [if_pos rfl] at H; exact H
    clear H
    have H := H1
    clear H1
    obtain ⟨y461, hy461⟩ : ∃ y_ : List (S23), y_ = (([] : List (S23))) := ⟨_, rfl⟩
    replace H : (if y461.length + l0.length < 5864062014805 then ((place_Hull.f k (y461 ++ l0)).bind fun bt467 => (if bt467.2.2.2.2.2 = true then (whittlelaw3_PlaceHold.l0 k l0 true 0 a1_0 a1_1 a1_2 a1_3 a1_4 bt467.1 bt467.2.1 bt467.2.2.1 bt467.2.2.2.1 bt467.2.2.2.2.1) else (some (bt467.1 == 0 && (bt467.2.1 == 0 && (bt467.2.2.1 == 0 && (bt467.2.2.2.1 == 0 && (bt467.2.2.2.2.1 == 0)))))))) else (none)) = some r := by first | (rw [hy461]; with_reducible exact H) | (have H2_ := (Option.bind_some _ _).symm.trans H; rw [hy461]; with_reducible exact H2_) | (have H2_ := (Option.bind_some _ _).symm.trans H; with_reducible exact H2_) | with_reducible exact H | (rw [hy461]; exact H) | exact H
    have Ny461 := Aside0.mk hy461
    clear hy461
    by_cases c5 : y461.length + l0.length < 5864062014805
    · rw [if_pos c5] at H
      have LMc5 := Aside0.mk c5
      clear c5
      obtain ⟨y464, hy464⟩ : ∃ y_ : List (S23), y_ = (y461 ++ l0) := ⟨_, rfl⟩
      replace H : ((place_Hull.f k y464).bind fun bt467 => (if bt467.2.2.2.2.2 = true then (whittlelaw3_PlaceHold.l0 k l0 true 0 a1_0 a1_1 a1_2 a1_3 a1_4 bt467.1 bt467.2.1 bt467.2.2.1 bt467.2.2.2.1 bt467.2.2.2.2.1) else (some (bt467.1 == 0 && (bt467.2.1 == 0 && (bt467.2.2.1 == 0 && (bt467.2.2.2.1 == 0 && (bt467.2.2.2.2.1 == 0)))))))) = some r := by first | (rw [hy464]; with_reducible exact H) | (have H2_ := (Option.bind_some _ _).symm.trans H; rw [hy464]; with_reducible exact H2_) | (have H2_ := (Option.bind_some _ _).symm.trans H; with_reducible exact H2_) | with_reducible exact H | (rw [hy464]; exact H) | exact H
      have Ny464 := Aside0.mk hy464
      clear hy464
      replace H := Option.bind_eq_some_iff.mp H
      obtain ⟨⟨t467, t468, t469, t470, t471, t472⟩, A60, H⟩ := H
      replace H : (if t472 = true then (whittlelaw3_PlaceHold.l0 k l0 true 0 a1_0 a1_1 a1_2 a1_3 a1_4 t467 t468 t469 t470 t471) else (some (t467 == 0 && (t468 == 0 && (t469 == 0 && (t470 == 0 && (t471 == 0))))))) = some r := H
      have A6 := Aside0.mk A60
      clear A60
      by_cases c7 : t472 = true
      · subst c7
        have H1 : (whittlelaw3_PlaceHold.l0 k l0 true 0 a1_0 a1_1 a1_2 a1_3 a1_4 t467 t468 t469 t470 t471) = some r := by rw [if_pos rfl] at H; exact H
        clear H
        have H := H1
        clear H1
        have H' := Aside0.mk H
        clear H
        go_enter Tryd.func10, Tryd.ntmps10
        go_wp2_with (first | ((with_reducible refine gate_dst (N := 3) rfl ?_); refine box_event ?hg (N := 3) ?hd (cs := #[.int .i64 a1_0, .int .i64 a1_1, .int .i64 a1_2, .int .i64 a1_3, .int .i64 a1_4]) (t := 25) ?hr ?_; (case hd => rfl); (case hg => rfl); (case hr => first | (go_simp; done) | (go_simp; rfl)); intro gb459 hg w8 hbox hb; have n0_ := Aside0.mk (below_step (by repeat (first | (with_reducible first | exact HB.out | apply below_alloc | apply pw_below_drewN | apply below_drew1) | exact HB.out)) hb); have n1_ := Aside0.mk (hbox); have n2_ := Aside0.mk ((by rw [hg]; exact (below_size (by repeat (first | (with_reducible first | exact HB.out | apply below_alloc | apply pw_below_drewN | apply below_drew1) | exact HB.out))) : w.heap.size ≤ gb459)); have n3_ := Aside0.mk ((by rw [hg]; exact (below_size (by repeat (first | (with_reducible first | exact HB.out | apply below_alloc | apply pw_below_drewN | apply below_drew1) | exact HB.out))) : w.heap.size ≤ gb459)); clear HB; have HB := n0_; have BK459 := n1_; have GW459 := n2_; have GE459 := n3_; clear n0_ n1_ n2_ n3_; clear hb hbox hg) | ((with_reducible refine gate_callee (f := 16) rfl ?_); refine goesL_ (some 12) rfl rfl Tryd.func16 (by kernel_rfl) rfl #[] rfl (by (try simp only [List.map_toArray, List.map_cons, List.map_nil]); first | done | rfl | (simp only [List.length_drop, List.length_take]; rfl)) ?_; (with_reducible refine (whittlelaw3_able.calls  true _ A3.out).mono ?_); rintro e w9 ⟨rfl, hb⟩; refine ⟨_, rfl, ?_⟩; have n0_ := Aside0.mk (blk_below (g := gb459) (o := .cells #[.int .i64 a1_0, .int .i64 a1_1, .int .i64 a1_2, .int .i64 a1_3, .int .i64 a1_4] 25 (0, 0)) (by (with_reducible repeat (first | refine blk_drewN ?_ _ | refine blk_drew ?_ | refine blk_alloc ?_ _)); exact BK459.out) hb); have n1_ := Aside0.mk (below_step (by repeat (first | (with_reducible first | exact HB.out | apply below_alloc | apply pw_below_drewN | apply below_drew1 | refine below_set ?_ GE459.out) | exact HB.out)) hb); clear BK459; clear HB; have BK459 := n0_; have HB := n1_; clear n0_ n1_; (try clear hb); (try clear hb2); (try clear hk); (try clear hi)) | ((with_reducible refine gate_dst (N := 14) rfl ?_); refine Kd.R_lit k23 _ 23 ?hg (N := 14) ?hd (xs := ([] : List (S23))) (inner := []) (ok := fun _ => True) (okp := fun _ => True) ?hr ?hp (fun _ hk => hk) trivial (Below.refl _ _) (Nat.le_refl _) (by simp) ?_; (case hd => rfl); (case hg => rfl); (case hr => first | (go_simp; done) | (go_simp; rfl)); (case hp => exact (Reps.none _ _)); intro v462 w10 ho11 hb hg_ hnew_; clear hg_ hnew_; (first | rw [← Ny461.out] at ho11 | (simp only [Int.reduceToNat] at ho11; rw [← Ny461.out] at ho11)); have n0_ := Aside0.mk (Kd.R_lower ho11 (below_size (by repeat (first | (with_reducible first | exact HB.out | apply below_alloc | apply pw_below_drewN | apply below_drew1 | refine below_set ?_ GE459.out) | exact HB.out)))); have n1_ := Aside0.mk (blk_below (g := gb459) (o := .cells #[.int .i64 a1_0, .int .i64 a1_1, .int .i64 a1_2, .int .i64 a1_3, .int .i64 a1_4] 25 (0, 0)) (by (with_reducible repeat (first | refine blk_drewN ?_ _ | refine blk_drew ?_ | refine blk_alloc ?_ _)); exact BK459.out) hb); have n2_ := Aside0.mk (below_step (by repeat (first | (with_reducible first | exact HB.out | apply below_alloc | apply pw_below_drewN | apply below_drew1 | refine below_set ?_ GE459.out) | exact HB.out)) hb); clear BK459; clear HB; have HO463 := n0_; have BK459 := n1_; have HB := n2_; clear n0_ n1_ n2_; clear hb ho11) | ((with_reducible refine gate_builtin (b := .append) (xs := #[.tmp 14, .tmp 15]) rfl ?_); at_builtin; refine Kd.R_append_rows k23 (w0 := w) w.heap.size rfl (.tmp 14) (.tmp 15) 42 23 (.agg #[(.int .i64 0), (.int .i64 0), (.int .i64 0)]) 24 rfl Tryd.underlying42 info23 rfl (by decide) (by omega) v462 y461 l0 _ _ _ (fun _ => True) (fun _ => False) rfl rfl ?aO ?aR (fun _ _ h => h) (fun _ h => h.elim) ?aF ?aB ?aS ?aL ?_; (case aR => repeat (first | exact (Kd.C_below HR0.out HB.out) | (with_reducible refine Kd.C_alloc ?_ _) | (with_reducible refine Kd.C_drewN ?_ _) | (with_reducible refine Kd.C_drew ?_))); (case aB => exact (by repeat (first | (with_reducible first | exact HB.out | apply below_alloc | apply pw_below_drewN | apply below_drew1 | refine below_set ?_ GE459.out) | exact HB.out))); (case aF => exact (fun _ _ => trivial)); (case aO => exact (by (with_reducible repeat (first | apply Kd.R_alloc | apply Kd.R_drewN | apply Kd.R_drew)); exact HO463.out)); (case aS => exact (below_size (by repeat (first | (with_reducible first | exact HB.out | apply below_alloc | apply pw_below_drewN | apply below_drew1 | refine below_set ?_ GE459.out) | exact HB.out)))); (case aL => have := LMc5.out; omega); intro v465 w12 ho hb hg hat; rw [← Ny464.out] at ho; have n0_ := Aside0.mk (blk_grown (g := gb459) (o := .cells #[.int .i64 a1_0, .int .i64 a1_1, .int .i64 a1_2, .int .i64 a1_3, .int .i64 a1_4] 25 (0, 0)) (by (with_reducible repeat (first | refine blk_drewN ?_ _ | refine blk_drew ?_ | refine blk_alloc ?_ _)); exact BK459.out) hg (Kd.R_ne HO463.out BK459.out (by decide))); have n1_ := Aside0.mk (hb); have n2_ := Aside0.mk (ho); clear BK459; clear HB; clear HO463; have BK459 := n0_; have HB := n1_; have HO466 := n2_; clear n0_ n1_ n2_; clear ho hb hg hat; obtain ⟨Ao13, co13, eo13⟩ := Kd.R_slice HO466.out; subst eo13) | ((with_reducible refine gate_callee (f := 31) rfl ?_); refine goesL_ (some 19) rfl rfl Tryd.func31 (by kernel_rfl) rfl #[.slice Ao13 y464.length co13] rfl (by (try simp only [List.map_toArray, List.map_cons, List.map_nil]); first | done | rfl | (simp only [List.length_drop, List.length_take]; rfl)) ?_; (with_reducible refine (place_Hull.calls k _ _ y464 t467 t468 t469 t470 t471 true _ ?side1 ?side2 A6.out).mono ?_); (case side1 => repeat (first | exact (Kd.R_reads' HO466.out).2.2 | (with_reducible refine Kd.C_alloc ?_ _) | (with_reducible refine Kd.C_drewN ?_ _) | (with_reducible refine Kd.C_drew ?_))); (case side2 => exact (Kd.R_reads' HO466.out).2.1); rintro e w14 ⟨rfl, hb⟩; refine ⟨_, rfl, ?_⟩; have n0_ := Aside0.mk (Kd.R_below (by (with_reducible repeat (first | apply Kd.R_alloc | apply Kd.R_drewN | apply Kd.R_drew)); exact HO466.out) hb); have n1_ := Aside0.mk (blk_below (g := gb459) (o := .cells #[.int .i64 a1_0, .int .i64 a1_1, .int .i64 a1_2, .int .i64 a1_3, .int .i64 a1_4] 25 (0, 0)) (by (with_reducible repeat (first | refine blk_drewN ?_ _ | refine blk_drew ?_ | refine blk_alloc ?_ _)); exact BK459.out) hb); have n2_ := Aside0.mk (below_step (by repeat (first | (with_reducible first | exact HB.out | apply below_alloc | apply pw_below_drewN | apply below_drew1 | refine below_set ?_ GE459.out) | exact HB.out)) hb); clear HO466; clear BK459; clear HB; have HO466 := n0_; have BK459 := n1_; have HB := n2_; clear n0_ n1_ n2_; (try clear hb); (try clear hb2); (try clear hk); (try clear hi)) | ((with_reducible refine gate_dst (N := 6) rfl ?_); refine box_event ?hg (N := 6) ?hd (cs := #[.int .i64 0, .int .i64 0, .int .i64 0, .int .i64 0, .int .i64 0]) (t := 25) ?hr ?_; (case hd => rfl); (case hg => rfl); (case hr => first | (go_simp; done) | (go_simp; rfl)); intro gb473 hg w15 hbox hb; have n0_ := Aside0.mk (Kd.R_below (by (with_reducible repeat (first | apply Kd.R_alloc | apply Kd.R_drewN | apply Kd.R_drew)); exact HO466.out) hb); have n1_ := Aside0.mk (blk_below (g := gb459) (o := .cells #[.int .i64 a1_0, .int .i64 a1_1, .int .i64 a1_2, .int .i64 a1_3, .int .i64 a1_4] 25 (0, 0)) (by (with_reducible repeat (first | refine blk_drewN ?_ _ | refine blk_drew ?_ | refine blk_alloc ?_ _)); exact BK459.out) hb); have n2_ := Aside0.mk (below_step (by repeat (first | (with_reducible first | exact HB.out | apply below_alloc | apply pw_below_drewN | apply below_drew1 | refine below_set ?_ GE459.out) | exact HB.out)) hb); have n3_ := Aside0.mk (hbox); have n4_ := Aside0.mk ((by rw [hg]; exact (below_size (by repeat (first | (with_reducible first | exact HB.out | apply below_alloc | apply pw_below_drewN | apply below_drew1 | refine below_set ?_ GE459.out) | exact HB.out))) : w.heap.size ≤ gb473)); have n5_ := Aside0.mk ((by rw [hg]; exact (below_size (by repeat (first | (with_reducible first | exact HB.out | apply below_alloc | apply pw_below_drewN | apply below_drew1 | refine below_set ?_ GE459.out) | exact HB.out))) : w.heap.size ≤ gb473)); have n6_ := Aside0.mk ((by rw [hg]; exact Nat.ne_of_lt (blk_lt (g := gb459) (o := .cells #[.int .i64 a1_0, .int .i64 a1_1, .int .i64 a1_2, .int .i64 a1_3, .int .i64 a1_4] 25 (0, 0)) (by (with_reducible repeat (first | refine blk_drewN ?_ _ | refine blk_drew ?_ | refine blk_alloc ?_ _)); exact BK459.out)) : gb459 ≠ gb473)); have n7_ := Aside0.mk ((by rw [hg]; exact Nat.ne_of_gt (blk_lt (g := gb459) (o := .cells #[.int .i64 a1_0, .int .i64 a1_1, .int .i64 a1_2, .int .i64 a1_3, .int .i64 a1_4] 25 (0, 0)) (by (with_reducible repeat (first | refine blk_drewN ?_ _ | refine blk_drew ?_ | refine blk_alloc ?_ _)); exact BK459.out)) : gb473 ≠ gb459)); clear HO466; clear BK459; clear HB; have HO466 := n0_; have BK459 := n1_; have HB := n2_; have BK473 := n3_; have GW473 := n4_; have GE473 := n5_; have NB459_473 := n6_; have NB473_459 := n7_; clear n0_ n1_ n2_ n3_ n4_ n5_ n6_ n7_; clear hb hbox hg; have hnb16 := NB473_459.out; have hnc16 := NB459_473.out; have hcz17_0 : w15.cell? ⟨gb473, 0, none⟩ = some (.int .i64 0) := (blk_cell BK473.out 0).trans rfl; have hcz17_1 : w15.cell? ⟨gb473, 1, none⟩ = some (.int .i64 0) := (blk_cell BK473.out 1).trans rfl; have hcz17_2 : w15.cell? ⟨gb473, 2, none⟩ = some (.int .i64 0) := (blk_cell BK473.out 2).trans rfl; have hcz17_3 : w15.cell? ⟨gb473, 3, none⟩ = some (.int .i64 0) := (blk_cell BK473.out 3).trans rfl; have hcz17_4 : w15.cell? ⟨gb473, 4, none⟩ = some (.int .i64 0) := (blk_cell BK473.out 4).trans rfl; have hfz17_0 := blk_frozen BK473.out 0; have hfz17_1 := blk_frozen BK473.out 1; have hfz17_2 := blk_frozen BK473.out 2; have hfz17_3 := blk_frozen BK473.out 3; have hfz17_4 := blk_frozen BK473.out 4))
        go_loopg [8, 9] k (fun kq v8 v9 w' => ∃ (x8_1 : Bool) (x9_1 : Int), v8 = .bool x8_1 ∧ v9 = .int .i64 x9_1 ∧ Aside0 (whittlelaw3_PlaceHold.l0 kq l0 x8_1 x9_1 a1_0 a1_1 a1_2 a1_3 a1_4 t467 t468 t469 t470 t471 = some r) ∧ Aside0 (kq ≤ k) ∧ Aside0 (w'.heap[gb459]? = some (.cells #[.int .i64 a1_0, .int .i64 a1_1, .int .i64 a1_2, .int .i64 a1_3, .int .i64 a1_4] 25 (0, 0))) ∧ Aside0 (w'.heap[gb473]? = some (.cells #[.int .i64 t467, .int .i64 t468, .int .i64 t469, .int .i64 t470, .int .i64 t471] 25 (0, 0))) ∧ Aside0 (Below w.heap.size w w'))
        case atStart => exact ⟨(true), (0), (by first | rfl | (simp; done) | (simp [*]; done)), (by first | rfl | (simp; done) | (simp [*]; done)), H', ⟨Nat.le_refl _⟩, ⟨by (with_reducible repeat (first | refine blk_drewN ?_ _ | refine blk_drew ?_ | refine blk_alloc ?_ _)); refine blk_far ?_ NB459_473.out _; (with_reducible repeat (first | refine blk_drewN ?_ _ | refine blk_drew ?_ | refine blk_alloc ?_ _)); refine blk_far ?_ NB459_473.out _; (with_reducible repeat (first | refine blk_drewN ?_ _ | refine blk_drew ?_ | refine blk_alloc ?_ _)); refine blk_far ?_ NB459_473.out _; (with_reducible repeat (first | refine blk_drewN ?_ _ | refine blk_drew ?_ | refine blk_alloc ?_ _)); refine blk_far ?_ NB459_473.out _; (with_reducible repeat (first | refine blk_drewN ?_ _ | refine blk_drew ?_ | refine blk_alloc ?_ _)); refine blk_far ?_ NB459_473.out _; (with_reducible repeat (first | refine blk_drewN ?_ _ | refine blk_drew ?_ | refine blk_alloc ?_ _)); exact BK459.out⟩, ⟨by (with_reducible repeat (first | refine blk_drewN ?_ _ | refine blk_drew ?_ | refine blk_alloc ?_ _)); refine blk_put (cs := #[.int .i64 t467, .int .i64 t468, .int .i64 t469, .int .i64 t470, .int .i64 0]) ?_ 4 _ rfl; (with_reducible repeat (first | refine blk_drewN ?_ _ | refine blk_drew ?_ | refine blk_alloc ?_ _)); refine blk_put (cs := #[.int .i64 t467, .int .i64 t468, .int .i64 t469, .int .i64 0, .int .i64 0]) ?_ 3 _ rfl; (with_reducible repeat (first | refine blk_drewN ?_ _ | refine blk_drew ?_ | refine blk_alloc ?_ _)); refine blk_put (cs := #[.int .i64 t467, .int .i64 t468, .int .i64 0, .int .i64 0, .int .i64 0]) ?_ 2 _ rfl; (with_reducible repeat (first | refine blk_drewN ?_ _ | refine blk_drew ?_ | refine blk_alloc ?_ _)); refine blk_put (cs := #[.int .i64 t467, .int .i64 0, .int .i64 0, .int .i64 0, .int .i64 0]) ?_ 1 _ rfl; (with_reducible repeat (first | refine blk_drewN ?_ _ | refine blk_drew ?_ | refine blk_alloc ?_ _)); refine blk_put (cs := #[.int .i64 0, .int .i64 0, .int .i64 0, .int .i64 0, .int .i64 0]) ?_ 0 _ rfl; (with_reducible repeat (first | refine blk_drewN ?_ _ | refine blk_drew ?_ | refine blk_alloc ?_ _)); exact BK473.out⟩, ⟨by repeat (first | (with_reducible first | exact HB.out | apply below_alloc | apply pw_below_drewN | apply below_drew1 | refine below_set ?_ GE459.out | refine below_set ?_ GE473.out) | exact HB.out)⟩⟩
        case round =>
          clear H'
          try clear c1
          try clear p2
          try clear c3
          try clear c4
          try clear c5
          try clear c7
          try clear c10
          try clear c16
          try clear hcz17_0
          try clear hcz17_1
          try clear hcz17_2
          try clear hcz17_3
          try clear hcz17_4
          try clear hfz17_0
          try clear hfz17_1
          try clear hfz17_2
          try clear hfz17_3
          try clear hfz17_4
          obtain ⟨x8_1, x9_1, rfl, rfl, HA, HK1, BK459, BK473, HB⟩ := hrel
          cases gk with
          | zero => exact absurd HA.out (by simp [whittlelaw3_PlaceHold.l0])
          | succ k1 =>
            have H := HA.out
            clear HA
            simp only [whittlelaw3_PlaceHold.l0] at H
            by_cases c18 : x9_1 < (l0.length : Int)
            · rw [if_pos c18] at H
              have c18b0 : decide (x9_1 < (l0.length : Int)) = true := decide_eq_true c18
              clear c18
              by_cases c19 : 0 ≤ x9_1
              · rw [if_pos c19] at H
                have c19b0 : decide (0 ≤ x9_1) = true := decide_eq_true c19
                clear c19
                replace H := Option.bind_eq_some_iff.mp H
                obtain ⟨t482, A200, H⟩ := H
                replace H : (if t482 = true then (if x8_1 = true then ((place_Has.f a1_0 a1_1 a1_2 a1_3 a1_4 ((rd_T23 l0 x9_1).f0) ((rd_T23 l0 x9_1).f1) ((rd_T23 l0 x9_1).f2)).bind fun t484 => (whittlelaw3_PlaceHold.l0 k1 l0 t484 (wrap64 (x9_1 + 1)) a1_0 a1_1 a1_2 a1_3 a1_4 t467 t468 t469 t470 t471)) else (whittlelaw3_PlaceHold.l0 k1 l0 false (wrap64 (x9_1 + 1)) a1_0 a1_1 a1_2 a1_3 a1_4 t467 t468 t469 t470 t471)) else (some false)) = some r := H
                have A20 := Aside0.mk A200
                clear A200
                by_cases c21 : t482 = true
                · subst c21
                  have H1 : (if x8_1 = true then ((place_Has.f a1_0 a1_1 a1_2 a1_3 a1_4 ((rd_T23 l0 x9_1).f0) ((rd_T23 l0 x9_1).f1) ((rd_T23 l0 x9_1).f2)).bind fun t484 => (whittlelaw3_PlaceHold.l0 k1 l0 t484 (wrap64 (x9_1 + 1)) a1_0 a1_1 a1_2 a1_3 a1_4 t467 t468 t469 t470 t471)) else (whittlelaw3_PlaceHold.l0 k1 l0 false (wrap64 (x9_1 + 1)) a1_0 a1_1 a1_2 a1_3 a1_4 t467 t468 t469 t470 t471)) = some r := by rw [if_pos rfl] at H; exact H
                  clear H
                  have H := H1
                  clear H1
                  by_cases c22 : x8_1 = true
                  · subst c22
                    have H1 : ((place_Has.f a1_0 a1_1 a1_2 a1_3 a1_4 ((rd_T23 l0 x9_1).f0) ((rd_T23 l0 x9_1).f1) ((rd_T23 l0 x9_1).f2)).bind fun t484 => (whittlelaw3_PlaceHold.l0 k1 l0 t484 (wrap64 (x9_1 + 1)) a1_0 a1_1 a1_2 a1_3 a1_4 t467 t468 t469 t470 t471)) = some r := by rw [if_pos rfl] at H; exact H
                    clear H
                    have H := H1
                    clear H1
                    replace H := Option.bind_eq_some_iff.mp H
                    obtain ⟨t484, A230, H⟩ := H
                    replace H : (whittlelaw3_PlaceHold.l0 k1 l0 t484 (wrap64 (x9_1 + 1)) a1_0 a1_1 a1_2 a1_3 a1_4 t467 t468 t469 t470 t471) = some r := H
                    have A23 := Aside0.mk A230
                    clear A230
                    have H' := Aside0.mk H
                    clear H
                    try go_wp2
                    have n0_ := Aside0.mk (blk_drew BK459.out)
                    have n1_ := Aside0.mk (blk_drew BK473.out)
                    have n2_ := Aside0.mk (below_drew1 HB.out)
                    clear BK459
                    clear BK473
                    clear HB
                    have BK459 := n0_
                    have BK473 := n1_
                    have HB := n2_
                    clear n0_ n1_ n2_
                    have p481 : 0 ≤ (x9_1 : Int) := of_decide_eq_true (by first | (with_reducible assumption) | assumption)
                    have q481 : x9_1 < (l0.length : Int) := of_decide_eq_true (by first | (with_reducible assumption) | assumption)
                    obtain ⟨ad481, e481, hx481_0, hx481_1, hx481_2⟩ := at_T23 HR0.out x9_1 p481 q481
                    have hw481_2 := hx481_2
                    have hw481_1 := hx481_1
                    have hw481_0 := hx481_0
                    cases e481
                    replace hx481_0 := (HB.out.cell (World.block_lt_of_cell? w _ hx481_0)).trans hx481_0
                    replace hx481_1 := (HB.out.cell (World.block_lt_of_cell? w _ hx481_1)).trans hx481_1
                    replace hx481_2 := (HB.out.cell (World.block_lt_of_cell? w _ hx481_2)).trans hx481_2
                    replace p481 := eq_true p481
                    replace q481 := eq_true q481
                    refine start_ (n := 7) (S := fun w' => w'.cell? ⟨gb473, 0, none⟩ = some (.int .i64 t467) ∧ w'.cell? ⟨gb473, 1, none⟩ = some (.int .i64 t468) ∧ w'.cell? ⟨gb473, 2, none⟩ = some (.int .i64 t469) ∧ w'.cell? ⟨gb473, 3, none⟩ = some (.int .i64 t470) ∧ w'.cell? ⟨gb473, 4, none⟩ = some (.int .i64 t471) ∧ w'.cell? (ad481.add ((x9_1).toNat * 3)) = some (.int .i64 ((rd_T23 l0 x9_1).f0)) ∧ w'.cell? ⟨(ad481.add ((x9_1).toNat * 3)).block, (ad481.add ((x9_1).toNat * 3)).off + 1, none⟩ = some (.int .i64 ((rd_T23 l0 x9_1).f1)) ∧ w'.cell? ⟨(ad481.add ((x9_1).toNat * 3)).block, (ad481.add ((x9_1).toNat * 3)).off + 2, none⟩ = some (.int .i64 ((rd_T23 l0 x9_1).f2))) (ds := []) #[false, false, false, false, false, false, false] (by kernel_rfl) rfl rfl ⟨(blk_cell BK473.out 0).trans rfl, (blk_cell BK473.out 1).trans rfl, (blk_cell BK473.out 2).trans rfl, (blk_cell BK473.out 3).trans rfl, (blk_cell BK473.out 4).trans rfl, ((HB.out.cell (World.block_lt_of_cell? w _ hw481_0)).trans hw481_0), ((HB.out.cell (World.block_lt_of_cell? w _ hw481_1)).trans hw481_1), ((HB.out.cell (World.block_lt_of_cell? w _ hw481_2)).trans hw481_2)⟩ (fun hHeld => ?_)
                    generalize wr.drew = w24 at BK459 BK473 HB hx481_0 hx481_1 hx481_2 hHeld ⊢
                    refine pure_ (i := 1) (N := some 34) (v := ?_) (a' := ?_) #[false, true, false, false, false, false, false] rfl rfl (by kernel_rfl) (fun _ _ _ h => h) (Or.inl ⟨by rfl, ?_⟩) ?_ ?_
                    rotate_left
                    · intro w'
                      go_simp
                      with_reducible rfl
                    rotate_left
                    · simp only [Act.put, List.setIfInBounds_toArray, List.set_cons_zero, List.set_cons_succ, i64_w, i32_w]
                      rfl
                    refine pure_ (i := 2) (N := some 35) (v := ?_) (a' := ?_) #[false, true, true, false, false, false, false] rfl rfl (by kernel_rfl) (fun _ _ _ h => h) (Or.inl ⟨by rfl, ?_⟩) ?_ ?_
                    rotate_left
                    · intro w'
                      go_simp
                      with_reducible rfl
                    rotate_left
                    · simp only [Act.put, List.setIfInBounds_toArray, List.set_cons_zero, List.set_cons_succ, i64_w, i32_w]
                      rfl
                    refine pure_ (i := 3) (N := some 36) (v := ?_) (a' := ?_) #[false, true, true, true, false, false, false] rfl rfl (by kernel_rfl) (fun _ _ _ h => h) (Or.inl ⟨by rfl, ?_⟩) ?_ ?_
                    rotate_left
                    · intro w'
                      go_simp
                      with_reducible rfl
                    rotate_left
                    · simp only [Act.put, List.setIfInBounds_toArray, List.set_cons_zero, List.set_cons_succ, i64_w, i32_w]
                      rfl
                    refine take_ (i := 0) (N := some 33) (v := ?_) (a' := ?_) #[true, true, true, true, false, false, false] rfl rfl (by kernel_rfl) (fun _ _ _ h => h) (Or.inl ⟨by rfl, ?_⟩) hHeld ?_ ?_
                    rotate_left
                    · rintro w' ⟨s0, s1, s2, s3, s4, s5, s6, s7⟩
                      go_simp
                      with_reducible rfl
                    rotate_left
                    · simp only [Act.put, List.setIfInBounds_toArray, List.set_cons_zero, List.set_cons_succ, i64_w, i32_w]
                      rfl
                    refine take_ (i := 4) (N := some 37) (v := ?_) (a' := ?_) #[true, true, true, true, true, false, false] rfl rfl (by kernel_rfl) (fun _ _ _ h => h) (Or.inl ⟨by rfl, ?_⟩) hHeld ?_ ?_
                    rotate_left
                    · rintro w' ⟨s0, s1, s2, s3, s4, s5, s6, s7⟩
                      go_simp
                      with_reducible rfl
                    rotate_left
                    · simp only [Act.put, List.setIfInBounds_toArray, List.set_cons_zero, List.set_cons_succ, i64_w, i32_w]
                      rfl
                    refine one_ (i := 5) (N := some 38) #[true, true, true, true, true, true, false] rfl rfl (by kernel_rfl) (by decide) (fun K hK => ?_)
                    refine goes_ Tryd.func28 (by kernel_rfl) rfl #[.agg #[.int .i64 t467, .int .i64 t468, .int .i64 t469, .int .i64 t470, .int .i64 t471], .agg #[.int .i64 ((rd_T23 l0 x9_1).f0), .int .i64 ((rd_T23 l0 x9_1).f1), .int .i64 ((rd_T23 l0 x9_1).f2)]] (by rfl) rfl rfl (by (try simp only [List.map_toArray, List.map_cons, List.map_nil]); first | done | rfl | (simp only [List.length_drop, List.length_take]; rfl)) ?_
                    with_reducible refine (place_Has.calls t467 t468 t469 t470 t471 ((rd_T23 l0 x9_1).f0) ((rd_T23 l0 x9_1).f1) ((rd_T23 l0 x9_1).f2) true _ A20.out).mono ?_
                    rintro e w25 ⟨rfl, hb⟩
                    refine ⟨_, rfl, ?_⟩
                    have n0_ := Aside0.mk (blk_below (g := gb459) (o := .cells #[.int .i64 a1_0, .int .i64 a1_1, .int .i64 a1_2, .int .i64 a1_3, .int .i64 a1_4] 25 (0, 0)) (by (with_reducible repeat (first | refine blk_drewN ?_ _ | refine blk_drew ?_ | refine blk_alloc ?_ _)); exact BK459.out) hb)
                    have n1_ := Aside0.mk (blk_below (g := gb473) (o := .cells #[.int .i64 t467, .int .i64 t468, .int .i64 t469, .int .i64 t470, .int .i64 t471] 25 (0, 0)) (by (with_reducible repeat (first | refine blk_drewN ?_ _ | refine blk_drew ?_ | refine blk_alloc ?_ _)); exact BK473.out) hb)
                    have n2_ := Aside0.mk (below_step (by repeat (first | (with_reducible first | exact HB.out | apply below_alloc | apply pw_below_drewN | apply below_drew1 | refine below_set ?_ GE459.out | refine below_set ?_ GE473.out) | exact HB.out)) hb)
                    clear BK459
                    clear BK473
                    clear HB
                    have BK459 := n0_
                    have BK473 := n1_
                    have HB := n2_
                    clear n0_ n1_ n2_
                    (try clear hb)
                    (try clear hb2)
                    (try clear hk)
                    (try clear hi)
                    refine hK.out _ _ ⟨(blk_cell BK473.out 0).trans rfl, (blk_cell BK473.out 1).trans rfl, (blk_cell BK473.out 2).trans rfl, (blk_cell BK473.out 3).trans rfl, (blk_cell BK473.out 4).trans rfl, ((HB.out.cell (World.block_lt_of_cell? w _ hw481_0)).trans hw481_0), ((HB.out.cell (World.block_lt_of_cell? w _ hw481_1)).trans hw481_1), ((HB.out.cell (World.block_lt_of_cell? w _ hw481_2)).trans hw481_2)⟩ (fun hHeld => ?_)
                    clear hK K
                    refine norm_ (a' := ?_) ?_ ?_
                    rotate_left
                    · show Act.put _ (some 38) _ = _
                      simp only [Act.put, List.setIfInBounds_toArray, List.set_cons_zero, List.set_cons_succ, i64_w, i32_w]
                      rfl
                    refine pure_ (i := 6) (N := some 39) (v := ?_) (a' := ?_) #[true, true, true, true, true, true, true] rfl rfl (by kernel_rfl) (fun _ _ _ h => h) (Or.inl ⟨by rfl, ?_⟩) ?_ ?_
                    rotate_left
                    · intro w'
                      go_simp
                      with_reducible rfl
                    rotate_left
                    · simp only [Act.put, List.setIfInBounds_toArray, List.set_cons_zero, List.set_cons_succ, i64_w, i32_w]
                      rfl
                    refine done_ (by kernel_rfl) ?_
                    try go_wp2
                    have n0_ := Aside0.mk (blk_drew BK459.out)
                    have n1_ := Aside0.mk (blk_drew BK473.out)
                    have n2_ := Aside0.mk (below_drew1 HB.out)
                    clear BK459
                    clear BK473
                    clear HB
                    have BK459 := n0_
                    have BK473 := n1_
                    have HB := n2_
                    clear n0_ n1_ n2_
                    have p483 : 0 ≤ (x9_1 : Int) := of_decide_eq_true (by first | (with_reducible assumption) | assumption)
                    have q483 : x9_1 < (l0.length : Int) := of_decide_eq_true (by first | (with_reducible assumption) | assumption)
                    obtain ⟨ad483, e483, hx483_0, hx483_1, hx483_2⟩ := at_T23 HR0.out x9_1 p483 q483
                    have hw483_2 := hx483_2
                    have hw483_1 := hx483_1
                    have hw483_0 := hx483_0
                    obtain rfl : ad481 = ad483 := (by injection e483)
                    replace hx483_0 := (HB.out.cell (World.block_lt_of_cell? w _ hx483_0)).trans hx483_0
                    replace hx483_1 := (HB.out.cell (World.block_lt_of_cell? w _ hx483_1)).trans hx483_1
                    replace hx483_2 := (HB.out.cell (World.block_lt_of_cell? w _ hx483_2)).trans hx483_2
                    replace p483 := eq_true p483
                    replace q483 := eq_true q483
                    refine start_ (n := 10) (S := fun w' => w'.cell? ⟨gb459, 0, none⟩ = some (.int .i64 a1_0) ∧ w'.cell? ⟨gb459, 1, none⟩ = some (.int .i64 a1_1) ∧ w'.cell? ⟨gb459, 2, none⟩ = some (.int .i64 a1_2) ∧ w'.cell? ⟨gb459, 3, none⟩ = some (.int .i64 a1_3) ∧ w'.cell? ⟨gb459, 4, none⟩ = some (.int .i64 a1_4) ∧ w'.cell? (ad481.add ((x9_1).toNat * 3)) = some (.int .i64 ((rd_T23 l0 x9_1).f0)) ∧ w'.cell? ⟨(ad481.add ((x9_1).toNat * 3)).block, (ad481.add ((x9_1).toNat * 3)).off + 1, none⟩ = some (.int .i64 ((rd_T23 l0 x9_1).f1)) ∧ w'.cell? ⟨(ad481.add ((x9_1).toNat * 3)).block, (ad481.add ((x9_1).toNat * 3)).off + 2, none⟩ = some (.int .i64 ((rd_T23 l0 x9_1).f2))) (ds := []) #[false, false, false, false, false, false, false, false, false, false] (by kernel_rfl) rfl rfl ⟨(blk_cell BK459.out 0).trans rfl, (blk_cell BK459.out 1).trans rfl, (blk_cell BK459.out 2).trans rfl, (blk_cell BK459.out 3).trans rfl, (blk_cell BK459.out 4).trans rfl, ((HB.out.cell (World.block_lt_of_cell? w _ hw483_0)).trans hw483_0), ((HB.out.cell (World.block_lt_of_cell? w _ hw483_1)).trans hw483_1), ((HB.out.cell (World.block_lt_of_cell? w _ hw483_2)).trans hw483_2)⟩ (fun hHeld => ?_); refine with_tabW whittlelaw3_PlaceHold.tab13 whittlelaw3_PlaceHold.bits13 (fun HT_ HW_ => ?_)
                    generalize w25.drew = w26 at BK459 BK473 HB hx483_0 hx483_1 hx483_2 hHeld ⊢
                    refine pure_ (i := 0) (N := some 40) (v := ?_) (a' := ?_) #[true, false, false, false, false, false, false, false, false, false] rfl rfl (any_of HT_.out (by kernel_rfl)) (fun _ _ _ h => h) (Or.inl ⟨by rfl, ?_⟩) ?_ ?_
                    rotate_left
                    · intro w'
                      go_simp
                      with_reducible rfl
                    rotate_left
                    · simp only [Act.put, List.setIfInBounds_toArray, List.set_cons_zero, List.set_cons_succ, i64_w, i32_w]
                      rfl
                    refine pure_ (i := 1) (N := some 41) (v := ?_) (a' := ?_) #[true, true, false, false, false, false, false, false, false, false] rfl rfl (any_of HT_.out (by kernel_rfl)) (fun _ _ _ h => h) (Or.inl ⟨by rfl, ?_⟩) ?_ ?_
                    rotate_left
                    · intro w'
                      go_simp
                      with_reducible rfl
                    rotate_left
                    · simp only [Act.put, List.setIfInBounds_toArray, List.set_cons_zero, List.set_cons_succ, i64_w, i32_w]
                      rfl
                    refine pure_ (i := 3) (N := some 43) (v := ?_) (a' := ?_) #[true, true, false, true, false, false, false, false, false, false] rfl rfl (any_of HT_.out (by kernel_rfl)) (fun _ _ _ h => h) (Or.inl ⟨by rfl, ?_⟩) ?_ ?_
                    rotate_left
                    · intro w'
                      go_simp
                      with_reducible rfl
                    rotate_left
                    · simp only [Act.put, List.setIfInBounds_toArray, List.set_cons_zero, List.set_cons_succ, i64_w, i32_w]
                      rfl
                    refine pure_ (i := 4) (N := some 44) (v := ?_) (a' := ?_) #[true, true, false, true, true, false, false, false, false, false] rfl rfl (any_of HT_.out (by kernel_rfl)) (fun _ _ _ h => h) (Or.inl ⟨by rfl, ?_⟩) ?_ ?_
                    rotate_left
                    · intro w'
                      go_simp
                      with_reducible rfl
                    rotate_left
                    · simp only [Act.put, List.setIfInBounds_toArray, List.set_cons_zero, List.set_cons_succ, i64_w, i32_w]
                      rfl
                    refine pure_ (i := 5) (N := some 45) (v := ?_) (a' := ?_) #[true, true, false, true, true, true, false, false, false, false] rfl rfl (any_of HT_.out (by kernel_rfl)) (fun _ _ _ h => h) (Or.inl ⟨by rfl, ?_⟩) ?_ ?_
                    rotate_left
                    · intro w'
                      go_simp
                      with_reducible rfl
                    rotate_left
                    · simp only [Act.put, List.setIfInBounds_toArray, List.set_cons_zero, List.set_cons_succ, i64_w, i32_w]
                      rfl
                    refine take_ (i := 2) (N := some 42) (v := ?_) (a' := ?_) #[true, true, true, true, true, true, false, false, false, false] rfl rfl (take_ofW HT_.out HW_.out (by kernel_rfl)) (fun _ _ _ h => h) (Or.inl ⟨by rfl, ?_⟩) hHeld ?_ ?_
                    rotate_left
                    · rintro w' ⟨s0, s1, s2, s3, s4, s5, s6, s7⟩
                      go_simp
                      with_reducible rfl
                    rotate_left
                    · simp only [Act.put, List.setIfInBounds_toArray, List.set_cons_zero, List.set_cons_succ, i64_w, i32_w]
                      rfl
                    refine take_ (i := 6) (N := some 46) (v := ?_) (a' := ?_) #[true, true, true, true, true, true, true, false, false, false] rfl rfl (take_ofW HT_.out HW_.out (by kernel_rfl)) (fun _ _ _ h => h) (Or.inl ⟨by rfl, ?_⟩) hHeld ?_ ?_
                    rotate_left
                    · rintro w' ⟨s0, s1, s2, s3, s4, s5, s6, s7⟩
                      go_simp
                      with_reducible rfl
                    rotate_left
                    · simp only [Act.put, List.setIfInBounds_toArray, List.set_cons_zero, List.set_cons_succ, i64_w, i32_w]
                      rfl
                    refine one_ (i := 7) (N := some 47) #[true, true, true, true, true, true, true, true, false, false] rfl rfl (one_of HT_.out (by kernel_rfl)) (by decide) (fun K hK => ?_)
                    refine goes_ Tryd.func28 (by kernel_rfl) rfl #[.agg #[.int .i64 a1_0, .int .i64 a1_1, .int .i64 a1_2, .int .i64 a1_3, .int .i64 a1_4], .agg #[.int .i64 ((rd_T23 l0 x9_1).f0), .int .i64 ((rd_T23 l0 x9_1).f1), .int .i64 ((rd_T23 l0 x9_1).f2)]] (by rfl) rfl rfl (by (try simp only [List.map_toArray, List.map_cons, List.map_nil]); first | done | rfl | (simp only [List.length_drop, List.length_take]; rfl)) ?_
                    with_reducible refine (place_Has.calls a1_0 a1_1 a1_2 a1_3 a1_4 ((rd_T23 l0 x9_1).f0) ((rd_T23 l0 x9_1).f1) ((rd_T23 l0 x9_1).f2) t484 _ A23.out).mono ?_
                    rintro e w27 ⟨rfl, hb⟩
                    refine ⟨_, rfl, ?_⟩
                    have n0_ := Aside0.mk (blk_below (g := gb459) (o := .cells #[.int .i64 a1_0, .int .i64 a1_1, .int .i64 a1_2, .int .i64 a1_3, .int .i64 a1_4] 25 (0, 0)) (by (with_reducible repeat (first | refine blk_drewN ?_ _ | refine blk_drew ?_ | refine blk_alloc ?_ _)); exact BK459.out) hb)
                    have n1_ := Aside0.mk (blk_below (g := gb473) (o := .cells #[.int .i64 t467, .int .i64 t468, .int .i64 t469, .int .i64 t470, .int .i64 t471] 25 (0, 0)) (by (with_reducible repeat (first | refine blk_drewN ?_ _ | refine blk_drew ?_ | refine blk_alloc ?_ _)); exact BK473.out) hb)
                    have n2_ := Aside0.mk (below_step (by repeat (first | (with_reducible first | exact HB.out | apply below_alloc | apply pw_below_drewN | apply below_drew1 | refine below_set ?_ GE459.out | refine below_set ?_ GE473.out) | exact HB.out)) hb)
                    clear BK459
                    clear BK473
                    clear HB
                    have BK459 := n0_
                    have BK473 := n1_
                    have HB := n2_
                    clear n0_ n1_ n2_
                    (try clear hb)
                    (try clear hb2)
                    (try clear hk)
                    (try clear hi)
                    refine hK.out _ _ ⟨(blk_cell BK459.out 0).trans rfl, (blk_cell BK459.out 1).trans rfl, (blk_cell BK459.out 2).trans rfl, (blk_cell BK459.out 3).trans rfl, (blk_cell BK459.out 4).trans rfl, ((HB.out.cell (World.block_lt_of_cell? w _ hw483_0)).trans hw483_0), ((HB.out.cell (World.block_lt_of_cell? w _ hw483_1)).trans hw483_1), ((HB.out.cell (World.block_lt_of_cell? w _ hw483_2)).trans hw483_2)⟩ (fun hHeld => ?_)
                    clear hK K
                    refine norm_ (a' := ?_) ?_ ?_
                    rotate_left
                    · show Act.put _ (some 47) _ = _
                      simp only [Act.put, List.setIfInBounds_toArray, List.set_cons_zero, List.set_cons_succ, i64_w, i32_w]
                      rfl
                    refine pure_ (i := 8) (N := some 48) (v := ?_) (a' := ?_) #[true, true, true, true, true, true, true, true, true, false] rfl rfl (any_of HT_.out (by kernel_rfl)) (fun _ _ _ h => h) (Or.inl ⟨by rfl, ?_⟩) ?_ ?_
                    rotate_left
                    · intro w'
                      go_simp
                      with_reducible rfl
                    rotate_left
                    · simp only [Act.put, List.setIfInBounds_toArray, List.set_cons_zero, List.set_cons_succ, i64_w, i32_w]
                      rfl
                    refine pure_ (i := 9) (N := some 8) (v := ?_) (a' := ?_) #[true, true, true, true, true, true, true, true, true, true] rfl rfl (any_of HT_.out (by kernel_rfl)) (fun _ _ _ h => h) (Or.inl ⟨by rfl, ?_⟩) ?_ ?_
                    rotate_left
                    · intro w'
                      go_simp
                      with_reducible rfl
                    rotate_left
                    · simp only [Act.put, List.setIfInBounds_toArray, List.set_cons_zero, List.set_cons_succ, i64_w, i32_w]
                      rfl
                    refine done_ (done_of HT_.out (by kernel_rfl)) ?_
                    try go_wp2
                    go_roundg k1
                    case measure => have := HK1.out; omega
                    case rel => exact ⟨(t484), (wrap64 (x9_1 + 1)), (by first | rfl | (simp; done) | (simp [*]; done)), (by first | rfl | (simp; done) | (simp [*]; done)), H', ⟨by have := HK1.out; omega⟩, ⟨by (with_reducible repeat (first | refine blk_drewN ?_ _ | refine blk_drew ?_ | refine blk_alloc ?_ _)); exact BK459.out⟩, ⟨by (with_reducible repeat (first | refine blk_drewN ?_ _ | refine blk_drew ?_ | refine blk_alloc ?_ _)); exact BK473.out⟩, ⟨by repeat (first | (with_reducible first | exact HB.out | apply below_alloc | apply pw_below_drewN | apply below_drew1 | refine below_set ?_ GE459.out | refine below_set ?_ GE473.out) | exact HB.out)⟩⟩
                  · replace c22 := Bool.eq_false_iff.mpr c22
                    subst c22
                    have H1 : (whittlelaw3_PlaceHold.l0 k1 l0 false (wrap64 (x9_1 + 1)) a1_0 a1_1 a1_2 a1_3 a1_4 t467 t468 t469 t470 t471) = some r := by rw [if_neg (show ¬ (false = true) by decide)] at H; exact H
                    clear H
                    have H := H1
                    clear H1
                    have H' := Aside0.mk H
                    clear H
                    try go_wp2
                    have n0_ := Aside0.mk (blk_drew BK459.out)
                    have n1_ := Aside0.mk (blk_drew BK473.out)
                    have n2_ := Aside0.mk (below_drew1 HB.out)
                    clear BK459
                    clear BK473
                    clear HB
                    have BK459 := n0_
                    have BK473 := n1_
                    have HB := n2_
                    clear n0_ n1_ n2_
                    have p481 : 0 ≤ (x9_1 : Int) := of_decide_eq_true (by first | (with_reducible assumption) | assumption)
                    have q481 : x9_1 < (l0.length : Int) := of_decide_eq_true (by first | (with_reducible assumption) | assumption)
                    obtain ⟨ad481, e481, hx481_0, hx481_1, hx481_2⟩ := at_T23 HR0.out x9_1 p481 q481
                    have hw481_2 := hx481_2
                    have hw481_1 := hx481_1
                    have hw481_0 := hx481_0
                    cases e481
                    replace hx481_0 := (HB.out.cell (World.block_lt_of_cell? w _ hx481_0)).trans hx481_0
                    replace hx481_1 := (HB.out.cell (World.block_lt_of_cell? w _ hx481_1)).trans hx481_1
                    replace hx481_2 := (HB.out.cell (World.block_lt_of_cell? w _ hx481_2)).trans hx481_2
                    replace p481 := eq_true p481
                    replace q481 := eq_true q481
                    refine start_ (n := 7) (S := fun w' => w'.cell? ⟨gb473, 0, none⟩ = some (.int .i64 t467) ∧ w'.cell? ⟨gb473, 1, none⟩ = some (.int .i64 t468) ∧ w'.cell? ⟨gb473, 2, none⟩ = some (.int .i64 t469) ∧ w'.cell? ⟨gb473, 3, none⟩ = some (.int .i64 t470) ∧ w'.cell? ⟨gb473, 4, none⟩ = some (.int .i64 t471) ∧ w'.cell? (ad481.add ((x9_1).toNat * 3)) = some (.int .i64 ((rd_T23 l0 x9_1).f0)) ∧ w'.cell? ⟨(ad481.add ((x9_1).toNat * 3)).block, (ad481.add ((x9_1).toNat * 3)).off + 1, none⟩ = some (.int .i64 ((rd_T23 l0 x9_1).f1)) ∧ w'.cell? ⟨(ad481.add ((x9_1).toNat * 3)).block, (ad481.add ((x9_1).toNat * 3)).off + 2, none⟩ = some (.int .i64 ((rd_T23 l0 x9_1).f2))) (ds := []) #[false, false, false, false, false, false, false] (by kernel_rfl) rfl rfl ⟨(blk_cell BK473.out 0).trans rfl, (blk_cell BK473.out 1).trans rfl, (blk_cell BK473.out 2).trans rfl, (blk_cell BK473.out 3).trans rfl, (blk_cell BK473.out 4).trans rfl, ((HB.out.cell (World.block_lt_of_cell? w _ hw481_0)).trans hw481_0), ((HB.out.cell (World.block_lt_of_cell? w _ hw481_1)).trans hw481_1), ((HB.out.cell (World.block_lt_of_cell? w _ hw481_2)).trans hw481_2)⟩ (fun hHeld => ?_)
                    generalize wr.drew = w28 at BK459 BK473 HB hx481_0 hx481_1 hx481_2 hHeld ⊢
                    refine pure_ (i := 1) (N := some 34) (v := ?_) (a' := ?_) #[false, true, false, false, false, false, false] rfl rfl (by kernel_rfl) (fun _ _ _ h => h) (Or.inl ⟨by rfl, ?_⟩) ?_ ?_
                    rotate_left
                    · intro w'
                      go_simp
                      with_reducible rfl
                    rotate_left
                    · simp only [Act.put, List.setIfInBounds_toArray, List.set_cons_zero, List.set_cons_succ, i64_w, i32_w]
                      rfl
                    refine pure_ (i := 2) (N := some 35) (v := ?_) (a' := ?_) #[false, true, true, false, false, false, false] rfl rfl (by kernel_rfl) (fun _ _ _ h => h) (Or.inl ⟨by rfl, ?_⟩) ?_ ?_
                    rotate_left
                    · intro w'
                      go_simp
                      with_reducible rfl
                    rotate_left
                    · simp only [Act.put, List.setIfInBounds_toArray, List.set_cons_zero, List.set_cons_succ, i64_w, i32_w]
                      rfl
                    refine pure_ (i := 3) (N := some 36) (v := ?_) (a' := ?_) #[false, true, true, true, false, false, false] rfl rfl (by kernel_rfl) (fun _ _ _ h => h) (Or.inl ⟨by rfl, ?_⟩) ?_ ?_
                    rotate_left
                    · intro w'
                      go_simp
                      with_reducible rfl
                    rotate_left
                    · simp only [Act.put, List.setIfInBounds_toArray, List.set_cons_zero, List.set_cons_succ, i64_w, i32_w]
                      rfl
                    refine take_ (i := 0) (N := some 33) (v := ?_) (a' := ?_) #[true, true, true, true, false, false, false] rfl rfl (by kernel_rfl) (fun _ _ _ h => h) (Or.inl ⟨by rfl, ?_⟩) hHeld ?_ ?_
                    rotate_left
                    · rintro w' ⟨s0, s1, s2, s3, s4, s5, s6, s7⟩
                      go_simp
                      with_reducible rfl
                    rotate_left
                    · simp only [Act.put, List.setIfInBounds_toArray, List.set_cons_zero, List.set_cons_succ, i64_w, i32_w]
                      rfl
                    refine take_ (i := 4) (N := some 37) (v := ?_) (a' := ?_) #[true, true, true, true, true, false, false] rfl rfl (by kernel_rfl) (fun _ _ _ h => h) (Or.inl ⟨by rfl, ?_⟩) hHeld ?_ ?_
                    rotate_left
                    · rintro w' ⟨s0, s1, s2, s3, s4, s5, s6, s7⟩
                      go_simp
                      with_reducible rfl
                    rotate_left
                    · simp only [Act.put, List.setIfInBounds_toArray, List.set_cons_zero, List.set_cons_succ, i64_w, i32_w]
                      rfl
                    refine one_ (i := 5) (N := some 38) #[true, true, true, true, true, true, false] rfl rfl (by kernel_rfl) (by decide) (fun K hK => ?_)
                    refine goes_ Tryd.func28 (by kernel_rfl) rfl #[.agg #[.int .i64 t467, .int .i64 t468, .int .i64 t469, .int .i64 t470, .int .i64 t471], .agg #[.int .i64 ((rd_T23 l0 x9_1).f0), .int .i64 ((rd_T23 l0 x9_1).f1), .int .i64 ((rd_T23 l0 x9_1).f2)]] (by rfl) rfl rfl (by (try simp only [List.map_toArray, List.map_cons, List.map_nil]); first | done | rfl | (simp only [List.length_drop, List.length_take]; rfl)) ?_
                    with_reducible refine (place_Has.calls t467 t468 t469 t470 t471 ((rd_T23 l0 x9_1).f0) ((rd_T23 l0 x9_1).f1) ((rd_T23 l0 x9_1).f2) true _ A20.out).mono ?_
                    rintro e w29 ⟨rfl, hb⟩
                    refine ⟨_, rfl, ?_⟩
                    have n0_ := Aside0.mk (blk_below (g := gb459) (o := .cells #[.int .i64 a1_0, .int .i64 a1_1, .int .i64 a1_2, .int .i64 a1_3, .int .i64 a1_4] 25 (0, 0)) (by (with_reducible repeat (first | refine blk_drewN ?_ _ | refine blk_drew ?_ | refine blk_alloc ?_ _)); exact BK459.out) hb)
                    have n1_ := Aside0.mk (blk_below (g := gb473) (o := .cells #[.int .i64 t467, .int .i64 t468, .int .i64 t469, .int .i64 t470, .int .i64 t471] 25 (0, 0)) (by (with_reducible repeat (first | refine blk_drewN ?_ _ | refine blk_drew ?_ | refine blk_alloc ?_ _)); exact BK473.out) hb)
                    have n2_ := Aside0.mk (below_step (by repeat (first | (with_reducible first | exact HB.out | apply below_alloc | apply pw_below_drewN | apply below_drew1 | refine below_set ?_ GE459.out | refine below_set ?_ GE473.out) | exact HB.out)) hb)
                    clear BK459
                    clear BK473
                    clear HB
                    have BK459 := n0_
                    have BK473 := n1_
                    have HB := n2_
                    clear n0_ n1_ n2_
                    (try clear hb)
                    (try clear hb2)
                    (try clear hk)
                    (try clear hi)
                    refine hK.out _ _ ⟨(blk_cell BK473.out 0).trans rfl, (blk_cell BK473.out 1).trans rfl, (blk_cell BK473.out 2).trans rfl, (blk_cell BK473.out 3).trans rfl, (blk_cell BK473.out 4).trans rfl, ((HB.out.cell (World.block_lt_of_cell? w _ hw481_0)).trans hw481_0), ((HB.out.cell (World.block_lt_of_cell? w _ hw481_1)).trans hw481_1), ((HB.out.cell (World.block_lt_of_cell? w _ hw481_2)).trans hw481_2)⟩ (fun hHeld => ?_)
                    clear hK K
                    refine norm_ (a' := ?_) ?_ ?_
                    rotate_left
                    · show Act.put _ (some 38) _ = _
                      simp only [Act.put, List.setIfInBounds_toArray, List.set_cons_zero, List.set_cons_succ, i64_w, i32_w]
                      rfl
                    refine pure_ (i := 6) (N := some 39) (v := ?_) (a' := ?_) #[true, true, true, true, true, true, true] rfl rfl (by kernel_rfl) (fun _ _ _ h => h) (Or.inl ⟨by rfl, ?_⟩) ?_ ?_
                    rotate_left
                    · intro w'
                      go_simp
                      with_reducible rfl
                    rotate_left
                    · simp only [Act.put, List.setIfInBounds_toArray, List.set_cons_zero, List.set_cons_succ, i64_w, i32_w]
                      rfl
                    refine done_ (by kernel_rfl) ?_
                    try go_wp2
                    have n0_ := Aside0.mk (blk_drew BK459.out)
                    have n1_ := Aside0.mk (blk_drew BK473.out)
                    have n2_ := Aside0.mk (below_drew1 HB.out)
                    clear BK459
                    clear BK473
                    clear HB
                    have BK459 := n0_
                    have BK473 := n1_
                    have HB := n2_
                    clear n0_ n1_ n2_
                    refine start_ (n := 10) (S := fun w' => True) (ds := []) #[false, false, false, false, false, false, false, false, false, false] (by kernel_rfl) rfl rfl trivial (fun hHeld => ?_); refine with_tabW whittlelaw3_PlaceHold.tab13 whittlelaw3_PlaceHold.bits13 (fun HT_ HW_ => ?_)
                    generalize w29.drew = w30 at BK459 BK473 HB hHeld ⊢
                    refine pure_ (i := 0) (N := some 40) (v := ?_) (a' := ?_) #[true, false, false, false, false, false, false, false, false, false] rfl rfl (any_of HT_.out (by kernel_rfl)) (fun _ _ _ h => h) (Or.inl ⟨by rfl, ?_⟩) ?_ ?_
                    rotate_left
                    · intro w'
                      go_simp
                      with_reducible rfl
                    rotate_left
                    · simp only [Act.put, List.setIfInBounds_toArray, List.set_cons_zero, List.set_cons_succ, i64_w, i32_w]
                      rfl
                    refine pure_ (i := 1) (N := some 41) (v := ?_) (a' := ?_) #[true, true, false, false, false, false, false, false, false, false] rfl rfl (any_of HT_.out (by kernel_rfl)) (fun _ _ _ h => h) (Or.inl ⟨by rfl, ?_⟩) ?_ ?_
                    rotate_left
                    · intro w'
                      go_simp
                      with_reducible rfl
                    rotate_left
                    · simp only [Act.put, List.setIfInBounds_toArray, List.set_cons_zero, List.set_cons_succ, i64_w, i32_w]
                      rfl
                    refine pure_ (i := 2) (N := some 42) (v := undef) (a' := ?_) #[true, true, true, false, false, false, false, false, false, false] rfl rfl (any_of HT_.out (by kernel_rfl)) (fun _ _ _ h => h) (Or.inr ⟨by rfl, rfl⟩) ?_ ?_
                    rotate_left
                    · simp only [Act.put, List.setIfInBounds_toArray, List.set_cons_zero, List.set_cons_succ, i64_w, i32_w]
                      rfl
                    refine pure_ (i := 3) (N := some 43) (v := undef) (a' := ?_) #[true, true, true, true, false, false, false, false, false, false] rfl rfl (any_of HT_.out (by kernel_rfl)) (fun _ _ _ h => h) (Or.inr ⟨by rfl, rfl⟩) ?_ ?_
                    rotate_left
                    · simp only [Act.put, List.setIfInBounds_toArray, List.set_cons_zero, List.set_cons_succ, i64_w, i32_w]
                      rfl
                    refine pure_ (i := 4) (N := some 44) (v := undef) (a' := ?_) #[true, true, true, true, true, false, false, false, false, false] rfl rfl (any_of HT_.out (by kernel_rfl)) (fun _ _ _ h => h) (Or.inr ⟨by rfl, rfl⟩) ?_ ?_
                    rotate_left
                    · simp only [Act.put, List.setIfInBounds_toArray, List.set_cons_zero, List.set_cons_succ, i64_w, i32_w]
                      rfl
                    refine pure_ (i := 5) (N := some 45) (v := undef) (a' := ?_) #[true, true, true, true, true, true, false, false, false, false] rfl rfl (any_of HT_.out (by kernel_rfl)) (fun _ _ _ h => h) (Or.inr ⟨by rfl, rfl⟩) ?_ ?_
                    rotate_left
                    · simp only [Act.put, List.setIfInBounds_toArray, List.set_cons_zero, List.set_cons_succ, i64_w, i32_w]
                      rfl
                    refine pure_ (i := 6) (N := some 46) (v := undef) (a' := ?_) #[true, true, true, true, true, true, true, false, false, false] rfl rfl (any_of HT_.out (by kernel_rfl)) (fun _ _ _ h => h) (Or.inr ⟨by rfl, rfl⟩) ?_ ?_
                    rotate_left
                    · simp only [Act.put, List.setIfInBounds_toArray, List.set_cons_zero, List.set_cons_succ, i64_w, i32_w]
                      rfl
                    refine pure_ (i := 7) (N := some 47) (v := undef) (a' := ?_) #[true, true, true, true, true, true, true, true, false, false] rfl rfl (any_of HT_.out (by kernel_rfl)) (fun _ _ _ h => h) (Or.inr ⟨by rfl, rfl⟩) ?_ ?_
                    rotate_left
                    · simp only [Act.put, List.setIfInBounds_toArray, List.set_cons_zero, List.set_cons_succ, i64_w, i32_w]
                      rfl
                    refine pure_ (i := 8) (N := some 48) (v := ?_) (a' := ?_) #[true, true, true, true, true, true, true, true, true, false] rfl rfl (any_of HT_.out (by kernel_rfl)) (fun _ _ _ h => h) (Or.inl ⟨by rfl, ?_⟩) ?_ ?_
                    rotate_left
                    · intro w'
                      go_simp
                      with_reducible rfl
                    rotate_left
                    · simp only [Act.put, List.setIfInBounds_toArray, List.set_cons_zero, List.set_cons_succ, i64_w, i32_w]
                      rfl
                    refine pure_ (i := 9) (N := some 8) (v := ?_) (a' := ?_) #[true, true, true, true, true, true, true, true, true, true] rfl rfl (any_of HT_.out (by kernel_rfl)) (fun _ _ _ h => h) (Or.inl ⟨by rfl, ?_⟩) ?_ ?_
                    rotate_left
                    · intro w'
                      go_simp
                      with_reducible rfl
                    rotate_left
                    · simp only [Act.put, List.setIfInBounds_toArray, List.set_cons_zero, List.set_cons_succ, i64_w, i32_w]
                      rfl
                    refine done_ (done_of HT_.out (by kernel_rfl)) ?_
                    try go_wp2
                    go_roundg k1
                    case measure => have := HK1.out; omega
                    case rel => exact ⟨(false), (wrap64 (x9_1 + 1)), (by first | rfl | (simp; done) | (simp [*]; done)), (by first | rfl | (simp; done) | (simp [*]; done)), H', ⟨by have := HK1.out; omega⟩, ⟨by (with_reducible repeat (first | refine blk_drewN ?_ _ | refine blk_drew ?_ | refine blk_alloc ?_ _)); exact BK459.out⟩, ⟨by (with_reducible repeat (first | refine blk_drewN ?_ _ | refine blk_drew ?_ | refine blk_alloc ?_ _)); exact BK473.out⟩, ⟨by repeat (first | (with_reducible first | exact HB.out | apply below_alloc | apply pw_below_drewN | apply below_drew1 | refine below_set ?_ GE459.out | refine below_set ?_ GE473.out) | exact HB.out)⟩⟩
                · replace c21 := Bool.eq_false_iff.mpr c21
                  subst c21
                  have H1 : (some false) = some r := by rw [if_neg (show ¬ (false = true) by decide)] at H; exact H
                  clear H
                  have H := H1
                  clear H1
                  obtain rfl := Option.some.inj H
                  try go_wp2
                  have n0_ := Aside0.mk (blk_drew BK459.out)
                  have n1_ := Aside0.mk (blk_drew BK473.out)
                  have n2_ := Aside0.mk (below_drew1 HB.out)
                  clear BK459
                  clear BK473
                  clear HB
                  have BK459 := n0_
                  have BK473 := n1_
                  have HB := n2_
                  clear n0_ n1_ n2_
                  have p481 : 0 ≤ (x9_1 : Int) := of_decide_eq_true (by first | (with_reducible assumption) | assumption)
                  have q481 : x9_1 < (l0.length : Int) := of_decide_eq_true (by first | (with_reducible assumption) | assumption)
                  obtain ⟨ad481, e481, hx481_0, hx481_1, hx481_2⟩ := at_T23 HR0.out x9_1 p481 q481
                  have hw481_2 := hx481_2
                  have hw481_1 := hx481_1
                  have hw481_0 := hx481_0
                  cases e481
                  replace hx481_0 := (HB.out.cell (World.block_lt_of_cell? w _ hx481_0)).trans hx481_0
                  replace hx481_1 := (HB.out.cell (World.block_lt_of_cell? w _ hx481_1)).trans hx481_1
                  replace hx481_2 := (HB.out.cell (World.block_lt_of_cell? w _ hx481_2)).trans hx481_2
                  replace p481 := eq_true p481
                  replace q481 := eq_true q481
                  refine start_ (n := 7) (S := fun w' => w'.cell? ⟨gb473, 0, none⟩ = some (.int .i64 t467) ∧ w'.cell? ⟨gb473, 1, none⟩ = some (.int .i64 t468) ∧ w'.cell? ⟨gb473, 2, none⟩ = some (.int .i64 t469) ∧ w'.cell? ⟨gb473, 3, none⟩ = some (.int .i64 t470) ∧ w'.cell? ⟨gb473, 4, none⟩ = some (.int .i64 t471) ∧ w'.cell? (ad481.add ((x9_1).toNat * 3)) = some (.int .i64 ((rd_T23 l0 x9_1).f0)) ∧ w'.cell? ⟨(ad481.add ((x9_1).toNat * 3)).block, (ad481.add ((x9_1).toNat * 3)).off + 1, none⟩ = some (.int .i64 ((rd_T23 l0 x9_1).f1)) ∧ w'.cell? ⟨(ad481.add ((x9_1).toNat * 3)).block, (ad481.add ((x9_1).toNat * 3)).off + 2, none⟩ = some (.int .i64 ((rd_T23 l0 x9_1).f2))) (ds := []) #[false, false, false, false, false, false, false] (by kernel_rfl) rfl rfl ⟨(blk_cell BK473.out 0).trans rfl, (blk_cell BK473.out 1).trans rfl, (blk_cell BK473.out 2).trans rfl, (blk_cell BK473.out 3).trans rfl, (blk_cell BK473.out 4).trans rfl, ((HB.out.cell (World.block_lt_of_cell? w _ hw481_0)).trans hw481_0), ((HB.out.cell (World.block_lt_of_cell? w _ hw481_1)).trans hw481_1), ((HB.out.cell (World.block_lt_of_cell? w _ hw481_2)).trans hw481_2)⟩ (fun hHeld => ?_)
                  generalize wr.drew = w31 at BK459 BK473 HB hx481_0 hx481_1 hx481_2 hHeld ⊢
                  refine pure_ (i := 1) (N := some 34) (v := ?_) (a' := ?_) #[false, true, false, false, false, false, false] rfl rfl (by kernel_rfl) (fun _ _ _ h => h) (Or.inl ⟨by rfl, ?_⟩) ?_ ?_
                  rotate_left
                  · intro w'
                    go_simp
                    with_reducible rfl
                  rotate_left
                  · simp only [Act.put, List.setIfInBounds_toArray, List.set_cons_zero, List.set_cons_succ, i64_w, i32_w]
                    rfl
                  refine pure_ (i := 2) (N := some 35) (v := ?_) (a' := ?_) #[false, true, true, false, false, false, false] rfl rfl (by kernel_rfl) (fun _ _ _ h => h) (Or.inl ⟨by rfl, ?_⟩) ?_ ?_
                  rotate_left
                  · intro w'
                    go_simp
                    with_reducible rfl
                  rotate_left
                  · simp only [Act.put, List.setIfInBounds_toArray, List.set_cons_zero, List.set_cons_succ, i64_w, i32_w]
                    rfl
                  refine pure_ (i := 3) (N := some 36) (v := ?_) (a' := ?_) #[false, true, true, true, false, false, false] rfl rfl (by kernel_rfl) (fun _ _ _ h => h) (Or.inl ⟨by rfl, ?_⟩) ?_ ?_
                  rotate_left
                  · intro w'
                    go_simp
                    with_reducible rfl
                  rotate_left
                  · simp only [Act.put, List.setIfInBounds_toArray, List.set_cons_zero, List.set_cons_succ, i64_w, i32_w]
                    rfl
                  refine take_ (i := 0) (N := some 33) (v := ?_) (a' := ?_) #[true, true, true, true, false, false, false] rfl rfl (by kernel_rfl) (fun _ _ _ h => h) (Or.inl ⟨by rfl, ?_⟩) hHeld ?_ ?_
                  rotate_left
                  · rintro w' ⟨s0, s1, s2, s3, s4, s5, s6, s7⟩
                    go_simp
                    with_reducible rfl
                  rotate_left
                  · simp only [Act.put, List.setIfInBounds_toArray, List.set_cons_zero, List.set_cons_succ, i64_w, i32_w]
                    rfl
                  refine take_ (i := 4) (N := some 37) (v := ?_) (a' := ?_) #[true, true, true, true, true, false, false] rfl rfl (by kernel_rfl) (fun _ _ _ h => h) (Or.inl ⟨by rfl, ?_⟩) hHeld ?_ ?_
                  rotate_left
                  · rintro w' ⟨s0, s1, s2, s3, s4, s5, s6, s7⟩
                    go_simp
                    with_reducible rfl
                  rotate_left
                  · simp only [Act.put, List.setIfInBounds_toArray, List.set_cons_zero, List.set_cons_succ, i64_w, i32_w]
                    rfl
                  refine one_ (i := 5) (N := some 38) #[true, true, true, true, true, true, false] rfl rfl (by kernel_rfl) (by decide) (fun K hK => ?_)
                  refine goes_ Tryd.func28 (by kernel_rfl) rfl #[.agg #[.int .i64 t467, .int .i64 t468, .int .i64 t469, .int .i64 t470, .int .i64 t471], .agg #[.int .i64 ((rd_T23 l0 x9_1).f0), .int .i64 ((rd_T23 l0 x9_1).f1), .int .i64 ((rd_T23 l0 x9_1).f2)]] (by rfl) rfl rfl (by (try simp only [List.map_toArray, List.map_cons, List.map_nil]); first | done | rfl | (simp only [List.length_drop, List.length_take]; rfl)) ?_
                  with_reducible refine (place_Has.calls t467 t468 t469 t470 t471 ((rd_T23 l0 x9_1).f0) ((rd_T23 l0 x9_1).f1) ((rd_T23 l0 x9_1).f2) false _ A20.out).mono ?_
                  rintro e w32 ⟨rfl, hb⟩
                  refine ⟨_, rfl, ?_⟩
                  have n0_ := Aside0.mk (blk_below (g := gb459) (o := .cells #[.int .i64 a1_0, .int .i64 a1_1, .int .i64 a1_2, .int .i64 a1_3, .int .i64 a1_4] 25 (0, 0)) (by (with_reducible repeat (first | refine blk_drewN ?_ _ | refine blk_drew ?_ | refine blk_alloc ?_ _)); exact BK459.out) hb)
                  have n1_ := Aside0.mk (blk_below (g := gb473) (o := .cells #[.int .i64 t467, .int .i64 t468, .int .i64 t469, .int .i64 t470, .int .i64 t471] 25 (0, 0)) (by (with_reducible repeat (first | refine blk_drewN ?_ _ | refine blk_drew ?_ | refine blk_alloc ?_ _)); exact BK473.out) hb)
                  have n2_ := Aside0.mk (below_step (by repeat (first | (with_reducible first | exact HB.out | apply below_alloc | apply pw_below_drewN | apply below_drew1 | refine below_set ?_ GE459.out | refine below_set ?_ GE473.out) | exact HB.out)) hb)
                  clear BK459
                  clear BK473
                  clear HB
                  have BK459 := n0_
                  have BK473 := n1_
                  have HB := n2_
                  clear n0_ n1_ n2_
                  (try clear hb)
                  (try clear hb2)
                  (try clear hk)
                  (try clear hi)
                  refine hK.out _ _ ⟨(blk_cell BK473.out 0).trans rfl, (blk_cell BK473.out 1).trans rfl, (blk_cell BK473.out 2).trans rfl, (blk_cell BK473.out 3).trans rfl, (blk_cell BK473.out 4).trans rfl, ((HB.out.cell (World.block_lt_of_cell? w _ hw481_0)).trans hw481_0), ((HB.out.cell (World.block_lt_of_cell? w _ hw481_1)).trans hw481_1), ((HB.out.cell (World.block_lt_of_cell? w _ hw481_2)).trans hw481_2)⟩ (fun hHeld => ?_)
                  clear hK K
                  refine norm_ (a' := ?_) ?_ ?_
                  rotate_left
                  · show Act.put _ (some 38) _ = _
                    simp only [Act.put, List.setIfInBounds_toArray, List.set_cons_zero, List.set_cons_succ, i64_w, i32_w]
                    rfl
                  refine pure_ (i := 6) (N := some 39) (v := ?_) (a' := ?_) #[true, true, true, true, true, true, true] rfl rfl (by kernel_rfl) (fun _ _ _ h => h) (Or.inl ⟨by rfl, ?_⟩) ?_ ?_
                  rotate_left
                  · intro w'
                    go_simp
                    with_reducible rfl
                  rotate_left
                  · simp only [Act.put, List.setIfInBounds_toArray, List.set_cons_zero, List.set_cons_succ, i64_w, i32_w]
                    rfl
                  refine done_ (by kernel_rfl) ?_
                  try go_wp2
                  go_ret
                  exact ⟨by first | rfl | (simp [errW_none, errW_some] <;> rfl) | (simp [*, errW_none, errW_some] <;> rfl), by repeat (first | (with_reducible first | exact HB.out | apply below_alloc | apply pw_below_drewN | apply below_drew1 | refine below_set ?_ GE459.out | refine below_set ?_ GE473.out) | exact HB.out)⟩
              · rw [if_neg c19] at H
                exact absurd H (by simp)
            · rw [if_neg c18] at H
              have c18b0 : decide (x9_1 < (l0.length : Int)) = false := decide_eq_false c18
              clear c18
              replace H := Option.bind_eq_some_iff.mp H
              obtain ⟨⟨t474, t475, t476, t477, t478, t479⟩, A330, H⟩ := H
              replace H : (if x8_1 = true then (if t479 = true then (some (t474 == t467 && (t475 == t468 && (t476 == t469 && (t477 == t470 && (t478 == t471)))))) else (some false)) else (some true)) = some r := H
              have A33 := Aside0.mk A330
              clear A330
              by_cases c34 : x8_1 = true
              · subst c34
                have H1 : (if t479 = true then (some (t474 == t467 && (t475 == t468 && (t476 == t469 && (t477 == t470 && (t478 == t471)))))) else (some false)) = some r := by rw [if_pos rfl] at H; exact H
                clear H
                have H := H1
                clear H1
                by_cases c35 : t479 = true
                · subst c35
                  have H1 : (some (t474 == t467 && (t475 == t468 && (t476 == t469 && (t477 == t470 && (t478 == t471)))))) = some r := by rw [if_pos rfl] at H; exact H
                  clear H
                  have H := H1
                  clear H1
                  obtain rfl := Option.some.inj H
                  have hnb36 := NB473_459.out
                  have hnc36 := NB459_473.out
                  have hcz37_0 : wr.cell? ⟨gb473, 0, none⟩ = some (.int .i64 t467) := (blk_cell BK473.out 0).trans rfl
                  have hcz37_1 : wr.cell? ⟨gb473, 1, none⟩ = some (.int .i64 t468) := (blk_cell BK473.out 1).trans rfl
                  have hcz37_2 : wr.cell? ⟨gb473, 2, none⟩ = some (.int .i64 t469) := (blk_cell BK473.out 2).trans rfl
                  have hcz37_3 : wr.cell? ⟨gb473, 3, none⟩ = some (.int .i64 t470) := (blk_cell BK473.out 3).trans rfl
                  have hcz37_4 : wr.cell? ⟨gb473, 4, none⟩ = some (.int .i64 t471) := (blk_cell BK473.out 4).trans rfl
                  have hfz37_0 := blk_frozen BK473.out 0
                  have hfz37_1 := blk_frozen BK473.out 1
                  have hfz37_2 := blk_frozen BK473.out 2
                  have hfz37_3 := blk_frozen BK473.out 3
                  have hfz37_4 := blk_frozen BK473.out 4
                  have hcz38_0 : wr.cell? ⟨gb459, 0, none⟩ = some (.int .i64 a1_0) := (blk_cell BK459.out 0).trans rfl
                  have hcz38_1 : wr.cell? ⟨gb459, 1, none⟩ = some (.int .i64 a1_1) := (blk_cell BK459.out 1).trans rfl
                  have hcz38_2 : wr.cell? ⟨gb459, 2, none⟩ = some (.int .i64 a1_2) := (blk_cell BK459.out 2).trans rfl
                  have hcz38_3 : wr.cell? ⟨gb459, 3, none⟩ = some (.int .i64 a1_3) := (blk_cell BK459.out 3).trans rfl
                  have hcz38_4 : wr.cell? ⟨gb459, 4, none⟩ = some (.int .i64 a1_4) := (blk_cell BK459.out 4).trans rfl
                  have hfz38_0 := blk_frozen BK459.out 0
                  have hfz38_1 := blk_frozen BK459.out 1
                  have hfz38_2 := blk_frozen BK459.out 2
                  have hfz38_3 := blk_frozen BK459.out 3
                  have hfz38_4 := blk_frozen BK459.out 4
                  go_wp2_with (first | ((with_reducible refine gate_callee (f := 27) rfl ?_); refine goesL_ (some 52) rfl rfl Tryd.func27 (by kernel_rfl) rfl #[.agg #[.int .i64 t467, .int .i64 t468, .int .i64 t469, .int .i64 t470, .int .i64 t471], .agg #[.int .i64 a1_0, .int .i64 a1_1, .int .i64 a1_2, .int .i64 a1_3, .int .i64 a1_4]] rfl (by (try simp only [List.map_toArray, List.map_cons, List.map_nil]); first | done | rfl | (simp only [List.length_drop, List.length_take]; rfl)) ?_; (with_reducible refine (place_Meet.calls t467 t468 t469 t470 t471 a1_0 a1_1 a1_2 a1_3 a1_4 t474 t475 t476 t477 t478 true _ A33.out).mono ?_); rintro e w39 ⟨rfl, hb⟩; refine ⟨_, rfl, ?_⟩; have n0_ := Aside0.mk (blk_below (g := gb459) (o := .cells #[.int .i64 a1_0, .int .i64 a1_1, .int .i64 a1_2, .int .i64 a1_3, .int .i64 a1_4] 25 (0, 0)) (by (with_reducible repeat (first | refine blk_drewN ?_ _ | refine blk_drew ?_ | refine blk_alloc ?_ _)); exact BK459.out) hb); have n1_ := Aside0.mk (blk_below (g := gb473) (o := .cells #[.int .i64 t467, .int .i64 t468, .int .i64 t469, .int .i64 t470, .int .i64 t471] 25 (0, 0)) (by (with_reducible repeat (first | refine blk_drewN ?_ _ | refine blk_drew ?_ | refine blk_alloc ?_ _)); exact BK473.out) hb); have n2_ := Aside0.mk (below_step (by repeat (first | (with_reducible first | exact HB.out | apply below_alloc | apply pw_below_drewN | apply below_drew1 | refine below_set ?_ GE459.out | refine below_set ?_ GE473.out) | exact HB.out)) hb); clear BK459; clear BK473; clear HB; have BK459 := n0_; have BK473 := n1_; have HB := n2_; clear n0_ n1_ n2_; (try clear hb); (try clear hb2); (try clear hk); (try clear hi)) | ((with_reducible refine gate_dst (N := 10) rfl ?_); refine box_event ?hg (N := 10) ?hd (cs := #[.int .i64 0, .int .i64 0, .int .i64 0, .int .i64 0, .int .i64 0]) (t := 25) ?hr ?_; (case hd => rfl); (case hg => rfl); (case hr => first | (go_simp; done) | (go_simp; rfl)); intro gb480 hg w40 hbox hb; have n0_ := Aside0.mk (blk_below (g := gb459) (o := .cells #[.int .i64 a1_0, .int .i64 a1_1, .int .i64 a1_2, .int .i64 a1_3, .int .i64 a1_4] 25 (0, 0)) (by (with_reducible repeat (first | refine blk_drewN ?_ _ | refine blk_drew ?_ | refine blk_alloc ?_ _)); exact BK459.out) hb); have n1_ := Aside0.mk (blk_below (g := gb473) (o := .cells #[.int .i64 t467, .int .i64 t468, .int .i64 t469, .int .i64 t470, .int .i64 t471] 25 (0, 0)) (by (with_reducible repeat (first | refine blk_drewN ?_ _ | refine blk_drew ?_ | refine blk_alloc ?_ _)); exact BK473.out) hb); have n2_ := Aside0.mk (below_step (by repeat (first | (with_reducible first | exact HB.out | apply below_alloc | apply pw_below_drewN | apply below_drew1 | refine below_set ?_ GE459.out | refine below_set ?_ GE473.out) | exact HB.out)) hb); have n3_ := Aside0.mk (hbox); have n4_ := Aside0.mk ((by rw [hg]; exact (below_size (by repeat (first | (with_reducible first | exact HB.out | apply below_alloc | apply pw_below_drewN | apply below_drew1 | refine below_set ?_ GE459.out | refine below_set ?_ GE473.out) | exact HB.out))) : w.heap.size ≤ gb480)); have n5_ := Aside0.mk ((by rw [hg]; exact (below_size (by repeat (first | (with_reducible first | exact HB.out | apply below_alloc | apply pw_below_drewN | apply below_drew1 | refine below_set ?_ GE459.out | refine below_set ?_ GE473.out) | exact HB.out))) : w.heap.size ≤ gb480)); have n6_ := Aside0.mk ((by rw [hg]; exact Nat.ne_of_lt (blk_lt (g := gb459) (o := .cells #[.int .i64 a1_0, .int .i64 a1_1, .int .i64 a1_2, .int .i64 a1_3, .int .i64 a1_4] 25 (0, 0)) (by (with_reducible repeat (first | refine blk_drewN ?_ _ | refine blk_drew ?_ | refine blk_alloc ?_ _)); exact BK459.out)) : gb459 ≠ gb480)); have n7_ := Aside0.mk ((by rw [hg]; exact Nat.ne_of_gt (blk_lt (g := gb459) (o := .cells #[.int .i64 a1_0, .int .i64 a1_1, .int .i64 a1_2, .int .i64 a1_3, .int .i64 a1_4] 25 (0, 0)) (by (with_reducible repeat (first | refine blk_drewN ?_ _ | refine blk_drew ?_ | refine blk_alloc ?_ _)); exact BK459.out)) : gb480 ≠ gb459)); have n8_ := Aside0.mk ((by rw [hg]; exact Nat.ne_of_lt (blk_lt (g := gb473) (o := .cells #[.int .i64 t467, .int .i64 t468, .int .i64 t469, .int .i64 t470, .int .i64 t471] 25 (0, 0)) (by (with_reducible repeat (first | refine blk_drewN ?_ _ | refine blk_drew ?_ | refine blk_alloc ?_ _)); exact BK473.out)) : gb473 ≠ gb480)); have n9_ := Aside0.mk ((by rw [hg]; exact Nat.ne_of_gt (blk_lt (g := gb473) (o := .cells #[.int .i64 t467, .int .i64 t468, .int .i64 t469, .int .i64 t470, .int .i64 t471] 25 (0, 0)) (by (with_reducible repeat (first | refine blk_drewN ?_ _ | refine blk_drew ?_ | refine blk_alloc ?_ _)); exact BK473.out)) : gb480 ≠ gb473)); clear BK459; clear BK473; clear HB; have BK459 := n0_; have BK473 := n1_; have HB := n2_; have BK480 := n3_; have GW480 := n4_; have GE480 := n5_; have NB459_480 := n6_; have NB480_459 := n7_; have NB473_480 := n8_; have NB480_473 := n9_; clear n0_ n1_ n2_ n3_ n4_ n5_ n6_ n7_ n8_ n9_; clear hb hbox hg; have hnb41 := NB480_459.out; have hnc41 := NB459_480.out; have hnb42 := NB480_473.out; have hnc42 := NB473_480.out; have hcz43_0 : w40.cell? ⟨gb480, 0, none⟩ = some (.int .i64 0) := (blk_cell BK480.out 0).trans rfl; have hcz43_1 : w40.cell? ⟨gb480, 1, none⟩ = some (.int .i64 0) := (blk_cell BK480.out 1).trans rfl; have hcz43_2 : w40.cell? ⟨gb480, 2, none⟩ = some (.int .i64 0) := (blk_cell BK480.out 2).trans rfl; have hcz43_3 : w40.cell? ⟨gb480, 3, none⟩ = some (.int .i64 0) := (blk_cell BK480.out 3).trans rfl; have hcz43_4 : w40.cell? ⟨gb480, 4, none⟩ = some (.int .i64 0) := (blk_cell BK480.out 4).trans rfl; have hfz43_0 := blk_frozen BK480.out 0; have hfz43_1 := blk_frozen BK480.out 1; have hfz43_2 := blk_frozen BK480.out 2; have hfz43_3 := blk_frozen BK480.out 3; have hfz43_4 := blk_frozen BK480.out 4; have hcz44_0 : w40.cell? ⟨gb473, 0, none⟩ = some (.int .i64 t467) := (blk_cell BK473.out 0).trans rfl; have hcz44_1 : w40.cell? ⟨gb473, 1, none⟩ = some (.int .i64 t468) := (blk_cell BK473.out 1).trans rfl; have hcz44_2 : w40.cell? ⟨gb473, 2, none⟩ = some (.int .i64 t469) := (blk_cell BK473.out 2).trans rfl; have hcz44_3 : w40.cell? ⟨gb473, 3, none⟩ = some (.int .i64 t470) := (blk_cell BK473.out 3).trans rfl; have hcz44_4 : w40.cell? ⟨gb473, 4, none⟩ = some (.int .i64 t471) := (blk_cell BK473.out 4).trans rfl; have hfz44_0 := blk_frozen BK473.out 0; have hfz44_1 := blk_frozen BK473.out 1; have hfz44_2 := blk_frozen BK473.out 2; have hfz44_3 := blk_frozen BK473.out 3; have hfz44_4 := blk_frozen BK473.out 4))
                  go_ret
                  exact ⟨by first | rfl | (simp [errW_none, errW_some] <;> rfl) | (simp [*, errW_none, errW_some] <;> rfl), by repeat (first | (with_reducible first | exact HB.out | apply below_alloc | apply pw_below_drewN | apply below_drew1 | refine below_set ?_ GE459.out | refine below_set ?_ GE473.out | refine below_set ?_ GE480.out) | exact HB.out)⟩
                · replace c35 := Bool.eq_false_iff.mpr c35
                  subst c35
                  have H1 : (some false) = some r := by rw [if_neg (show ¬ (false = true) by decide)] at H; exact H
                  clear H
                  have H := H1
                  clear H1
                  obtain rfl := Option.some.inj H
                  have hnb45 := NB473_459.out
                  have hnc45 := NB459_473.out
                  have hcz46_0 : wr.cell? ⟨gb473, 0, none⟩ = some (.int .i64 t467) := (blk_cell BK473.out 0).trans rfl
                  have hcz46_1 : wr.cell? ⟨gb473, 1, none⟩ = some (.int .i64 t468) := (blk_cell BK473.out 1).trans rfl
                  have hcz46_2 : wr.cell? ⟨gb473, 2, none⟩ = some (.int .i64 t469) := (blk_cell BK473.out 2).trans rfl
                  have hcz46_3 : wr.cell? ⟨gb473, 3, none⟩ = some (.int .i64 t470) := (blk_cell BK473.out 3).trans rfl
                  have hcz46_4 : wr.cell? ⟨gb473, 4, none⟩ = some (.int .i64 t471) := (blk_cell BK473.out 4).trans rfl
                  have hfz46_0 := blk_frozen BK473.out 0
                  have hfz46_1 := blk_frozen BK473.out 1
                  have hfz46_2 := blk_frozen BK473.out 2
                  have hfz46_3 := blk_frozen BK473.out 3
                  have hfz46_4 := blk_frozen BK473.out 4
                  have hcz47_0 : wr.cell? ⟨gb459, 0, none⟩ = some (.int .i64 a1_0) := (blk_cell BK459.out 0).trans rfl
                  have hcz47_1 : wr.cell? ⟨gb459, 1, none⟩ = some (.int .i64 a1_1) := (blk_cell BK459.out 1).trans rfl
                  have hcz47_2 : wr.cell? ⟨gb459, 2, none⟩ = some (.int .i64 a1_2) := (blk_cell BK459.out 2).trans rfl
                  have hcz47_3 : wr.cell? ⟨gb459, 3, none⟩ = some (.int .i64 a1_3) := (blk_cell BK459.out 3).trans rfl
                  have hcz47_4 : wr.cell? ⟨gb459, 4, none⟩ = some (.int .i64 a1_4) := (blk_cell BK459.out 4).trans rfl
                  have hfz47_0 := blk_frozen BK459.out 0
                  have hfz47_1 := blk_frozen BK459.out 1
                  have hfz47_2 := blk_frozen BK459.out 2
                  have hfz47_3 := blk_frozen BK459.out 3
                  have hfz47_4 := blk_frozen BK459.out 4
                  go_wp2_with (first | ((with_reducible refine gate_callee (f := 27) rfl ?_); refine goesL_ (some 52) rfl rfl Tryd.func27 (by kernel_rfl) rfl #[.agg #[.int .i64 t467, .int .i64 t468, .int .i64 t469, .int .i64 t470, .int .i64 t471], .agg #[.int .i64 a1_0, .int .i64 a1_1, .int .i64 a1_2, .int .i64 a1_3, .int .i64 a1_4]] rfl (by (try simp only [List.map_toArray, List.map_cons, List.map_nil]); first | done | rfl | (simp only [List.length_drop, List.length_take]; rfl)) ?_; (with_reducible refine (place_Meet.calls t467 t468 t469 t470 t471 a1_0 a1_1 a1_2 a1_3 a1_4 t474 t475 t476 t477 t478 false _ A33.out).mono ?_); rintro e w48 ⟨rfl, hb⟩; refine ⟨_, rfl, ?_⟩; have n0_ := Aside0.mk (blk_below (g := gb459) (o := .cells #[.int .i64 a1_0, .int .i64 a1_1, .int .i64 a1_2, .int .i64 a1_3, .int .i64 a1_4] 25 (0, 0)) (by (with_reducible repeat (first | refine blk_drewN ?_ _ | refine blk_drew ?_ | refine blk_alloc ?_ _)); exact BK459.out) hb); have n1_ := Aside0.mk (blk_below (g := gb473) (o := .cells #[.int .i64 t467, .int .i64 t468, .int .i64 t469, .int .i64 t470, .int .i64 t471] 25 (0, 0)) (by (with_reducible repeat (first | refine blk_drewN ?_ _ | refine blk_drew ?_ | refine blk_alloc ?_ _)); exact BK473.out) hb); have n2_ := Aside0.mk (below_step (by repeat (first | (with_reducible first | exact HB.out | apply below_alloc | apply pw_below_drewN | apply below_drew1 | refine below_set ?_ GE459.out | refine below_set ?_ GE473.out) | exact HB.out)) hb); clear BK459; clear BK473; clear HB; have BK459 := n0_; have BK473 := n1_; have HB := n2_; clear n0_ n1_ n2_; (try clear hb); (try clear hb2); (try clear hk); (try clear hi)) | ((with_reducible refine gate_dst (N := 10) rfl ?_); refine box_event ?hg (N := 10) ?hd (cs := #[.int .i64 0, .int .i64 0, .int .i64 0, .int .i64 0, .int .i64 0]) (t := 25) ?hr ?_; (case hd => rfl); (case hg => rfl); (case hr => first | (go_simp; done) | (go_simp; rfl)); intro gb480 hg w49 hbox hb; have n0_ := Aside0.mk (blk_below (g := gb459) (o := .cells #[.int .i64 a1_0, .int .i64 a1_1, .int .i64 a1_2, .int .i64 a1_3, .int .i64 a1_4] 25 (0, 0)) (by (with_reducible repeat (first | refine blk_drewN ?_ _ | refine blk_drew ?_ | refine blk_alloc ?_ _)); exact BK459.out) hb); have n1_ := Aside0.mk (blk_below (g := gb473) (o := .cells #[.int .i64 t467, .int .i64 t468, .int .i64 t469, .int .i64 t470, .int .i64 t471] 25 (0, 0)) (by (with_reducible repeat (first | refine blk_drewN ?_ _ | refine blk_drew ?_ | refine blk_alloc ?_ _)); exact BK473.out) hb); have n2_ := Aside0.mk (below_step (by repeat (first | (with_reducible first | exact HB.out | apply below_alloc | apply pw_below_drewN | apply below_drew1 | refine below_set ?_ GE459.out | refine below_set ?_ GE473.out) | exact HB.out)) hb); have n3_ := Aside0.mk (hbox); have n4_ := Aside0.mk ((by rw [hg]; exact (below_size (by repeat (first | (with_reducible first | exact HB.out | apply below_alloc | apply pw_below_drewN | apply below_drew1 | refine below_set ?_ GE459.out | refine below_set ?_ GE473.out) | exact HB.out))) : w.heap.size ≤ gb480)); have n5_ := Aside0.mk ((by rw [hg]; exact (below_size (by repeat (first | (with_reducible first | exact HB.out | apply below_alloc | apply pw_below_drewN | apply below_drew1 | refine below_set ?_ GE459.out | refine below_set ?_ GE473.out) | exact HB.out))) : w.heap.size ≤ gb480)); have n6_ := Aside0.mk ((by rw [hg]; exact Nat.ne_of_lt (blk_lt (g := gb459) (o := .cells #[.int .i64 a1_0, .int .i64 a1_1, .int .i64 a1_2, .int .i64 a1_3, .int .i64 a1_4] 25 (0, 0)) (by (with_reducible repeat (first | refine blk_drewN ?_ _ | refine blk_drew ?_ | refine blk_alloc ?_ _)); exact BK459.out)) : gb459 ≠ gb480)); have n7_ := Aside0.mk ((by rw [hg]; exact Nat.ne_of_gt (blk_lt (g := gb459) (o := .cells #[.int .i64 a1_0, .int .i64 a1_1, .int .i64 a1_2, .int .i64 a1_3, .int .i64 a1_4] 25 (0, 0)) (by (with_reducible repeat (first | refine blk_drewN ?_ _ | refine blk_drew ?_ | refine blk_alloc ?_ _)); exact BK459.out)) : gb480 ≠ gb459)); have n8_ := Aside0.mk ((by rw [hg]; exact Nat.ne_of_lt (blk_lt (g := gb473) (o := .cells #[.int .i64 t467, .int .i64 t468, .int .i64 t469, .int .i64 t470, .int .i64 t471] 25 (0, 0)) (by (with_reducible repeat (first | refine blk_drewN ?_ _ | refine blk_drew ?_ | refine blk_alloc ?_ _)); exact BK473.out)) : gb473 ≠ gb480)); have n9_ := Aside0.mk ((by rw [hg]; exact Nat.ne_of_gt (blk_lt (g := gb473) (o := .cells #[.int .i64 t467, .int .i64 t468, .int .i64 t469, .int .i64 t470, .int .i64 t471] 25 (0, 0)) (by (with_reducible repeat (first | refine blk_drewN ?_ _ | refine blk_drew ?_ | refine blk_alloc ?_ _)); exact BK473.out)) : gb480 ≠ gb473)); clear BK459; clear BK473; clear HB; have BK459 := n0_; have BK473 := n1_; have HB := n2_; have BK480 := n3_; have GW480 := n4_; have GE480 := n5_; have NB459_480 := n6_; have NB480_459 := n7_; have NB473_480 := n8_; have NB480_473 := n9_; clear n0_ n1_ n2_ n3_ n4_ n5_ n6_ n7_ n8_ n9_; clear hb hbox hg; have hnb50 := NB480_459.out; have hnc50 := NB459_480.out; have hnb51 := NB480_473.out; have hnc51 := NB473_480.out; have hcz52_0 : w49.cell? ⟨gb480, 0, none⟩ = some (.int .i64 0) := (blk_cell BK480.out 0).trans rfl; have hcz52_1 : w49.cell? ⟨gb480, 1, none⟩ = some (.int .i64 0) := (blk_cell BK480.out 1).trans rfl; have hcz52_2 : w49.cell? ⟨gb480, 2, none⟩ = some (.int .i64 0) := (blk_cell BK480.out 2).trans rfl; have hcz52_3 : w49.cell? ⟨gb480, 3, none⟩ = some (.int .i64 0) := (blk_cell BK480.out 3).trans rfl; have hcz52_4 : w49.cell? ⟨gb480, 4, none⟩ = some (.int .i64 0) := (blk_cell BK480.out 4).trans rfl; have hfz52_0 := blk_frozen BK480.out 0; have hfz52_1 := blk_frozen BK480.out 1; have hfz52_2 := blk_frozen BK480.out 2; have hfz52_3 := blk_frozen BK480.out 3; have hfz52_4 := blk_frozen BK480.out 4))
                  go_ret
                  exact ⟨by first | rfl | (simp [errW_none, errW_some] <;> rfl) | (simp [*, errW_none, errW_some] <;> rfl), by repeat (first | (with_reducible first | exact HB.out | apply below_alloc | apply pw_below_drewN | apply below_drew1 | refine below_set ?_ GE459.out | refine below_set ?_ GE473.out | refine below_set ?_ GE480.out) | exact HB.out)⟩
              · replace c34 := Bool.eq_false_iff.mpr c34
                subst c34
                have H1 : (some true) = some r := by rw [if_neg (show ¬ (false = true) by decide)] at H; exact H
                clear H
                have H := H1
                clear H1
                obtain rfl := Option.some.inj H
                have hnb53 := NB473_459.out
                have hnc53 := NB459_473.out
                have hcz54_0 : wr.cell? ⟨gb473, 0, none⟩ = some (.int .i64 t467) := (blk_cell BK473.out 0).trans rfl
                have hcz54_1 : wr.cell? ⟨gb473, 1, none⟩ = some (.int .i64 t468) := (blk_cell BK473.out 1).trans rfl
                have hcz54_2 : wr.cell? ⟨gb473, 2, none⟩ = some (.int .i64 t469) := (blk_cell BK473.out 2).trans rfl
                have hcz54_3 : wr.cell? ⟨gb473, 3, none⟩ = some (.int .i64 t470) := (blk_cell BK473.out 3).trans rfl
                have hcz54_4 : wr.cell? ⟨gb473, 4, none⟩ = some (.int .i64 t471) := (blk_cell BK473.out 4).trans rfl
                have hfz54_0 := blk_frozen BK473.out 0
                have hfz54_1 := blk_frozen BK473.out 1
                have hfz54_2 := blk_frozen BK473.out 2
                have hfz54_3 := blk_frozen BK473.out 3
                have hfz54_4 := blk_frozen BK473.out 4
                have hcz55_0 : wr.cell? ⟨gb459, 0, none⟩ = some (.int .i64 a1_0) := (blk_cell BK459.out 0).trans rfl
                have hcz55_1 : wr.cell? ⟨gb459, 1, none⟩ = some (.int .i64 a1_1) := (blk_cell BK459.out 1).trans rfl
                have hcz55_2 : wr.cell? ⟨gb459, 2, none⟩ = some (.int .i64 a1_2) := (blk_cell BK459.out 2).trans rfl
                have hcz55_3 : wr.cell? ⟨gb459, 3, none⟩ = some (.int .i64 a1_3) := (blk_cell BK459.out 3).trans rfl
                have hcz55_4 : wr.cell? ⟨gb459, 4, none⟩ = some (.int .i64 a1_4) := (blk_cell BK459.out 4).trans rfl
                have hfz55_0 := blk_frozen BK459.out 0
                have hfz55_1 := blk_frozen BK459.out 1
                have hfz55_2 := blk_frozen BK459.out 2
                have hfz55_3 := blk_frozen BK459.out 3
                have hfz55_4 := blk_frozen BK459.out 4
                go_wp2_with (first | ((with_reducible refine gate_callee (f := 27) rfl ?_); refine goesL_ (some 52) rfl rfl Tryd.func27 (by kernel_rfl) rfl #[.agg #[.int .i64 t467, .int .i64 t468, .int .i64 t469, .int .i64 t470, .int .i64 t471], .agg #[.int .i64 a1_0, .int .i64 a1_1, .int .i64 a1_2, .int .i64 a1_3, .int .i64 a1_4]] rfl (by (try simp only [List.map_toArray, List.map_cons, List.map_nil]); first | done | rfl | (simp only [List.length_drop, List.length_take]; rfl)) ?_; (with_reducible refine (place_Meet.calls t467 t468 t469 t470 t471 a1_0 a1_1 a1_2 a1_3 a1_4 t474 t475 t476 t477 t478 t479 _ A33.out).mono ?_); rintro e w56 ⟨rfl, hb⟩; refine ⟨_, rfl, ?_⟩; have n0_ := Aside0.mk (blk_below (g := gb459) (o := .cells #[.int .i64 a1_0, .int .i64 a1_1, .int .i64 a1_2, .int .i64 a1_3, .int .i64 a1_4] 25 (0, 0)) (by (with_reducible repeat (first | refine blk_drewN ?_ _ | refine blk_drew ?_ | refine blk_alloc ?_ _)); exact BK459.out) hb); have n1_ := Aside0.mk (blk_below (g := gb473) (o := .cells #[.int .i64 t467, .int .i64 t468, .int .i64 t469, .int .i64 t470, .int .i64 t471] 25 (0, 0)) (by (with_reducible repeat (first | refine blk_drewN ?_ _ | refine blk_drew ?_ | refine blk_alloc ?_ _)); exact BK473.out) hb); have n2_ := Aside0.mk (below_step (by repeat (first | (with_reducible first | exact HB.out | apply below_alloc | apply pw_below_drewN | apply below_drew1 | refine below_set ?_ GE459.out | refine below_set ?_ GE473.out) | exact HB.out)) hb); clear BK459; clear BK473; clear HB; have BK459 := n0_; have BK473 := n1_; have HB := n2_; clear n0_ n1_ n2_; (try clear hb); (try clear hb2); (try clear hk); (try clear hi)) | ((with_reducible refine gate_dst (N := 10) rfl ?_); refine box_event ?hg (N := 10) ?hd (cs := #[.int .i64 0, .int .i64 0, .int .i64 0, .int .i64 0, .int .i64 0]) (t := 25) ?hr ?_; (case hd => rfl); (case hg => rfl); (case hr => first | (go_simp; done) | (go_simp; rfl)); intro gb480 hg w57 hbox hb; have n0_ := Aside0.mk (blk_below (g := gb459) (o := .cells #[.int .i64 a1_0, .int .i64 a1_1, .int .i64 a1_2, .int .i64 a1_3, .int .i64 a1_4] 25 (0, 0)) (by (with_reducible repeat (first | refine blk_drewN ?_ _ | refine blk_drew ?_ | refine blk_alloc ?_ _)); exact BK459.out) hb); have n1_ := Aside0.mk (blk_below (g := gb473) (o := .cells #[.int .i64 t467, .int .i64 t468, .int .i64 t469, .int .i64 t470, .int .i64 t471] 25 (0, 0)) (by (with_reducible repeat (first | refine blk_drewN ?_ _ | refine blk_drew ?_ | refine blk_alloc ?_ _)); exact BK473.out) hb); have n2_ := Aside0.mk (below_step (by repeat (first | (with_reducible first | exact HB.out | apply below_alloc | apply pw_below_drewN | apply below_drew1 | refine below_set ?_ GE459.out | refine below_set ?_ GE473.out) | exact HB.out)) hb); have n3_ := Aside0.mk (hbox); have n4_ := Aside0.mk ((by rw [hg]; exact (below_size (by repeat (first | (with_reducible first | exact HB.out | apply below_alloc | apply pw_below_drewN | apply below_drew1 | refine below_set ?_ GE459.out | refine below_set ?_ GE473.out) | exact HB.out))) : w.heap.size ≤ gb480)); have n5_ := Aside0.mk ((by rw [hg]; exact (below_size (by repeat (first | (with_reducible first | exact HB.out | apply below_alloc | apply pw_below_drewN | apply below_drew1 | refine below_set ?_ GE459.out | refine below_set ?_ GE473.out) | exact HB.out))) : w.heap.size ≤ gb480)); have n6_ := Aside0.mk ((by rw [hg]; exact Nat.ne_of_lt (blk_lt (g := gb459) (o := .cells #[.int .i64 a1_0, .int .i64 a1_1, .int .i64 a1_2, .int .i64 a1_3, .int .i64 a1_4] 25 (0, 0)) (by (with_reducible repeat (first | refine blk_drewN ?_ _ | refine blk_drew ?_ | refine blk_alloc ?_ _)); exact BK459.out)) : gb459 ≠ gb480)); have n7_ := Aside0.mk ((by rw [hg]; exact Nat.ne_of_gt (blk_lt (g := gb459) (o := .cells #[.int .i64 a1_0, .int .i64 a1_1, .int .i64 a1_2, .int .i64 a1_3, .int .i64 a1_4] 25 (0, 0)) (by (with_reducible repeat (first | refine blk_drewN ?_ _ | refine blk_drew ?_ | refine blk_alloc ?_ _)); exact BK459.out)) : gb480 ≠ gb459)); have n8_ := Aside0.mk ((by rw [hg]; exact Nat.ne_of_lt (blk_lt (g := gb473) (o := .cells #[.int .i64 t467, .int .i64 t468, .int .i64 t469, .int .i64 t470, .int .i64 t471] 25 (0, 0)) (by (with_reducible repeat (first | refine blk_drewN ?_ _ | refine blk_drew ?_ | refine blk_alloc ?_ _)); exact BK473.out)) : gb473 ≠ gb480)); have n9_ := Aside0.mk ((by rw [hg]; exact Nat.ne_of_gt (blk_lt (g := gb473) (o := .cells #[.int .i64 t467, .int .i64 t468, .int .i64 t469, .int .i64 t470, .int .i64 t471] 25 (0, 0)) (by (with_reducible repeat (first | refine blk_drewN ?_ _ | refine blk_drew ?_ | refine blk_alloc ?_ _)); exact BK473.out)) : gb480 ≠ gb473)); clear BK459; clear BK473; clear HB; have BK459 := n0_; have BK473 := n1_; have HB := n2_; have BK480 := n3_; have GW480 := n4_; have GE480 := n5_; have NB459_480 := n6_; have NB480_459 := n7_; have NB473_480 := n8_; have NB480_473 := n9_; clear n0_ n1_ n2_ n3_ n4_ n5_ n6_ n7_ n8_ n9_; clear hb hbox hg; have hnb58 := NB480_459.out; have hnc58 := NB459_480.out; have hnb59 := NB480_473.out; have hnc59 := NB473_480.out; have hcz60_0 : w57.cell? ⟨gb480, 0, none⟩ = some (.int .i64 0) := (blk_cell BK480.out 0).trans rfl; have hcz60_1 : w57.cell? ⟨gb480, 1, none⟩ = some (.int .i64 0) := (blk_cell BK480.out 1).trans rfl; have hcz60_2 : w57.cell? ⟨gb480, 2, none⟩ = some (.int .i64 0) := (blk_cell BK480.out 2).trans rfl; have hcz60_3 : w57.cell? ⟨gb480, 3, none⟩ = some (.int .i64 0) := (blk_cell BK480.out 3).trans rfl; have hcz60_4 : w57.cell? ⟨gb480, 4, none⟩ = some (.int .i64 0) := (blk_cell BK480.out 4).trans rfl; have hfz60_0 := blk_frozen BK480.out 0; have hfz60_1 := blk_frozen BK480.out 1; have hfz60_2 := blk_frozen BK480.out 2; have hfz60_3 := blk_frozen BK480.out 3; have hfz60_4 := blk_frozen BK480.out 4))
                go_ret
                exact ⟨by first | rfl | (simp [errW_none, errW_some] <;> rfl) | (simp [*, errW_none, errW_some] <;> rfl), by repeat (first | (with_reducible first | exact HB.out | apply below_alloc | apply pw_below_drewN | apply below_drew1 | refine below_set ?_ GE459.out | refine below_set ?_ GE473.out | refine below_set ?_ GE480.out) | exact HB.out)⟩
      · replace c7 := Bool.eq_false_iff.mpr c7
        subst c7
        have H1 : (some (t467 == 0 && (t468 == 0 && (t469 == 0 && (t470 == 0 && (t471 == 0)))))) = some r := by rw [if_neg (show ¬ (false = true) by decide)] at H; exact H
        clear H
        have H := H1
        clear H1
        obtain rfl := Option.some.inj H
        go_enter Tryd.func10, Tryd.ntmps10
        go_wp2_with (first | ((with_reducible refine gate_dst (N := 3) rfl ?_); refine box_event ?hg (N := 3) ?hd (cs := #[.int .i64 a1_0, .int .i64 a1_1, .int .i64 a1_2, .int .i64 a1_3, .int .i64 a1_4]) (t := 25) ?hr ?_; (case hd => rfl); (case hg => rfl); (case hr => first | (go_simp; done) | (go_simp; rfl)); intro gb459 hg w61 hbox hb; have n0_ := Aside0.mk (below_step (by repeat (first | (with_reducible first | exact HB.out | apply below_alloc | apply pw_below_drewN | apply below_drew1) | exact HB.out)) hb); have n1_ := Aside0.mk (hbox); have n2_ := Aside0.mk ((by rw [hg]; exact (below_size (by repeat (first | (with_reducible first | exact HB.out | apply below_alloc | apply pw_below_drewN | apply below_drew1) | exact HB.out))) : w.heap.size ≤ gb459)); have n3_ := Aside0.mk ((by rw [hg]; exact (below_size (by repeat (first | (with_reducible first | exact HB.out | apply below_alloc | apply pw_below_drewN | apply below_drew1) | exact HB.out))) : w.heap.size ≤ gb459)); clear HB; have HB := n0_; have BK459 := n1_; have GW459 := n2_; have GE459 := n3_; clear n0_ n1_ n2_ n3_; clear hb hbox hg) | ((with_reducible refine gate_callee (f := 16) rfl ?_); refine goesL_ (some 12) rfl rfl Tryd.func16 (by kernel_rfl) rfl #[] rfl (by (try simp only [List.map_toArray, List.map_cons, List.map_nil]); first | done | rfl | (simp only [List.length_drop, List.length_take]; rfl)) ?_; (with_reducible refine (whittlelaw3_able.calls  true _ A3.out).mono ?_); rintro e w62 ⟨rfl, hb⟩; refine ⟨_, rfl, ?_⟩; have n0_ := Aside0.mk (blk_below (g := gb459) (o := .cells #[.int .i64 a1_0, .int .i64 a1_1, .int .i64 a1_2, .int .i64 a1_3, .int .i64 a1_4] 25 (0, 0)) (by (with_reducible repeat (first | refine blk_drewN ?_ _ | refine blk_drew ?_ | refine blk_alloc ?_ _)); exact BK459.out) hb); have n1_ := Aside0.mk (below_step (by repeat (first | (with_reducible first | exact HB.out | apply below_alloc | apply pw_below_drewN | apply below_drew1 | refine below_set ?_ GE459.out) | exact HB.out)) hb); clear BK459; clear HB; have BK459 := n0_; have HB := n1_; clear n0_ n1_; (try clear hb); (try clear hb2); (try clear hk); (try clear hi)) | ((with_reducible refine gate_dst (N := 14) rfl ?_); refine Kd.R_lit k23 _ 23 ?hg (N := 14) ?hd (xs := ([] : List (S23))) (inner := []) (ok := fun _ => True) (okp := fun _ => True) ?hr ?hp (fun _ hk => hk) trivial (Below.refl _ _) (Nat.le_refl _) (by simp) ?_; (case hd => rfl); (case hg => rfl); (case hr => first | (go_simp; done) | (go_simp; rfl)); (case hp => exact (Reps.none _ _)); intro v462 w63 ho64 hb hg_ hnew_; clear hg_ hnew_; (first | rw [← Ny461.out] at ho64 | (simp only [Int.reduceToNat] at ho64; rw [← Ny461.out] at ho64)); have n0_ := Aside0.mk (Kd.R_lower ho64 (below_size (by repeat (first | (with_reducible first | exact HB.out | apply below_alloc | apply pw_below_drewN | apply below_drew1 | refine below_set ?_ GE459.out) | exact HB.out)))); have n1_ := Aside0.mk (blk_below (g := gb459) (o := .cells #[.int .i64 a1_0, .int .i64 a1_1, .int .i64 a1_2, .int .i64 a1_3, .int .i64 a1_4] 25 (0, 0)) (by (with_reducible repeat (first | refine blk_drewN ?_ _ | refine blk_drew ?_ | refine blk_alloc ?_ _)); exact BK459.out) hb); have n2_ := Aside0.mk (below_step (by repeat (first | (with_reducible first | exact HB.out | apply below_alloc | apply pw_below_drewN | apply below_drew1 | refine below_set ?_ GE459.out) | exact HB.out)) hb); clear BK459; clear HB; have HO463 := n0_; have BK459 := n1_; have HB := n2_; clear n0_ n1_ n2_; clear hb ho64) | ((with_reducible refine gate_builtin (b := .append) (xs := #[.tmp 14, .tmp 15]) rfl ?_); at_builtin; refine Kd.R_append_rows k23 (w0 := w) w.heap.size rfl (.tmp 14) (.tmp 15) 42 23 (.agg #[(.int .i64 0), (.int .i64 0), (.int .i64 0)]) 24 rfl Tryd.underlying42 info23 rfl (by decide) (by omega) v462 y461 l0 _ _ _ (fun _ => True) (fun _ => False) rfl rfl ?aO ?aR (fun _ _ h => h) (fun _ h => h.elim) ?aF ?aB ?aS ?aL ?_; (case aR => repeat (first | exact (Kd.C_below HR0.out HB.out) | (with_reducible refine Kd.C_alloc ?_ _) | (with_reducible refine Kd.C_drewN ?_ _) | (with_reducible refine Kd.C_drew ?_))); (case aB => exact (by repeat (first | (with_reducible first | exact HB.out | apply below_alloc | apply pw_below_drewN | apply below_drew1 | refine below_set ?_ GE459.out) | exact HB.out))); (case aF => exact (fun _ _ => trivial)); (case aO => exact (by (with_reducible repeat (first | apply Kd.R_alloc | apply Kd.R_drewN | apply Kd.R_drew)); exact HO463.out)); (case aS => exact (below_size (by repeat (first | (with_reducible first | exact HB.out | apply below_alloc | apply pw_below_drewN | apply below_drew1 | refine below_set ?_ GE459.out) | exact HB.out)))); (case aL => have := LMc5.out; omega); intro v465 w65 ho hb hg hat; rw [← Ny464.out] at ho; have n0_ := Aside0.mk (blk_grown (g := gb459) (o := .cells #[.int .i64 a1_0, .int .i64 a1_1, .int .i64 a1_2, .int .i64 a1_3, .int .i64 a1_4] 25 (0, 0)) (by (with_reducible repeat (first | refine blk_drewN ?_ _ | refine blk_drew ?_ | refine blk_alloc ?_ _)); exact BK459.out) hg (Kd.R_ne HO463.out BK459.out (by decide))); have n1_ := Aside0.mk (hb); have n2_ := Aside0.mk (ho); clear BK459; clear HB; clear HO463; have BK459 := n0_; have HB := n1_; have HO466 := n2_; clear n0_ n1_ n2_; clear ho hb hg hat; obtain ⟨Ao66, co66, eo66⟩ := Kd.R_slice HO466.out; subst eo66) | ((with_reducible refine gate_callee (f := 31) rfl ?_); refine goesL_ (some 19) rfl rfl Tryd.func31 (by kernel_rfl) rfl #[.slice Ao66 y464.length co66] rfl (by (try simp only [List.map_toArray, List.map_cons, List.map_nil]); first | done | rfl | (simp only [List.length_drop, List.length_take]; rfl)) ?_; (with_reducible refine (place_Hull.calls k _ _ y464 t467 t468 t469 t470 t471 false _ ?side1 ?side2 A6.out).mono ?_); (case side1 => repeat (first | exact (Kd.R_reads' HO466.out).2.2 | (with_reducible refine Kd.C_alloc ?_ _) | (with_reducible refine Kd.C_drewN ?_ _) | (with_reducible refine Kd.C_drew ?_))); (case side2 => exact (Kd.R_reads' HO466.out).2.1); rintro e w67 ⟨rfl, hb⟩; refine ⟨_, rfl, ?_⟩; have n0_ := Aside0.mk (Kd.R_below (by (with_reducible repeat (first | apply Kd.R_alloc | apply Kd.R_drewN | apply Kd.R_drew)); exact HO466.out) hb); have n1_ := Aside0.mk (blk_below (g := gb459) (o := .cells #[.int .i64 a1_0, .int .i64 a1_1, .int .i64 a1_2, .int .i64 a1_3, .int .i64 a1_4] 25 (0, 0)) (by (with_reducible repeat (first | refine blk_drewN ?_ _ | refine blk_drew ?_ | refine blk_alloc ?_ _)); exact BK459.out) hb); have n2_ := Aside0.mk (below_step (by repeat (first | (with_reducible first | exact HB.out | apply below_alloc | apply pw_below_drewN | apply below_drew1 | refine below_set ?_ GE459.out) | exact HB.out)) hb); clear HO466; clear BK459; clear HB; have HO466 := n0_; have BK459 := n1_; have HB := n2_; clear n0_ n1_ n2_; (try clear hb); (try clear hb2); (try clear hk); (try clear hi)) | ((with_reducible refine gate_dst (N := 6) rfl ?_); refine box_event ?hg (N := 6) ?hd (cs := #[.int .i64 0, .int .i64 0, .int .i64 0, .int .i64 0, .int .i64 0]) (t := 25) ?hr ?_; (case hd => rfl); (case hg => rfl); (case hr => first | (go_simp; done) | (go_simp; rfl)); intro gb473 hg w68 hbox hb; have n0_ := Aside0.mk (Kd.R_below (by (with_reducible repeat (first | apply Kd.R_alloc | apply Kd.R_drewN | apply Kd.R_drew)); exact HO466.out) hb); have n1_ := Aside0.mk (blk_below (g := gb459) (o := .cells #[.int .i64 a1_0, .int .i64 a1_1, .int .i64 a1_2, .int .i64 a1_3, .int .i64 a1_4] 25 (0, 0)) (by (with_reducible repeat (first | refine blk_drewN ?_ _ | refine blk_drew ?_ | refine blk_alloc ?_ _)); exact BK459.out) hb); have n2_ := Aside0.mk (below_step (by repeat (first | (with_reducible first | exact HB.out | apply below_alloc | apply pw_below_drewN | apply below_drew1 | refine below_set ?_ GE459.out) | exact HB.out)) hb); have n3_ := Aside0.mk (hbox); have n4_ := Aside0.mk ((by rw [hg]; exact (below_size (by repeat (first | (with_reducible first | exact HB.out | apply below_alloc | apply pw_below_drewN | apply below_drew1 | refine below_set ?_ GE459.out) | exact HB.out))) : w.heap.size ≤ gb473)); have n5_ := Aside0.mk ((by rw [hg]; exact (below_size (by repeat (first | (with_reducible first | exact HB.out | apply below_alloc | apply pw_below_drewN | apply below_drew1 | refine below_set ?_ GE459.out) | exact HB.out))) : w.heap.size ≤ gb473)); have n6_ := Aside0.mk ((by rw [hg]; exact Nat.ne_of_lt (blk_lt (g := gb459) (o := .cells #[.int .i64 a1_0, .int .i64 a1_1, .int .i64 a1_2, .int .i64 a1_3, .int .i64 a1_4] 25 (0, 0)) (by (with_reducible repeat (first | refine blk_drewN ?_ _ | refine blk_drew ?_ | refine blk_alloc ?_ _)); exact BK459.out)) : gb459 ≠ gb473)); have n7_ := Aside0.mk ((by rw [hg]; exact Nat.ne_of_gt (blk_lt (g := gb459) (o := .cells #[.int .i64 a1_0, .int .i64 a1_1, .int .i64 a1_2, .int .i64 a1_3, .int .i64 a1_4] 25 (0, 0)) (by (with_reducible repeat (first | refine blk_drewN ?_ _ | refine blk_drew ?_ | refine blk_alloc ?_ _)); exact BK459.out)) : gb473 ≠ gb459)); clear HO466; clear BK459; clear HB; have HO466 := n0_; have BK459 := n1_; have HB := n2_; have BK473 := n3_; have GW473 := n4_; have GE473 := n5_; have NB459_473 := n6_; have NB473_459 := n7_; clear n0_ n1_ n2_ n3_ n4_ n5_ n6_ n7_; clear hb hbox hg; have hnb69 := NB473_459.out; have hnc69 := NB459_473.out; have hcz70_0 : w68.cell? ⟨gb473, 0, none⟩ = some (.int .i64 0) := (blk_cell BK473.out 0).trans rfl; have hcz70_1 : w68.cell? ⟨gb473, 1, none⟩ = some (.int .i64 0) := (blk_cell BK473.out 1).trans rfl; have hcz70_2 : w68.cell? ⟨gb473, 2, none⟩ = some (.int .i64 0) := (blk_cell BK473.out 2).trans rfl; have hcz70_3 : w68.cell? ⟨gb473, 3, none⟩ = some (.int .i64 0) := (blk_cell BK473.out 3).trans rfl; have hcz70_4 : w68.cell? ⟨gb473, 4, none⟩ = some (.int .i64 0) := (blk_cell BK473.out 4).trans rfl; have hfz70_0 := blk_frozen BK473.out 0; have hfz70_1 := blk_frozen BK473.out 1; have hfz70_2 := blk_frozen BK473.out 2; have hfz70_3 := blk_frozen BK473.out 3; have hfz70_4 := blk_frozen BK473.out 4))
        go_ret
        exact ⟨by first | rfl | (simp [errW_none, errW_some] <;> rfl) | (simp [*, errW_none, errW_some] <;> rfl), by repeat (first | (with_reducible first | exact HB.out | apply below_alloc | apply pw_below_drewN | apply below_drew1 | refine below_set ?_ GE459.out | refine below_set ?_ GE473.out) | exact HB.out)⟩
    · rw [if_neg c5] at H
      exact absurd H (by simp)
  · replace c4 := Bool.eq_false_iff.mpr c4
    subst c4
    have H1 : (some false) = some r := by rw [if_neg (show ¬ (false = true) by decide)] at H; exact H
    clear H
    have H := H1
    clear H1
    obtain rfl := Option.some.inj H
    go_enter Tryd.func10, Tryd.ntmps10
    go_wp2_with (first | ((with_reducible refine gate_dst (N := 3) rfl ?_); refine box_event ?hg (N := 3) ?hd (cs := #[.int .i64 a1_0, .int .i64 a1_1, .int .i64 a1_2, .int .i64 a1_3, .int .i64 a1_4]) (t := 25) ?hr ?_; (case hd => rfl); (case hg => rfl); (case hr => first | (go_simp; done) | (go_simp; rfl)); intro gb459 hg w71 hbox hb; have n0_ := Aside0.mk (below_step (by repeat (first | (with_reducible first | exact HB.out | apply below_alloc | apply pw_below_drewN | apply below_drew1) | exact HB.out)) hb); have n1_ := Aside0.mk (hbox); have n2_ := Aside0.mk ((by rw [hg]; exact (below_size (by repeat (first | (with_reducible first | exact HB.out | apply below_alloc | apply pw_below_drewN | apply below_drew1) | exact HB.out))) : w.heap.size ≤ gb459)); have n3_ := Aside0.mk ((by rw [hg]; exact (below_size (by repeat (first | (with_reducible first | exact HB.out | apply below_alloc | apply pw_below_drewN | apply below_drew1) | exact HB.out))) : w.heap.size ≤ gb459)); clear HB; have HB := n0_; have BK459 := n1_; have GW459 := n2_; have GE459 := n3_; clear n0_ n1_ n2_ n3_; clear hb hbox hg) | ((with_reducible refine gate_callee (f := 16) rfl ?_); refine goesL_ (some 12) rfl rfl Tryd.func16 (by kernel_rfl) rfl #[] rfl (by (try simp only [List.map_toArray, List.map_cons, List.map_nil]); first | done | rfl | (simp only [List.length_drop, List.length_take]; rfl)) ?_; (with_reducible refine (whittlelaw3_able.calls  false _ A3.out).mono ?_); rintro e w72 ⟨rfl, hb⟩; refine ⟨_, rfl, ?_⟩; have n0_ := Aside0.mk (blk_below (g := gb459) (o := .cells #[.int .i64 a1_0, .int .i64 a1_1, .int .i64 a1_2, .int .i64 a1_3, .int .i64 a1_4] 25 (0, 0)) (by (with_reducible repeat (first | refine blk_drewN ?_ _ | refine blk_drew ?_ | refine blk_alloc ?_ _)); exact BK459.out) hb); have n1_ := Aside0.mk (below_step (by repeat (first | (with_reducible first | exact HB.out | apply below_alloc | apply pw_below_drewN | apply below_drew1 | refine below_set ?_ GE459.out) | exact HB.out)) hb); clear BK459; clear HB; have BK459 := n0_; have HB := n1_; clear n0_ n1_; (try clear hb); (try clear hb2); (try clear hk); (try clear hi)))
    go_ret
    exact ⟨by first | rfl | (simp [errW_none, errW_some] <;> rfl) | (simp [*, errW_none, errW_some] <;> rfl), by repeat (first | (with_reducible first | exact HB.out | apply below_alloc | apply pw_below_drewN | apply below_drew1 | refine below_set ?_ GE459.out) | exact HB.out)⟩

end Go.Proofs.YtijmipnafhljkaaDoor.P
