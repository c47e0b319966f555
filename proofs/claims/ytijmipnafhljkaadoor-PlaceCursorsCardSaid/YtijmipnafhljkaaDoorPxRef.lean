-- Written by a program of this session: YtijmipnafhljkaaDoorPx41, YtijmipnafhljkaaDoorPx42, YtijmipnafhljkaaDoorPx56, YtijmipnafhljkaaDoorPx70, YtijmipnafhljkaaDoorPx71, YtijmipnafhljkaaDoorPx81, YtijmipnafhljkaaDoorPx82, YtijmipnafhljkaaDoorPx83 merged.
import Derived.Test.YtijmipnafhljkaaDoorPx0
namespace Go.Proofs.YtijmipnafhljkaaDoor.P
open Go.RowKit Go.Proofs.YtijmipnafhljkaaDoorW.PrintWords Go.Proofs.YtijmipnafhljkaaDoorW.PrintLast Go.Proofs.YtijmipnafhljkaaDoorW.PrintMore
attribute [local go_sem] max2_int min2_int max_two min_two max_three min_three max_four min_four   -- for this text's walks alone
set_option linter.unusedVariables false
set_option linter.unusedSimpArgs false

/-! ### whittleref3_Right: function 18 -/
def whittleref3_Right.f (a0_0 : Int) (a0_1 : Int) (a0_2 : Int) : Option (Bool) := if a0_0 ≥ 0 then (if a0_0 < 16 then (if a0_1 ≥ 0 then (if a0_1 < 65536 then (if a0_2 ≥ 0 then (some (decide (a0_2 < 256))) else (some false)) else (some false)) else (some false)) else (some false)) else (some false)
set_option maxHeartbeats 8000000 in
set_option maxRecDepth 100000 in
theorem whittleref3_Right.calls (a0_0 : Int) (a0_1 : Int) (a0_2 : Int) (r : Bool) (w : World) (h : whittleref3_Right.f a0_0 a0_1 a0_2 = some r) :
    Calls Tryd.prog 18 #[.agg #[.int .i64 a0_0, .int .i64 a0_1, .int .i64 a0_2]] w fun e w' => e = .returned (.bool r) ∧ Below w.heap.size w w' := by
  have hu23 := Tryd.underlying23
  have HB := Aside0.mk (Below.refl w.heap.size w)
  have H : (if a0_0 ≥ 0 then (if a0_0 < 16 then (if a0_1 ≥ 0 then (if a0_1 < 65536 then (if a0_2 ≥ 0 then (some (decide (a0_2 < 256))) else (some false)) else (some false)) else (some false)) else (some false)) else (some false)) = some r := h
  clear h
  by_cases c2 : a0_0 ≥ 0
  · rw [if_pos c2] at H
    have c2b0 : decide (0 ≤ a0_0) = true := decide_eq_true c2
    clear c2
    by_cases c3 : a0_0 < 16
    · rw [if_pos c3] at H
      have c3b0 : decide (a0_0 < 16) = true := decide_eq_true c3
      clear c3
      by_cases c4 : a0_1 ≥ 0
      · rw [if_pos c4] at H
        have c4b0 : decide (0 ≤ a0_1) = true := decide_eq_true c4
        clear c4
        by_cases c5 : a0_1 < 65536
        · rw [if_pos c5] at H
          have c5b0 : decide (a0_1 < 65536) = true := decide_eq_true c5
          clear c5
          by_cases c6 : a0_2 ≥ 0
          · rw [if_pos c6] at H
            have c6b0 : decide (0 ≤ a0_2) = true := decide_eq_true c6
            clear c6
            obtain rfl := Option.some.inj H
            go_enter Tryd.func18, Tryd.ntmps18
            go_wp2_with (first | ((with_reducible refine gate_dst (N := 1) rfl ?_); refine box_event ?hg (N := 1) ?hd (cs := #[.int .i64 a0_0, .int .i64 a0_1, .int .i64 a0_2]) (t := 23) ?hr ?_; (case hd => rfl); (case hg => rfl); (case hr => go_simp <;> rfl); intro gb171 hg w7 hbox hb; have BK171 := Aside0.mk (hbox); have GW171 := Aside0.mk ((by rw [hg]; exact (below_size HB.out) : w.heap.size ≤ gb171)); have GE171 := GW171; replace HB := Aside0.mk (below_step HB.out hb); clear hb hbox hg; have hcz8_0 : w7.cell? ⟨gb171, 0, none⟩ = some (.int .i64 a0_0) := (blk_cell BK171.out 0).trans rfl; have hcz8_1 : w7.cell? ⟨gb171, 1, none⟩ = some (.int .i64 a0_1) := (blk_cell BK171.out 1).trans rfl; have hcz8_2 : w7.cell? ⟨gb171, 2, none⟩ = some (.int .i64 a0_2) := (blk_cell BK171.out 2).trans rfl; have hfz8_0 := blk_frozen BK171.out 0; have hfz8_1 := blk_frozen BK171.out 1; have hfz8_2 := blk_frozen BK171.out 2))
            go_ret
            exact ⟨by first | rfl | (simp [errW_none, errW_some] <;> rfl) | (simp [*, errW_none, errW_some] <;> rfl), by repeat (first | (with_reducible first | exact HB.out | apply below_alloc | apply pw_below_drewN | apply below_drew1 | refine below_set ?_ GE171.out) | exact HB.out)⟩
          · rw [if_neg c6] at H
            have c6b0 : decide (0 ≤ a0_2) = false := decide_eq_false c6
            clear c6
            obtain rfl := Option.some.inj H
            go_enter Tryd.func18, Tryd.ntmps18
            go_wp2_with (first | ((with_reducible refine gate_dst (N := 1) rfl ?_); refine box_event ?hg (N := 1) ?hd (cs := #[.int .i64 a0_0, .int .i64 a0_1, .int .i64 a0_2]) (t := 23) ?hr ?_; (case hd => rfl); (case hg => rfl); (case hr => go_simp <;> rfl); intro gb171 hg w9 hbox hb; have BK171 := Aside0.mk (hbox); have GW171 := Aside0.mk ((by rw [hg]; exact (below_size HB.out) : w.heap.size ≤ gb171)); have GE171 := GW171; replace HB := Aside0.mk (below_step HB.out hb); clear hb hbox hg; have hcz10_0 : w9.cell? ⟨gb171, 0, none⟩ = some (.int .i64 a0_0) := (blk_cell BK171.out 0).trans rfl; have hcz10_1 : w9.cell? ⟨gb171, 1, none⟩ = some (.int .i64 a0_1) := (blk_cell BK171.out 1).trans rfl; have hcz10_2 : w9.cell? ⟨gb171, 2, none⟩ = some (.int .i64 a0_2) := (blk_cell BK171.out 2).trans rfl; have hfz10_0 := blk_frozen BK171.out 0; have hfz10_1 := blk_frozen BK171.out 1; have hfz10_2 := blk_frozen BK171.out 2))
            go_ret
            exact ⟨by first | rfl | (simp [errW_none, errW_some] <;> rfl) | (simp [*, errW_none, errW_some] <;> rfl), by repeat (first | (with_reducible first | exact HB.out | apply below_alloc | apply pw_below_drewN | apply below_drew1 | refine below_set ?_ GE171.out) | exact HB.out)⟩
        · rw [if_neg c5] at H
          have c5b0 : decide (a0_1 < 65536) = false := decide_eq_false c5
          clear c5
          obtain rfl := Option.some.inj H
          go_enter Tryd.func18, Tryd.ntmps18
          go_wp2_with (first | ((with_reducible refine gate_dst (N := 1) rfl ?_); refine box_event ?hg (N := 1) ?hd (cs := #[.int .i64 a0_0, .int .i64 a0_1, .int .i64 a0_2]) (t := 23) ?hr ?_; (case hd => rfl); (case hg => rfl); (case hr => go_simp <;> rfl); intro gb171 hg w11 hbox hb; have BK171 := Aside0.mk (hbox); have GW171 := Aside0.mk ((by rw [hg]; exact (below_size HB.out) : w.heap.size ≤ gb171)); have GE171 := GW171; replace HB := Aside0.mk (below_step HB.out hb); clear hb hbox hg; have hcz12_0 : w11.cell? ⟨gb171, 0, none⟩ = some (.int .i64 a0_0) := (blk_cell BK171.out 0).trans rfl; have hcz12_1 : w11.cell? ⟨gb171, 1, none⟩ = some (.int .i64 a0_1) := (blk_cell BK171.out 1).trans rfl; have hcz12_2 : w11.cell? ⟨gb171, 2, none⟩ = some (.int .i64 a0_2) := (blk_cell BK171.out 2).trans rfl; have hfz12_0 := blk_frozen BK171.out 0; have hfz12_1 := blk_frozen BK171.out 1; have hfz12_2 := blk_frozen BK171.out 2))
          go_ret
          exact ⟨by first | rfl | (simp [errW_none, errW_some] <;> rfl) | (simp [*, errW_none, errW_some] <;> rfl), by repeat (first | (with_reducible first | exact HB.out | apply below_alloc | apply pw_below_drewN | apply below_drew1 | refine below_set ?_ GE171.out) | exact HB.out)⟩
      · rw [if_neg c4] at H
        have c4b0 : decide (0 ≤ a0_1) = false := decide_eq_false c4
        clear c4
        obtain rfl := Option.some.inj H
        go_enter Tryd.func18, Tryd.ntmps18
        go_wp2_with (first | ((with_reducible refine gate_dst (N := 1) rfl ?_); refine box_event ?hg (N := 1) ?hd (cs := #[.int .i64 a0_0, .int .i64 a0_1, .int .i64 a0_2]) (t := 23) ?hr ?_; (case hd => rfl); (case hg => rfl); (case hr => go_simp <;> rfl); intro gb171 hg w13 hbox hb; have BK171 := Aside0.mk (hbox); have GW171 := Aside0.mk ((by rw [hg]; exact (below_size HB.out) : w.heap.size ≤ gb171)); have GE171 := GW171; replace HB := Aside0.mk (below_step HB.out hb); clear hb hbox hg; have hcz14_0 : w13.cell? ⟨gb171, 0, none⟩ = some (.int .i64 a0_0) := (blk_cell BK171.out 0).trans rfl; have hcz14_1 : w13.cell? ⟨gb171, 1, none⟩ = some (.int .i64 a0_1) := (blk_cell BK171.out 1).trans rfl; have hcz14_2 : w13.cell? ⟨gb171, 2, none⟩ = some (.int .i64 a0_2) := (blk_cell BK171.out 2).trans rfl; have hfz14_0 := blk_frozen BK171.out 0; have hfz14_1 := blk_frozen BK171.out 1; have hfz14_2 := blk_frozen BK171.out 2))
        go_ret
        exact ⟨by first | rfl | (simp [errW_none, errW_some] <;> rfl) | (simp [*, errW_none, errW_some] <;> rfl), by repeat (first | (with_reducible first | exact HB.out | apply below_alloc | apply pw_below_drewN | apply below_drew1 | refine below_set ?_ GE171.out) | exact HB.out)⟩
    · rw [if_neg c3] at H
      have c3b0 : decide (a0_0 < 16) = false := decide_eq_false c3
      clear c3
      obtain rfl := Option.some.inj H
      go_enter Tryd.func18, Tryd.ntmps18
      go_wp2_with (first | ((with_reducible refine gate_dst (N := 1) rfl ?_); refine box_event ?hg (N := 1) ?hd (cs := #[.int .i64 a0_0, .int .i64 a0_1, .int .i64 a0_2]) (t := 23) ?hr ?_; (case hd => rfl); (case hg => rfl); (case hr => go_simp <;> rfl); intro gb171 hg w15 hbox hb; have BK171 := Aside0.mk (hbox); have GW171 := Aside0.mk ((by rw [hg]; exact (below_size HB.out) : w.heap.size ≤ gb171)); have GE171 := GW171; replace HB := Aside0.mk (below_step HB.out hb); clear hb hbox hg; have hcz16_0 : w15.cell? ⟨gb171, 0, none⟩ = some (.int .i64 a0_0) := (blk_cell BK171.out 0).trans rfl; have hcz16_1 : w15.cell? ⟨gb171, 1, none⟩ = some (.int .i64 a0_1) := (blk_cell BK171.out 1).trans rfl; have hcz16_2 : w15.cell? ⟨gb171, 2, none⟩ = some (.int .i64 a0_2) := (blk_cell BK171.out 2).trans rfl; have hfz16_0 := blk_frozen BK171.out 0; have hfz16_1 := blk_frozen BK171.out 1; have hfz16_2 := blk_frozen BK171.out 2))
      go_ret
      exact ⟨by first | rfl | (simp [errW_none, errW_some] <;> rfl) | (simp [*, errW_none, errW_some] <;> rfl), by repeat (first | (with_reducible first | exact HB.out | apply below_alloc | apply pw_below_drewN | apply below_drew1 | refine below_set ?_ GE171.out) | exact HB.out)⟩
  · rw [if_neg c2] at H
    have c2b0 : decide (0 ≤ a0_0) = false := decide_eq_false c2
    clear c2
    obtain rfl := Option.some.inj H
    go_enter Tryd.func18, Tryd.ntmps18
    go_wp2_with (first | ((with_reducible refine gate_dst (N := 1) rfl ?_); refine box_event ?hg (N := 1) ?hd (cs := #[.int .i64 a0_0, .int .i64 a0_1, .int .i64 a0_2]) (t := 23) ?hr ?_; (case hd => rfl); (case hg => rfl); (case hr => go_simp <;> rfl); intro gb171 hg w17 hbox hb; have BK171 := Aside0.mk (hbox); have GW171 := Aside0.mk ((by rw [hg]; exact (below_size HB.out) : w.heap.size ≤ gb171)); have GE171 := GW171; replace HB := Aside0.mk (below_step HB.out hb); clear hb hbox hg; have hcz18_0 : w17.cell? ⟨gb171, 0, none⟩ = some (.int .i64 a0_0) := (blk_cell BK171.out 0).trans rfl; have hcz18_1 : w17.cell? ⟨gb171, 1, none⟩ = some (.int .i64 a0_1) := (blk_cell BK171.out 1).trans rfl; have hcz18_2 : w17.cell? ⟨gb171, 2, none⟩ = some (.int .i64 a0_2) := (blk_cell BK171.out 2).trans rfl; have hfz18_0 := blk_frozen BK171.out 0; have hfz18_1 := blk_frozen BK171.out 1; have hfz18_2 := blk_frozen BK171.out 2))
    go_ret
    exact ⟨by first | rfl | (simp [errW_none, errW_some] <;> rfl) | (simp [*, errW_none, errW_some] <;> rfl), by repeat (first | (with_reducible first | exact HB.out | apply below_alloc | apply pw_below_drewN | apply below_drew1 | refine below_set ?_ GE171.out) | exact HB.out)⟩



/-! ### whittleref3_RightArea: function 20 -/
def whittleref3_RightArea.f (a0_0 : Int) (a0_1 : Int) (a0_2 : Int) (a0_3 : Int) (a0_4 : Int) : Option (Bool) := if a0_0 ≥ 0 then (if a0_0 < 16 then (if a0_1 ≥ 0 then (if a0_1 ≤ a0_3 then (if a0_3 < 65536 then (if a0_2 ≥ 0 then (if a0_2 ≤ a0_4 then (some (decide (a0_4 < 256))) else (some false)) else (some false)) else (some false)) else (some false)) else (some false)) else (some false)) else (some false)
set_option maxHeartbeats 8000000 in
set_option maxRecDepth 100000 in
theorem whittleref3_RightArea.calls (a0_0 : Int) (a0_1 : Int) (a0_2 : Int) (a0_3 : Int) (a0_4 : Int) (r : Bool) (w : World) (h : whittleref3_RightArea.f a0_0 a0_1 a0_2 a0_3 a0_4 = some r) :
    Calls Tryd.prog 20 #[.agg #[.int .i64 a0_0, .int .i64 a0_1, .int .i64 a0_2, .int .i64 a0_3, .int .i64 a0_4]] w fun e w' => e = .returned (.bool r) ∧ Below w.heap.size w w' := by
  have hu25 := Tryd.underlying25
  have HB := Aside0.mk (Below.refl w.heap.size w)
  have H : (if a0_0 ≥ 0 then (if a0_0 < 16 then (if a0_1 ≥ 0 then (if a0_1 ≤ a0_3 then (if a0_3 < 65536 then (if a0_2 ≥ 0 then (if a0_2 ≤ a0_4 then (some (decide (a0_4 < 256))) else (some false)) else (some false)) else (some false)) else (some false)) else (some false)) else (some false)) else (some false)) = some r := h
  clear h
  by_cases c2 : a0_0 ≥ 0
  · rw [if_pos c2] at H
    have c2b0 : decide (0 ≤ a0_0) = true := decide_eq_true c2
    clear c2
    by_cases c3 : a0_0 < 16
    · rw [if_pos c3] at H
      have c3b0 : decide (a0_0 < 16) = true := decide_eq_true c3
      clear c3
      by_cases c4 : a0_1 ≥ 0
      · rw [if_pos c4] at H
        have c4b0 : decide (0 ≤ a0_1) = true := decide_eq_true c4
        clear c4
        by_cases c5 : a0_1 ≤ a0_3
        · rw [if_pos c5] at H
          have c5b0 : decide (a0_1 ≤ a0_3) = true := decide_eq_true c5
          clear c5
          by_cases c6 : a0_3 < 65536
          · rw [if_pos c6] at H
            have c6b0 : decide (a0_3 < 65536) = true := decide_eq_true c6
            clear c6
            by_cases c7 : a0_2 ≥ 0
            · rw [if_pos c7] at H
              have c7b0 : decide (0 ≤ a0_2) = true := decide_eq_true c7
              clear c7
              by_cases c8 : a0_2 ≤ a0_4
              · rw [if_pos c8] at H
                have c8b0 : decide (a0_2 ≤ a0_4) = true := decide_eq_true c8
                clear c8
                obtain rfl := Option.some.inj H
                go_enter Tryd.func20, Tryd.ntmps20
                go_wp2_with (first | ((with_reducible refine gate_dst (N := 1) rfl ?_); refine box_event ?hg (N := 1) ?hd (cs := #[.int .i64 a0_0, .int .i64 a0_1, .int .i64 a0_2, .int .i64 a0_3, .int .i64 a0_4]) (t := 25) ?hr ?_; (case hd => rfl); (case hg => rfl); (case hr => go_simp <;> rfl); intro gb172 hg w9 hbox hb; have BK172 := Aside0.mk (hbox); have GW172 := Aside0.mk ((by rw [hg]; exact (below_size HB.out) : w.heap.size ≤ gb172)); have GE172 := GW172; replace HB := Aside0.mk (below_step HB.out hb); clear hb hbox hg; have hcz10_0 : w9.cell? ⟨gb172, 0, none⟩ = some (.int .i64 a0_0) := (blk_cell BK172.out 0).trans rfl; have hcz10_1 : w9.cell? ⟨gb172, 1, none⟩ = some (.int .i64 a0_1) := (blk_cell BK172.out 1).trans rfl; have hcz10_2 : w9.cell? ⟨gb172, 2, none⟩ = some (.int .i64 a0_2) := (blk_cell BK172.out 2).trans rfl; have hcz10_3 : w9.cell? ⟨gb172, 3, none⟩ = some (.int .i64 a0_3) := (blk_cell BK172.out 3).trans rfl; have hcz10_4 : w9.cell? ⟨gb172, 4, none⟩ = some (.int .i64 a0_4) := (blk_cell BK172.out 4).trans rfl; have hfz10_0 := blk_frozen BK172.out 0; have hfz10_1 := blk_frozen BK172.out 1; have hfz10_2 := blk_frozen BK172.out 2; have hfz10_3 := blk_frozen BK172.out 3; have hfz10_4 := blk_frozen BK172.out 4))
                go_ret
                exact ⟨by first | rfl | (simp [errW_none, errW_some] <;> rfl) | (simp [*, errW_none, errW_some] <;> rfl), by repeat (first | (with_reducible first | exact HB.out | apply below_alloc | apply pw_below_drewN | apply below_drew1 | refine below_set ?_ GE172.out) | exact HB.out)⟩
              · rw [if_neg c8] at H
                have c8b0 : decide (a0_2 ≤ a0_4) = false := decide_eq_false c8
                clear c8
                obtain rfl := Option.some.inj H
                go_enter Tryd.func20, Tryd.ntmps20
                go_wp2_with (first | ((with_reducible refine gate_dst (N := 1) rfl ?_); refine box_event ?hg (N := 1) ?hd (cs := #[.int .i64 a0_0, .int .i64 a0_1, .int .i64 a0_2, .int .i64 a0_3, .int .i64 a0_4]) (t := 25) ?hr ?_; (case hd => rfl); (case hg => rfl); (case hr => go_simp <;> rfl); intro gb172 hg w11 hbox hb; have BK172 := Aside0.mk (hbox); have GW172 := Aside0.mk ((by rw [hg]; exact (below_size HB.out) : w.heap.size ≤ gb172)); have GE172 := GW172; replace HB := Aside0.mk (below_step HB.out hb); clear hb hbox hg; have hcz12_0 : w11.cell? ⟨gb172, 0, none⟩ = some (.int .i64 a0_0) := (blk_cell BK172.out 0).trans rfl; have hcz12_1 : w11.cell? ⟨gb172, 1, none⟩ = some (.int .i64 a0_1) := (blk_cell BK172.out 1).trans rfl; have hcz12_2 : w11.cell? ⟨gb172, 2, none⟩ = some (.int .i64 a0_2) := (blk_cell BK172.out 2).trans rfl; have hcz12_3 : w11.cell? ⟨gb172, 3, none⟩ = some (.int .i64 a0_3) := (blk_cell BK172.out 3).trans rfl; have hcz12_4 : w11.cell? ⟨gb172, 4, none⟩ = some (.int .i64 a0_4) := (blk_cell BK172.out 4).trans rfl; have hfz12_0 := blk_frozen BK172.out 0; have hfz12_1 := blk_frozen BK172.out 1; have hfz12_2 := blk_frozen BK172.out 2; have hfz12_3 := blk_frozen BK172.out 3; have hfz12_4 := blk_frozen BK172.out 4))
                go_ret
                exact ⟨by first | rfl | (simp [errW_none, errW_some] <;> rfl) | (simp [*, errW_none, errW_some] <;> rfl), by repeat (first | (with_reducible first | exact HB.out | apply below_alloc | apply pw_below_drewN | apply below_drew1 | refine below_set ?_ GE172.out) | exact HB.out)⟩
            · rw [if_neg c7] at H
              have c7b0 : decide (0 ≤ a0_2) = false := decide_eq_false c7
              clear c7
              obtain rfl := Option.some.inj H
              go_enter Tryd.func20, Tryd.ntmps20
              go_wp2_with (first | ((with_reducible refine gate_dst (N := 1) rfl ?_); refine box_event ?hg (N := 1) ?hd (cs := #[.int .i64 a0_0, .int .i64 a0_1, .int .i64 a0_2, .int .i64 a0_3, .int .i64 a0_4]) (t := 25) ?hr ?_; (case hd => rfl); (case hg => rfl); (case hr => go_simp <;> rfl); intro gb172 hg w13 hbox hb; have BK172 := Aside0.mk (hbox); have GW172 := Aside0.mk ((by rw [hg]; exact (below_size HB.out) : w.heap.size ≤ gb172)); have GE172 := GW172; replace HB := Aside0.mk (below_step HB.out hb); clear hb hbox hg; have hcz14_0 : w13.cell? ⟨gb172, 0, none⟩ = some (.int .i64 a0_0) := (blk_cell BK172.out 0).trans rfl; have hcz14_1 : w13.cell? ⟨gb172, 1, none⟩ = some (.int .i64 a0_1) := (blk_cell BK172.out 1).trans rfl; have hcz14_2 : w13.cell? ⟨gb172, 2, none⟩ = some (.int .i64 a0_2) := (blk_cell BK172.out 2).trans rfl; have hcz14_3 : w13.cell? ⟨gb172, 3, none⟩ = some (.int .i64 a0_3) := (blk_cell BK172.out 3).trans rfl; have hcz14_4 : w13.cell? ⟨gb172, 4, none⟩ = some (.int .i64 a0_4) := (blk_cell BK172.out 4).trans rfl; have hfz14_0 := blk_frozen BK172.out 0; have hfz14_1 := blk_frozen BK172.out 1; have hfz14_2 := blk_frozen BK172.out 2; have hfz14_3 := blk_frozen BK172.out 3; have hfz14_4 := blk_frozen BK172.out 4))
              go_ret
              exact ⟨by first | rfl | (simp [errW_none, errW_some] <;> rfl) | (simp [*, errW_none, errW_some] <;> rfl), by repeat (first | (with_reducible first | exact HB.out | apply below_alloc | apply pw_below_drewN | apply below_drew1 | refine below_set ?_ GE172.out) | exact HB.out)⟩
          · rw [if_neg c6] at H
            have c6b0 : decide (a0_3 < 65536) = false := decide_eq_false c6
            clear c6
            obtain rfl := Option.some.inj H
            go_enter Tryd.func20, Tryd.ntmps20
            go_wp2_with (first | ((with_reducible refine gate_dst (N := 1) rfl ?_); refine box_event ?hg (N := 1) ?hd (cs := #[.int .i64 a0_0, .int .i64 a0_1, .int .i64 a0_2, .int .i64 a0_3, .int .i64 a0_4]) (t := 25) ?hr ?_; (case hd => rfl); (case hg => rfl); (case hr => go_simp <;> rfl); intro gb172 hg w15 hbox hb; have BK172 := Aside0.mk (hbox); have GW172 := Aside0.mk ((by rw [hg]; exact (below_size HB.out) : w.heap.size ≤ gb172)); have GE172 := GW172; replace HB := Aside0.mk (below_step HB.out hb); clear hb hbox hg; have hcz16_0 : w15.cell? ⟨gb172, 0, none⟩ = some (.int .i64 a0_0) := (blk_cell BK172.out 0).trans rfl; have hcz16_1 : w15.cell? ⟨gb172, 1, none⟩ = some (.int .i64 a0_1) := (blk_cell BK172.out 1).trans rfl; have hcz16_2 : w15.cell? ⟨gb172, 2, none⟩ = some (.int .i64 a0_2) := (blk_cell BK172.out 2).trans rfl; have hcz16_3 : w15.cell? ⟨gb172, 3, none⟩ = some (.int .i64 a0_3) := (blk_cell BK172.out 3).trans rfl; have hcz16_4 : w15.cell? ⟨gb172, 4, none⟩ = some (.int .i64 a0_4) := (blk_cell BK172.out 4).trans rfl; have hfz16_0 := blk_frozen BK172.out 0; have hfz16_1 := blk_frozen BK172.out 1; have hfz16_2 := blk_frozen BK172.out 2; have hfz16_3 := blk_frozen BK172.out 3; have hfz16_4 := blk_frozen BK172.out 4))
            go_ret
            exact ⟨by first | rfl | (simp [errW_none, errW_some] <;> rfl) | (simp [*, errW_none, errW_some] <;> rfl), by repeat (first | (with_reducible first | exact HB.out | apply below_alloc | apply pw_below_drewN | apply below_drew1 | refine below_set ?_ GE172.out) | exact HB.out)⟩
        · rw [if_neg c5] at H
          have c5b0 : decide (a0_1 ≤ a0_3) = false := decide_eq_false c5
          clear c5
          obtain rfl := Option.some.inj H
          go_enter Tryd.func20, Tryd.ntmps20
          go_wp2_with (first | ((with_reducible refine gate_dst (N := 1) rfl ?_); refine box_event ?hg (N := 1) ?hd (cs := #[.int .i64 a0_0, .int .i64 a0_1, .int .i64 a0_2, .int .i64 a0_3, .int .i64 a0_4]) (t := 25) ?hr ?_; (case hd => rfl); (case hg => rfl); (case hr => go_simp <;> rfl); intro gb172 hg w17 hbox hb; have BK172 := Aside0.mk (hbox); have GW172 := Aside0.mk ((by rw [hg]; exact (below_size HB.out) : w.heap.size ≤ gb172)); have GE172 := GW172; replace HB := Aside0.mk (below_step HB.out hb); clear hb hbox hg; have hcz18_0 : w17.cell? ⟨gb172, 0, none⟩ = some (.int .i64 a0_0) := (blk_cell BK172.out 0).trans rfl; have hcz18_1 : w17.cell? ⟨gb172, 1, none⟩ = some (.int .i64 a0_1) := (blk_cell BK172.out 1).trans rfl; have hcz18_2 : w17.cell? ⟨gb172, 2, none⟩ = some (.int .i64 a0_2) := (blk_cell BK172.out 2).trans rfl; have hcz18_3 : w17.cell? ⟨gb172, 3, none⟩ = some (.int .i64 a0_3) := (blk_cell BK172.out 3).trans rfl; have hcz18_4 : w17.cell? ⟨gb172, 4, none⟩ = some (.int .i64 a0_4) := (blk_cell BK172.out 4).trans rfl; have hfz18_0 := blk_frozen BK172.out 0; have hfz18_1 := blk_frozen BK172.out 1; have hfz18_2 := blk_frozen BK172.out 2; have hfz18_3 := blk_frozen BK172.out 3; have hfz18_4 := blk_frozen BK172.out 4))
          go_ret
          exact ⟨by first | rfl | (simp [errW_none, errW_some] <;> rfl) | (simp [*, errW_none, errW_some] <;> rfl), by repeat (first | (with_reducible first | exact HB.out | apply below_alloc | apply pw_below_drewN | apply below_drew1 | refine below_set ?_ GE172.out) | exact HB.out)⟩
      · rw [if_neg c4] at H
        have c4b0 : decide (0 ≤ a0_1) = false := decide_eq_false c4
        clear c4
        obtain rfl := Option.some.inj H
        go_enter Tryd.func20, Tryd.ntmps20
        go_wp2_with (first | ((with_reducible refine gate_dst (N := 1) rfl ?_); refine box_event ?hg (N := 1) ?hd (cs := #[.int .i64 a0_0, .int .i64 a0_1, .int .i64 a0_2, .int .i64 a0_3, .int .i64 a0_4]) (t := 25) ?hr ?_; (case hd => rfl); (case hg => rfl); (case hr => go_simp <;> rfl); intro gb172 hg w19 hbox hb; have BK172 := Aside0.mk (hbox); have GW172 := Aside0.mk ((by rw [hg]; exact (below_size HB.out) : w.heap.size ≤ gb172)); have GE172 := GW172; replace HB := Aside0.mk (below_step HB.out hb); clear hb hbox hg; have hcz20_0 : w19.cell? ⟨gb172, 0, none⟩ = some (.int .i64 a0_0) := (blk_cell BK172.out 0).trans rfl; have hcz20_1 : w19.cell? ⟨gb172, 1, none⟩ = some (.int .i64 a0_1) := (blk_cell BK172.out 1).trans rfl; have hcz20_2 : w19.cell? ⟨gb172, 2, none⟩ = some (.int .i64 a0_2) := (blk_cell BK172.out 2).trans rfl; have hcz20_3 : w19.cell? ⟨gb172, 3, none⟩ = some (.int .i64 a0_3) := (blk_cell BK172.out 3).trans rfl; have hcz20_4 : w19.cell? ⟨gb172, 4, none⟩ = some (.int .i64 a0_4) := (blk_cell BK172.out 4).trans rfl; have hfz20_0 := blk_frozen BK172.out 0; have hfz20_1 := blk_frozen BK172.out 1; have hfz20_2 := blk_frozen BK172.out 2; have hfz20_3 := blk_frozen BK172.out 3; have hfz20_4 := blk_frozen BK172.out 4))
        go_ret
        exact ⟨by first | rfl | (simp [errW_none, errW_some] <;> rfl) | (simp [*, errW_none, errW_some] <;> rfl), by repeat (first | (with_reducible first | exact HB.out | apply below_alloc | apply pw_below_drewN | apply below_drew1 | refine below_set ?_ GE172.out) | exact HB.out)⟩
    · rw [if_neg c3] at H
      have c3b0 : decide (a0_0 < 16) = false := decide_eq_false c3
      clear c3
      obtain rfl := Option.some.inj H
      go_enter Tryd.func20, Tryd.ntmps20
      go_wp2_with (first | ((with_reducible refine gate_dst (N := 1) rfl ?_); refine box_event ?hg (N := 1) ?hd (cs := #[.int .i64 a0_0, .int .i64 a0_1, .int .i64 a0_2, .int .i64 a0_3, .int .i64 a0_4]) (t := 25) ?hr ?_; (case hd => rfl); (case hg => rfl); (case hr => go_simp <;> rfl); intro gb172 hg w21 hbox hb; have BK172 := Aside0.mk (hbox); have GW172 := Aside0.mk ((by rw [hg]; exact (below_size HB.out) : w.heap.size ≤ gb172)); have GE172 := GW172; replace HB := Aside0.mk (below_step HB.out hb); clear hb hbox hg; have hcz22_0 : w21.cell? ⟨gb172, 0, none⟩ = some (.int .i64 a0_0) := (blk_cell BK172.out 0).trans rfl; have hcz22_1 : w21.cell? ⟨gb172, 1, none⟩ = some (.int .i64 a0_1) := (blk_cell BK172.out 1).trans rfl; have hcz22_2 : w21.cell? ⟨gb172, 2, none⟩ = some (.int .i64 a0_2) := (blk_cell BK172.out 2).trans rfl; have hcz22_3 : w21.cell? ⟨gb172, 3, none⟩ = some (.int .i64 a0_3) := (blk_cell BK172.out 3).trans rfl; have hcz22_4 : w21.cell? ⟨gb172, 4, none⟩ = some (.int .i64 a0_4) := (blk_cell BK172.out 4).trans rfl; have hfz22_0 := blk_frozen BK172.out 0; have hfz22_1 := blk_frozen BK172.out 1; have hfz22_2 := blk_frozen BK172.out 2; have hfz22_3 := blk_frozen BK172.out 3; have hfz22_4 := blk_frozen BK172.out 4))
      go_ret
      exact ⟨by first | rfl | (simp [errW_none, errW_some] <;> rfl) | (simp [*, errW_none, errW_some] <;> rfl), by repeat (first | (with_reducible first | exact HB.out | apply below_alloc | apply pw_below_drewN | apply below_drew1 | refine below_set ?_ GE172.out) | exact HB.out)⟩
  · rw [if_neg c2] at H
    have c2b0 : decide (0 ≤ a0_0) = false := decide_eq_false c2
    clear c2
    obtain rfl := Option.some.inj H
    go_enter Tryd.func20, Tryd.ntmps20
    go_wp2_with (first | ((with_reducible refine gate_dst (N := 1) rfl ?_); refine box_event ?hg (N := 1) ?hd (cs := #[.int .i64 a0_0, .int .i64 a0_1, .int .i64 a0_2, .int .i64 a0_3, .int .i64 a0_4]) (t := 25) ?hr ?_; (case hd => rfl); (case hg => rfl); (case hr => go_simp <;> rfl); intro gb172 hg w23 hbox hb; have BK172 := Aside0.mk (hbox); have GW172 := Aside0.mk ((by rw [hg]; exact (below_size HB.out) : w.heap.size ≤ gb172)); have GE172 := GW172; replace HB := Aside0.mk (below_step HB.out hb); clear hb hbox hg; have hcz24_0 : w23.cell? ⟨gb172, 0, none⟩ = some (.int .i64 a0_0) := (blk_cell BK172.out 0).trans rfl; have hcz24_1 : w23.cell? ⟨gb172, 1, none⟩ = some (.int .i64 a0_1) := (blk_cell BK172.out 1).trans rfl; have hcz24_2 : w23.cell? ⟨gb172, 2, none⟩ = some (.int .i64 a0_2) := (blk_cell BK172.out 2).trans rfl; have hcz24_3 : w23.cell? ⟨gb172, 3, none⟩ = some (.int .i64 a0_3) := (blk_cell BK172.out 3).trans rfl; have hcz24_4 : w23.cell? ⟨gb172, 4, none⟩ = some (.int .i64 a0_4) := (blk_cell BK172.out 4).trans rfl; have hfz24_0 := blk_frozen BK172.out 0; have hfz24_1 := blk_frozen BK172.out 1; have hfz24_2 := blk_frozen BK172.out 2; have hfz24_3 := blk_frozen BK172.out 3; have hfz24_4 := blk_frozen BK172.out 4))
    go_ret
    exact ⟨by first | rfl | (simp [errW_none, errW_some] <;> rfl) | (simp [*, errW_none, errW_some] <;> rfl), by repeat (first | (with_reducible first | exact HB.out | apply below_alloc | apply pw_below_drewN | apply below_drew1 | refine below_set ?_ GE172.out) | exact HB.out)⟩



/-! ### whittleref3_One: function 49 -/
def whittleref3_One.f (a0_0 : Int) (a0_1 : Int) (a0_2 : Int) : Option (Int × Int × Int × Int × Int × Bool) := (whittleref3_Right.f a0_0 a0_1 a0_2).bind fun t352 => (if t352 = true then (some (a0_0, a0_1, a0_2, a0_1, a0_2, true)) else (some (0, 0, 0, 0, 0, false)))
set_option maxHeartbeats 8000000 in
set_option maxRecDepth 100000 in
theorem whittleref3_One.calls (a0_0 : Int) (a0_1 : Int) (a0_2 : Int) (r1 : Int) (r2 : Int) (r3 : Int) (r4 : Int) (r5 : Int) (r6 : Bool) (w : World) (h : whittleref3_One.f a0_0 a0_1 a0_2 = some (r1, r2, r3, r4, r5, r6)) :
    Calls Tryd.prog 49 #[.agg #[.int .i64 a0_0, .int .i64 a0_1, .int .i64 a0_2]] w fun e w' => e = .returned (.tuple #[.agg #[.int .i64 r1, .int .i64 r2, .int .i64 r3, .int .i64 r4, .int .i64 r5], .bool r6]) ∧ Below w.heap.size w w' := by
  have hu23 := Tryd.underlying23
  have hu25 := Tryd.underlying25
  have HB := Aside0.mk (Below.refl w.heap.size w)
  have H : ((whittleref3_Right.f a0_0 a0_1 a0_2).bind fun t352 => (if t352 = true then (some (a0_0, a0_1, a0_2, a0_1, a0_2, true)) else (some (0, 0, 0, 0, 0, false)))) = some (r1, r2, r3, r4, r5, r6) := h
  clear h
  replace H := Option.bind_eq_some_iff.mp H
  obtain ⟨t352, A20, H⟩ := H
  replace H : (if t352 = true then (some (a0_0, a0_1, a0_2, a0_1, a0_2, true)) else (some (0, 0, 0, 0, 0, false))) = some (r1, r2, r3, r4, r5, r6) := H
  have A2 := Aside0.mk A20
  clear A20
  by_cases c3 : t352 = true
  · subst c3
    have H1 : (some (a0_0, a0_1, a0_2, a0_1, a0_2, true)) = some (r1, r2, r3, r4, r5, r6) := by rw [if_pos rfl] at H; exact H
    clear H
    have H := H1
    clear H1
    simp only [Option.some.injEq, Prod.mk.injEq] at H
    obtain ⟨rfl, rfl, rfl, rfl, rfl, rfl⟩ := H
    go_enter Tryd.func49, Tryd.ntmps49
    go_wp2_with (first | ((with_reducible refine gate_dst (N := 1) rfl ?_); refine box_event ?hg (N := 1) ?hd (cs := #[.int .i64 a0_0, .int .i64 a0_1, .int .i64 a0_2]) (t := 23) ?hr ?_; (case hd => rfl); (case hg => rfl); (case hr => go_simp <;> rfl); intro gb350 hg w4 hbox hb; have BK350 := Aside0.mk (hbox); have GW350 := Aside0.mk ((by rw [hg]; exact (below_size HB.out) : w.heap.size ≤ gb350)); have GE350 := GW350; replace HB := Aside0.mk (below_step HB.out hb); clear hb hbox hg) | ((with_reducible refine gate_dst (N := 2) rfl ?_); refine box_event ?hg (N := 2) ?hd (cs := #[.int .i64 0, .int .i64 0, .int .i64 0, .int .i64 0, .int .i64 0]) (t := 25) ?hr ?_; (case hd => rfl); (case hg => rfl); (case hr => go_simp <;> rfl); intro gb351 hg w5 hbox hb; have BK351 := Aside0.mk (hbox); have GW351 := Aside0.mk ((by rw [hg]; exact (below_size HB.out) : w.heap.size ≤ gb351)); have GE351 := GW351; have NB350_351 := Aside0.mk ((by rw [hg]; exact Nat.ne_of_lt (blk_lt BK350.out) : gb350 ≠ gb351)); have NB351_350 := Aside0.mk ((by rw [hg]; exact Nat.ne_of_gt (blk_lt BK350.out) : gb351 ≠ gb350)); replace BK350 := Aside0.mk (blk_below BK350.out hb); replace HB := Aside0.mk (below_step HB.out hb); clear hb hbox hg; have hnb6 := NB350_351.out; have hnc6 := NB351_350.out; have hcz7_0 : w5.cell? ⟨gb350, 0, none⟩ = some (.int .i64 a0_0) := (blk_cell BK350.out 0).trans rfl; have hcz7_1 : w5.cell? ⟨gb350, 1, none⟩ = some (.int .i64 a0_1) := (blk_cell BK350.out 1).trans rfl; have hcz7_2 : w5.cell? ⟨gb350, 2, none⟩ = some (.int .i64 a0_2) := (blk_cell BK350.out 2).trans rfl; have hfz7_0 := blk_frozen BK350.out 0; have hfz7_1 := blk_frozen BK350.out 1; have hfz7_2 := blk_frozen BK350.out 2) | ((with_reducible refine gate_callee (f := 18) rfl ?_); refine goesL_ (some 6) rfl rfl Tryd.func18 (by kernel_rfl) rfl #[.agg #[.int .i64 a0_0, .int .i64 a0_1, .int .i64 a0_2]] rfl (by (try simp only [List.map_toArray, List.map_cons, List.map_nil]); first | done | rfl | (simp only [List.length_drop, List.length_take]; rfl)) ?_; (with_reducible refine (whittleref3_Right.calls a0_0 a0_1 a0_2 true _ A2.out).mono ?_); rintro e w8 ⟨rfl, hb⟩; refine ⟨_, rfl, ?_⟩; replace BK350 := Aside0.mk (blk_below BK350.out hb); replace BK351 := Aside0.mk (blk_below BK351.out hb); replace HB := Aside0.mk (below_step HB.out hb); (try clear hb); have hcz9_0 : w8.cell? ⟨gb350, 0, none⟩ = some (.int .i64 a0_0) := (blk_cell BK350.out 0).trans rfl; have hcz9_1 : w8.cell? ⟨gb350, 1, none⟩ = some (.int .i64 a0_1) := (blk_cell BK350.out 1).trans rfl; have hcz9_2 : w8.cell? ⟨gb350, 2, none⟩ = some (.int .i64 a0_2) := (blk_cell BK350.out 2).trans rfl; have hfz9_0 := blk_frozen BK350.out 0; have hfz9_1 := blk_frozen BK350.out 1; have hfz9_2 := blk_frozen BK350.out 2; have hcz10_0 : w8.cell? ⟨gb351, 0, none⟩ = some (.int .i64 0) := (blk_cell BK351.out 0).trans rfl; have hcz10_1 : w8.cell? ⟨gb351, 1, none⟩ = some (.int .i64 0) := (blk_cell BK351.out 1).trans rfl; have hcz10_2 : w8.cell? ⟨gb351, 2, none⟩ = some (.int .i64 0) := (blk_cell BK351.out 2).trans rfl; have hcz10_3 : w8.cell? ⟨gb351, 3, none⟩ = some (.int .i64 0) := (blk_cell BK351.out 3).trans rfl; have hcz10_4 : w8.cell? ⟨gb351, 4, none⟩ = some (.int .i64 0) := (blk_cell BK351.out 4).trans rfl; have hfz10_0 := blk_frozen BK351.out 0; have hfz10_1 := blk_frozen BK351.out 1; have hfz10_2 := blk_frozen BK351.out 2; have hfz10_3 := blk_frozen BK351.out 3; have hfz10_4 := blk_frozen BK351.out 4))
    refine bodyPost_ret (results_ct rfl _ _ gb351 25 #[.int .i64 a0_0, .int .i64 a0_1, .int .i64 a0_2, .int .i64 a0_1, .int .i64 a0_2] (0, 0) _ rfl (by (with_reducible repeat first | apply blk_drewN | apply blk_drew | apply blk_alloc); refine blk_put (cs := #[.int .i64 a0_0, .int .i64 a0_1, .int .i64 a0_2, .int .i64 a0_1, .int .i64 0]) ?_ 4 _ rfl; (with_reducible repeat first | apply blk_drewN | apply blk_drew | apply blk_alloc); refine blk_put (cs := #[.int .i64 a0_0, .int .i64 a0_1, .int .i64 a0_2, .int .i64 0, .int .i64 0]) ?_ 3 _ rfl; (with_reducible repeat first | apply blk_drewN | apply blk_drew | apply blk_alloc); refine blk_put (cs := #[.int .i64 a0_0, .int .i64 a0_1, .int .i64 0, .int .i64 0, .int .i64 0]) ?_ 2 _ rfl; (with_reducible repeat first | apply blk_drewN | apply blk_drew | apply blk_alloc); refine blk_put (cs := #[.int .i64 a0_0, .int .i64 0, .int .i64 0, .int .i64 0, .int .i64 0]) ?_ 1 _ rfl; (with_reducible repeat first | apply blk_drewN | apply blk_drew | apply blk_alloc); refine blk_put (cs := #[.int .i64 0, .int .i64 0, .int .i64 0, .int .i64 0, .int .i64 0]) ?_ 0 _ rfl; (with_reducible repeat first | apply blk_drewN | apply blk_drew | apply blk_alloc); exact BK351.out) Tryd.underlying25 rfl (by kernel_rfl)) rfl ?_
    exact ⟨by first | rfl | (simp [errW_none, errW_some] <;> rfl) | (simp [*, errW_none, errW_some] <;> rfl), by repeat (first | (with_reducible first | exact HB.out | apply below_alloc | apply pw_below_drewN | apply below_drew1 | refine below_set ?_ GE350.out | refine below_set ?_ GE351.out) | exact HB.out)⟩
  · replace c3 := Bool.eq_false_iff.mpr c3
    subst c3
    have H1 : (some (0, 0, 0, 0, 0, false)) = some (r1, r2, r3, r4, r5, r6) := by rw [if_neg (show ¬ (false = true) by decide)] at H; exact H
    clear H
    have H := H1
    clear H1
    simp only [Option.some.injEq, Prod.mk.injEq] at H
    obtain ⟨rfl, rfl, rfl, rfl, rfl, rfl⟩ := H
    go_enter Tryd.func49, Tryd.ntmps49
    go_wp2_with (first | ((with_reducible refine gate_dst (N := 1) rfl ?_); refine box_event ?hg (N := 1) ?hd (cs := #[.int .i64 a0_0, .int .i64 a0_1, .int .i64 a0_2]) (t := 23) ?hr ?_; (case hd => rfl); (case hg => rfl); (case hr => go_simp <;> rfl); intro gb350 hg w11 hbox hb; have BK350 := Aside0.mk (hbox); have GW350 := Aside0.mk ((by rw [hg]; exact (below_size HB.out) : w.heap.size ≤ gb350)); have GE350 := GW350; replace HB := Aside0.mk (below_step HB.out hb); clear hb hbox hg) | ((with_reducible refine gate_dst (N := 2) rfl ?_); refine box_event ?hg (N := 2) ?hd (cs := #[.int .i64 0, .int .i64 0, .int .i64 0, .int .i64 0, .int .i64 0]) (t := 25) ?hr ?_; (case hd => rfl); (case hg => rfl); (case hr => go_simp <;> rfl); intro gb351 hg w12 hbox hb; have BK351 := Aside0.mk (hbox); have GW351 := Aside0.mk ((by rw [hg]; exact (below_size HB.out) : w.heap.size ≤ gb351)); have GE351 := GW351; have NB350_351 := Aside0.mk ((by rw [hg]; exact Nat.ne_of_lt (blk_lt BK350.out) : gb350 ≠ gb351)); have NB351_350 := Aside0.mk ((by rw [hg]; exact Nat.ne_of_gt (blk_lt BK350.out) : gb351 ≠ gb350)); replace BK350 := Aside0.mk (blk_below BK350.out hb); replace HB := Aside0.mk (below_step HB.out hb); clear hb hbox hg; have hnb13 := NB350_351.out; have hnc13 := NB351_350.out; have hcz14_0 : w12.cell? ⟨gb350, 0, none⟩ = some (.int .i64 a0_0) := (blk_cell BK350.out 0).trans rfl; have hcz14_1 : w12.cell? ⟨gb350, 1, none⟩ = some (.int .i64 a0_1) := (blk_cell BK350.out 1).trans rfl; have hcz14_2 : w12.cell? ⟨gb350, 2, none⟩ = some (.int .i64 a0_2) := (blk_cell BK350.out 2).trans rfl; have hfz14_0 := blk_frozen BK350.out 0; have hfz14_1 := blk_frozen BK350.out 1; have hfz14_2 := blk_frozen BK350.out 2) | ((with_reducible refine gate_callee (f := 18) rfl ?_); refine goesL_ (some 6) rfl rfl Tryd.func18 (by kernel_rfl) rfl #[.agg #[.int .i64 a0_0, .int .i64 a0_1, .int .i64 a0_2]] rfl (by (try simp only [List.map_toArray, List.map_cons, List.map_nil]); first | done | rfl | (simp only [List.length_drop, List.length_take]; rfl)) ?_; (with_reducible refine (whittleref3_Right.calls a0_0 a0_1 a0_2 false _ A2.out).mono ?_); rintro e w15 ⟨rfl, hb⟩; refine ⟨_, rfl, ?_⟩; replace BK350 := Aside0.mk (blk_below BK350.out hb); replace BK351 := Aside0.mk (blk_below BK351.out hb); replace HB := Aside0.mk (below_step HB.out hb); (try clear hb); have hcz16_0 : w15.cell? ⟨gb351, 0, none⟩ = some (.int .i64 0) := (blk_cell BK351.out 0).trans rfl; have hcz16_1 : w15.cell? ⟨gb351, 1, none⟩ = some (.int .i64 0) := (blk_cell BK351.out 1).trans rfl; have hcz16_2 : w15.cell? ⟨gb351, 2, none⟩ = some (.int .i64 0) := (blk_cell BK351.out 2).trans rfl; have hcz16_3 : w15.cell? ⟨gb351, 3, none⟩ = some (.int .i64 0) := (blk_cell BK351.out 3).trans rfl; have hcz16_4 : w15.cell? ⟨gb351, 4, none⟩ = some (.int .i64 0) := (blk_cell BK351.out 4).trans rfl; have hfz16_0 := blk_frozen BK351.out 0; have hfz16_1 := blk_frozen BK351.out 1; have hfz16_2 := blk_frozen BK351.out 2; have hfz16_3 := blk_frozen BK351.out 3; have hfz16_4 := blk_frozen BK351.out 4))
    refine bodyPost_ret (results_ct rfl _ _ gb351 25 #[.int .i64 0, .int .i64 0, .int .i64 0, .int .i64 0, .int .i64 0] (0, 0) _ rfl (by (with_reducible repeat first | apply blk_drewN | apply blk_drew | apply blk_alloc); refine blk_put (cs := #[.int .i64 0, .int .i64 0, .int .i64 0, .int .i64 0, .int .i64 0]) ?_ 4 _ rfl; (with_reducible repeat first | apply blk_drewN | apply blk_drew | apply blk_alloc); refine blk_put (cs := #[.int .i64 0, .int .i64 0, .int .i64 0, .int .i64 0, .int .i64 0]) ?_ 3 _ rfl; (with_reducible repeat first | apply blk_drewN | apply blk_drew | apply blk_alloc); refine blk_put (cs := #[.int .i64 0, .int .i64 0, .int .i64 0, .int .i64 0, .int .i64 0]) ?_ 2 _ rfl; (with_reducible repeat first | apply blk_drewN | apply blk_drew | apply blk_alloc); refine blk_put (cs := #[.int .i64 0, .int .i64 0, .int .i64 0, .int .i64 0, .int .i64 0]) ?_ 1 _ rfl; (with_reducible repeat first | apply blk_drewN | apply blk_drew | apply blk_alloc); refine blk_put (cs := #[.int .i64 0, .int .i64 0, .int .i64 0, .int .i64 0, .int .i64 0]) ?_ 0 _ rfl; (with_reducible repeat first | apply blk_drewN | apply blk_drew | apply blk_alloc); exact BK351.out) Tryd.underlying25 rfl (by kernel_rfl)) rfl ?_
    exact ⟨by first | rfl | (simp [errW_none, errW_some] <;> rfl) | (simp [*, errW_none, errW_some] <;> rfl), by repeat (first | (with_reducible first | exact HB.out | apply below_alloc | apply pw_below_drewN | apply below_drew1 | refine below_set ?_ GE350.out | refine below_set ?_ GE351.out) | exact HB.out)⟩



/-! ### whittleref3_Size: function 53 -/
def whittleref3_Size.f (a0_0 : Int) (a0_1 : Int) (a0_2 : Int) (a0_3 : Int) (a0_4 : Int) : Option (Int) := (whittleref3_RightArea.f a0_0 a0_1 a0_2 a0_3 a0_4).bind fun t492 => (if t492 = true then (some (wrap64 ((wrap64 ((wrap64 (a0_3 - a0_1)) + 1)) * (wrap64 ((wrap64 (a0_4 - a0_2)) + 1))))) else (some 0))
set_option maxHeartbeats 8000000 in
set_option maxRecDepth 100000 in
theorem whittleref3_Size.calls (a0_0 : Int) (a0_1 : Int) (a0_2 : Int) (a0_3 : Int) (a0_4 : Int) (r : Int) (w : World) (h : whittleref3_Size.f a0_0 a0_1 a0_2 a0_3 a0_4 = some r) :
    Calls Tryd.prog 53 #[.agg #[.int .i64 a0_0, .int .i64 a0_1, .int .i64 a0_2, .int .i64 a0_3, .int .i64 a0_4]] w fun e w' => e = .returned (.int .i64 r) ∧ Below w.heap.size w w' := by
  have hu25 := Tryd.underlying25
  have HB := Aside0.mk (Below.refl w.heap.size w)
  have H : ((whittleref3_RightArea.f a0_0 a0_1 a0_2 a0_3 a0_4).bind fun t492 => (if t492 = true then (some (wrap64 ((wrap64 ((wrap64 (a0_3 - a0_1)) + 1)) * (wrap64 ((wrap64 (a0_4 - a0_2)) + 1))))) else (some 0))) = some r := h
  clear h
  replace H := Option.bind_eq_some_iff.mp H
  obtain ⟨t492, A20, H⟩ := H
  replace H : (if t492 = true then (some (wrap64 ((wrap64 ((wrap64 (a0_3 - a0_1)) + 1)) * (wrap64 ((wrap64 (a0_4 - a0_2)) + 1))))) else (some 0)) = some r := H
  have A2 := Aside0.mk A20
  clear A20
  by_cases c3 : t492 = true
  · subst c3
    have H1 : (some (wrap64 ((wrap64 ((wrap64 (a0_3 - a0_1)) + 1)) * (wrap64 ((wrap64 (a0_4 - a0_2)) + 1))))) = some r := by rw [if_pos rfl] at H; exact H
    clear H
    have H := H1
    clear H1
    obtain rfl := Option.some.inj H
    go_enter Tryd.func53, Tryd.ntmps53
    go_wp2_with (first | ((with_reducible refine gate_dst (N := 1) rfl ?_); refine box_event ?hg (N := 1) ?hd (cs := #[.int .i64 a0_0, .int .i64 a0_1, .int .i64 a0_2, .int .i64 a0_3, .int .i64 a0_4]) (t := 25) ?hr ?_; (case hd => rfl); (case hg => rfl); (case hr => go_simp <;> rfl); intro gb491 hg w4 hbox hb; have BK491 := Aside0.mk (hbox); have GW491 := Aside0.mk ((by rw [hg]; exact (below_size HB.out) : w.heap.size ≤ gb491)); have GE491 := GW491; replace HB := Aside0.mk (below_step HB.out hb); clear hb hbox hg; have hcz5_0 : w4.cell? ⟨gb491, 0, none⟩ = some (.int .i64 a0_0) := (blk_cell BK491.out 0).trans rfl; have hcz5_1 : w4.cell? ⟨gb491, 1, none⟩ = some (.int .i64 a0_1) := (blk_cell BK491.out 1).trans rfl; have hcz5_2 : w4.cell? ⟨gb491, 2, none⟩ = some (.int .i64 a0_2) := (blk_cell BK491.out 2).trans rfl; have hcz5_3 : w4.cell? ⟨gb491, 3, none⟩ = some (.int .i64 a0_3) := (blk_cell BK491.out 3).trans rfl; have hcz5_4 : w4.cell? ⟨gb491, 4, none⟩ = some (.int .i64 a0_4) := (blk_cell BK491.out 4).trans rfl; have hfz5_0 := blk_frozen BK491.out 0; have hfz5_1 := blk_frozen BK491.out 1; have hfz5_2 := blk_frozen BK491.out 2; have hfz5_3 := blk_frozen BK491.out 3; have hfz5_4 := blk_frozen BK491.out 4) | ((with_reducible refine gate_callee (f := 20) rfl ?_); refine goesL_ (some 5) rfl rfl Tryd.func20 (by kernel_rfl) rfl #[.agg #[.int .i64 a0_0, .int .i64 a0_1, .int .i64 a0_2, .int .i64 a0_3, .int .i64 a0_4]] rfl (by (try simp only [List.map_toArray, List.map_cons, List.map_nil]); first | done | rfl | (simp only [List.length_drop, List.length_take]; rfl)) ?_; (with_reducible refine (whittleref3_RightArea.calls a0_0 a0_1 a0_2 a0_3 a0_4 true _ A2.out).mono ?_); rintro e w6 ⟨rfl, hb⟩; refine ⟨_, rfl, ?_⟩; replace BK491 := Aside0.mk (blk_below BK491.out hb); replace HB := Aside0.mk (below_step HB.out hb); (try clear hb); have hcz7_0 : w6.cell? ⟨gb491, 0, none⟩ = some (.int .i64 a0_0) := (blk_cell BK491.out 0).trans rfl; have hcz7_1 : w6.cell? ⟨gb491, 1, none⟩ = some (.int .i64 a0_1) := (blk_cell BK491.out 1).trans rfl; have hcz7_2 : w6.cell? ⟨gb491, 2, none⟩ = some (.int .i64 a0_2) := (blk_cell BK491.out 2).trans rfl; have hcz7_3 : w6.cell? ⟨gb491, 3, none⟩ = some (.int .i64 a0_3) := (blk_cell BK491.out 3).trans rfl; have hcz7_4 : w6.cell? ⟨gb491, 4, none⟩ = some (.int .i64 a0_4) := (blk_cell BK491.out 4).trans rfl; have hfz7_0 := blk_frozen BK491.out 0; have hfz7_1 := blk_frozen BK491.out 1; have hfz7_2 := blk_frozen BK491.out 2; have hfz7_3 := blk_frozen BK491.out 3; have hfz7_4 := blk_frozen BK491.out 4))
    go_ret
    exact ⟨by first | rfl | (simp [errW_none, errW_some] <;> rfl) | (simp [*, errW_none, errW_some] <;> rfl), by repeat (first | (with_reducible first | exact HB.out | apply below_alloc | apply pw_below_drewN | apply below_drew1 | refine below_set ?_ GE491.out) | exact HB.out)⟩
  · replace c3 := Bool.eq_false_iff.mpr c3
    subst c3
    have H1 : (some 0) = some r := by rw [if_neg (show ¬ (false = true) by decide)] at H; exact H
    clear H
    have H := H1
    clear H1
    obtain rfl := Option.some.inj H
    go_enter Tryd.func53, Tryd.ntmps53
    go_wp2_with (first | ((with_reducible refine gate_dst (N := 1) rfl ?_); refine box_event ?hg (N := 1) ?hd (cs := #[.int .i64 a0_0, .int .i64 a0_1, .int .i64 a0_2, .int .i64 a0_3, .int .i64 a0_4]) (t := 25) ?hr ?_; (case hd => rfl); (case hg => rfl); (case hr => go_simp <;> rfl); intro gb491 hg w8 hbox hb; have BK491 := Aside0.mk (hbox); have GW491 := Aside0.mk ((by rw [hg]; exact (below_size HB.out) : w.heap.size ≤ gb491)); have GE491 := GW491; replace HB := Aside0.mk (below_step HB.out hb); clear hb hbox hg; have hcz9_0 : w8.cell? ⟨gb491, 0, none⟩ = some (.int .i64 a0_0) := (blk_cell BK491.out 0).trans rfl; have hcz9_1 : w8.cell? ⟨gb491, 1, none⟩ = some (.int .i64 a0_1) := (blk_cell BK491.out 1).trans rfl; have hcz9_2 : w8.cell? ⟨gb491, 2, none⟩ = some (.int .i64 a0_2) := (blk_cell BK491.out 2).trans rfl; have hcz9_3 : w8.cell? ⟨gb491, 3, none⟩ = some (.int .i64 a0_3) := (blk_cell BK491.out 3).trans rfl; have hcz9_4 : w8.cell? ⟨gb491, 4, none⟩ = some (.int .i64 a0_4) := (blk_cell BK491.out 4).trans rfl; have hfz9_0 := blk_frozen BK491.out 0; have hfz9_1 := blk_frozen BK491.out 1; have hfz9_2 := blk_frozen BK491.out 2; have hfz9_3 := blk_frozen BK491.out 3; have hfz9_4 := blk_frozen BK491.out 4) | ((with_reducible refine gate_callee (f := 20) rfl ?_); refine goesL_ (some 5) rfl rfl Tryd.func20 (by kernel_rfl) rfl #[.agg #[.int .i64 a0_0, .int .i64 a0_1, .int .i64 a0_2, .int .i64 a0_3, .int .i64 a0_4]] rfl (by (try simp only [List.map_toArray, List.map_cons, List.map_nil]); first | done | rfl | (simp only [List.length_drop, List.length_take]; rfl)) ?_; (with_reducible refine (whittleref3_RightArea.calls a0_0 a0_1 a0_2 a0_3 a0_4 false _ A2.out).mono ?_); rintro e w10 ⟨rfl, hb⟩; refine ⟨_, rfl, ?_⟩; replace BK491 := Aside0.mk (blk_below BK491.out hb); replace HB := Aside0.mk (below_step HB.out hb); (try clear hb)))
    go_ret
    exact ⟨by first | rfl | (simp [errW_none, errW_some] <;> rfl) | (simp [*, errW_none, errW_some] <;> rfl), by repeat (first | (with_reducible first | exact HB.out | apply below_alloc | apply pw_below_drewN | apply below_drew1 | refine below_set ?_ GE491.out) | exact HB.out)⟩



/-! ### whittleref3_At: function 51 -/
def whittleref3_At.f (a0_0 : Int) (a0_1 : Int) (a0_2 : Int) (a0_3 : Int) (a0_4 : Int) (a1 : Int) : Option (Int × Int × Int × Bool) := if a1 < 0 then (some (0, 0, 0, false)) else ((whittleref3_Size.f a0_0 a0_1 a0_2 a0_3 a0_4).bind fun t495 => (if a1 ≥ t495 then (some (0, 0, 0, false)) else (if (wrap64 ((wrap64 (a0_4 - a0_2)) + 1)) = 0 then (none) else (some (a0_0, wrap64 (a0_1 + (wrap64 (Int.tdiv a1 (wrap64 ((wrap64 (a0_4 - a0_2)) + 1))))), wrap64 (a0_2 + (Int.tmod a1 (wrap64 ((wrap64 (a0_4 - a0_2)) + 1)))), true)))))
def whittleref3_At.T4 : Bool × List (List Nat × List Nat) := (true, [([], []), ([0], [0]), ([], []), ([2], [2]), ([], []), ([], []), ([4, 5], [4, 5]), ([3, 6], [3, 6]), ([], []), ([8], [8]), ([], []), ([], []), ([10, 11], [10, 11]), ([9, 12], [9, 12]), ([1, 7, 13], [1, 7, 13]), ([14, 0, 1, 2, 3, 4, 5, 6, 7, 8, 9, 10, 11, 12, 13, 14], [14]), ([15, 0, 1, 2, 3, 4, 5, 6, 7, 8, 9, 10, 11, 12, 13, 14, 15], [])])
def whittleref3_At.B4 : List Nat := [0, 1, 0, 4, 0, 0, 48, 124, 0, 256, 0, 0, 3072, 7936, 16383, 32767, 65535]
theorem whittleref3_At.tab4 : rtab .any (opsOf Tryd.f51 4) = whittleref3_At.T4 := by kernel_rfl
theorem whittleref3_At.bits4 : waitsOk whittleref3_At.T4.2 whittleref3_At.B4 = true := by kernel_rfl
set_option maxHeartbeats 8000000 in
set_option maxRecDepth 100000 in
theorem whittleref3_At.calls (a0_0 : Int) (a0_1 : Int) (a0_2 : Int) (a0_3 : Int) (a0_4 : Int) (a1 : Int) (r1 : Int) (r2 : Int) (r3 : Int) (r4 : Bool) (w : World) (h : whittleref3_At.f a0_0 a0_1 a0_2 a0_3 a0_4 a1 = some (r1, r2, r3, r4)) :
    Calls Tryd.prog 51 #[.agg #[.int .i64 a0_0, .int .i64 a0_1, .int .i64 a0_2, .int .i64 a0_3, .int .i64 a0_4], .int .i64 a1] w fun e w' => e = .returned (.tuple #[.agg #[.int .i64 r1, .int .i64 r2, .int .i64 r3], .bool r4]) ∧ Below w.heap.size w w' := by
  have hu25 := Tryd.underlying25
  have hu23 := Tryd.underlying23
  have HB := Aside0.mk (Below.refl w.heap.size w)
  have H : (if a1 < 0 then (some (0, 0, 0, false)) else ((whittleref3_Size.f a0_0 a0_1 a0_2 a0_3 a0_4).bind fun t495 => (if a1 ≥ t495 then (some (0, 0, 0, false)) else (if (wrap64 ((wrap64 (a0_4 - a0_2)) + 1)) = 0 then (none) else (some (a0_0, wrap64 (a0_1 + (wrap64 (Int.tdiv a1 (wrap64 ((wrap64 (a0_4 - a0_2)) + 1))))), wrap64 (a0_2 + (Int.tmod a1 (wrap64 ((wrap64 (a0_4 - a0_2)) + 1)))), true)))))) = some (r1, r2, r3, r4) := h
  clear h
  by_cases c3 : a1 < 0
  · rw [if_pos c3] at H
    have c3b0 : decide (a1 < 0) = true := decide_eq_true c3
    clear c3
    simp only [Option.some.injEq, Prod.mk.injEq] at H
    obtain ⟨rfl, rfl, rfl, rfl⟩ := H
    go_enter Tryd.func51, Tryd.ntmps51
    go_wp2_with (first | ((with_reducible refine gate_dst (N := 2) rfl ?_); refine box_event ?hg (N := 2) ?hd (cs := #[.int .i64 a0_0, .int .i64 a0_1, .int .i64 a0_2, .int .i64 a0_3, .int .i64 a0_4]) (t := 25) ?hr ?_; (case hd => rfl); (case hg => rfl); (case hr => go_simp <;> rfl); intro gb493 hg w4 hbox hb; have BK493 := Aside0.mk (hbox); have GW493 := Aside0.mk ((by rw [hg]; exact (below_size HB.out) : w.heap.size ≤ gb493)); have GE493 := GW493; replace HB := Aside0.mk (below_step HB.out hb); clear hb hbox hg) | ((with_reducible refine gate_dst (N := 4) rfl ?_); refine box_event ?hg (N := 4) ?hd (cs := #[.int .i64 0, .int .i64 0, .int .i64 0]) (t := 23) ?hr ?_; (case hd => rfl); (case hg => rfl); (case hr => go_simp <;> rfl); intro gb494 hg w5 hbox hb; have BK494 := Aside0.mk (hbox); have GW494 := Aside0.mk ((by rw [hg]; exact (below_size HB.out) : w.heap.size ≤ gb494)); have GE494 := GW494; have NB493_494 := Aside0.mk ((by rw [hg]; exact Nat.ne_of_lt (blk_lt BK493.out) : gb493 ≠ gb494)); have NB494_493 := Aside0.mk ((by rw [hg]; exact Nat.ne_of_gt (blk_lt BK493.out) : gb494 ≠ gb493)); replace BK493 := Aside0.mk (blk_below BK493.out hb); replace HB := Aside0.mk (below_step HB.out hb); clear hb hbox hg; have hnb6 := NB494_493.out; have hnc6 := NB493_494.out; have hcz7_0 : w5.cell? ⟨gb494, 0, none⟩ = some (.int .i64 0) := (blk_cell BK494.out 0).trans rfl; have hcz7_1 : w5.cell? ⟨gb494, 1, none⟩ = some (.int .i64 0) := (blk_cell BK494.out 1).trans rfl; have hcz7_2 : w5.cell? ⟨gb494, 2, none⟩ = some (.int .i64 0) := (blk_cell BK494.out 2).trans rfl; have hfz7_0 := blk_frozen BK494.out 0; have hfz7_1 := blk_frozen BK494.out 1; have hfz7_2 := blk_frozen BK494.out 2))
    refine bodyPost_ret (results_ct rfl _ _ gb494 23 #[.int .i64 0, .int .i64 0, .int .i64 0] (0, 0) _ rfl (by (with_reducible repeat first | apply blk_drewN | apply blk_drew | apply blk_alloc); refine blk_put (cs := #[.int .i64 0, .int .i64 0, .int .i64 0]) ?_ 2 _ rfl; (with_reducible repeat first | apply blk_drewN | apply blk_drew | apply blk_alloc); refine blk_put (cs := #[.int .i64 0, .int .i64 0, .int .i64 0]) ?_ 1 _ rfl; (with_reducible repeat first | apply blk_drewN | apply blk_drew | apply blk_alloc); refine blk_put (cs := #[.int .i64 0, .int .i64 0, .int .i64 0]) ?_ 0 _ rfl; (with_reducible repeat first | apply blk_drewN | apply blk_drew | apply blk_alloc); exact BK494.out) Tryd.underlying23 rfl (by kernel_rfl)) rfl ?_
    exact ⟨by first | rfl | (simp [errW_none, errW_some] <;> rfl) | (simp [*, errW_none, errW_some] <;> rfl), by repeat (first | (with_reducible first | exact HB.out | apply below_alloc | apply pw_below_drewN | apply below_drew1 | refine below_set ?_ GE493.out | refine below_set ?_ GE494.out) | exact HB.out)⟩
  · rw [if_neg c3] at H
    have c3b0 : decide (a1 < 0) = false := decide_eq_false c3
    clear c3
    replace H := Option.bind_eq_some_iff.mp H
    obtain ⟨t495, A80, H⟩ := H
    replace H : (if a1 ≥ t495 then (some (0, 0, 0, false)) else (if (wrap64 ((wrap64 (a0_4 - a0_2)) + 1)) = 0 then (none) else (some (a0_0, wrap64 (a0_1 + (wrap64 (Int.tdiv a1 (wrap64 ((wrap64 (a0_4 - a0_2)) + 1))))), wrap64 (a0_2 + (Int.tmod a1 (wrap64 ((wrap64 (a0_4 - a0_2)) + 1)))), true)))) = some (r1, r2, r3, r4) := H
    have A8 := Aside0.mk A80
    clear A80
    by_cases c9 : a1 ≥ t495
    · rw [if_pos c9] at H
      have c9b0 : decide (t495 ≤ a1) = true := decide_eq_true c9
      clear c9
      simp only [Option.some.injEq, Prod.mk.injEq] at H
      obtain ⟨rfl, rfl, rfl, rfl⟩ := H
      go_enter Tryd.func51, Tryd.ntmps51
      go_wp2_with (first | ((with_reducible refine gate_dst (N := 2) rfl ?_); refine box_event ?hg (N := 2) ?hd (cs := #[.int .i64 a0_0, .int .i64 a0_1, .int .i64 a0_2, .int .i64 a0_3, .int .i64 a0_4]) (t := 25) ?hr ?_; (case hd => rfl); (case hg => rfl); (case hr => go_simp <;> rfl); intro gb493 hg w10 hbox hb; have BK493 := Aside0.mk (hbox); have GW493 := Aside0.mk ((by rw [hg]; exact (below_size HB.out) : w.heap.size ≤ gb493)); have GE493 := GW493; replace HB := Aside0.mk (below_step HB.out hb); clear hb hbox hg) | ((with_reducible refine gate_dst (N := 4) rfl ?_); refine box_event ?hg (N := 4) ?hd (cs := #[.int .i64 0, .int .i64 0, .int .i64 0]) (t := 23) ?hr ?_; (case hd => rfl); (case hg => rfl); (case hr => go_simp <;> rfl); intro gb494 hg w11 hbox hb; have BK494 := Aside0.mk (hbox); have GW494 := Aside0.mk ((by rw [hg]; exact (below_size HB.out) : w.heap.size ≤ gb494)); have GE494 := GW494; have NB493_494 := Aside0.mk ((by rw [hg]; exact Nat.ne_of_lt (blk_lt BK493.out) : gb493 ≠ gb494)); have NB494_493 := Aside0.mk ((by rw [hg]; exact Nat.ne_of_gt (blk_lt BK493.out) : gb494 ≠ gb493)); replace BK493 := Aside0.mk (blk_below BK493.out hb); replace HB := Aside0.mk (below_step HB.out hb); clear hb hbox hg; have hnb12 := NB493_494.out; have hnc12 := NB494_493.out; have hcz13_0 : w11.cell? ⟨gb493, 0, none⟩ = some (.int .i64 a0_0) := (blk_cell BK493.out 0).trans rfl; have hcz13_1 : w11.cell? ⟨gb493, 1, none⟩ = some (.int .i64 a0_1) := (blk_cell BK493.out 1).trans rfl; have hcz13_2 : w11.cell? ⟨gb493, 2, none⟩ = some (.int .i64 a0_2) := (blk_cell BK493.out 2).trans rfl; have hcz13_3 : w11.cell? ⟨gb493, 3, none⟩ = some (.int .i64 a0_3) := (blk_cell BK493.out 3).trans rfl; have hcz13_4 : w11.cell? ⟨gb493, 4, none⟩ = some (.int .i64 a0_4) := (blk_cell BK493.out 4).trans rfl; have hfz13_0 := blk_frozen BK493.out 0; have hfz13_1 := blk_frozen BK493.out 1; have hfz13_2 := blk_frozen BK493.out 2; have hfz13_3 := blk_frozen BK493.out 3; have hfz13_4 := blk_frozen BK493.out 4) | (go_at_call 53; (with_reducible refine (whittleref3_Size.calls a0_0 a0_1 a0_2 a0_3 a0_4 t495 _ A8.out).mono ?_); rintro e w14 ⟨rfl, hb⟩; replace BK493 := Aside0.mk (blk_below BK493.out hb); replace BK494 := Aside0.mk (blk_below BK494.out hb); replace HB := Aside0.mk (below_step HB.out hb); (try clear hb); have hcz15_0 : w14.cell? ⟨gb494, 0, none⟩ = some (.int .i64 0) := (blk_cell BK494.out 0).trans rfl; have hcz15_1 : w14.cell? ⟨gb494, 1, none⟩ = some (.int .i64 0) := (blk_cell BK494.out 1).trans rfl; have hcz15_2 : w14.cell? ⟨gb494, 2, none⟩ = some (.int .i64 0) := (blk_cell BK494.out 2).trans rfl; have hfz15_0 := blk_frozen BK494.out 0; have hfz15_1 := blk_frozen BK494.out 1; have hfz15_2 := blk_frozen BK494.out 2))
      refine bodyPost_ret (results_ct rfl _ _ gb494 23 #[.int .i64 0, .int .i64 0, .int .i64 0] (0, 0) _ rfl (by (with_reducible repeat first | apply blk_drewN | apply blk_drew | apply blk_alloc); refine blk_put (cs := #[.int .i64 0, .int .i64 0, .int .i64 0]) ?_ 2 _ rfl; (with_reducible repeat first | apply blk_drewN | apply blk_drew | apply blk_alloc); refine blk_put (cs := #[.int .i64 0, .int .i64 0, .int .i64 0]) ?_ 1 _ rfl; (with_reducible repeat first | apply blk_drewN | apply blk_drew | apply blk_alloc); refine blk_put (cs := #[.int .i64 0, .int .i64 0, .int .i64 0]) ?_ 0 _ rfl; (with_reducible repeat first | apply blk_drewN | apply blk_drew | apply blk_alloc); exact BK494.out) Tryd.underlying23 rfl (by kernel_rfl)) rfl ?_
      exact ⟨by first | rfl | (simp [errW_none, errW_some] <;> rfl) | (simp [*, errW_none, errW_some] <;> rfl), by repeat (first | (with_reducible first | exact HB.out | apply below_alloc | apply pw_below_drewN | apply below_drew1 | refine below_set ?_ GE493.out | refine below_set ?_ GE494.out) | exact HB.out)⟩
    · rw [if_neg c9] at H
      have c9b0 : decide (t495 ≤ a1) = false := decide_eq_false c9
      clear c9
      by_cases c16 : (wrap64 ((wrap64 (a0_4 - a0_2)) + 1)) = 0
      · rw [if_pos c16] at H
        exact absurd H (by simp)
      · rw [if_neg c16] at H
        have c16b0 : ((wrap64 ((wrap64 (a0_4 - a0_2)) + 1)) == 0) = false := beq_eq_false_iff_ne.mpr c16
        have c16b1 : ((wrap64 ((wrap64 (a0_4 - a0_2)) + 1)) != 0) = true := bne_iff_ne.mpr c16
        simp only [Option.some.injEq, Prod.mk.injEq] at H
        obtain ⟨rfl, rfl, rfl, rfl⟩ := H
        go_enter Tryd.func51, Tryd.ntmps51
        try go_wp2_with (first | ((with_reducible refine gate_dst (N := 2) rfl ?_); refine box_event ?hg (N := 2) ?hd (cs := #[.int .i64 a0_0, .int .i64 a0_1, .int .i64 a0_2, .int .i64 a0_3, .int .i64 a0_4]) (t := 25) ?hr ?_; (case hd => rfl); (case hg => rfl); (case hr => go_simp <;> rfl); intro gb493 hg w17 hbox hb; have BK493 := Aside0.mk (hbox); have GW493 := Aside0.mk ((by rw [hg]; exact (below_size HB.out) : w.heap.size ≤ gb493)); have GE493 := GW493; replace HB := Aside0.mk (below_step HB.out hb); clear hb hbox hg) | ((with_reducible refine gate_dst (N := 4) rfl ?_); refine box_event ?hg (N := 4) ?hd (cs := #[.int .i64 0, .int .i64 0, .int .i64 0]) (t := 23) ?hr ?_; (case hd => rfl); (case hg => rfl); (case hr => go_simp <;> rfl); intro gb494 hg w18 hbox hb; have BK494 := Aside0.mk (hbox); have GW494 := Aside0.mk ((by rw [hg]; exact (below_size HB.out) : w.heap.size ≤ gb494)); have GE494 := GW494; have NB493_494 := Aside0.mk ((by rw [hg]; exact Nat.ne_of_lt (blk_lt BK493.out) : gb493 ≠ gb494)); have NB494_493 := Aside0.mk ((by rw [hg]; exact Nat.ne_of_gt (blk_lt BK493.out) : gb494 ≠ gb493)); replace BK493 := Aside0.mk (blk_below BK493.out hb); replace HB := Aside0.mk (below_step HB.out hb); clear hb hbox hg; have hnb19 := NB493_494.out; have hnc19 := NB494_493.out; have hcz20_0 : w18.cell? ⟨gb493, 0, none⟩ = some (.int .i64 a0_0) := (blk_cell BK493.out 0).trans rfl; have hcz20_1 : w18.cell? ⟨gb493, 1, none⟩ = some (.int .i64 a0_1) := (blk_cell BK493.out 1).trans rfl; have hcz20_2 : w18.cell? ⟨gb493, 2, none⟩ = some (.int .i64 a0_2) := (blk_cell BK493.out 2).trans rfl; have hcz20_3 : w18.cell? ⟨gb493, 3, none⟩ = some (.int .i64 a0_3) := (blk_cell BK493.out 3).trans rfl; have hcz20_4 : w18.cell? ⟨gb493, 4, none⟩ = some (.int .i64 a0_4) := (blk_cell BK493.out 4).trans rfl; have hfz20_0 := blk_frozen BK493.out 0; have hfz20_1 := blk_frozen BK493.out 1; have hfz20_2 := blk_frozen BK493.out 2; have hfz20_3 := blk_frozen BK493.out 3; have hfz20_4 := blk_frozen BK493.out 4) | (go_at_call 53; (with_reducible refine (whittleref3_Size.calls a0_0 a0_1 a0_2 a0_3 a0_4 t495 _ A8.out).mono ?_); rintro e w21 ⟨rfl, hb⟩; replace BK493 := Aside0.mk (blk_below BK493.out hb); replace BK494 := Aside0.mk (blk_below BK494.out hb); replace HB := Aside0.mk (below_step HB.out hb); (try clear hb); have hcz22_0 : w21.cell? ⟨gb493, 0, none⟩ = some (.int .i64 a0_0) := (blk_cell BK493.out 0).trans rfl; have hcz22_1 : w21.cell? ⟨gb493, 1, none⟩ = some (.int .i64 a0_1) := (blk_cell BK493.out 1).trans rfl; have hcz22_2 : w21.cell? ⟨gb493, 2, none⟩ = some (.int .i64 a0_2) := (blk_cell BK493.out 2).trans rfl; have hcz22_3 : w21.cell? ⟨gb493, 3, none⟩ = some (.int .i64 a0_3) := (blk_cell BK493.out 3).trans rfl; have hcz22_4 : w21.cell? ⟨gb493, 4, none⟩ = some (.int .i64 a0_4) := (blk_cell BK493.out 4).trans rfl; have hfz22_0 := blk_frozen BK493.out 0; have hfz22_1 := blk_frozen BK493.out 1; have hfz22_2 := blk_frozen BK493.out 2; have hfz22_3 := blk_frozen BK493.out 3; have hfz22_4 := blk_frozen BK493.out 4))
        have n0_ := Aside0.mk (blk_drew BK493.out)
        have n1_ := Aside0.mk (blk_drew BK494.out)
        have n2_ := Aside0.mk (below_drew1 HB.out)
        clear BK493
        clear BK494
        clear HB
        have BK493 := n0_
        have BK494 := n1_
        have HB := n2_
        clear n0_ n1_ n2_
        refine start_ (n := 17) (S := fun w' => w'.cell? ⟨gb493, 0, none⟩ = some (.int .i64 a0_0) ∧ w'.cell? ⟨gb493, 1, none⟩ = some (.int .i64 a0_1) ∧ w'.cell? ⟨gb493, 2, none⟩ = some (.int .i64 a0_2) ∧ w'.cell? ⟨gb493, 3, none⟩ = some (.int .i64 a0_3) ∧ w'.cell? ⟨gb493, 4, none⟩ = some (.int .i64 a0_4)) (ds := []) #[false, false, false, false, false, false, false, false, false, false, false, false, false, false, false, false, false] (by kernel_rfl) rfl rfl ⟨(blk_cell BK493.out 0).trans rfl, (blk_cell BK493.out 1).trans rfl, (blk_cell BK493.out 2).trans rfl, (blk_cell BK493.out 3).trans rfl, (blk_cell BK493.out 4).trans rfl⟩ (fun hHeld => ?_); refine with_tabW whittleref3_At.tab4 whittleref3_At.bits4 (fun HT_ HW_ => ?_)
        generalize w21.drew = w23 at BK493 BK494 HB hHeld ⊢
        refine pure_ (i := 0) (N := some 22) (v := ?_) (a' := ?_) #[true, false, false, false, false, false, false, false, false, false, false, false, false, false, false, false, false] rfl rfl (any_of HT_.out (by kernel_rfl)) (fun _ _ _ h => h) (Or.inl ⟨by rfl, ?_⟩) ?_ ?_
        rotate_left
        · intro w'
          go_simp
          with_reducible rfl
        rotate_left
        · simp only [Act.put, List.setIfInBounds_toArray, List.set_cons_zero, List.set_cons_succ, i64_w, i32_w]
          rfl
        refine pure_ (i := 2) (N := some 24) (v := ?_) (a' := ?_) #[true, false, true, false, false, false, false, false, false, false, false, false, false, false, false, false, false] rfl rfl (any_of HT_.out (by kernel_rfl)) (fun _ _ _ h => h) (Or.inl ⟨by rfl, ?_⟩) ?_ ?_
        rotate_left
        · intro w'
          go_simp
          with_reducible rfl
        rotate_left
        · simp only [Act.put, List.setIfInBounds_toArray, List.set_cons_zero, List.set_cons_succ, i64_w, i32_w]
          rfl
        refine pure_ (i := 4) (N := some 26) (v := ?_) (a' := ?_) #[true, false, true, false, true, false, false, false, false, false, false, false, false, false, false, false, false] rfl rfl (any_of HT_.out (by kernel_rfl)) (fun _ _ _ h => h) (Or.inl ⟨by rfl, ?_⟩) ?_ ?_
        rotate_left
        · intro w'
          go_simp
          with_reducible rfl
        rotate_left
        · simp only [Act.put, List.setIfInBounds_toArray, List.set_cons_zero, List.set_cons_succ, i64_w, i32_w]
          rfl
        refine pure_ (i := 5) (N := some 27) (v := ?_) (a' := ?_) #[true, false, true, false, true, true, false, false, false, false, false, false, false, false, false, false, false] rfl rfl (any_of HT_.out (by kernel_rfl)) (fun _ _ _ h => h) (Or.inl ⟨by rfl, ?_⟩) ?_ ?_
        rotate_left
        · intro w'
          go_simp
          with_reducible rfl
        rotate_left
        · simp only [Act.put, List.setIfInBounds_toArray, List.set_cons_zero, List.set_cons_succ, i64_w, i32_w]
          rfl
        refine pure_ (i := 6) (N := some 28) (v := ?_) (a' := ?_) #[true, false, true, false, true, true, true, false, false, false, false, false, false, false, false, false, false] rfl rfl (any_of HT_.out (by kernel_rfl)) (fun _ _ _ h => h) (Or.inl ⟨by rfl, ?_⟩) ?_ ?_
        rotate_left
        · intro w'
          go_simp
          with_reducible rfl
        rotate_left
        · simp only [Act.put, List.setIfInBounds_toArray, List.set_cons_zero, List.set_cons_succ, i64_w, i32_w]
          rfl
        refine pure_ (i := 8) (N := some 30) (v := ?_) (a' := ?_) #[true, false, true, false, true, true, true, false, true, false, false, false, false, false, false, false, false] rfl rfl (any_of HT_.out (by kernel_rfl)) (fun _ _ _ h => h) (Or.inl ⟨by rfl, ?_⟩) ?_ ?_
        rotate_left
        · intro w'
          go_simp
          with_reducible rfl
        rotate_left
        · simp only [Act.put, List.setIfInBounds_toArray, List.set_cons_zero, List.set_cons_succ, i64_w, i32_w]
          rfl
        refine pure_ (i := 10) (N := some 32) (v := ?_) (a' := ?_) #[true, false, true, false, true, true, true, false, true, false, true, false, false, false, false, false, false] rfl rfl (any_of HT_.out (by kernel_rfl)) (fun _ _ _ h => h) (Or.inl ⟨by rfl, ?_⟩) ?_ ?_
        rotate_left
        · intro w'
          go_simp
          with_reducible rfl
        rotate_left
        · simp only [Act.put, List.setIfInBounds_toArray, List.set_cons_zero, List.set_cons_succ, i64_w, i32_w]
          rfl
        refine pure_ (i := 11) (N := some 33) (v := ?_) (a' := ?_) #[true, false, true, false, true, true, true, false, true, false, true, true, false, false, false, false, false] rfl rfl (any_of HT_.out (by kernel_rfl)) (fun _ _ _ h => h) (Or.inl ⟨by rfl, ?_⟩) ?_ ?_
        rotate_left
        · intro w'
          go_simp
          with_reducible rfl
        rotate_left
        · simp only [Act.put, List.setIfInBounds_toArray, List.set_cons_zero, List.set_cons_succ, i64_w, i32_w]
          rfl
        refine pure_ (i := 12) (N := some 34) (v := ?_) (a' := ?_) #[true, false, true, false, true, true, true, false, true, false, true, true, true, false, false, false, false] rfl rfl (any_of HT_.out (by kernel_rfl)) (fun _ _ _ h => h) (Or.inl ⟨by rfl, ?_⟩) ?_ ?_
        rotate_left
        · intro w'
          go_simp
          with_reducible rfl
        rotate_left
        · simp only [Act.put, List.setIfInBounds_toArray, List.set_cons_zero, List.set_cons_succ, i64_w, i32_w]
          rfl
        refine take_ (i := 1) (N := some 23) (v := ?_) (a' := ?_) #[true, true, true, false, true, true, true, false, true, false, true, true, true, false, false, false, false] rfl rfl (take_ofW HT_.out HW_.out (by kernel_rfl)) (fun _ _ _ h => h) (Or.inl ⟨by rfl, ?_⟩) hHeld ?_ ?_
        rotate_left
        · rintro w' ⟨s0, s1, s2, s3, s4⟩
          go_simp
          with_reducible rfl
        rotate_left
        · simp only [Act.put, List.setIfInBounds_toArray, List.set_cons_zero, List.set_cons_succ, i64_w, i32_w]
          rfl
        refine take_ (i := 3) (N := some 25) (v := ?_) (a' := ?_) #[true, true, true, true, true, true, true, false, true, false, true, true, true, false, false, false, false] rfl rfl (take_ofW HT_.out HW_.out (by kernel_rfl)) (fun _ _ _ h => h) (Or.inl ⟨by rfl, ?_⟩) hHeld ?_ ?_
        rotate_left
        · rintro w' ⟨s0, s1, s2, s3, s4⟩
          go_simp
          with_reducible rfl
        rotate_left
        · simp only [Act.put, List.setIfInBounds_toArray, List.set_cons_zero, List.set_cons_succ, i64_w, i32_w]
          rfl
        refine pure_ (i := 7) (N := some 29) (v := ?_) (a' := ?_) #[true, true, true, true, true, true, true, true, true, false, true, true, true, false, false, false, false] rfl rfl (any_of HT_.out (by kernel_rfl)) (fun _ _ _ h => h) (Or.inl ⟨by rfl, ?_⟩) ?_ ?_
        rotate_left
        · intro w'
          go_simp
          with_reducible rfl
        rotate_left
        · simp only [Act.put, List.setIfInBounds_toArray, List.set_cons_zero, List.set_cons_succ, i64_w, i32_w]
          rfl
        refine take_ (i := 9) (N := some 31) (v := ?_) (a' := ?_) #[true, true, true, true, true, true, true, true, true, true, true, true, true, false, false, false, false] rfl rfl (take_ofW HT_.out HW_.out (by kernel_rfl)) (fun _ _ _ h => h) (Or.inl ⟨by rfl, ?_⟩) hHeld ?_ ?_
        rotate_left
        · rintro w' ⟨s0, s1, s2, s3, s4⟩
          go_simp
          with_reducible rfl
        rotate_left
        · simp only [Act.put, List.setIfInBounds_toArray, List.set_cons_zero, List.set_cons_succ, i64_w, i32_w]
          rfl
        refine pure_ (i := 13) (N := some 35) (v := ?_) (a' := ?_) #[true, true, true, true, true, true, true, true, true, true, true, true, true, true, false, false, false] rfl rfl (any_of HT_.out (by kernel_rfl)) (fun _ _ _ h => h) (Or.inl ⟨by rfl, ?_⟩) ?_ ?_
        rotate_left
        · intro w'
          go_simp
          with_reducible rfl
        rotate_left
        · simp only [Act.put, List.setIfInBounds_toArray, List.set_cons_zero, List.set_cons_succ, i64_w, i32_w]
          rfl
        refine pure_ (i := 14) (N := some 36) (v := ?_) (a' := ?_) #[true, true, true, true, true, true, true, true, true, true, true, true, true, true, true, false, false] rfl rfl (any_of HT_.out (by kernel_rfl)) (fun _ _ _ h => h) (Or.inl ⟨by rfl, ?_⟩) ?_ ?_
        rotate_left
        · intro w'
          go_simp
          with_reducible rfl
        rotate_left
        · simp only [Act.put, List.setIfInBounds_toArray, List.set_cons_zero, List.set_cons_succ, i64_w, i32_w]
          rfl
        refine one_ (i := 15) (N := none) #[true, true, true, true, true, true, true, true, true, true, true, true, true, true, true, true, false] rfl rfl (one_of HT_.out (by kernel_rfl)) (by decide) (fun K hK => ?_)
        have hs24 : w23.cell? ⟨gb494, 0, none⟩ = some (.int .i64 0) := (blk_cell BK494.out 0).trans rfl
        have hfs24 := blk_frozen BK494.out 0
        have hns24_0 := NB493_494.out
        have hms24_0 := NB494_493.out
        have hs25 : w23.cell? ⟨gb494, 1, none⟩ = some (.int .i64 0) := (blk_cell BK494.out 1).trans rfl
        have hfs25 := blk_frozen BK494.out 1
        have hns25_0 := NB493_494.out
        have hms25_0 := NB494_493.out
        have hs26 : w23.cell? ⟨gb494, 2, none⟩ = some (.int .i64 0) := (blk_cell BK494.out 2).trans rfl
        have hfs26 := blk_frozen BK494.out 2
        have hns26_0 := NB493_494.out
        have hms26_0 := NB494_493.out
        refine skip_ (w1 := ?_) (by rfl) rfl ?_ ?_
        rotate_left
        · go_simp
          rfl
        refine hK.out _ _ ⟨((cell_far (p := ⟨gb494, _, none⟩) NB493_494.out _).trans (((cell_far (p := ⟨gb494, _, none⟩) NB493_494.out _).trans (((cell_far (p := ⟨gb494, _, none⟩) NB493_494.out _).trans (hHeld.1)))))), ((cell_far (p := ⟨gb494, _, none⟩) NB493_494.out _).trans (((cell_far (p := ⟨gb494, _, none⟩) NB493_494.out _).trans (((cell_far (p := ⟨gb494, _, none⟩) NB493_494.out _).trans (hHeld.2.1)))))), ((cell_far (p := ⟨gb494, _, none⟩) NB493_494.out _).trans (((cell_far (p := ⟨gb494, _, none⟩) NB493_494.out _).trans (((cell_far (p := ⟨gb494, _, none⟩) NB493_494.out _).trans (hHeld.2.2.1)))))), ((cell_far (p := ⟨gb494, _, none⟩) NB493_494.out _).trans (((cell_far (p := ⟨gb494, _, none⟩) NB493_494.out _).trans (((cell_far (p := ⟨gb494, _, none⟩) NB493_494.out _).trans (hHeld.2.2.2.1)))))), ((cell_far (p := ⟨gb494, _, none⟩) NB493_494.out _).trans (((cell_far (p := ⟨gb494, _, none⟩) NB493_494.out _).trans (((cell_far (p := ⟨gb494, _, none⟩) NB493_494.out _).trans (hHeld.2.2.2.2))))))⟩ (fun hHeld => ?_)
        clear hK K
        refine pure_ (i := 16) (N := some 5) (v := ?_) (a' := ?_) #[true, true, true, true, true, true, true, true, true, true, true, true, true, true, true, true, true] rfl rfl (any_of HT_.out (by kernel_rfl)) (fun _ _ _ h => h) (Or.inl ⟨by rfl, ?_⟩) ?_ ?_
        rotate_left
        · intro w'
          go_simp
          with_reducible rfl
        rotate_left
        · simp only [Act.put, List.setIfInBounds_toArray, List.set_cons_zero, List.set_cons_succ, i64_w, i32_w]
          rfl
        refine done_ (done_of HT_.out (by kernel_rfl)) ?_
        try go_wp2
        refine bodyPost_ret (results_ct rfl _ _ gb494 23 #[.int .i64 a0_0, .int .i64 (wrap64 (a0_1 + (wrap64 (Int.tdiv a1 (wrap64 ((wrap64 (a0_4 - a0_2)) + 1)))))), .int .i64 (wrap64 (a0_2 + (Int.tmod a1 (wrap64 ((wrap64 (a0_4 - a0_2)) + 1)))))] (0, 0) _ rfl (by (with_reducible repeat first | apply blk_drewN | apply blk_drew | apply blk_alloc); refine blk_put (cs := #[.int .i64 a0_0, .int .i64 (wrap64 (a0_1 + (wrap64 (Int.tdiv a1 (wrap64 ((wrap64 (a0_4 - a0_2)) + 1)))))), .int .i64 0]) ?_ 2 _ rfl; (with_reducible repeat first | apply blk_drewN | apply blk_drew | apply blk_alloc); refine blk_put (cs := #[.int .i64 a0_0, .int .i64 0, .int .i64 0]) ?_ 1 _ rfl; (with_reducible repeat first | apply blk_drewN | apply blk_drew | apply blk_alloc); refine blk_put (cs := #[.int .i64 0, .int .i64 0, .int .i64 0]) ?_ 0 _ rfl; (with_reducible repeat first | apply blk_drewN | apply blk_drew | apply blk_alloc); exact BK494.out) Tryd.underlying23 rfl (by kernel_rfl)) rfl ?_
        exact ⟨by first | rfl | (simp [errW_none, errW_some] <;> rfl) | (simp [*, errW_none, errW_some] <;> rfl), by repeat (first | (with_reducible first | exact HB.out | apply below_alloc | apply pw_below_drewN | apply below_drew1 | refine below_set ?_ GE493.out | refine below_set ?_ GE494.out) | exact HB.out)⟩



/-! ### whittleref3_Meet: function 50 -/
def whittleref3_Meet.j0 : Nat → Bool → Int → Int → Int → Int → Int → Int → Int → Int → Int → Int → Option (Int × Int × Int × Int × Int × Bool)
  | 0, _, _, _, _, _, _, _, _, _, _, _ => none
  | k + 1, x25, x547000, x547001, x547002, x547003, x547004, x548000, x548001, x548002, x548003, x548004 => if x25 = true then (some (0, 0, 0, 0, 0, false)) else (if (mx x547001 x548001) > (mn x547003 x548003) then (some (0, 0, 0, 0, 0, false)) else (if (mx x547002 x548002) > (mn x547004 x548004) then (some (0, 0, 0, 0, 0, false)) else (some (x547000, mx x547001 x548001, mx x547002 x548002, mn x547003 x548003, mn x547004 x548004, true))))
def whittleref3_Meet.f (k : Nat) (a0_0 : Int) (a0_1 : Int) (a0_2 : Int) (a0_3 : Int) (a0_4 : Int) (a1_0 : Int) (a1_1 : Int) (a1_2 : Int) (a1_3 : Int) (a1_4 : Int) : Option (Int × Int × Int × Int × Int × Bool) := (whittleref3_RightArea.f a0_0 a0_1 a0_2 a0_3 a0_4).bind fun t549 => ((whittleref3_RightArea.f a1_0 a1_1 a1_2 a1_3 a1_4).bind fun t550 => (if t549 = true then (if t550 = true then (whittleref3_Meet.j0 k (a0_0 != a1_0) a0_0 a0_1 a0_2 a0_3 a0_4 a1_0 a1_1 a1_2 a1_3 a1_4) else (whittleref3_Meet.j0 k true a0_0 a0_1 a0_2 a0_3 a0_4 a1_0 a1_1 a1_2 a1_3 a1_4)) else (whittleref3_Meet.j0 k true a0_0 a0_1 a0_2 a0_3 a0_4 a1_0 a1_1 a1_2 a1_3 a1_4)))
theorem whittleref3_Meet.mono_l : ∀ k, (∀ y0 y1 y2 y3 y4 y5 y6 y7 y8 y9 y10, LeO (whittleref3_Meet.j0 k y0 y1 y2 y3 y4 y5 y6 y7 y8 y9 y10) (whittleref3_Meet.j0 (k + 1) y0 y1 y2 y3 y4 y5 y6 y7 y8 y9 y10))
  | 0 => fun _ _ _ _ _ _ _ _ _ _ _ r h => by simp [whittleref3_Meet.j0] at h
  | k + 1 => by
    have ih0 := whittleref3_Meet.mono_l k
    · intro y0 y1 y2 y3 y4 y5 y6 y7 y8 y9 y10
      unfold whittleref3_Meet.j0
      repeat' first
      | (with_reducible exact ih0 _ _ _ _ _ _ _ _ _ _ _)
      | (with_reducible exact LeO.refl _)
      | (with_reducible exact LeO.none _)
      | (with_reducible refine LeO.ite ?_ ?_)
      | (with_reducible refine LeO.bind ?_ (fun _ => ?_))
      | exact ih0 _ _ _ _ _ _ _ _ _ _ _
      | exact LeO.none _
      | refine LeO.ite ?_ ?_
      | refine LeO.bind ?_ (fun _ => ?_)
theorem whittleref3_Meet.mono : ∀ a0 a1 a2 a3 a4 a5 a6 a7 a8 a9 k, LeO (whittleref3_Meet.f k a0 a1 a2 a3 a4 a5 a6 a7 a8 a9) (whittleref3_Meet.f (k + 1) a0 a1 a2 a3 a4 a5 a6 a7 a8 a9) := by
  intro a0 a1 a2 a3 a4 a5 a6 a7 a8 a9 k
  have ih0 := whittleref3_Meet.mono_l k
  unfold whittleref3_Meet.f
  repeat' first
      | (with_reducible exact ih0 _ _ _ _ _ _ _ _ _ _ _)
      | (with_reducible exact LeO.refl _)
      | (with_reducible exact LeO.none _)
      | (with_reducible refine LeO.ite ?_ ?_)
      | (with_reducible refine LeO.bind ?_ (fun _ => ?_))
      | exact ih0 _ _ _ _ _ _ _ _ _ _ _
      | exact LeO.none _
      | refine LeO.ite ?_ ?_
      | refine LeO.bind ?_ (fun _ => ?_)
set_option maxHeartbeats 8000000 in
set_option maxRecDepth 100000 in
theorem whittleref3_Meet.calls (k : Nat) (a0_0 : Int) (a0_1 : Int) (a0_2 : Int) (a0_3 : Int) (a0_4 : Int) (a1_0 : Int) (a1_1 : Int) (a1_2 : Int) (a1_3 : Int) (a1_4 : Int) (r1 : Int) (r2 : Int) (r3 : Int) (r4 : Int) (r5 : Int) (r6 : Bool) (w : World) (h : whittleref3_Meet.f k a0_0 a0_1 a0_2 a0_3 a0_4 a1_0 a1_1 a1_2 a1_3 a1_4 = some (r1, r2, r3, r4, r5, r6)) :
    Calls Tryd.prog 50 #[.agg #[.int .i64 a0_0, .int .i64 a0_1, .int .i64 a0_2, .int .i64 a0_3, .int .i64 a0_4], .agg #[.int .i64 a1_0, .int .i64 a1_1, .int .i64 a1_2, .int .i64 a1_3, .int .i64 a1_4]] w fun e w' => e = .returned (.tuple #[.agg #[.int .i64 r1, .int .i64 r2, .int .i64 r3, .int .i64 r4, .int .i64 r5], .bool r6]) ∧ Below w.heap.size w w' := by
  have hu25 := Tryd.underlying25
  have HB := Aside0.mk (Below.refl w.heap.size w)
  have H : ((whittleref3_RightArea.f a0_0 a0_1 a0_2 a0_3 a0_4).bind fun t549 => ((whittleref3_RightArea.f a1_0 a1_1 a1_2 a1_3 a1_4).bind fun t550 => (if t549 = true then (if t550 = true then (whittleref3_Meet.j0 k (a0_0 != a1_0) a0_0 a0_1 a0_2 a0_3 a0_4 a1_0 a1_1 a1_2 a1_3 a1_4) else (whittleref3_Meet.j0 k true a0_0 a0_1 a0_2 a0_3 a0_4 a1_0 a1_1 a1_2 a1_3 a1_4)) else (whittleref3_Meet.j0 k true a0_0 a0_1 a0_2 a0_3 a0_4 a1_0 a1_1 a1_2 a1_3 a1_4)))) = some (r1, r2, r3, r4, r5, r6) := h
  clear h
  replace H := Option.bind_eq_some_iff.mp H
  obtain ⟨t549, A30, H⟩ := H
  replace H : ((whittleref3_RightArea.f a1_0 a1_1 a1_2 a1_3 a1_4).bind fun t550 => (if t549 = true then (if t550 = true then (whittleref3_Meet.j0 k (a0_0 != a1_0) a0_0 a0_1 a0_2 a0_3 a0_4 a1_0 a1_1 a1_2 a1_3 a1_4) else (whittleref3_Meet.j0 k true a0_0 a0_1 a0_2 a0_3 a0_4 a1_0 a1_1 a1_2 a1_3 a1_4)) else (whittleref3_Meet.j0 k true a0_0 a0_1 a0_2 a0_3 a0_4 a1_0 a1_1 a1_2 a1_3 a1_4))) = some (r1, r2, r3, r4, r5, r6) := H
  have A3 := Aside0.mk A30
  clear A30
  replace H := Option.bind_eq_some_iff.mp H
  obtain ⟨t550, A40, H⟩ := H
  replace H : (if t549 = true then (if t550 = true then (whittleref3_Meet.j0 k (a0_0 != a1_0) a0_0 a0_1 a0_2 a0_3 a0_4 a1_0 a1_1 a1_2 a1_3 a1_4) else (whittleref3_Meet.j0 k true a0_0 a0_1 a0_2 a0_3 a0_4 a1_0 a1_1 a1_2 a1_3 a1_4)) else (whittleref3_Meet.j0 k true a0_0 a0_1 a0_2 a0_3 a0_4 a1_0 a1_1 a1_2 a1_3 a1_4)) = some (r1, r2, r3, r4, r5, r6) := H
  have A4 := Aside0.mk A40
  clear A40
  have HC5 := Aside0.mk H
  clear H
  go_enter Tryd.func50, Tryd.ntmps50
  go_upto_region 3 with (first | ((with_reducible refine gate_dst (N := 2) rfl ?_); refine box_event ?hg (N := 2) ?hd (cs := #[.int .i64 a0_0, .int .i64 a0_1, .int .i64 a0_2, .int .i64 a0_3, .int .i64 a0_4]) (t := 25) ?hr ?_; (case hd => rfl); (case hg => rfl); (case hr => go_simp <;> rfl); intro gb546 hg w6 hbox hb; have BK546 := Aside0.mk (hbox); have GW546 := Aside0.mk ((by rw [hg]; exact (below_size HB.out) : w.heap.size ≤ gb546)); have GE546 := GW546; replace HB := Aside0.mk (below_step HB.out hb); clear hb hbox hg) | ((with_reducible refine gate_dst (N := 3) rfl ?_); refine box_event ?hg (N := 3) ?hd (cs := #[.int .i64 a1_0, .int .i64 a1_1, .int .i64 a1_2, .int .i64 a1_3, .int .i64 a1_4]) (t := 25) ?hr ?_; (case hd => rfl); (case hg => rfl); (case hr => go_simp <;> rfl); intro gb547 hg w7 hbox hb; have BK547 := Aside0.mk (hbox); have GW547 := Aside0.mk ((by rw [hg]; exact (below_size HB.out) : w.heap.size ≤ gb547)); have GE547 := GW547; have NB546_547 := Aside0.mk ((by rw [hg]; exact Nat.ne_of_lt (blk_lt BK546.out) : gb546 ≠ gb547)); have NB547_546 := Aside0.mk ((by rw [hg]; exact Nat.ne_of_gt (blk_lt BK546.out) : gb547 ≠ gb546)); replace BK546 := Aside0.mk (blk_below BK546.out hb); replace HB := Aside0.mk (below_step HB.out hb); clear hb hbox hg) | ((with_reducible refine gate_dst (N := 4) rfl ?_); refine box_event ?hg (N := 4) ?hd (cs := #[.int .i64 0, .int .i64 0, .int .i64 0, .int .i64 0, .int .i64 0]) (t := 25) ?hr ?_; (case hd => rfl); (case hg => rfl); (case hr => go_simp <;> rfl); intro gb548 hg w8 hbox hb; have BK548 := Aside0.mk (hbox); have GW548 := Aside0.mk ((by rw [hg]; exact (below_size HB.out) : w.heap.size ≤ gb548)); have GE548 := GW548; have NB546_548 := Aside0.mk ((by rw [hg]; exact Nat.ne_of_lt (blk_lt BK546.out) : gb546 ≠ gb548)); have NB548_546 := Aside0.mk ((by rw [hg]; exact Nat.ne_of_gt (blk_lt BK546.out) : gb548 ≠ gb546)); have NB547_548 := Aside0.mk ((by rw [hg]; exact Nat.ne_of_lt (blk_lt BK547.out) : gb547 ≠ gb548)); have NB548_547 := Aside0.mk ((by rw [hg]; exact Nat.ne_of_gt (blk_lt BK547.out) : gb548 ≠ gb547)); replace BK546 := Aside0.mk (blk_below BK546.out hb); replace BK547 := Aside0.mk (blk_below BK547.out hb); replace HB := Aside0.mk (below_step HB.out hb); clear hb hbox hg; have hnb9 := NB546_547.out; have hnc9 := NB547_546.out; have hnb10 := NB546_548.out; have hnc10 := NB548_546.out; have hcz11_0 : w8.cell? ⟨gb546, 0, none⟩ = some (.int .i64 a0_0) := (blk_cell BK546.out 0).trans rfl; have hcz11_1 : w8.cell? ⟨gb546, 1, none⟩ = some (.int .i64 a0_1) := (blk_cell BK546.out 1).trans rfl; have hcz11_2 : w8.cell? ⟨gb546, 2, none⟩ = some (.int .i64 a0_2) := (blk_cell BK546.out 2).trans rfl; have hcz11_3 : w8.cell? ⟨gb546, 3, none⟩ = some (.int .i64 a0_3) := (blk_cell BK546.out 3).trans rfl; have hcz11_4 : w8.cell? ⟨gb546, 4, none⟩ = some (.int .i64 a0_4) := (blk_cell BK546.out 4).trans rfl; have hfz11_0 := blk_frozen BK546.out 0; have hfz11_1 := blk_frozen BK546.out 1; have hfz11_2 := blk_frozen BK546.out 2; have hfz11_3 := blk_frozen BK546.out 3; have hfz11_4 := blk_frozen BK546.out 4) | ((with_reducible refine gate_callee (f := 20) rfl ?_); refine goesL_ (some 10) rfl rfl Tryd.func20 (by kernel_rfl) rfl #[.agg #[.int .i64 a0_0, .int .i64 a0_1, .int .i64 a0_2, .int .i64 a0_3, .int .i64 a0_4]] rfl (by (try simp only [List.map_toArray, List.map_cons, List.map_nil]); first | done | rfl | (simp only [List.length_drop, List.length_take]; rfl)) ?_; (with_reducible refine (whittleref3_RightArea.calls a0_0 a0_1 a0_2 a0_3 a0_4 t549 _ A3.out).mono ?_); rintro e w12 ⟨rfl, hb⟩; refine ⟨_, rfl, ?_⟩; replace BK546 := Aside0.mk (blk_below BK546.out hb); replace BK547 := Aside0.mk (blk_below BK547.out hb); replace BK548 := Aside0.mk (blk_below BK548.out hb); replace HB := Aside0.mk (below_step HB.out hb); (try clear hb); have hnb13 := NB547_548.out; have hnc13 := NB548_547.out; have hcz14_0 : w12.cell? ⟨gb547, 0, none⟩ = some (.int .i64 a1_0) := (blk_cell BK547.out 0).trans rfl; have hcz14_1 : w12.cell? ⟨gb547, 1, none⟩ = some (.int .i64 a1_1) := (blk_cell BK547.out 1).trans rfl; have hcz14_2 : w12.cell? ⟨gb547, 2, none⟩ = some (.int .i64 a1_2) := (blk_cell BK547.out 2).trans rfl; have hcz14_3 : w12.cell? ⟨gb547, 3, none⟩ = some (.int .i64 a1_3) := (blk_cell BK547.out 3).trans rfl; have hcz14_4 : w12.cell? ⟨gb547, 4, none⟩ = some (.int .i64 a1_4) := (blk_cell BK547.out 4).trans rfl; have hfz14_0 := blk_frozen BK547.out 0; have hfz14_1 := blk_frozen BK547.out 1; have hfz14_2 := blk_frozen BK547.out 2; have hfz14_3 := blk_frozen BK547.out 3; have hfz14_4 := blk_frozen BK547.out 4) | ((with_reducible refine gate_callee (f := 20) rfl ?_); refine goesL_ (some 12) rfl rfl Tryd.func20 (by kernel_rfl) rfl #[.agg #[.int .i64 a1_0, .int .i64 a1_1, .int .i64 a1_2, .int .i64 a1_3, .int .i64 a1_4]] rfl (by (try simp only [List.map_toArray, List.map_cons, List.map_nil]); first | done | rfl | (simp only [List.length_drop, List.length_take]; rfl)) ?_; (with_reducible refine (whittleref3_RightArea.calls a1_0 a1_1 a1_2 a1_3 a1_4 t550 _ A4.out).mono ?_); rintro e w15 ⟨rfl, hb⟩; refine ⟨_, rfl, ?_⟩; replace BK546 := Aside0.mk (blk_below BK546.out hb); replace BK547 := Aside0.mk (blk_below BK547.out hb); replace BK548 := Aside0.mk (blk_below BK548.out hb); replace HB := Aside0.mk (below_step HB.out hb); (try clear hb)))
  (try simp only [Act.put, List.setIfInBounds_toArray, List.set_cons_zero, List.set_cons_succ])
  go_cut [25] (fun v25 wc => ∃ (kq : Nat) (x25_4 : Bool), v25 = .bool x25_4 ∧ Aside0 (whittleref3_Meet.j0 kq x25_4 a0_0 a0_1 a0_2 a0_3 a0_4 a1_0 a1_1 a1_2 a1_3 a1_4 = some (r1, r2, r3, r4, r5, r6)) ∧ Aside0 (kq ≤ k) ∧ Aside0 (wc.heap[gb546]? = some (.cells #[.int .i64 a0_0, .int .i64 a0_1, .int .i64 a0_2, .int .i64 a0_3, .int .i64 a0_4] 25 (0, 0))) ∧ Aside0 (wc.heap[gb547]? = some (.cells #[.int .i64 a1_0, .int .i64 a1_1, .int .i64 a1_2, .int .i64 a1_3, .int .i64 a1_4] 25 (0, 0))) ∧ Aside0 (wc.heap[gb548]? = some (.cells #[.int .i64 0, .int .i64 0, .int .i64 0, .int .i64 0, .int .i64 0] 25 (0, 0))) ∧ Aside0 (Below w.heap.size w wc))
  case first =>
    have H := HC5.out
    clear HC5
    by_cases c16 : t549 = true
    · subst c16
      have H1 : (if t550 = true then (whittleref3_Meet.j0 k (a0_0 != a1_0) a0_0 a0_1 a0_2 a0_3 a0_4 a1_0 a1_1 a1_2 a1_3 a1_4) else (whittleref3_Meet.j0 k true a0_0 a0_1 a0_2 a0_3 a0_4 a1_0 a1_1 a1_2 a1_3 a1_4)) = some (r1, r2, r3, r4, r5, r6) := by rw [if_pos rfl] at H; exact H
      clear H
      have H := H1
      clear H1
      by_cases c17 : t550 = true
      · subst c17
        have H1 : (whittleref3_Meet.j0 k (a0_0 != a1_0) a0_0 a0_1 a0_2 a0_3 a0_4 a1_0 a1_1 a1_2 a1_3 a1_4) = some (r1, r2, r3, r4, r5, r6) := by rw [if_pos rfl] at H; exact H
        clear H
        have H := H1
        clear H1
        have H' := Aside0.mk H
        clear H
        have hnb18 := NB546_547.out
        have hnc18 := NB547_546.out
        have hnb19 := NB546_548.out
        have hnc19 := NB548_546.out
        have hcz20_0 : w15.cell? ⟨gb546, 0, none⟩ = some (.int .i64 a0_0) := (blk_cell BK546.out 0).trans rfl
        have hcz20_1 : w15.cell? ⟨gb546, 1, none⟩ = some (.int .i64 a0_1) := (blk_cell BK546.out 1).trans rfl
        have hcz20_2 : w15.cell? ⟨gb546, 2, none⟩ = some (.int .i64 a0_2) := (blk_cell BK546.out 2).trans rfl
        have hcz20_3 : w15.cell? ⟨gb546, 3, none⟩ = some (.int .i64 a0_3) := (blk_cell BK546.out 3).trans rfl
        have hcz20_4 : w15.cell? ⟨gb546, 4, none⟩ = some (.int .i64 a0_4) := (blk_cell BK546.out 4).trans rfl
        have hfz20_0 := blk_frozen BK546.out 0
        have hfz20_1 := blk_frozen BK546.out 1
        have hfz20_2 := blk_frozen BK546.out 2
        have hfz20_3 := blk_frozen BK546.out 3
        have hfz20_4 := blk_frozen BK546.out 4
        have hnb21 := NB547_548.out
        have hnc21 := NB548_547.out
        have hcz22_0 : w15.cell? ⟨gb547, 0, none⟩ = some (.int .i64 a1_0) := (blk_cell BK547.out 0).trans rfl
        have hcz22_1 : w15.cell? ⟨gb547, 1, none⟩ = some (.int .i64 a1_1) := (blk_cell BK547.out 1).trans rfl
        have hcz22_2 : w15.cell? ⟨gb547, 2, none⟩ = some (.int .i64 a1_2) := (blk_cell BK547.out 2).trans rfl
        have hcz22_3 : w15.cell? ⟨gb547, 3, none⟩ = some (.int .i64 a1_3) := (blk_cell BK547.out 3).trans rfl
        have hcz22_4 : w15.cell? ⟨gb547, 4, none⟩ = some (.int .i64 a1_4) := (blk_cell BK547.out 4).trans rfl
        have hfz22_0 := blk_frozen BK547.out 0
        have hfz22_1 := blk_frozen BK547.out 1
        have hfz22_2 := blk_frozen BK547.out 2
        have hfz22_3 := blk_frozen BK547.out 3
        have hfz22_4 := blk_frozen BK547.out 4
        go_wp2
        go_meet
        case rel => exact ⟨_, ((a0_0 != a1_0)), (by first | rfl | (simp; done) | (simp [*]; done)), H', ⟨by first | omega | exact Nat.le_refl _⟩, ⟨BK546.out⟩, ⟨BK547.out⟩, ⟨BK548.out⟩, ⟨by repeat (first | (with_reducible first | exact HB.out | apply below_alloc | apply pw_below_drewN | apply below_drew1 | refine below_set ?_ GE546.out | refine below_set ?_ GE547.out | refine below_set ?_ GE548.out) | exact HB.out)⟩⟩
      · replace c17 := Bool.eq_false_iff.mpr c17
        subst c17
        have H1 : (whittleref3_Meet.j0 k true a0_0 a0_1 a0_2 a0_3 a0_4 a1_0 a1_1 a1_2 a1_3 a1_4) = some (r1, r2, r3, r4, r5, r6) := by rw [if_neg (show ¬ (false = true) by decide)] at H; exact H
        clear H
        have H := H1
        clear H1
        have H' := Aside0.mk H
        clear H
        go_wp2
        go_meet
        case rel => exact ⟨_, (true), (by first | rfl | (simp; done) | (simp [*]; done)), H', ⟨by first | omega | exact Nat.le_refl _⟩, ⟨BK546.out⟩, ⟨BK547.out⟩, ⟨BK548.out⟩, ⟨by repeat (first | (with_reducible first | exact HB.out | apply below_alloc | apply pw_below_drewN | apply below_drew1 | refine below_set ?_ GE546.out | refine below_set ?_ GE547.out | refine below_set ?_ GE548.out) | exact HB.out)⟩⟩
    · replace c16 := Bool.eq_false_iff.mpr c16
      subst c16
      have H1 : (whittleref3_Meet.j0 k true a0_0 a0_1 a0_2 a0_3 a0_4 a1_0 a1_1 a1_2 a1_3 a1_4) = some (r1, r2, r3, r4, r5, r6) := by rw [if_neg (show ¬ (false = true) by decide)] at H; exact H
      clear H
      have H := H1
      clear H1
      have H' := Aside0.mk H
      clear H
      go_wp2
      go_meet
      case rel => exact ⟨_, (true), (by first | rfl | (simp; done) | (simp [*]; done)), H', ⟨by first | omega | exact Nat.le_refl _⟩, ⟨BK546.out⟩, ⟨BK547.out⟩, ⟨BK548.out⟩, ⟨by repeat (first | (with_reducible first | exact HB.out | apply below_alloc | apply pw_below_drewN | apply below_drew1 | refine below_set ?_ GE546.out | refine below_set ?_ GE547.out | refine below_set ?_ GE548.out) | exact HB.out)⟩⟩
  case rest =>
    clear HC5
    try clear c1
    try clear c2
    try clear p2
    try clear c5
    try clear c9
    try clear c10
    try clear c13
    try clear c16
    try clear c17
    try clear c18
    try clear c19
    try clear c20
    try clear c21
    try clear hcz11_0
    try clear hcz11_1
    try clear hcz11_2
    try clear hcz11_3
    try clear hcz11_4
    try clear hcz14_0
    try clear hcz14_1
    try clear hcz14_2
    try clear hcz14_3
    try clear hcz14_4
    try clear hcz20_0
    try clear hcz20_1
    try clear hcz20_2
    try clear hcz20_3
    try clear hcz20_4
    try clear hcz22_0
    try clear hcz22_1
    try clear hcz22_2
    try clear hcz22_3
    try clear hcz22_4
    try clear hfz11_0
    try clear hfz11_1
    try clear hfz11_2
    try clear hfz11_3
    try clear hfz11_4
    try clear hfz14_0
    try clear hfz14_1
    try clear hfz14_2
    try clear hfz14_3
    try clear hfz14_4
    try clear hfz20_0
    try clear hfz20_1
    try clear hfz20_2
    try clear hfz20_3
    try clear hfz20_4
    try clear hfz22_0
    try clear hfz22_1
    try clear hfz22_2
    try clear hfz22_3
    try clear hfz22_4
    obtain ⟨kq, x25_4, rfl, HA, HJ4, BK546, BK547, BK548, HB⟩ := hcut
    cases kq with
    | zero => exact absurd HA.out (by simp [whittleref3_Meet.j0])
    | succ kj4 =>
      have H := HA.out
      clear HA
      simp only [whittleref3_Meet.j0] at H
      by_cases c23 : x25_4 = true
      · subst c23
        have H1 : (some (0, 0, 0, 0, 0, false)) = some (r1, r2, r3, r4, r5, r6) := by rw [if_pos rfl] at H; exact H
        clear H
        have H := H1
        clear H1
        simp only [Option.some.injEq, Prod.mk.injEq] at H
        obtain ⟨rfl, rfl, rfl, rfl, rfl, rfl⟩ := H
        have hnb24 := NB548_546.out
        have hnc24 := NB546_548.out
        have hnb25 := NB548_547.out
        have hnc25 := NB547_548.out
        have hcz26_0 : wc.cell? ⟨gb548, 0, none⟩ = some (.int .i64 0) := (blk_cell BK548.out 0).trans rfl
        have hcz26_1 : wc.cell? ⟨gb548, 1, none⟩ = some (.int .i64 0) := (blk_cell BK548.out 1).trans rfl
        have hcz26_2 : wc.cell? ⟨gb548, 2, none⟩ = some (.int .i64 0) := (blk_cell BK548.out 2).trans rfl
        have hcz26_3 : wc.cell? ⟨gb548, 3, none⟩ = some (.int .i64 0) := (blk_cell BK548.out 3).trans rfl
        have hcz26_4 : wc.cell? ⟨gb548, 4, none⟩ = some (.int .i64 0) := (blk_cell BK548.out 4).trans rfl
        have hfz26_0 := blk_frozen BK548.out 0
        have hfz26_1 := blk_frozen BK548.out 1
        have hfz26_2 := blk_frozen BK548.out 2
        have hfz26_3 := blk_frozen BK548.out 3
        have hfz26_4 := blk_frozen BK548.out 4
        go_wp2
        refine bodyPost_ret (results_ct rfl _ _ gb548 25 #[.int .i64 0, .int .i64 0, .int .i64 0, .int .i64 0, .int .i64 0] (0, 0) _ rfl (by (with_reducible repeat first | apply blk_drewN | apply blk_drew | apply blk_alloc); refine blk_put (cs := #[.int .i64 0, .int .i64 0, .int .i64 0, .int .i64 0, .int .i64 0]) ?_ 4 _ rfl; (with_reducible repeat first | apply blk_drewN | apply blk_drew | apply blk_alloc); refine blk_put (cs := #[.int .i64 0, .int .i64 0, .int .i64 0, .int .i64 0, .int .i64 0]) ?_ 3 _ rfl; (with_reducible repeat first | apply blk_drewN | apply blk_drew | apply blk_alloc); refine blk_put (cs := #[.int .i64 0, .int .i64 0, .int .i64 0, .int .i64 0, .int .i64 0]) ?_ 2 _ rfl; (with_reducible repeat first | apply blk_drewN | apply blk_drew | apply blk_alloc); refine blk_put (cs := #[.int .i64 0, .int .i64 0, .int .i64 0, .int .i64 0, .int .i64 0]) ?_ 1 _ rfl; (with_reducible repeat first | apply blk_drewN | apply blk_drew | apply blk_alloc); refine blk_put (cs := #[.int .i64 0, .int .i64 0, .int .i64 0, .int .i64 0, .int .i64 0]) ?_ 0 _ rfl; (with_reducible repeat first | apply blk_drewN | apply blk_drew | apply blk_alloc); exact BK548.out) Tryd.underlying25 rfl (by kernel_rfl)) rfl ?_
        exact ⟨by first | rfl | (simp [errW_none, errW_some] <;> rfl) | (simp [*, errW_none, errW_some] <;> rfl), by repeat (first | (with_reducible first | exact HB.out | apply below_alloc | apply pw_below_drewN | apply below_drew1 | refine below_set ?_ GE546.out | refine below_set ?_ GE547.out | refine below_set ?_ GE548.out) | exact HB.out)⟩
      · replace c23 := Bool.eq_false_iff.mpr c23
        subst c23
        have H1 : (if (mx a0_1 a1_1) > (mn a0_3 a1_3) then (some (0, 0, 0, 0, 0, false)) else (if (mx a0_2 a1_2) > (mn a0_4 a1_4) then (some (0, 0, 0, 0, 0, false)) else (some (a0_0, mx a0_1 a1_1, mx a0_2 a1_2, mn a0_3 a1_3, mn a0_4 a1_4, true)))) = some (r1, r2, r3, r4, r5, r6) := by rw [if_neg (show ¬ (false = true) by decide)] at H; exact H
        clear H
        have H := H1
        clear H1
        obtain ⟨ji27, hji27⟩ : ∃ j_ : Int, (mx a0_1 a1_1) = j_ := ⟨_, rfl⟩
        replace H : (if (ji27) > (mn a0_3 a1_3) then (some (0, 0, 0, 0, 0, false)) else (if (mx a0_2 a1_2) > (mn a0_4 a1_4) then (some (0, 0, 0, 0, 0, false)) else (some (a0_0, ji27, mx a0_2 a1_2, mn a0_3 a1_3, mn a0_4 a1_4, true)))) = some (r1, r2, r3, r4, r5, r6) := by first | (rw [hji27] at H; exact H) | (simp only [hji27] at H ⊢; exact H)
        have hji27_ : (if a0_1 < a1_1 then a1_1 else a0_1) = ji27 := hji27
        obtain ⟨ji28, hji28⟩ : ∃ j_ : Int, (mx a0_2 a1_2) = j_ := ⟨_, rfl⟩
        replace H : (if (ji27) > (mn a0_3 a1_3) then (some (0, 0, 0, 0, 0, false)) else (if (ji28) > (mn a0_4 a1_4) then (some (0, 0, 0, 0, 0, false)) else (some (a0_0, ji27, ji28, mn a0_3 a1_3, mn a0_4 a1_4, true)))) = some (r1, r2, r3, r4, r5, r6) := by first | (rw [hji28] at H; exact H) | (simp only [hji28] at H ⊢; exact H)
        have hji28_ : (if a0_2 < a1_2 then a1_2 else a0_2) = ji28 := hji28
        obtain ⟨ji29, hji29⟩ : ∃ j_ : Int, (mn a0_3 a1_3) = j_ := ⟨_, rfl⟩
        replace H : (if (ji27) > (ji29) then (some (0, 0, 0, 0, 0, false)) else (if (ji28) > (mn a0_4 a1_4) then (some (0, 0, 0, 0, 0, false)) else (some (a0_0, ji27, ji28, ji29, mn a0_4 a1_4, true)))) = some (r1, r2, r3, r4, r5, r6) := by first | (rw [hji29] at H; exact H) | (simp only [hji29] at H ⊢; exact H)
        have hji29_ : (if a1_3 < a0_3 then a1_3 else a0_3) = ji29 := hji29
        obtain ⟨ji30, hji30⟩ : ∃ j_ : Int, (mn a0_4 a1_4) = j_ := ⟨_, rfl⟩
        replace H : (if (ji27) > (ji29) then (some (0, 0, 0, 0, 0, false)) else (if (ji28) > (ji30) then (some (0, 0, 0, 0, 0, false)) else (some (a0_0, ji27, ji28, ji29, ji30, true)))) = some (r1, r2, r3, r4, r5, r6) := by first | (rw [hji30] at H; exact H) | (simp only [hji30] at H ⊢; exact H)
        have hji30_ : (if a1_4 < a0_4 then a1_4 else a0_4) = ji30 := hji30
        by_cases c31 : (ji27) > (ji29)
        · rw [if_pos c31] at H
          have c31b0 : decide ((ji29) < (ji27)) = true := decide_eq_true c31
          clear c31
          simp only [Option.some.injEq, Prod.mk.injEq] at H
          obtain ⟨rfl, rfl, rfl, rfl, rfl, rfl⟩ := H
          have hnb32 := NB546_547.out
          have hnc32 := NB547_546.out
          have hnb33 := NB546_548.out
          have hnc33 := NB548_546.out
          have hcz34_0 : wc.cell? ⟨gb546, 0, none⟩ = some (.int .i64 a0_0) := (blk_cell BK546.out 0).trans rfl
          have hcz34_1 : wc.cell? ⟨gb546, 1, none⟩ = some (.int .i64 a0_1) := (blk_cell BK546.out 1).trans rfl
          have hcz34_2 : wc.cell? ⟨gb546, 2, none⟩ = some (.int .i64 a0_2) := (blk_cell BK546.out 2).trans rfl
          have hcz34_3 : wc.cell? ⟨gb546, 3, none⟩ = some (.int .i64 a0_3) := (blk_cell BK546.out 3).trans rfl
          have hcz34_4 : wc.cell? ⟨gb546, 4, none⟩ = some (.int .i64 a0_4) := (blk_cell BK546.out 4).trans rfl
          have hfz34_0 := blk_frozen BK546.out 0
          have hfz34_1 := blk_frozen BK546.out 1
          have hfz34_2 := blk_frozen BK546.out 2
          have hfz34_3 := blk_frozen BK546.out 3
          have hfz34_4 := blk_frozen BK546.out 4
          have hnb35 := NB547_548.out
          have hnc35 := NB548_547.out
          have hcz36_0 : wc.cell? ⟨gb547, 0, none⟩ = some (.int .i64 a1_0) := (blk_cell BK547.out 0).trans rfl
          have hcz36_1 : wc.cell? ⟨gb547, 1, none⟩ = some (.int .i64 a1_1) := (blk_cell BK547.out 1).trans rfl
          have hcz36_2 : wc.cell? ⟨gb547, 2, none⟩ = some (.int .i64 a1_2) := (blk_cell BK547.out 2).trans rfl
          have hcz36_3 : wc.cell? ⟨gb547, 3, none⟩ = some (.int .i64 a1_3) := (blk_cell BK547.out 3).trans rfl
          have hcz36_4 : wc.cell? ⟨gb547, 4, none⟩ = some (.int .i64 a1_4) := (blk_cell BK547.out 4).trans rfl
          have hfz36_0 := blk_frozen BK547.out 0
          have hfz36_1 := blk_frozen BK547.out 1
          have hfz36_2 := blk_frozen BK547.out 2
          have hfz36_3 := blk_frozen BK547.out 3
          have hfz36_4 := blk_frozen BK547.out 4
          go_wp2_with (first | ((with_reducible refine gate_dst (N := 8) rfl ?_); refine box_event ?hg (N := 8) ?hd (cs := #[.int .i64 0, .int .i64 0, .int .i64 0, .int .i64 0, .int .i64 0]) (t := 25) ?hr ?_; (case hd => rfl); (case hg => rfl); (case hr => go_simp <;> rfl); intro gb551 hg w37 hbox hb; have BK551 := Aside0.mk (hbox); have GW551 := Aside0.mk ((by rw [hg]; exact (below_size HB.out) : w.heap.size ≤ gb551)); have GE551 := GW551; have NB546_551 := Aside0.mk ((by rw [hg]; exact Nat.ne_of_lt (blk_lt BK546.out) : gb546 ≠ gb551)); have NB551_546 := Aside0.mk ((by rw [hg]; exact Nat.ne_of_gt (blk_lt BK546.out) : gb551 ≠ gb546)); have NB547_551 := Aside0.mk ((by rw [hg]; exact Nat.ne_of_lt (blk_lt BK547.out) : gb547 ≠ gb551)); have NB551_547 := Aside0.mk ((by rw [hg]; exact Nat.ne_of_gt (blk_lt BK547.out) : gb551 ≠ gb547)); have NB548_551 := Aside0.mk ((by rw [hg]; exact Nat.ne_of_lt (blk_lt BK548.out) : gb548 ≠ gb551)); have NB551_548 := Aside0.mk ((by rw [hg]; exact Nat.ne_of_gt (blk_lt BK548.out) : gb551 ≠ gb548)); replace BK546 := Aside0.mk (blk_below BK546.out hb); replace BK547 := Aside0.mk (blk_below BK547.out hb); replace BK548 := Aside0.mk (blk_below BK548.out hb); replace HB := Aside0.mk (below_step HB.out hb); clear hb hbox hg; have hnb38 := NB551_546.out; have hnc38 := NB546_551.out; have hnb39 := NB551_547.out; have hnc39 := NB547_551.out; have hnb40 := NB551_548.out; have hnc40 := NB548_551.out; have hcz41_0 : w37.cell? ⟨gb551, 0, none⟩ = some (.int .i64 0) := (blk_cell BK551.out 0).trans rfl; have hcz41_1 : w37.cell? ⟨gb551, 1, none⟩ = some (.int .i64 0) := (blk_cell BK551.out 1).trans rfl; have hcz41_2 : w37.cell? ⟨gb551, 2, none⟩ = some (.int .i64 0) := (blk_cell BK551.out 2).trans rfl; have hcz41_3 : w37.cell? ⟨gb551, 3, none⟩ = some (.int .i64 0) := (blk_cell BK551.out 3).trans rfl; have hcz41_4 : w37.cell? ⟨gb551, 4, none⟩ = some (.int .i64 0) := (blk_cell BK551.out 4).trans rfl; have hfz41_0 := blk_frozen BK551.out 0; have hfz41_1 := blk_frozen BK551.out 1; have hfz41_2 := blk_frozen BK551.out 2; have hfz41_3 := blk_frozen BK551.out 3; have hfz41_4 := blk_frozen BK551.out 4; have hcz42_0 : w37.cell? ⟨gb548, 0, none⟩ = some (.int .i64 0) := (blk_cell BK548.out 0).trans rfl; have hcz42_1 : w37.cell? ⟨gb548, 1, none⟩ = some (.int .i64 0) := (blk_cell BK548.out 1).trans rfl; have hcz42_2 : w37.cell? ⟨gb548, 2, none⟩ = some (.int .i64 0) := (blk_cell BK548.out 2).trans rfl; have hcz42_3 : w37.cell? ⟨gb548, 3, none⟩ = some (.int .i64 0) := (blk_cell BK548.out 3).trans rfl; have hcz42_4 : w37.cell? ⟨gb548, 4, none⟩ = some (.int .i64 0) := (blk_cell BK548.out 4).trans rfl; have hfz42_0 := blk_frozen BK548.out 0; have hfz42_1 := blk_frozen BK548.out 1; have hfz42_2 := blk_frozen BK548.out 2; have hfz42_3 := blk_frozen BK548.out 3; have hfz42_4 := blk_frozen BK548.out 4))
          refine bodyPost_ret (results_ct rfl _ _ gb548 25 #[.int .i64 0, .int .i64 0, .int .i64 0, .int .i64 0, .int .i64 0] (0, 0) _ rfl (by (with_reducible repeat first | apply blk_drewN | apply blk_drew | apply blk_alloc); refine blk_put (cs := #[.int .i64 0, .int .i64 0, .int .i64 0, .int .i64 0, .int .i64 0]) ?_ 4 _ rfl; (with_reducible repeat first | apply blk_drewN | apply blk_drew | apply blk_alloc); refine blk_put (cs := #[.int .i64 0, .int .i64 0, .int .i64 0, .int .i64 0, .int .i64 0]) ?_ 3 _ rfl; (with_reducible repeat first | apply blk_drewN | apply blk_drew | apply blk_alloc); refine blk_put (cs := #[.int .i64 0, .int .i64 0, .int .i64 0, .int .i64 0, .int .i64 0]) ?_ 2 _ rfl; (with_reducible repeat first | apply blk_drewN | apply blk_drew | apply blk_alloc); refine blk_put (cs := #[.int .i64 0, .int .i64 0, .int .i64 0, .int .i64 0, .int .i64 0]) ?_ 1 _ rfl; (with_reducible repeat first | apply blk_drewN | apply blk_drew | apply blk_alloc); refine blk_put (cs := #[.int .i64 0, .int .i64 0, .int .i64 0, .int .i64 0, .int .i64 0]) ?_ 0 _ rfl; (with_reducible repeat first | apply blk_drewN | apply blk_drew | apply blk_alloc); refine blk_far ?_ NB548_551.out _; (with_reducible repeat first | apply blk_drewN | apply blk_drew | apply blk_alloc); refine blk_far ?_ NB548_551.out _; (with_reducible repeat first | apply blk_drewN | apply blk_drew | apply blk_alloc); refine blk_far ?_ NB548_551.out _; (with_reducible repeat first | apply blk_drewN | apply blk_drew | apply blk_alloc); refine blk_far ?_ NB548_551.out _; (with_reducible repeat first | apply blk_drewN | apply blk_drew | apply blk_alloc); refine blk_far ?_ NB548_551.out _; (with_reducible repeat first | apply blk_drewN | apply blk_drew | apply blk_alloc); exact BK548.out) Tryd.underlying25 rfl (by kernel_rfl)) rfl ?_
          exact ⟨by first | rfl | (simp [errW_none, errW_some] <;> rfl) | (simp only [← hji27, ← hji28, ← hji29, ← hji30]; first | rfl | (simp [errW_none, errW_some] <;> rfl)) | (simp [*, errW_none, errW_some] <;> rfl), by repeat (first | (with_reducible first | exact HB.out | apply below_alloc | apply pw_below_drewN | apply below_drew1 | refine below_set ?_ GE546.out | refine below_set ?_ GE547.out | refine below_set ?_ GE548.out | refine below_set ?_ GE551.out) | exact HB.out)⟩
        · rw [if_neg c31] at H
          have c31b0 : decide ((ji29) < (ji27)) = false := decide_eq_false c31
          clear c31
          by_cases c43 : (ji28) > (ji30)
          · rw [if_pos c43] at H
            have c43b0 : decide ((ji30) < (ji28)) = true := decide_eq_true c43
            clear c43
            simp only [Option.some.injEq, Prod.mk.injEq] at H
            obtain ⟨rfl, rfl, rfl, rfl, rfl, rfl⟩ := H
            have hnb44 := NB546_547.out
            have hnc44 := NB547_546.out
            have hnb45 := NB546_548.out
            have hnc45 := NB548_546.out
            have hcz46_0 : wc.cell? ⟨gb546, 0, none⟩ = some (.int .i64 a0_0) := (blk_cell BK546.out 0).trans rfl
            have hcz46_1 : wc.cell? ⟨gb546, 1, none⟩ = some (.int .i64 a0_1) := (blk_cell BK546.out 1).trans rfl
            have hcz46_2 : wc.cell? ⟨gb546, 2, none⟩ = some (.int .i64 a0_2) := (blk_cell BK546.out 2).trans rfl
            have hcz46_3 : wc.cell? ⟨gb546, 3, none⟩ = some (.int .i64 a0_3) := (blk_cell BK546.out 3).trans rfl
            have hcz46_4 : wc.cell? ⟨gb546, 4, none⟩ = some (.int .i64 a0_4) := (blk_cell BK546.out 4).trans rfl
            have hfz46_0 := blk_frozen BK546.out 0
            have hfz46_1 := blk_frozen BK546.out 1
            have hfz46_2 := blk_frozen BK546.out 2
            have hfz46_3 := blk_frozen BK546.out 3
            have hfz46_4 := blk_frozen BK546.out 4
            have hnb47 := NB547_548.out
            have hnc47 := NB548_547.out
            have hcz48_0 : wc.cell? ⟨gb547, 0, none⟩ = some (.int .i64 a1_0) := (blk_cell BK547.out 0).trans rfl
            have hcz48_1 : wc.cell? ⟨gb547, 1, none⟩ = some (.int .i64 a1_1) := (blk_cell BK547.out 1).trans rfl
            have hcz48_2 : wc.cell? ⟨gb547, 2, none⟩ = some (.int .i64 a1_2) := (blk_cell BK547.out 2).trans rfl
            have hcz48_3 : wc.cell? ⟨gb547, 3, none⟩ = some (.int .i64 a1_3) := (blk_cell BK547.out 3).trans rfl
            have hcz48_4 : wc.cell? ⟨gb547, 4, none⟩ = some (.int .i64 a1_4) := (blk_cell BK547.out 4).trans rfl
            have hfz48_0 := blk_frozen BK547.out 0
            have hfz48_1 := blk_frozen BK547.out 1
            have hfz48_2 := blk_frozen BK547.out 2
            have hfz48_3 := blk_frozen BK547.out 3
            have hfz48_4 := blk_frozen BK547.out 4
            go_wp2_with (first | ((with_reducible refine gate_dst (N := 8) rfl ?_); refine box_event ?hg (N := 8) ?hd (cs := #[.int .i64 0, .int .i64 0, .int .i64 0, .int .i64 0, .int .i64 0]) (t := 25) ?hr ?_; (case hd => rfl); (case hg => rfl); (case hr => go_simp <;> rfl); intro gb551 hg w49 hbox hb; have BK551 := Aside0.mk (hbox); have GW551 := Aside0.mk ((by rw [hg]; exact (below_size HB.out) : w.heap.size ≤ gb551)); have GE551 := GW551; have NB546_551 := Aside0.mk ((by rw [hg]; exact Nat.ne_of_lt (blk_lt BK546.out) : gb546 ≠ gb551)); have NB551_546 := Aside0.mk ((by rw [hg]; exact Nat.ne_of_gt (blk_lt BK546.out) : gb551 ≠ gb546)); have NB547_551 := Aside0.mk ((by rw [hg]; exact Nat.ne_of_lt (blk_lt BK547.out) : gb547 ≠ gb551)); have NB551_547 := Aside0.mk ((by rw [hg]; exact Nat.ne_of_gt (blk_lt BK547.out) : gb551 ≠ gb547)); have NB548_551 := Aside0.mk ((by rw [hg]; exact Nat.ne_of_lt (blk_lt BK548.out) : gb548 ≠ gb551)); have NB551_548 := Aside0.mk ((by rw [hg]; exact Nat.ne_of_gt (blk_lt BK548.out) : gb551 ≠ gb548)); replace BK546 := Aside0.mk (blk_below BK546.out hb); replace BK547 := Aside0.mk (blk_below BK547.out hb); replace BK548 := Aside0.mk (blk_below BK548.out hb); replace HB := Aside0.mk (below_step HB.out hb); clear hb hbox hg; have hnb50 := NB551_546.out; have hnc50 := NB546_551.out; have hnb51 := NB551_547.out; have hnc51 := NB547_551.out; have hnb52 := NB551_548.out; have hnc52 := NB548_551.out; have hcz53_0 : w49.cell? ⟨gb551, 0, none⟩ = some (.int .i64 0) := (blk_cell BK551.out 0).trans rfl; have hcz53_1 : w49.cell? ⟨gb551, 1, none⟩ = some (.int .i64 0) := (blk_cell BK551.out 1).trans rfl; have hcz53_2 : w49.cell? ⟨gb551, 2, none⟩ = some (.int .i64 0) := (blk_cell BK551.out 2).trans rfl; have hcz53_3 : w49.cell? ⟨gb551, 3, none⟩ = some (.int .i64 0) := (blk_cell BK551.out 3).trans rfl; have hcz53_4 : w49.cell? ⟨gb551, 4, none⟩ = some (.int .i64 0) := (blk_cell BK551.out 4).trans rfl; have hfz53_0 := blk_frozen BK551.out 0; have hfz53_1 := blk_frozen BK551.out 1; have hfz53_2 := blk_frozen BK551.out 2; have hfz53_3 := blk_frozen BK551.out 3; have hfz53_4 := blk_frozen BK551.out 4; have hcz54_0 : w49.cell? ⟨gb548, 0, none⟩ = some (.int .i64 0) := (blk_cell BK548.out 0).trans rfl; have hcz54_1 : w49.cell? ⟨gb548, 1, none⟩ = some (.int .i64 0) := (blk_cell BK548.out 1).trans rfl; have hcz54_2 : w49.cell? ⟨gb548, 2, none⟩ = some (.int .i64 0) := (blk_cell BK548.out 2).trans rfl; have hcz54_3 : w49.cell? ⟨gb548, 3, none⟩ = some (.int .i64 0) := (blk_cell BK548.out 3).trans rfl; have hcz54_4 : w49.cell? ⟨gb548, 4, none⟩ = some (.int .i64 0) := (blk_cell BK548.out 4).trans rfl; have hfz54_0 := blk_frozen BK548.out 0; have hfz54_1 := blk_frozen BK548.out 1; have hfz54_2 := blk_frozen BK548.out 2; have hfz54_3 := blk_frozen BK548.out 3; have hfz54_4 := blk_frozen BK548.out 4))
            refine bodyPost_ret (results_ct rfl _ _ gb548 25 #[.int .i64 0, .int .i64 0, .int .i64 0, .int .i64 0, .int .i64 0] (0, 0) _ rfl (by (with_reducible repeat first | apply blk_drewN | apply blk_drew | apply blk_alloc); refine blk_put (cs := #[.int .i64 0, .int .i64 0, .int .i64 0, .int .i64 0, .int .i64 0]) ?_ 4 _ rfl; (with_reducible repeat first | apply blk_drewN | apply blk_drew | apply blk_alloc); refine blk_put (cs := #[.int .i64 0, .int .i64 0, .int .i64 0, .int .i64 0, .int .i64 0]) ?_ 3 _ rfl; (with_reducible repeat first | apply blk_drewN | apply blk_drew | apply blk_alloc); refine blk_put (cs := #[.int .i64 0, .int .i64 0, .int .i64 0, .int .i64 0, .int .i64 0]) ?_ 2 _ rfl; (with_reducible repeat first | apply blk_drewN | apply blk_drew | apply blk_alloc); refine blk_put (cs := #[.int .i64 0, .int .i64 0, .int .i64 0, .int .i64 0, .int .i64 0]) ?_ 1 _ rfl; (with_reducible repeat first | apply blk_drewN | apply blk_drew | apply blk_alloc); refine blk_put (cs := #[.int .i64 0, .int .i64 0, .int .i64 0, .int .i64 0, .int .i64 0]) ?_ 0 _ rfl; (with_reducible repeat first | apply blk_drewN | apply blk_drew | apply blk_alloc); refine blk_far ?_ NB548_551.out _; (with_reducible repeat first | apply blk_drewN | apply blk_drew | apply blk_alloc); refine blk_far ?_ NB548_551.out _; (with_reducible repeat first | apply blk_drewN | apply blk_drew | apply blk_alloc); refine blk_far ?_ NB548_551.out _; (with_reducible repeat first | apply blk_drewN | apply blk_drew | apply blk_alloc); refine blk_far ?_ NB548_551.out _; (with_reducible repeat first | apply blk_drewN | apply blk_drew | apply blk_alloc); refine blk_far ?_ NB548_551.out _; (with_reducible repeat first | apply blk_drewN | apply blk_drew | apply blk_alloc); exact BK548.out) Tryd.underlying25 rfl (by kernel_rfl)) rfl ?_
            exact ⟨by first | rfl | (simp [errW_none, errW_some] <;> rfl) | (simp only [← hji27, ← hji28, ← hji29, ← hji30]; first | rfl | (simp [errW_none, errW_some] <;> rfl)) | (simp [*, errW_none, errW_some] <;> rfl), by repeat (first | (with_reducible first | exact HB.out | apply below_alloc | apply pw_below_drewN | apply below_drew1 | refine below_set ?_ GE546.out | refine below_set ?_ GE547.out | refine below_set ?_ GE548.out | refine below_set ?_ GE551.out) | exact HB.out)⟩
          · rw [if_neg c43] at H
            have c43b0 : decide ((ji30) < (ji28)) = false := decide_eq_false c43
            clear c43
            simp only [Option.some.injEq, Prod.mk.injEq] at H
            obtain ⟨rfl, rfl, rfl, rfl, rfl, rfl⟩ := H
            have hnb55 := NB546_547.out
            have hnc55 := NB547_546.out
            have hnb56 := NB546_548.out
            have hnc56 := NB548_546.out
            have hcz57_0 : wc.cell? ⟨gb546, 0, none⟩ = some (.int .i64 a0_0) := (blk_cell BK546.out 0).trans rfl
            have hcz57_1 : wc.cell? ⟨gb546, 1, none⟩ = some (.int .i64 a0_1) := (blk_cell BK546.out 1).trans rfl
            have hcz57_2 : wc.cell? ⟨gb546, 2, none⟩ = some (.int .i64 a0_2) := (blk_cell BK546.out 2).trans rfl
            have hcz57_3 : wc.cell? ⟨gb546, 3, none⟩ = some (.int .i64 a0_3) := (blk_cell BK546.out 3).trans rfl
            have hcz57_4 : wc.cell? ⟨gb546, 4, none⟩ = some (.int .i64 a0_4) := (blk_cell BK546.out 4).trans rfl
            have hfz57_0 := blk_frozen BK546.out 0
            have hfz57_1 := blk_frozen BK546.out 1
            have hfz57_2 := blk_frozen BK546.out 2
            have hfz57_3 := blk_frozen BK546.out 3
            have hfz57_4 := blk_frozen BK546.out 4
            have hnb58 := NB547_548.out
            have hnc58 := NB548_547.out
            have hcz59_0 : wc.cell? ⟨gb547, 0, none⟩ = some (.int .i64 a1_0) := (blk_cell BK547.out 0).trans rfl
            have hcz59_1 : wc.cell? ⟨gb547, 1, none⟩ = some (.int .i64 a1_1) := (blk_cell BK547.out 1).trans rfl
            have hcz59_2 : wc.cell? ⟨gb547, 2, none⟩ = some (.int .i64 a1_2) := (blk_cell BK547.out 2).trans rfl
            have hcz59_3 : wc.cell? ⟨gb547, 3, none⟩ = some (.int .i64 a1_3) := (blk_cell BK547.out 3).trans rfl
            have hcz59_4 : wc.cell? ⟨gb547, 4, none⟩ = some (.int .i64 a1_4) := (blk_cell BK547.out 4).trans rfl
            have hfz59_0 := blk_frozen BK547.out 0
            have hfz59_1 := blk_frozen BK547.out 1
            have hfz59_2 := blk_frozen BK547.out 2
            have hfz59_3 := blk_frozen BK547.out 3
            have hfz59_4 := blk_frozen BK547.out 4
            go_wp2_with (first | ((with_reducible refine gate_dst (N := 8) rfl ?_); refine box_event ?hg (N := 8) ?hd (cs := #[.int .i64 0, .int .i64 0, .int .i64 0, .int .i64 0, .int .i64 0]) (t := 25) ?hr ?_; (case hd => rfl); (case hg => rfl); (case hr => go_simp <;> rfl); intro gb551 hg w60 hbox hb; have BK551 := Aside0.mk (hbox); have GW551 := Aside0.mk ((by rw [hg]; exact (below_size HB.out) : w.heap.size ≤ gb551)); have GE551 := GW551; have NB546_551 := Aside0.mk ((by rw [hg]; exact Nat.ne_of_lt (blk_lt BK546.out) : gb546 ≠ gb551)); have NB551_546 := Aside0.mk ((by rw [hg]; exact Nat.ne_of_gt (blk_lt BK546.out) : gb551 ≠ gb546)); have NB547_551 := Aside0.mk ((by rw [hg]; exact Nat.ne_of_lt (blk_lt BK547.out) : gb547 ≠ gb551)); have NB551_547 := Aside0.mk ((by rw [hg]; exact Nat.ne_of_gt (blk_lt BK547.out) : gb551 ≠ gb547)); have NB548_551 := Aside0.mk ((by rw [hg]; exact Nat.ne_of_lt (blk_lt BK548.out) : gb548 ≠ gb551)); have NB551_548 := Aside0.mk ((by rw [hg]; exact Nat.ne_of_gt (blk_lt BK548.out) : gb551 ≠ gb548)); replace BK546 := Aside0.mk (blk_below BK546.out hb); replace BK547 := Aside0.mk (blk_below BK547.out hb); replace BK548 := Aside0.mk (blk_below BK548.out hb); replace HB := Aside0.mk (below_step HB.out hb); clear hb hbox hg; have hnb61 := NB551_546.out; have hnc61 := NB546_551.out; have hnb62 := NB551_547.out; have hnc62 := NB547_551.out; have hnb63 := NB551_548.out; have hnc63 := NB548_551.out; have hcz64_0 : w60.cell? ⟨gb551, 0, none⟩ = some (.int .i64 0) := (blk_cell BK551.out 0).trans rfl; have hcz64_1 : w60.cell? ⟨gb551, 1, none⟩ = some (.int .i64 0) := (blk_cell BK551.out 1).trans rfl; have hcz64_2 : w60.cell? ⟨gb551, 2, none⟩ = some (.int .i64 0) := (blk_cell BK551.out 2).trans rfl; have hcz64_3 : w60.cell? ⟨gb551, 3, none⟩ = some (.int .i64 0) := (blk_cell BK551.out 3).trans rfl; have hcz64_4 : w60.cell? ⟨gb551, 4, none⟩ = some (.int .i64 0) := (blk_cell BK551.out 4).trans rfl; have hfz64_0 := blk_frozen BK551.out 0; have hfz64_1 := blk_frozen BK551.out 1; have hfz64_2 := blk_frozen BK551.out 2; have hfz64_3 := blk_frozen BK551.out 3; have hfz64_4 := blk_frozen BK551.out 4; have hcz65_0 : w60.cell? ⟨gb548, 0, none⟩ = some (.int .i64 0) := (blk_cell BK548.out 0).trans rfl; have hcz65_1 : w60.cell? ⟨gb548, 1, none⟩ = some (.int .i64 0) := (blk_cell BK548.out 1).trans rfl; have hcz65_2 : w60.cell? ⟨gb548, 2, none⟩ = some (.int .i64 0) := (blk_cell BK548.out 2).trans rfl; have hcz65_3 : w60.cell? ⟨gb548, 3, none⟩ = some (.int .i64 0) := (blk_cell BK548.out 3).trans rfl; have hcz65_4 : w60.cell? ⟨gb548, 4, none⟩ = some (.int .i64 0) := (blk_cell BK548.out 4).trans rfl; have hfz65_0 := blk_frozen BK548.out 0; have hfz65_1 := blk_frozen BK548.out 1; have hfz65_2 := blk_frozen BK548.out 2; have hfz65_3 := blk_frozen BK548.out 3; have hfz65_4 := blk_frozen BK548.out 4))
            refine bodyPost_ret (results_ct rfl _ _ gb548 25 #[.int .i64 a0_0, .int .i64 ji27, .int .i64 ji28, .int .i64 ji29, .int .i64 ji30] (0, 0) _ rfl (by (with_reducible repeat first | apply blk_drewN | apply blk_drew | apply blk_alloc); refine blk_put (cs := #[.int .i64 a0_0, .int .i64 ji27, .int .i64 ji28, .int .i64 ji29, .int .i64 0]) ?_ 4 _ rfl; (with_reducible repeat first | apply blk_drewN | apply blk_drew | apply blk_alloc); refine blk_put (cs := #[.int .i64 a0_0, .int .i64 ji27, .int .i64 ji28, .int .i64 0, .int .i64 0]) ?_ 3 _ rfl; (with_reducible repeat first | apply blk_drewN | apply blk_drew | apply blk_alloc); refine blk_put (cs := #[.int .i64 a0_0, .int .i64 ji27, .int .i64 0, .int .i64 0, .int .i64 0]) ?_ 2 _ rfl; (with_reducible repeat first | apply blk_drewN | apply blk_drew | apply blk_alloc); refine blk_put (cs := #[.int .i64 a0_0, .int .i64 0, .int .i64 0, .int .i64 0, .int .i64 0]) ?_ 1 _ rfl; (with_reducible repeat first | apply blk_drewN | apply blk_drew | apply blk_alloc); refine blk_put (cs := #[.int .i64 0, .int .i64 0, .int .i64 0, .int .i64 0, .int .i64 0]) ?_ 0 _ rfl; (with_reducible repeat first | apply blk_drewN | apply blk_drew | apply blk_alloc); refine blk_far ?_ NB548_551.out _; (with_reducible repeat first | apply blk_drewN | apply blk_drew | apply blk_alloc); refine blk_far ?_ NB548_551.out _; (with_reducible repeat first | apply blk_drewN | apply blk_drew | apply blk_alloc); refine blk_far ?_ NB548_551.out _; (with_reducible repeat first | apply blk_drewN | apply blk_drew | apply blk_alloc); refine blk_far ?_ NB548_551.out _; (with_reducible repeat first | apply blk_drewN | apply blk_drew | apply blk_alloc); refine blk_far ?_ NB548_551.out _; (with_reducible repeat first | apply blk_drewN | apply blk_drew | apply blk_alloc); exact BK548.out) Tryd.underlying25 rfl (by kernel_rfl)) rfl ?_
            exact ⟨by first | rfl | (simp [errW_none, errW_some] <;> rfl) | (simp only [← hji27, ← hji28, ← hji29, ← hji30]; first | rfl | (simp [errW_none, errW_some] <;> rfl)) | (simp [*, errW_none, errW_some] <;> rfl), by repeat (first | (with_reducible first | exact HB.out | apply below_alloc | apply pw_below_drewN | apply below_drew1 | refine below_set ?_ GE546.out | refine below_set ?_ GE547.out | refine below_set ?_ GE548.out | refine below_set ?_ GE551.out) | exact HB.out)⟩



/-! ### whittleref3_Has: function 54 -/
def whittleref3_Has.f (a0_0 : Int) (a0_1 : Int) (a0_2 : Int) (a0_3 : Int) (a0_4 : Int) (a1_0 : Int) (a1_1 : Int) (a1_2 : Int) : Option (Bool) := (whittleref3_RightArea.f a0_0 a0_1 a0_2 a0_3 a0_4).bind fun t554 => (if t554 = true then (if a1_0 = a0_0 then (if a1_1 ≥ a0_1 then (if a1_1 ≤ a0_3 then (if a1_2 ≥ a0_2 then (some (decide (a1_2 ≤ a0_4))) else (some false)) else (some false)) else (some false)) else (some false)) else (some false))
set_option maxHeartbeats 8000000 in
set_option maxRecDepth 100000 in
theorem whittleref3_Has.calls (a0_0 : Int) (a0_1 : Int) (a0_2 : Int) (a0_3 : Int) (a0_4 : Int) (a1_0 : Int) (a1_1 : Int) (a1_2 : Int) (r : Bool) (w : World) (h : whittleref3_Has.f a0_0 a0_1 a0_2 a0_3 a0_4 a1_0 a1_1 a1_2 = some r) :
    Calls Tryd.prog 54 #[.agg #[.int .i64 a0_0, .int .i64 a0_1, .int .i64 a0_2, .int .i64 a0_3, .int .i64 a0_4], .agg #[.int .i64 a1_0, .int .i64 a1_1, .int .i64 a1_2]] w fun e w' => e = .returned (.bool r) ∧ Below w.heap.size w w' := by
  have hu25 := Tryd.underlying25
  have hu23 := Tryd.underlying23
  have HB := Aside0.mk (Below.refl w.heap.size w)
  have H : ((whittleref3_RightArea.f a0_0 a0_1 a0_2 a0_3 a0_4).bind fun t554 => (if t554 = true then (if a1_0 = a0_0 then (if a1_1 ≥ a0_1 then (if a1_1 ≤ a0_3 then (if a1_2 ≥ a0_2 then (some (decide (a1_2 ≤ a0_4))) else (some false)) else (some false)) else (some false)) else (some false)) else (some false))) = some r := h
  clear h
  replace H := Option.bind_eq_some_iff.mp H
  obtain ⟨t554, A30, H⟩ := H
  replace H : (if t554 = true then (if a1_0 = a0_0 then (if a1_1 ≥ a0_1 then (if a1_1 ≤ a0_3 then (if a1_2 ≥ a0_2 then (some (decide (a1_2 ≤ a0_4))) else (some false)) else (some false)) else (some false)) else (some false)) else (some false)) = some r := H
  have A3 := Aside0.mk A30
  clear A30
  by_cases c4 : t554 = true
  · subst c4
    have H1 : (if a1_0 = a0_0 then (if a1_1 ≥ a0_1 then (if a1_1 ≤ a0_3 then (if a1_2 ≥ a0_2 then (some (decide (a1_2 ≤ a0_4))) else (some false)) else (some false)) else (some false)) else (some false)) = some r := by rw [if_pos rfl] at H; exact H
    clear H
    have H := H1
    clear H1
    by_cases c5 : a1_0 = a0_0
    · rw [if_pos c5] at H
      have c5b0 : (a1_0 == a0_0) = true := beq_iff_eq.mpr c5
      have c5b1 : (a1_0 != a0_0) = false := bne_eq_false_iff_eq.mpr c5
      clear c5
      by_cases c6 : a1_1 ≥ a0_1
      · rw [if_pos c6] at H
        have c6b0 : decide (a0_1 ≤ a1_1) = true := decide_eq_true c6
        clear c6
        by_cases c7 : a1_1 ≤ a0_3
        · rw [if_pos c7] at H
          have c7b0 : decide (a1_1 ≤ a0_3) = true := decide_eq_true c7
          clear c7
          by_cases c8 : a1_2 ≥ a0_2
          · rw [if_pos c8] at H
            have c8b0 : decide (a0_2 ≤ a1_2) = true := decide_eq_true c8
            clear c8
            obtain rfl := Option.some.inj H
            go_enter Tryd.func54, Tryd.ntmps54
            go_wp2_with (first | ((with_reducible refine gate_dst (N := 2) rfl ?_); refine box_event ?hg (N := 2) ?hd (cs := #[.int .i64 a0_0, .int .i64 a0_1, .int .i64 a0_2, .int .i64 a0_3, .int .i64 a0_4]) (t := 25) ?hr ?_; (case hd => rfl); (case hg => rfl); (case hr => go_simp <;> rfl); intro gb552 hg w9 hbox hb; have BK552 := Aside0.mk (hbox); have GW552 := Aside0.mk ((by rw [hg]; exact (below_size HB.out) : w.heap.size ≤ gb552)); have GE552 := GW552; replace HB := Aside0.mk (below_step HB.out hb); clear hb hbox hg) | ((with_reducible refine gate_dst (N := 3) rfl ?_); refine box_event ?hg (N := 3) ?hd (cs := #[.int .i64 a1_0, .int .i64 a1_1, .int .i64 a1_2]) (t := 23) ?hr ?_; (case hd => rfl); (case hg => rfl); (case hr => go_simp <;> rfl); intro gb553 hg w10 hbox hb; have BK553 := Aside0.mk (hbox); have GW553 := Aside0.mk ((by rw [hg]; exact (below_size HB.out) : w.heap.size ≤ gb553)); have GE553 := GW553; have NB552_553 := Aside0.mk ((by rw [hg]; exact Nat.ne_of_lt (blk_lt BK552.out) : gb552 ≠ gb553)); have NB553_552 := Aside0.mk ((by rw [hg]; exact Nat.ne_of_gt (blk_lt BK552.out) : gb553 ≠ gb552)); replace BK552 := Aside0.mk (blk_below BK552.out hb); replace HB := Aside0.mk (below_step HB.out hb); clear hb hbox hg; have hnb11 := NB552_553.out; have hnc11 := NB553_552.out; have hcz12_0 : w10.cell? ⟨gb552, 0, none⟩ = some (.int .i64 a0_0) := (blk_cell BK552.out 0).trans rfl; have hcz12_1 : w10.cell? ⟨gb552, 1, none⟩ = some (.int .i64 a0_1) := (blk_cell BK552.out 1).trans rfl; have hcz12_2 : w10.cell? ⟨gb552, 2, none⟩ = some (.int .i64 a0_2) := (blk_cell BK552.out 2).trans rfl; have hcz12_3 : w10.cell? ⟨gb552, 3, none⟩ = some (.int .i64 a0_3) := (blk_cell BK552.out 3).trans rfl; have hcz12_4 : w10.cell? ⟨gb552, 4, none⟩ = some (.int .i64 a0_4) := (blk_cell BK552.out 4).trans rfl; have hfz12_0 := blk_frozen BK552.out 0; have hfz12_1 := blk_frozen BK552.out 1; have hfz12_2 := blk_frozen BK552.out 2; have hfz12_3 := blk_frozen BK552.out 3; have hfz12_4 := blk_frozen BK552.out 4) | ((with_reducible refine gate_callee (f := 20) rfl ?_); refine goesL_ (some 7) rfl rfl Tryd.func20 (by kernel_rfl) rfl #[.agg #[.int .i64 a0_0, .int .i64 a0_1, .int .i64 a0_2, .int .i64 a0_3, .int .i64 a0_4]] rfl (by (try simp only [List.map_toArray, List.map_cons, List.map_nil]); first | done | rfl | (simp only [List.length_drop, List.length_take]; rfl)) ?_; (with_reducible refine (whittleref3_RightArea.calls a0_0 a0_1 a0_2 a0_3 a0_4 true _ A3.out).mono ?_); rintro e w13 ⟨rfl, hb⟩; refine ⟨_, rfl, ?_⟩; replace BK552 := Aside0.mk (blk_below BK552.out hb); replace BK553 := Aside0.mk (blk_below BK553.out hb); replace HB := Aside0.mk (below_step HB.out hb); (try clear hb); have hcz14_0 : w13.cell? ⟨gb553, 0, none⟩ = some (.int .i64 a1_0) := (blk_cell BK553.out 0).trans rfl; have hcz14_1 : w13.cell? ⟨gb553, 1, none⟩ = some (.int .i64 a1_1) := (blk_cell BK553.out 1).trans rfl; have hcz14_2 : w13.cell? ⟨gb553, 2, none⟩ = some (.int .i64 a1_2) := (blk_cell BK553.out 2).trans rfl; have hfz14_0 := blk_frozen BK553.out 0; have hfz14_1 := blk_frozen BK553.out 1; have hfz14_2 := blk_frozen BK553.out 2; have hcz15_0 : w13.cell? ⟨gb552, 0, none⟩ = some (.int .i64 a0_0) := (blk_cell BK552.out 0).trans rfl; have hcz15_1 : w13.cell? ⟨gb552, 1, none⟩ = some (.int .i64 a0_1) := (blk_cell BK552.out 1).trans rfl; have hcz15_2 : w13.cell? ⟨gb552, 2, none⟩ = some (.int .i64 a0_2) := (blk_cell BK552.out 2).trans rfl; have hcz15_3 : w13.cell? ⟨gb552, 3, none⟩ = some (.int .i64 a0_3) := (blk_cell BK552.out 3).trans rfl; have hcz15_4 : w13.cell? ⟨gb552, 4, none⟩ = some (.int .i64 a0_4) := (blk_cell BK552.out 4).trans rfl; have hfz15_0 := blk_frozen BK552.out 0; have hfz15_1 := blk_frozen BK552.out 1; have hfz15_2 := blk_frozen BK552.out 2; have hfz15_3 := blk_frozen BK552.out 3; have hfz15_4 := blk_frozen BK552.out 4))
            go_ret
            exact ⟨by first | rfl | (simp [errW_none, errW_some] <;> rfl) | (simp [*, errW_none, errW_some] <;> rfl), by repeat (first | (with_reducible first | exact HB.out | apply below_alloc | apply pw_below_drewN | apply below_drew1 | refine below_set ?_ GE552.out | refine below_set ?_ GE553.out) | exact HB.out)⟩
          · rw [if_neg c8] at H
            have c8b0 : decide (a0_2 ≤ a1_2) = false := decide_eq_false c8
            clear c8
            obtain rfl := Option.some.inj H
            go_enter Tryd.func54, Tryd.ntmps54
            go_wp2_with (first | ((with_reducible refine gate_dst (N := 2) rfl ?_); refine box_event ?hg (N := 2) ?hd (cs := #[.int .i64 a0_0, .int .i64 a0_1, .int .i64 a0_2, .int .i64 a0_3, .int .i64 a0_4]) (t := 25) ?hr ?_; (case hd => rfl); (case hg => rfl); (case hr => go_simp <;> rfl); intro gb552 hg w16 hbox hb; have BK552 := Aside0.mk (hbox); have GW552 := Aside0.mk ((by rw [hg]; exact (below_size HB.out) : w.heap.size ≤ gb552)); have GE552 := GW552; replace HB := Aside0.mk (below_step HB.out hb); clear hb hbox hg) | ((with_reducible refine gate_dst (N := 3) rfl ?_); refine box_event ?hg (N := 3) ?hd (cs := #[.int .i64 a1_0, .int .i64 a1_1, .int .i64 a1_2]) (t := 23) ?hr ?_; (case hd => rfl); (case hg => rfl); (case hr => go_simp <;> rfl); intro gb553 hg w17 hbox hb; have BK553 := Aside0.mk (hbox); have GW553 := Aside0.mk ((by rw [hg]; exact (below_size HB.out) : w.heap.size ≤ gb553)); have GE553 := GW553; have NB552_553 := Aside0.mk ((by rw [hg]; exact Nat.ne_of_lt (blk_lt BK552.out) : gb552 ≠ gb553)); have NB553_552 := Aside0.mk ((by rw [hg]; exact Nat.ne_of_gt (blk_lt BK552.out) : gb553 ≠ gb552)); replace BK552 := Aside0.mk (blk_below BK552.out hb); replace HB := Aside0.mk (below_step HB.out hb); clear hb hbox hg; have hnb18 := NB552_553.out; have hnc18 := NB553_552.out; have hcz19_0 : w17.cell? ⟨gb552, 0, none⟩ = some (.int .i64 a0_0) := (blk_cell BK552.out 0).trans rfl; have hcz19_1 : w17.cell? ⟨gb552, 1, none⟩ = some (.int .i64 a0_1) := (blk_cell BK552.out 1).trans rfl; have hcz19_2 : w17.cell? ⟨gb552, 2, none⟩ = some (.int .i64 a0_2) := (blk_cell BK552.out 2).trans rfl; have hcz19_3 : w17.cell? ⟨gb552, 3, none⟩ = some (.int .i64 a0_3) := (blk_cell BK552.out 3).trans rfl; have hcz19_4 : w17.cell? ⟨gb552, 4, none⟩ = some (.int .i64 a0_4) := (blk_cell BK552.out 4).trans rfl; have hfz19_0 := blk_frozen BK552.out 0; have hfz19_1 := blk_frozen BK552.out 1; have hfz19_2 := blk_frozen BK552.out 2; have hfz19_3 := blk_frozen BK552.out 3; have hfz19_4 := blk_frozen BK552.out 4) | ((with_reducible refine gate_callee (f := 20) rfl ?_); refine goesL_ (some 7) rfl rfl Tryd.func20 (by kernel_rfl) rfl #[.agg #[.int .i64 a0_0, .int .i64 a0_1, .int .i64 a0_2, .int .i64 a0_3, .int .i64 a0_4]] rfl (by (try simp only [List.map_toArray, List.map_cons, List.map_nil]); first | done | rfl | (simp only [List.length_drop, List.length_take]; rfl)) ?_; (with_reducible refine (whittleref3_RightArea.calls a0_0 a0_1 a0_2 a0_3 a0_4 true _ A3.out).mono ?_); rintro e w20 ⟨rfl, hb⟩; refine ⟨_, rfl, ?_⟩; replace BK552 := Aside0.mk (blk_below BK552.out hb); replace BK553 := Aside0.mk (blk_below BK553.out hb); replace HB := Aside0.mk (below_step HB.out hb); (try clear hb); have hcz21_0 : w20.cell? ⟨gb553, 0, none⟩ = some (.int .i64 a1_0) := (blk_cell BK553.out 0).trans rfl; have hcz21_1 : w20.cell? ⟨gb553, 1, none⟩ = some (.int .i64 a1_1) := (blk_cell BK553.out 1).trans rfl; have hcz21_2 : w20.cell? ⟨gb553, 2, none⟩ = some (.int .i64 a1_2) := (blk_cell BK553.out 2).trans rfl; have hfz21_0 := blk_frozen BK553.out 0; have hfz21_1 := blk_frozen BK553.out 1; have hfz21_2 := blk_frozen BK553.out 2; have hcz22_0 : w20.cell? ⟨gb552, 0, none⟩ = some (.int .i64 a0_0) := (blk_cell BK552.out 0).trans rfl; have hcz22_1 : w20.cell? ⟨gb552, 1, none⟩ = some (.int .i64 a0_1) := (blk_cell BK552.out 1).trans rfl; have hcz22_2 : w20.cell? ⟨gb552, 2, none⟩ = some (.int .i64 a0_2) := (blk_cell BK552.out 2).trans rfl; have hcz22_3 : w20.cell? ⟨gb552, 3, none⟩ = some (.int .i64 a0_3) := (blk_cell BK552.out 3).trans rfl; have hcz22_4 : w20.cell? ⟨gb552, 4, none⟩ = some (.int .i64 a0_4) := (blk_cell BK552.out 4).trans rfl; have hfz22_0 := blk_frozen BK552.out 0; have hfz22_1 := blk_frozen BK552.out 1; have hfz22_2 := blk_frozen BK552.out 2; have hfz22_3 := blk_frozen BK552.out 3; have hfz22_4 := blk_frozen BK552.out 4))
            go_ret
            exact ⟨by first | rfl | (simp [errW_none, errW_some] <;> rfl) | (simp [*, errW_none, errW_some] <;> rfl), by repeat (first | (with_reducible first | exact HB.out | apply below_alloc | apply pw_below_drewN | apply below_drew1 | refine below_set ?_ GE552.out | refine below_set ?_ GE553.out) | exact HB.out)⟩
        · rw [if_neg c7] at H
          have c7b0 : decide (a1_1 ≤ a0_3) = false := decide_eq_false c7
          clear c7
          obtain rfl := Option.some.inj H
          go_enter Tryd.func54, Tryd.ntmps54
          go_wp2_with (first | ((with_reducible refine gate_dst (N := 2) rfl ?_); refine box_event ?hg (N := 2) ?hd (cs := #[.int .i64 a0_0, .int .i64 a0_1, .int .i64 a0_2, .int .i64 a0_3, .int .i64 a0_4]) (t := 25) ?hr ?_; (case hd => rfl); (case hg => rfl); (case hr => go_simp <;> rfl); intro gb552 hg w23 hbox hb; have BK552 := Aside0.mk (hbox); have GW552 := Aside0.mk ((by rw [hg]; exact (below_size HB.out) : w.heap.size ≤ gb552)); have GE552 := GW552; replace HB := Aside0.mk (below_step HB.out hb); clear hb hbox hg) | ((with_reducible refine gate_dst (N := 3) rfl ?_); refine box_event ?hg (N := 3) ?hd (cs := #[.int .i64 a1_0, .int .i64 a1_1, .int .i64 a1_2]) (t := 23) ?hr ?_; (case hd => rfl); (case hg => rfl); (case hr => go_simp <;> rfl); intro gb553 hg w24 hbox hb; have BK553 := Aside0.mk (hbox); have GW553 := Aside0.mk ((by rw [hg]; exact (below_size HB.out) : w.heap.size ≤ gb553)); have GE553 := GW553; have NB552_553 := Aside0.mk ((by rw [hg]; exact Nat.ne_of_lt (blk_lt BK552.out) : gb552 ≠ gb553)); have NB553_552 := Aside0.mk ((by rw [hg]; exact Nat.ne_of_gt (blk_lt BK552.out) : gb553 ≠ gb552)); replace BK552 := Aside0.mk (blk_below BK552.out hb); replace HB := Aside0.mk (below_step HB.out hb); clear hb hbox hg; have hnb25 := NB552_553.out; have hnc25 := NB553_552.out; have hcz26_0 : w24.cell? ⟨gb552, 0, none⟩ = some (.int .i64 a0_0) := (blk_cell BK552.out 0).trans rfl; have hcz26_1 : w24.cell? ⟨gb552, 1, none⟩ = some (.int .i64 a0_1) := (blk_cell BK552.out 1).trans rfl; have hcz26_2 : w24.cell? ⟨gb552, 2, none⟩ = some (.int .i64 a0_2) := (blk_cell BK552.out 2).trans rfl; have hcz26_3 : w24.cell? ⟨gb552, 3, none⟩ = some (.int .i64 a0_3) := (blk_cell BK552.out 3).trans rfl; have hcz26_4 : w24.cell? ⟨gb552, 4, none⟩ = some (.int .i64 a0_4) := (blk_cell BK552.out 4).trans rfl; have hfz26_0 := blk_frozen BK552.out 0; have hfz26_1 := blk_frozen BK552.out 1; have hfz26_2 := blk_frozen BK552.out 2; have hfz26_3 := blk_frozen BK552.out 3; have hfz26_4 := blk_frozen BK552.out 4) | ((with_reducible refine gate_callee (f := 20) rfl ?_); refine goesL_ (some 7) rfl rfl Tryd.func20 (by kernel_rfl) rfl #[.agg #[.int .i64 a0_0, .int .i64 a0_1, .int .i64 a0_2, .int .i64 a0_3, .int .i64 a0_4]] rfl (by (try simp only [List.map_toArray, List.map_cons, List.map_nil]); first | done | rfl | (simp only [List.length_drop, List.length_take]; rfl)) ?_; (with_reducible refine (whittleref3_RightArea.calls a0_0 a0_1 a0_2 a0_3 a0_4 true _ A3.out).mono ?_); rintro e w27 ⟨rfl, hb⟩; refine ⟨_, rfl, ?_⟩; replace BK552 := Aside0.mk (blk_below BK552.out hb); replace BK553 := Aside0.mk (blk_below BK553.out hb); replace HB := Aside0.mk (below_step HB.out hb); (try clear hb); have hcz28_0 : w27.cell? ⟨gb553, 0, none⟩ = some (.int .i64 a1_0) := (blk_cell BK553.out 0).trans rfl; have hcz28_1 : w27.cell? ⟨gb553, 1, none⟩ = some (.int .i64 a1_1) := (blk_cell BK553.out 1).trans rfl; have hcz28_2 : w27.cell? ⟨gb553, 2, none⟩ = some (.int .i64 a1_2) := (blk_cell BK553.out 2).trans rfl; have hfz28_0 := blk_frozen BK553.out 0; have hfz28_1 := blk_frozen BK553.out 1; have hfz28_2 := blk_frozen BK553.out 2; have hcz29_0 : w27.cell? ⟨gb552, 0, none⟩ = some (.int .i64 a0_0) := (blk_cell BK552.out 0).trans rfl; have hcz29_1 : w27.cell? ⟨gb552, 1, none⟩ = some (.int .i64 a0_1) := (blk_cell BK552.out 1).trans rfl; have hcz29_2 : w27.cell? ⟨gb552, 2, none⟩ = some (.int .i64 a0_2) := (blk_cell BK552.out 2).trans rfl; have hcz29_3 : w27.cell? ⟨gb552, 3, none⟩ = some (.int .i64 a0_3) := (blk_cell BK552.out 3).trans rfl; have hcz29_4 : w27.cell? ⟨gb552, 4, none⟩ = some (.int .i64 a0_4) := (blk_cell BK552.out 4).trans rfl; have hfz29_0 := blk_frozen BK552.out 0; have hfz29_1 := blk_frozen BK552.out 1; have hfz29_2 := blk_frozen BK552.out 2; have hfz29_3 := blk_frozen BK552.out 3; have hfz29_4 := blk_frozen BK552.out 4))
          go_ret
          exact ⟨by first | rfl | (simp [errW_none, errW_some] <;> rfl) | (simp [*, errW_none, errW_some] <;> rfl), by repeat (first | (with_reducible first | exact HB.out | apply below_alloc | apply pw_below_drewN | apply below_drew1 | refine below_set ?_ GE552.out | refine below_set ?_ GE553.out) | exact HB.out)⟩
      · rw [if_neg c6] at H
        have c6b0 : decide (a0_1 ≤ a1_1) = false := decide_eq_false c6
        clear c6
        obtain rfl := Option.some.inj H
        go_enter Tryd.func54, Tryd.ntmps54
        go_wp2_with (first | ((with_reducible refine gate_dst (N := 2) rfl ?_); refine box_event ?hg (N := 2) ?hd (cs := #[.int .i64 a0_0, .int .i64 a0_1, .int .i64 a0_2, .int .i64 a0_3, .int .i64 a0_4]) (t := 25) ?hr ?_; (case hd => rfl); (case hg => rfl); (case hr => go_simp <;> rfl); intro gb552 hg w30 hbox hb; have BK552 := Aside0.mk (hbox); have GW552 := Aside0.mk ((by rw [hg]; exact (below_size HB.out) : w.heap.size ≤ gb552)); have GE552 := GW552; replace HB := Aside0.mk (below_step HB.out hb); clear hb hbox hg) | ((with_reducible refine gate_dst (N := 3) rfl ?_); refine box_event ?hg (N := 3) ?hd (cs := #[.int .i64 a1_0, .int .i64 a1_1, .int .i64 a1_2]) (t := 23) ?hr ?_; (case hd => rfl); (case hg => rfl); (case hr => go_simp <;> rfl); intro gb553 hg w31 hbox hb; have BK553 := Aside0.mk (hbox); have GW553 := Aside0.mk ((by rw [hg]; exact (below_size HB.out) : w.heap.size ≤ gb553)); have GE553 := GW553; have NB552_553 := Aside0.mk ((by rw [hg]; exact Nat.ne_of_lt (blk_lt BK552.out) : gb552 ≠ gb553)); have NB553_552 := Aside0.mk ((by rw [hg]; exact Nat.ne_of_gt (blk_lt BK552.out) : gb553 ≠ gb552)); replace BK552 := Aside0.mk (blk_below BK552.out hb); replace HB := Aside0.mk (below_step HB.out hb); clear hb hbox hg; have hnb32 := NB552_553.out; have hnc32 := NB553_552.out; have hcz33_0 : w31.cell? ⟨gb552, 0, none⟩ = some (.int .i64 a0_0) := (blk_cell BK552.out 0).trans rfl; have hcz33_1 : w31.cell? ⟨gb552, 1, none⟩ = some (.int .i64 a0_1) := (blk_cell BK552.out 1).trans rfl; have hcz33_2 : w31.cell? ⟨gb552, 2, none⟩ = some (.int .i64 a0_2) := (blk_cell BK552.out 2).trans rfl; have hcz33_3 : w31.cell? ⟨gb552, 3, none⟩ = some (.int .i64 a0_3) := (blk_cell BK552.out 3).trans rfl; have hcz33_4 : w31.cell? ⟨gb552, 4, none⟩ = some (.int .i64 a0_4) := (blk_cell BK552.out 4).trans rfl; have hfz33_0 := blk_frozen BK552.out 0; have hfz33_1 := blk_frozen BK552.out 1; have hfz33_2 := blk_frozen BK552.out 2; have hfz33_3 := blk_frozen BK552.out 3; have hfz33_4 := blk_frozen BK552.out 4) | ((with_reducible refine gate_callee (f := 20) rfl ?_); refine goesL_ (some 7) rfl rfl Tryd.func20 (by kernel_rfl) rfl #[.agg #[.int .i64 a0_0, .int .i64 a0_1, .int .i64 a0_2, .int .i64 a0_3, .int .i64 a0_4]] rfl (by (try simp only [List.map_toArray, List.map_cons, List.map_nil]); first | done | rfl | (simp only [List.length_drop, List.length_take]; rfl)) ?_; (with_reducible refine (whittleref3_RightArea.calls a0_0 a0_1 a0_2 a0_3 a0_4 true _ A3.out).mono ?_); rintro e w34 ⟨rfl, hb⟩; refine ⟨_, rfl, ?_⟩; replace BK552 := Aside0.mk (blk_below BK552.out hb); replace BK553 := Aside0.mk (blk_below BK553.out hb); replace HB := Aside0.mk (below_step HB.out hb); (try clear hb); have hcz35_0 : w34.cell? ⟨gb553, 0, none⟩ = some (.int .i64 a1_0) := (blk_cell BK553.out 0).trans rfl; have hcz35_1 : w34.cell? ⟨gb553, 1, none⟩ = some (.int .i64 a1_1) := (blk_cell BK553.out 1).trans rfl; have hcz35_2 : w34.cell? ⟨gb553, 2, none⟩ = some (.int .i64 a1_2) := (blk_cell BK553.out 2).trans rfl; have hfz35_0 := blk_frozen BK553.out 0; have hfz35_1 := blk_frozen BK553.out 1; have hfz35_2 := blk_frozen BK553.out 2; have hcz36_0 : w34.cell? ⟨gb552, 0, none⟩ = some (.int .i64 a0_0) := (blk_cell BK552.out 0).trans rfl; have hcz36_1 : w34.cell? ⟨gb552, 1, none⟩ = some (.int .i64 a0_1) := (blk_cell BK552.out 1).trans rfl; have hcz36_2 : w34.cell? ⟨gb552, 2, none⟩ = some (.int .i64 a0_2) := (blk_cell BK552.out 2).trans rfl; have hcz36_3 : w34.cell? ⟨gb552, 3, none⟩ = some (.int .i64 a0_3) := (blk_cell BK552.out 3).trans rfl; have hcz36_4 : w34.cell? ⟨gb552, 4, none⟩ = some (.int .i64 a0_4) := (blk_cell BK552.out 4).trans rfl; have hfz36_0 := blk_frozen BK552.out 0; have hfz36_1 := blk_frozen BK552.out 1; have hfz36_2 := blk_frozen BK552.out 2; have hfz36_3 := blk_frozen BK552.out 3; have hfz36_4 := blk_frozen BK552.out 4))
        go_ret
        exact ⟨by first | rfl | (simp [errW_none, errW_some] <;> rfl) | (simp [*, errW_none, errW_some] <;> rfl), by repeat (first | (with_reducible first | exact HB.out | apply below_alloc | apply pw_below_drewN | apply below_drew1 | refine below_set ?_ GE552.out | refine below_set ?_ GE553.out) | exact HB.out)⟩
    · rw [if_neg c5] at H
      have c5b0 : (a1_0 == a0_0) = false := beq_eq_false_iff_ne.mpr c5
      have c5b1 : (a1_0 != a0_0) = true := bne_iff_ne.mpr c5
      obtain rfl := Option.some.inj H
      go_enter Tryd.func54, Tryd.ntmps54
      go_wp2_with (first | ((with_reducible refine gate_dst (N := 2) rfl ?_); refine box_event ?hg (N := 2) ?hd (cs := #[.int .i64 a0_0, .int .i64 a0_1, .int .i64 a0_2, .int .i64 a0_3, .int .i64 a0_4]) (t := 25) ?hr ?_; (case hd => rfl); (case hg => rfl); (case hr => go_simp <;> rfl); intro gb552 hg w37 hbox hb; have BK552 := Aside0.mk (hbox); have GW552 := Aside0.mk ((by rw [hg]; exact (below_size HB.out) : w.heap.size ≤ gb552)); have GE552 := GW552; replace HB := Aside0.mk (below_step HB.out hb); clear hb hbox hg) | ((with_reducible refine gate_dst (N := 3) rfl ?_); refine box_event ?hg (N := 3) ?hd (cs := #[.int .i64 a1_0, .int .i64 a1_1, .int .i64 a1_2]) (t := 23) ?hr ?_; (case hd => rfl); (case hg => rfl); (case hr => go_simp <;> rfl); intro gb553 hg w38 hbox hb; have BK553 := Aside0.mk (hbox); have GW553 := Aside0.mk ((by rw [hg]; exact (below_size HB.out) : w.heap.size ≤ gb553)); have GE553 := GW553; have NB552_553 := Aside0.mk ((by rw [hg]; exact Nat.ne_of_lt (blk_lt BK552.out) : gb552 ≠ gb553)); have NB553_552 := Aside0.mk ((by rw [hg]; exact Nat.ne_of_gt (blk_lt BK552.out) : gb553 ≠ gb552)); replace BK552 := Aside0.mk (blk_below BK552.out hb); replace HB := Aside0.mk (below_step HB.out hb); clear hb hbox hg; have hnb39 := NB552_553.out; have hnc39 := NB553_552.out; have hcz40_0 : w38.cell? ⟨gb552, 0, none⟩ = some (.int .i64 a0_0) := (blk_cell BK552.out 0).trans rfl; have hcz40_1 : w38.cell? ⟨gb552, 1, none⟩ = some (.int .i64 a0_1) := (blk_cell BK552.out 1).trans rfl; have hcz40_2 : w38.cell? ⟨gb552, 2, none⟩ = some (.int .i64 a0_2) := (blk_cell BK552.out 2).trans rfl; have hcz40_3 : w38.cell? ⟨gb552, 3, none⟩ = some (.int .i64 a0_3) := (blk_cell BK552.out 3).trans rfl; have hcz40_4 : w38.cell? ⟨gb552, 4, none⟩ = some (.int .i64 a0_4) := (blk_cell BK552.out 4).trans rfl; have hfz40_0 := blk_frozen BK552.out 0; have hfz40_1 := blk_frozen BK552.out 1; have hfz40_2 := blk_frozen BK552.out 2; have hfz40_3 := blk_frozen BK552.out 3; have hfz40_4 := blk_frozen BK552.out 4) | ((with_reducible refine gate_callee (f := 20) rfl ?_); refine goesL_ (some 7) rfl rfl Tryd.func20 (by kernel_rfl) rfl #[.agg #[.int .i64 a0_0, .int .i64 a0_1, .int .i64 a0_2, .int .i64 a0_3, .int .i64 a0_4]] rfl (by (try simp only [List.map_toArray, List.map_cons, List.map_nil]); first | done | rfl | (simp only [List.length_drop, List.length_take]; rfl)) ?_; (with_reducible refine (whittleref3_RightArea.calls a0_0 a0_1 a0_2 a0_3 a0_4 true _ A3.out).mono ?_); rintro e w41 ⟨rfl, hb⟩; refine ⟨_, rfl, ?_⟩; replace BK552 := Aside0.mk (blk_below BK552.out hb); replace BK553 := Aside0.mk (blk_below BK553.out hb); replace HB := Aside0.mk (below_step HB.out hb); (try clear hb); have hcz42_0 : w41.cell? ⟨gb553, 0, none⟩ = some (.int .i64 a1_0) := (blk_cell BK553.out 0).trans rfl; have hcz42_1 : w41.cell? ⟨gb553, 1, none⟩ = some (.int .i64 a1_1) := (blk_cell BK553.out 1).trans rfl; have hcz42_2 : w41.cell? ⟨gb553, 2, none⟩ = some (.int .i64 a1_2) := (blk_cell BK553.out 2).trans rfl; have hfz42_0 := blk_frozen BK553.out 0; have hfz42_1 := blk_frozen BK553.out 1; have hfz42_2 := blk_frozen BK553.out 2; have hcz43_0 : w41.cell? ⟨gb552, 0, none⟩ = some (.int .i64 a0_0) := (blk_cell BK552.out 0).trans rfl; have hcz43_1 : w41.cell? ⟨gb552, 1, none⟩ = some (.int .i64 a0_1) := (blk_cell BK552.out 1).trans rfl; have hcz43_2 : w41.cell? ⟨gb552, 2, none⟩ = some (.int .i64 a0_2) := (blk_cell BK552.out 2).trans rfl; have hcz43_3 : w41.cell? ⟨gb552, 3, none⟩ = some (.int .i64 a0_3) := (blk_cell BK552.out 3).trans rfl; have hcz43_4 : w41.cell? ⟨gb552, 4, none⟩ = some (.int .i64 a0_4) := (blk_cell BK552.out 4).trans rfl; have hfz43_0 := blk_frozen BK552.out 0; have hfz43_1 := blk_frozen BK552.out 1; have hfz43_2 := blk_frozen BK552.out 2; have hfz43_3 := blk_frozen BK552.out 3; have hfz43_4 := blk_frozen BK552.out 4))
      go_ret
      exact ⟨by first | rfl | (simp [errW_none, errW_some] <;> rfl) | (simp [*, errW_none, errW_some] <;> rfl), by repeat (first | (with_reducible first | exact HB.out | apply below_alloc | apply pw_below_drewN | apply below_drew1 | refine below_set ?_ GE552.out | refine below_set ?_ GE553.out) | exact HB.out)⟩
  · replace c4 := Bool.eq_false_iff.mpr c4
    subst c4
    have H1 : (some false) = some r := by rw [if_neg (show ¬ (false = true) by decide)] at H; exact H
    clear H
    have H := H1
    clear H1
    obtain rfl := Option.some.inj H
    go_enter Tryd.func54, Tryd.ntmps54
    go_wp2_with (first | ((with_reducible refine gate_dst (N := 2) rfl ?_); refine box_event ?hg (N := 2) ?hd (cs := #[.int .i64 a0_0, .int .i64 a0_1, .int .i64 a0_2, .int .i64 a0_3, .int .i64 a0_4]) (t := 25) ?hr ?_; (case hd => rfl); (case hg => rfl); (case hr => go_simp <;> rfl); intro gb552 hg w44 hbox hb; have BK552 := Aside0.mk (hbox); have GW552 := Aside0.mk ((by rw [hg]; exact (below_size HB.out) : w.heap.size ≤ gb552)); have GE552 := GW552; replace HB := Aside0.mk (below_step HB.out hb); clear hb hbox hg) | ((with_reducible refine gate_dst (N := 3) rfl ?_); refine box_event ?hg (N := 3) ?hd (cs := #[.int .i64 a1_0, .int .i64 a1_1, .int .i64 a1_2]) (t := 23) ?hr ?_; (case hd => rfl); (case hg => rfl); (case hr => go_simp <;> rfl); intro gb553 hg w45 hbox hb; have BK553 := Aside0.mk (hbox); have GW553 := Aside0.mk ((by rw [hg]; exact (below_size HB.out) : w.heap.size ≤ gb553)); have GE553 := GW553; have NB552_553 := Aside0.mk ((by rw [hg]; exact Nat.ne_of_lt (blk_lt BK552.out) : gb552 ≠ gb553)); have NB553_552 := Aside0.mk ((by rw [hg]; exact Nat.ne_of_gt (blk_lt BK552.out) : gb553 ≠ gb552)); replace BK552 := Aside0.mk (blk_below BK552.out hb); replace HB := Aside0.mk (below_step HB.out hb); clear hb hbox hg; have hnb46 := NB552_553.out; have hnc46 := NB553_552.out; have hcz47_0 : w45.cell? ⟨gb552, 0, none⟩ = some (.int .i64 a0_0) := (blk_cell BK552.out 0).trans rfl; have hcz47_1 : w45.cell? ⟨gb552, 1, none⟩ = some (.int .i64 a0_1) := (blk_cell BK552.out 1).trans rfl; have hcz47_2 : w45.cell? ⟨gb552, 2, none⟩ = some (.int .i64 a0_2) := (blk_cell BK552.out 2).trans rfl; have hcz47_3 : w45.cell? ⟨gb552, 3, none⟩ = some (.int .i64 a0_3) := (blk_cell BK552.out 3).trans rfl; have hcz47_4 : w45.cell? ⟨gb552, 4, none⟩ = some (.int .i64 a0_4) := (blk_cell BK552.out 4).trans rfl; have hfz47_0 := blk_frozen BK552.out 0; have hfz47_1 := blk_frozen BK552.out 1; have hfz47_2 := blk_frozen BK552.out 2; have hfz47_3 := blk_frozen BK552.out 3; have hfz47_4 := blk_frozen BK552.out 4) | ((with_reducible refine gate_callee (f := 20) rfl ?_); refine goesL_ (some 7) rfl rfl Tryd.func20 (by kernel_rfl) rfl #[.agg #[.int .i64 a0_0, .int .i64 a0_1, .int .i64 a0_2, .int .i64 a0_3, .int .i64 a0_4]] rfl (by (try simp only [List.map_toArray, List.map_cons, List.map_nil]); first | done | rfl | (simp only [List.length_drop, List.length_take]; rfl)) ?_; (with_reducible refine (whittleref3_RightArea.calls a0_0 a0_1 a0_2 a0_3 a0_4 false _ A3.out).mono ?_); rintro e w48 ⟨rfl, hb⟩; refine ⟨_, rfl, ?_⟩; replace BK552 := Aside0.mk (blk_below BK552.out hb); replace BK553 := Aside0.mk (blk_below BK553.out hb); replace HB := Aside0.mk (below_step HB.out hb); (try clear hb)))
    go_ret
    exact ⟨by first | rfl | (simp [errW_none, errW_some] <;> rfl) | (simp [*, errW_none, errW_some] <;> rfl), by repeat (first | (with_reducible first | exact HB.out | apply below_alloc | apply pw_below_drewN | apply below_drew1 | refine below_set ?_ GE552.out | refine below_set ?_ GE553.out) | exact HB.out)⟩



/-! ### whittleref3_Index: function 52 -/
def whittleref3_Index.f (a0_0 : Int) (a0_1 : Int) (a0_2 : Int) (a0_3 : Int) (a0_4 : Int) (a1_0 : Int) (a1_1 : Int) (a1_2 : Int) : Option (Int × Bool) := (whittleref3_Has.f a0_0 a0_1 a0_2 a0_3 a0_4 a1_0 a1_1 a1_2).bind fun t557 => (if t557 = true then (some (wrap64 ((wrap64 ((wrap64 ((wrap64 (a1_1 - a0_1)) * (wrap64 ((wrap64 (a0_4 - a0_2)) + 1)))) + a1_2)) - a0_2), true)) else (some (0, false)))
set_option maxHeartbeats 8000000 in
set_option maxRecDepth 100000 in
theorem whittleref3_Index.calls (a0_0 : Int) (a0_1 : Int) (a0_2 : Int) (a0_3 : Int) (a0_4 : Int) (a1_0 : Int) (a1_1 : Int) (a1_2 : Int) (r1 : Int) (r2 : Bool) (w : World) (h : whittleref3_Index.f a0_0 a0_1 a0_2 a0_3 a0_4 a1_0 a1_1 a1_2 = some (r1, r2)) :
    Calls Tryd.prog 52 #[.agg #[.int .i64 a0_0, .int .i64 a0_1, .int .i64 a0_2, .int .i64 a0_3, .int .i64 a0_4], .agg #[.int .i64 a1_0, .int .i64 a1_1, .int .i64 a1_2]] w fun e w' => e = .returned (.tuple #[.int .i64 r1, .bool r2]) ∧ Below w.heap.size w w' := by
  have hu25 := Tryd.underlying25
  have hu23 := Tryd.underlying23
  have HB := Aside0.mk (Below.refl w.heap.size w)
  have H : ((whittleref3_Has.f a0_0 a0_1 a0_2 a0_3 a0_4 a1_0 a1_1 a1_2).bind fun t557 => (if t557 = true then (some (wrap64 ((wrap64 ((wrap64 ((wrap64 (a1_1 - a0_1)) * (wrap64 ((wrap64 (a0_4 - a0_2)) + 1)))) + a1_2)) - a0_2), true)) else (some (0, false)))) = some (r1, r2) := h
  clear h
  replace H := Option.bind_eq_some_iff.mp H
  obtain ⟨t557, A30, H⟩ := H
  replace H : (if t557 = true then (some (wrap64 ((wrap64 ((wrap64 ((wrap64 (a1_1 - a0_1)) * (wrap64 ((wrap64 (a0_4 - a0_2)) + 1)))) + a1_2)) - a0_2), true)) else (some (0, false))) = some (r1, r2) := H
  have A3 := Aside0.mk A30
  clear A30
  by_cases c4 : t557 = true
  · subst c4
    have H1 : (some (wrap64 ((wrap64 ((wrap64 ((wrap64 (a1_1 - a0_1)) * (wrap64 ((wrap64 (a0_4 - a0_2)) + 1)))) + a1_2)) - a0_2), true)) = some (r1, r2) := by rw [if_pos rfl] at H; exact H
    clear H
    have H := H1
    clear H1
    simp only [Option.some.injEq, Prod.mk.injEq] at H
    obtain ⟨rfl, rfl⟩ := H
    go_enter Tryd.func52, Tryd.ntmps52
    go_wp2_with (first | ((with_reducible refine gate_dst (N := 2) rfl ?_); refine box_event ?hg (N := 2) ?hd (cs := #[.int .i64 a0_0, .int .i64 a0_1, .int .i64 a0_2, .int .i64 a0_3, .int .i64 a0_4]) (t := 25) ?hr ?_; (case hd => rfl); (case hg => rfl); (case hr => go_simp <;> rfl); intro gb555 hg w5 hbox hb; have BK555 := Aside0.mk (hbox); have GW555 := Aside0.mk ((by rw [hg]; exact (below_size HB.out) : w.heap.size ≤ gb555)); have GE555 := GW555; replace HB := Aside0.mk (below_step HB.out hb); clear hb hbox hg) | ((with_reducible refine gate_dst (N := 3) rfl ?_); refine box_event ?hg (N := 3) ?hd (cs := #[.int .i64 a1_0, .int .i64 a1_1, .int .i64 a1_2]) (t := 23) ?hr ?_; (case hd => rfl); (case hg => rfl); (case hr => go_simp <;> rfl); intro gb556 hg w6 hbox hb; have BK556 := Aside0.mk (hbox); have GW556 := Aside0.mk ((by rw [hg]; exact (below_size HB.out) : w.heap.size ≤ gb556)); have GE556 := GW556; have NB555_556 := Aside0.mk ((by rw [hg]; exact Nat.ne_of_lt (blk_lt BK555.out) : gb555 ≠ gb556)); have NB556_555 := Aside0.mk ((by rw [hg]; exact Nat.ne_of_gt (blk_lt BK555.out) : gb556 ≠ gb555)); replace BK555 := Aside0.mk (blk_below BK555.out hb); replace HB := Aside0.mk (below_step HB.out hb); clear hb hbox hg; have hnb7 := NB555_556.out; have hnc7 := NB556_555.out; have hcz8_0 : w6.cell? ⟨gb555, 0, none⟩ = some (.int .i64 a0_0) := (blk_cell BK555.out 0).trans rfl; have hcz8_1 : w6.cell? ⟨gb555, 1, none⟩ = some (.int .i64 a0_1) := (blk_cell BK555.out 1).trans rfl; have hcz8_2 : w6.cell? ⟨gb555, 2, none⟩ = some (.int .i64 a0_2) := (blk_cell BK555.out 2).trans rfl; have hcz8_3 : w6.cell? ⟨gb555, 3, none⟩ = some (.int .i64 a0_3) := (blk_cell BK555.out 3).trans rfl; have hcz8_4 : w6.cell? ⟨gb555, 4, none⟩ = some (.int .i64 a0_4) := (blk_cell BK555.out 4).trans rfl; have hfz8_0 := blk_frozen BK555.out 0; have hfz8_1 := blk_frozen BK555.out 1; have hfz8_2 := blk_frozen BK555.out 2; have hfz8_3 := blk_frozen BK555.out 3; have hfz8_4 := blk_frozen BK555.out 4; have hcz9_0 : w6.cell? ⟨gb556, 0, none⟩ = some (.int .i64 a1_0) := (blk_cell BK556.out 0).trans rfl; have hcz9_1 : w6.cell? ⟨gb556, 1, none⟩ = some (.int .i64 a1_1) := (blk_cell BK556.out 1).trans rfl; have hcz9_2 : w6.cell? ⟨gb556, 2, none⟩ = some (.int .i64 a1_2) := (blk_cell BK556.out 2).trans rfl; have hfz9_0 := blk_frozen BK556.out 0; have hfz9_1 := blk_frozen BK556.out 1; have hfz9_2 := blk_frozen BK556.out 2) | ((with_reducible refine gate_callee (f := 54) rfl ?_); refine goesL_ (some 9) rfl rfl Tryd.func54 (by kernel_rfl) rfl #[.agg #[.int .i64 a0_0, .int .i64 a0_1, .int .i64 a0_2, .int .i64 a0_3, .int .i64 a0_4], .agg #[.int .i64 a1_0, .int .i64 a1_1, .int .i64 a1_2]] rfl (by (try simp only [List.map_toArray, List.map_cons, List.map_nil]); first | done | rfl | (simp only [List.length_drop, List.length_take]; rfl)) ?_; (with_reducible refine (whittleref3_Has.calls a0_0 a0_1 a0_2 a0_3 a0_4 a1_0 a1_1 a1_2 true _ A3.out).mono ?_); rintro e w10 ⟨rfl, hb⟩; refine ⟨_, rfl, ?_⟩; replace BK555 := Aside0.mk (blk_below BK555.out hb); replace BK556 := Aside0.mk (blk_below BK556.out hb); replace HB := Aside0.mk (below_step HB.out hb); (try clear hb); have hcz11_0 : w10.cell? ⟨gb556, 0, none⟩ = some (.int .i64 a1_0) := (blk_cell BK556.out 0).trans rfl; have hcz11_1 : w10.cell? ⟨gb556, 1, none⟩ = some (.int .i64 a1_1) := (blk_cell BK556.out 1).trans rfl; have hcz11_2 : w10.cell? ⟨gb556, 2, none⟩ = some (.int .i64 a1_2) := (blk_cell BK556.out 2).trans rfl; have hfz11_0 := blk_frozen BK556.out 0; have hfz11_1 := blk_frozen BK556.out 1; have hfz11_2 := blk_frozen BK556.out 2; have hcz12_0 : w10.cell? ⟨gb555, 0, none⟩ = some (.int .i64 a0_0) := (blk_cell BK555.out 0).trans rfl; have hcz12_1 : w10.cell? ⟨gb555, 1, none⟩ = some (.int .i64 a0_1) := (blk_cell BK555.out 1).trans rfl; have hcz12_2 : w10.cell? ⟨gb555, 2, none⟩ = some (.int .i64 a0_2) := (blk_cell BK555.out 2).trans rfl; have hcz12_3 : w10.cell? ⟨gb555, 3, none⟩ = some (.int .i64 a0_3) := (blk_cell BK555.out 3).trans rfl; have hcz12_4 : w10.cell? ⟨gb555, 4, none⟩ = some (.int .i64 a0_4) := (blk_cell BK555.out 4).trans rfl; have hfz12_0 := blk_frozen BK555.out 0; have hfz12_1 := blk_frozen BK555.out 1; have hfz12_2 := blk_frozen BK555.out 2; have hfz12_3 := blk_frozen BK555.out 3; have hfz12_4 := blk_frozen BK555.out 4))
    go_ret2
    exact ⟨by first | rfl | (simp [errW_none, errW_some] <;> rfl) | (simp [*, errW_none, errW_some] <;> rfl), by repeat (first | (with_reducible first | exact HB.out | apply below_alloc | apply pw_below_drewN | apply below_drew1 | refine below_set ?_ GE555.out | refine below_set ?_ GE556.out) | exact HB.out)⟩
  · replace c4 := Bool.eq_false_iff.mpr c4
    subst c4
    have H1 : (some (0, false)) = some (r1, r2) := by rw [if_neg (show ¬ (false = true) by decide)] at H; exact H
    clear H
    have H := H1
    clear H1
    simp only [Option.some.injEq, Prod.mk.injEq] at H
    obtain ⟨rfl, rfl⟩ := H
    go_enter Tryd.func52, Tryd.ntmps52
    go_wp2_with (first | ((with_reducible refine gate_dst (N := 2) rfl ?_); refine box_event ?hg (N := 2) ?hd (cs := #[.int .i64 a0_0, .int .i64 a0_1, .int .i64 a0_2, .int .i64 a0_3, .int .i64 a0_4]) (t := 25) ?hr ?_; (case hd => rfl); (case hg => rfl); (case hr => go_simp <;> rfl); intro gb555 hg w13 hbox hb; have BK555 := Aside0.mk (hbox); have GW555 := Aside0.mk ((by rw [hg]; exact (below_size HB.out) : w.heap.size ≤ gb555)); have GE555 := GW555; replace HB := Aside0.mk (below_step HB.out hb); clear hb hbox hg) | ((with_reducible refine gate_dst (N := 3) rfl ?_); refine box_event ?hg (N := 3) ?hd (cs := #[.int .i64 a1_0, .int .i64 a1_1, .int .i64 a1_2]) (t := 23) ?hr ?_; (case hd => rfl); (case hg => rfl); (case hr => go_simp <;> rfl); intro gb556 hg w14 hbox hb; have BK556 := Aside0.mk (hbox); have GW556 := Aside0.mk ((by rw [hg]; exact (below_size HB.out) : w.heap.size ≤ gb556)); have GE556 := GW556; have NB555_556 := Aside0.mk ((by rw [hg]; exact Nat.ne_of_lt (blk_lt BK555.out) : gb555 ≠ gb556)); have NB556_555 := Aside0.mk ((by rw [hg]; exact Nat.ne_of_gt (blk_lt BK555.out) : gb556 ≠ gb555)); replace BK555 := Aside0.mk (blk_below BK555.out hb); replace HB := Aside0.mk (below_step HB.out hb); clear hb hbox hg; have hnb15 := NB555_556.out; have hnc15 := NB556_555.out; have hcz16_0 : w14.cell? ⟨gb555, 0, none⟩ = some (.int .i64 a0_0) := (blk_cell BK555.out 0).trans rfl; have hcz16_1 : w14.cell? ⟨gb555, 1, none⟩ = some (.int .i64 a0_1) := (blk_cell BK555.out 1).trans rfl; have hcz16_2 : w14.cell? ⟨gb555, 2, none⟩ = some (.int .i64 a0_2) := (blk_cell BK555.out 2).trans rfl; have hcz16_3 : w14.cell? ⟨gb555, 3, none⟩ = some (.int .i64 a0_3) := (blk_cell BK555.out 3).trans rfl; have hcz16_4 : w14.cell? ⟨gb555, 4, none⟩ = some (.int .i64 a0_4) := (blk_cell BK555.out 4).trans rfl; have hfz16_0 := blk_frozen BK555.out 0; have hfz16_1 := blk_frozen BK555.out 1; have hfz16_2 := blk_frozen BK555.out 2; have hfz16_3 := blk_frozen BK555.out 3; have hfz16_4 := blk_frozen BK555.out 4; have hcz17_0 : w14.cell? ⟨gb556, 0, none⟩ = some (.int .i64 a1_0) := (blk_cell BK556.out 0).trans rfl; have hcz17_1 : w14.cell? ⟨gb556, 1, none⟩ = some (.int .i64 a1_1) := (blk_cell BK556.out 1).trans rfl; have hcz17_2 : w14.cell? ⟨gb556, 2, none⟩ = some (.int .i64 a1_2) := (blk_cell BK556.out 2).trans rfl; have hfz17_0 := blk_frozen BK556.out 0; have hfz17_1 := blk_frozen BK556.out 1; have hfz17_2 := blk_frozen BK556.out 2) | ((with_reducible refine gate_callee (f := 54) rfl ?_); refine goesL_ (some 9) rfl rfl Tryd.func54 (by kernel_rfl) rfl #[.agg #[.int .i64 a0_0, .int .i64 a0_1, .int .i64 a0_2, .int .i64 a0_3, .int .i64 a0_4], .agg #[.int .i64 a1_0, .int .i64 a1_1, .int .i64 a1_2]] rfl (by (try simp only [List.map_toArray, List.map_cons, List.map_nil]); first | done | rfl | (simp only [List.length_drop, List.length_take]; rfl)) ?_; (with_reducible refine (whittleref3_Has.calls a0_0 a0_1 a0_2 a0_3 a0_4 a1_0 a1_1 a1_2 false _ A3.out).mono ?_); rintro e w18 ⟨rfl, hb⟩; refine ⟨_, rfl, ?_⟩; replace BK555 := Aside0.mk (blk_below BK555.out hb); replace BK556 := Aside0.mk (blk_below BK556.out hb); replace HB := Aside0.mk (below_step HB.out hb); (try clear hb)))
    go_ret2
    exact ⟨by first | rfl | (simp [errW_none, errW_some] <;> rfl) | (simp [*, errW_none, errW_some] <;> rfl), by repeat (first | (with_reducible first | exact HB.out | apply below_alloc | apply pw_below_drewN | apply below_drew1 | refine below_set ?_ GE555.out | refine below_set ?_ GE556.out) | exact HB.out)⟩

end Go.Proofs.YtijmipnafhljkaaDoor.P
