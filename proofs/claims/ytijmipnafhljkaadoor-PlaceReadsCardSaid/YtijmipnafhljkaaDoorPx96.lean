-- Written by a program of this session (it drives the kit's print.py, with the contracts of some functions given by hand). Not trusted: Lean checks it.
import Derived.Test.YtijmipnafhljkaaDoorPx0
import Derived.Test.YtijmipnafhljkaaDoorPx85
namespace Go.Proofs.YtijmipnafhljkaaDoor.P
open Go.RowKit Go.Proofs.YtijmipnafhljkaaDoorW.PrintWords Go.Proofs.YtijmipnafhljkaaDoorW.PrintLast Go.Proofs.YtijmipnafhljkaaDoorW.PrintMore
attribute [local go_sem] max2_int min2_int max_two min_two max_three min_three max_four min_four   -- for this text's walks alone
set_option linter.unusedVariables false
set_option linter.unusedSimpArgs false

/-! ### whittleref3_ReadArea: function 58 -/
def whittleref3_ReadArea.l0 : Nat → ByteArray → Int → Option (Int × Int × Int × Int × Bool)
  | 0, _, _ => none
  | k + 1, x0, x7 => if x7 < (x0.size : Int) then (if 0 ≤ x7 then (if (bt x0 x7) = 58 then (if x7 ≤ (x0.size : Int) then ((whittleref3_Read.f k (x0.extract 0 (x7 : Int).toNat)).bind fun bt610 => (if 0 ≤ (wrap64 (x7 + 1)) then (if (wrap64 (x7 + 1)) ≤ (x0.size : Int) then ((whittleref3_Read.f k (x0.extract ((wrap64 (x7 + 1)) : Int).toNat x0.size)).bind fun bt613 => (if bt610.2.2 = true then (if bt613.2.2 = true then (some (mn bt610.1 bt613.1, mn bt610.2.1 bt613.2.1, mx bt610.1 bt613.1, mx bt610.2.1 bt613.2.1, true)) else (some (0, 0, 0, 0, false))) else (some (0, 0, 0, 0, false)))) else (none)) else (none))) else (none)) else (whittleref3_ReadArea.l0 k x0 (wrap64 (x7 + 1)))) else (none)) else (some (0, 0, 0, 0, false))
def whittleref3_ReadArea.f (k : Nat) (a0 : ByteArray) : Option (Int × Int × Int × Int × Bool) := whittleref3_ReadArea.l0 k a0 0
theorem whittleref3_ReadArea.mono_l : ∀ k, (∀ y0 y1, LeO (whittleref3_ReadArea.l0 k y0 y1) (whittleref3_ReadArea.l0 (k + 1) y0 y1))
  | 0 => fun _ _ r h => by simp [whittleref3_ReadArea.l0] at h
  | k + 1 => by
    have ih0 := whittleref3_ReadArea.mono_l k
    · intro y0 y1
      unfold whittleref3_ReadArea.l0
      repeat' first
      | (with_reducible exact ih0 _ _)
      | (with_reducible exact whittleref3_Read.mono _ _)
      | (with_reducible exact LeO.refl _)
      | (with_reducible exact LeO.none _)
      | (with_reducible refine LeO.ite ?_ ?_)
      | (with_reducible refine LeO.bind ?_ (fun _ => ?_))
      | exact ih0 _ _
      | exact whittleref3_Read.mono _ _
      | exact LeO.none _
      | refine LeO.ite ?_ ?_
      | refine LeO.bind ?_ (fun _ => ?_)
theorem whittleref3_ReadArea.mono : ∀ a0 k, LeO (whittleref3_ReadArea.f k a0) (whittleref3_ReadArea.f (k + 1) a0) := by
  intro a0 k
  have ih0 := whittleref3_ReadArea.mono_l k
  unfold whittleref3_ReadArea.f
  repeat' first
      | (with_reducible exact ih0 _ _)
      | (with_reducible exact whittleref3_Read.mono _ _)
      | (with_reducible exact LeO.refl _)
      | (with_reducible exact LeO.none _)
      | (with_reducible refine LeO.ite ?_ ?_)
      | (with_reducible refine LeO.bind ?_ (fun _ => ?_))
      | exact ih0 _ _
      | exact whittleref3_Read.mono _ _
      | exact LeO.none _
      | refine LeO.ite ?_ ?_
      | refine LeO.bind ?_ (fun _ => ?_)
set_option maxHeartbeats 8000000 in
set_option maxRecDepth 100000 in
theorem whittleref3_ReadArea.calls (k : Nat) (a0 : ByteArray) (r1 : Int) (r2 : Int) (r3 : Int) (r4 : Int) (r5 : Bool) (w : World) (h : whittleref3_ReadArea.f k a0 = some (r1, r2, r3, r4, r5)) :
    Calls Tryd.prog 58 #[.string a0] w fun e w' => e = .returned (.tuple #[.int .i64 r1, .int .i64 r2, .int .i64 r3, .int .i64 r4, .bool r5]) ∧ Below w.heap.size w w' := by
  have HB := Aside0.mk (Below.refl w.heap.size w)
  have H : (whittleref3_ReadArea.l0 k a0 0) = some (r1, r2, r3, r4, r5) := h
  clear h
  have H' := Aside0.mk H
  clear H
  go_enter Tryd.func58, Tryd.ntmps58
  go_wp2
  go_loopg [7] k (fun kq v7 w' => ∃ (x7_1 : Int), v7 = .int .i64 x7_1 ∧ Aside0 (whittleref3_ReadArea.l0 kq a0 x7_1 = some (r1, r2, r3, r4, r5)) ∧ Aside0 (kq ≤ k) ∧ Aside0 (Below w.heap.size w w'))
  case atStart => exact ⟨(0), (by first | rfl | (simp; done) | (simp [*]; done)), H', ⟨Nat.le_refl _⟩, ⟨by repeat (first | (with_reducible first | exact HB.out | apply below_alloc | apply pw_below_drewN | apply below_drew1) | exact HB.out)⟩⟩
  case round =>
    clear H'
    obtain ⟨x7_1, rfl, HA, HK1, HB⟩ := hrel
    cases gk with
    | zero => exact absurd HA.out (by simp [whittleref3_ReadArea.l0])
    | succ k1 =>
      have H := HA.out
      clear HA
      simp only [whittleref3_ReadArea.l0] at H
      by_cases c2 : x7_1 < (a0.size : Int)
      · rw [if_pos c2] at H
        have c2b0 : decide (x7_1 < (a0.size : Int)) = true := decide_eq_true c2
        clear c2
        by_cases c3 : 0 ≤ x7_1
        · rw [if_pos c3] at H
          have c3b0 : decide (0 ≤ x7_1) = true := decide_eq_true c3
          clear c3
          by_cases c5 : (bt a0 x7_1) = 58
          · rw [if_pos c5] at H
            have c5b0 : ((bt a0 x7_1) == 58) = true := beq_iff_eq.mpr c5
            have c5b1 : ((bt a0 x7_1) != 58) = false := bne_eq_false_iff_eq.mpr c5
            clear c5
            have c6b0 := eq_true (of_decide_eq_true (by first | (with_reducible assumption) | assumption) : 0 ≤ x7_1)
            by_cases c7 : x7_1 ≤ (a0.size : Int)
            · rw [if_pos c7] at H
              have c7b0 := eq_true c7
              have c7b1 : decide (x7_1 ≤ (a0.size : Int)) = true := decide_eq_true c7
              clear c7
              replace H := Option.bind_eq_some_iff.mp H
              obtain ⟨⟨t610, t611, t612⟩, A80, H⟩ := H
              replace H : (if 0 ≤ (wrap64 (x7_1 + 1)) then (if (wrap64 (x7_1 + 1)) ≤ (a0.size : Int) then ((whittleref3_Read.f k1 (a0.extract ((wrap64 (x7_1 + 1)) : Int).toNat a0.size)).bind fun bt613 => (if t612 = true then (if bt613.2.2 = true then (some (mn t610 bt613.1, mn t611 bt613.2.1, mx t610 bt613.1, mx t611 bt613.2.1, true)) else (some (0, 0, 0, 0, false))) else (some (0, 0, 0, 0, false)))) else (none)) else (none)) = some (r1, r2, r3, r4, r5) := H
              have A8 := Aside0.mk A80
              clear A80
              obtain ⟨ji9, hji9⟩ : ∃ j_ : Int, (wrap64 (x7_1 + 1)) = j_ := ⟨_, rfl⟩
              replace H : (if 0 ≤ (ji9) then (if (ji9) ≤ (a0.size : Int) then ((whittleref3_Read.f k1 (a0.extract ((ji9) : Int).toNat a0.size)).bind fun bt613 => (if t612 = true then (if bt613.2.2 = true then (some (mn t610 bt613.1, mn t611 bt613.2.1, mx t610 bt613.1, mx t611 bt613.2.1, true)) else (some (0, 0, 0, 0, false))) else (some (0, 0, 0, 0, false)))) else (none)) else (none)) = some (r1, r2, r3, r4, r5) := by first | (rw [hji9] at H; exact H) | (simp only [hji9] at H ⊢; exact H)
              (try rw [hji9] at A8)
              have hji9w : (IntKind.i64.wrap (x7_1 + 1)) = ji9 := (i64_w _).trans hji9
              by_cases c10 : 0 ≤ (ji9)
              · rw [if_pos c10] at H
                have c10b0 := eq_true c10
                have c10b1 : decide (0 ≤ (ji9)) = true := decide_eq_true c10
                clear c10
                by_cases c11 : (ji9) ≤ (a0.size : Int)
                · rw [if_pos c11] at H
                  have c11b0 := eq_true c11
                  have c11b1 : decide ((ji9) ≤ (a0.size : Int)) = true := decide_eq_true c11
                  clear c11
                  replace H := Option.bind_eq_some_iff.mp H
                  obtain ⟨⟨t613, t614, t615⟩, A120, H⟩ := H
                  replace H : (if t612 = true then (if t615 = true then (some (mn t610 t613, mn t611 t614, mx t610 t613, mx t611 t614, true)) else (some (0, 0, 0, 0, false))) else (some (0, 0, 0, 0, false))) = some (r1, r2, r3, r4, r5) := H
                  have A12 := Aside0.mk A120
                  clear A120
                  by_cases c13 : t612 = true
                  · subst c13
                    have H1 : (if t615 = true then (some (mn t610 t613, mn t611 t614, mx t610 t613, mx t611 t614, true)) else (some (0, 0, 0, 0, false))) = some (r1, r2, r3, r4, r5) := by rw [if_pos rfl] at H; exact H
                    clear H
                    have H := H1
                    clear H1
                    by_cases c14 : t615 = true
                    · subst c14
                      have H1 : (some (mn t610 t613, mn t611 t614, mx t610 t613, mx t611 t614, true)) = some (r1, r2, r3, r4, r5) := by rw [if_pos rfl] at H; exact H
                      clear H
                      have H := H1
                      clear H1
                      obtain ⟨ji15, hji15⟩ : ∃ j_ : Int, (mn t610 t613) = j_ := ⟨_, rfl⟩
                      replace H : (some (ji15, mn t611 t614, mx t610 t613, mx t611 t614, true)) = some (r1, r2, r3, r4, r5) := by first | (rw [hji15] at H; exact H) | (simp only [hji15] at H ⊢; exact H)
                      (try rw [hji15] at A8)
                      (try rw [hji15] at A12)
                      have hji15_ : (if t613 < t610 then t613 else t610) = ji15 := hji15
                      obtain ⟨ji16, hji16⟩ : ∃ j_ : Int, (mn t611 t614) = j_ := ⟨_, rfl⟩
                      replace H : (some (ji15, ji16, mx t610 t613, mx t611 t614, true)) = some (r1, r2, r3, r4, r5) := by first | (rw [hji16] at H; exact H) | (simp only [hji16] at H ⊢; exact H)
                      (try rw [hji16] at A8)
                      (try rw [hji16] at A12)
                      have hji16_ : (if t614 < t611 then t614 else t611) = ji16 := hji16
                      obtain ⟨ji17, hji17⟩ : ∃ j_ : Int, (mx t610 t613) = j_ := ⟨_, rfl⟩
                      replace H : (some (ji15, ji16, ji17, mx t611 t614, true)) = some (r1, r2, r3, r4, r5) := by first | (rw [hji17] at H; exact H) | (simp only [hji17] at H ⊢; exact H)
                      (try rw [hji17] at A8)
                      (try rw [hji17] at A12)
                      have hji17_ : (if t610 < t613 then t613 else t610) = ji17 := hji17
                      obtain ⟨ji18, hji18⟩ : ∃ j_ : Int, (mx t611 t614) = j_ := ⟨_, rfl⟩
                      replace H : (some (ji15, ji16, ji17, ji18, true)) = some (r1, r2, r3, r4, r5) := by first | (rw [hji18] at H; exact H) | (simp only [hji18] at H ⊢; exact H)
                      (try rw [hji18] at A8)
                      (try rw [hji18] at A12)
                      have hji18_ : (if t611 < t614 then t614 else t611) = ji18 := hji18
                      simp only [Option.some.injEq, Prod.mk.injEq] at H
                      obtain ⟨rfl, rfl, rfl, rfl, rfl⟩ := H
                      have p4 : 0 ≤ (x7_1 : Int) := of_decide_eq_true (by first | (with_reducible assumption) | assumption)
                      have q4 : x7_1 < (a0.size : Int) := of_decide_eq_true (by first | (with_reducible assumption) | assumption)
                      have hx4 := bt_at a0 x7_1
                      replace p4 := eq_true p4
                      replace q4 := eq_true q4
                      go_wp2_with (first | ((with_reducible refine gate_callee (f := 56) rfl ?_); refine goesL_ (some 28) rfl rfl Tryd.func56 (by kernel_rfl) rfl #[.string (a0.extract 0 (x7_1 : Int).toNat)] rfl (by (try simp only [List.map_toArray, List.map_cons, List.map_nil]); first | done | rfl | (simp only [List.length_drop, List.length_take]; rfl)) ?_; (with_reducible refine (whittleref3_Read.calls k1 (a0.extract 0 (x7_1 : Int).toNat) t610 t611 true _ A8.out).mono ?_); rintro e w' ⟨rfl, ⟨nd, rfl⟩⟩; refine ⟨_, rfl, ?_⟩) | ((with_reducible refine gate_callee (f := 56) rfl ?_); refine goesL_ (some 37) rfl rfl Tryd.func56 (by kernel_rfl) rfl #[.string (a0.extract ((ji9) : Int).toNat a0.size)] rfl (by (try simp only [List.map_toArray, List.map_cons, List.map_nil]); first | done | (simp only [hji9]; rfl) | rfl | (simp only [List.length_drop, List.length_take]; rfl)) ?_; (with_reducible refine (whittleref3_Read.calls k1 (a0.extract ((ji9) : Int).toNat a0.size) t613 t614 true _ A12.out).mono ?_); rintro e w' ⟨rfl, ⟨nd, rfl⟩⟩; refine ⟨_, rfl, ?_⟩))
                      refine bodyPost_ret (results_list (rs := [.tmp 2, .tmp 3, .tmp 4, .tmp 5, .tmp 6]) rfl (by simp) (.tmp (.tmp (.tmp (.tmp (.tmp .nil)))))) rfl ?_
                      exact ⟨by first | rfl | (simp [errW_none, errW_some] <;> rfl) | (simp only [← hji9, ← hji15, ← hji16, ← hji17, ← hji18]; first | rfl | (simp [errW_none, errW_some] <;> rfl)) | (simp [*, errW_none, errW_some] <;> rfl), by repeat (first | (with_reducible first | exact HB.out | apply below_alloc | apply pw_below_drewN | apply below_drew1) | exact HB.out)⟩
                    · replace c14 := Bool.eq_false_iff.mpr c14
                      subst c14
                      have H1 : (some (0, 0, 0, 0, false)) = some (r1, r2, r3, r4, r5) := by rw [if_neg (show ¬ (false = true) by decide)] at H; exact H
                      clear H
                      have H := H1
                      clear H1
                      simp only [Option.some.injEq, Prod.mk.injEq] at H
                      obtain ⟨rfl, rfl, rfl, rfl, rfl⟩ := H
                      have p4 : 0 ≤ (x7_1 : Int) := of_decide_eq_true (by first | (with_reducible assumption) | assumption)
                      have q4 : x7_1 < (a0.size : Int) := of_decide_eq_true (by first | (with_reducible assumption) | assumption)
                      have hx4 := bt_at a0 x7_1
                      replace p4 := eq_true p4
                      replace q4 := eq_true q4
                      go_wp2_with (first | ((with_reducible refine gate_callee (f := 56) rfl ?_); refine goesL_ (some 28) rfl rfl Tryd.func56 (by kernel_rfl) rfl #[.string (a0.extract 0 (x7_1 : Int).toNat)] rfl (by (try simp only [List.map_toArray, List.map_cons, List.map_nil]); first | done | rfl | (simp only [List.length_drop, List.length_take]; rfl)) ?_; (with_reducible refine (whittleref3_Read.calls k1 (a0.extract 0 (x7_1 : Int).toNat) t610 t611 true _ A8.out).mono ?_); rintro e w' ⟨rfl, ⟨nd, rfl⟩⟩; refine ⟨_, rfl, ?_⟩) | ((with_reducible refine gate_callee (f := 56) rfl ?_); refine goesL_ (some 37) rfl rfl Tryd.func56 (by kernel_rfl) rfl #[.string (a0.extract ((ji9) : Int).toNat a0.size)] rfl (by (try simp only [List.map_toArray, List.map_cons, List.map_nil]); first | done | (simp only [hji9]; rfl) | rfl | (simp only [List.length_drop, List.length_take]; rfl)) ?_; (with_reducible refine (whittleref3_Read.calls k1 (a0.extract ((ji9) : Int).toNat a0.size) t613 t614 false _ A12.out).mono ?_); rintro e w' ⟨rfl, ⟨nd, rfl⟩⟩; refine ⟨_, rfl, ?_⟩))
                      refine bodyPost_ret (results_list (rs := [.tmp 2, .tmp 3, .tmp 4, .tmp 5, .tmp 6]) rfl (by simp) (.tmp (.tmp (.tmp (.tmp (.tmp .nil)))))) rfl ?_
                      exact ⟨by first | rfl | (simp [errW_none, errW_some] <;> rfl) | (simp only [← hji9]; first | rfl | (simp [errW_none, errW_some] <;> rfl)) | (simp [*, errW_none, errW_some] <;> rfl), by repeat (first | (with_reducible first | exact HB.out | apply below_alloc | apply pw_below_drewN | apply below_drew1) | exact HB.out)⟩
                  · replace c13 := Bool.eq_false_iff.mpr c13
                    subst c13
                    have H1 : (some (0, 0, 0, 0, false)) = some (r1, r2, r3, r4, r5) := by rw [if_neg (show ¬ (false = true) by decide)] at H; exact H
                    clear H
                    have H := H1
                    clear H1
                    simp only [Option.some.injEq, Prod.mk.injEq] at H
                    obtain ⟨rfl, rfl, rfl, rfl, rfl⟩ := H
                    have p4 : 0 ≤ (x7_1 : Int) := of_decide_eq_true (by first | (with_reducible assumption) | assumption)
                    have q4 : x7_1 < (a0.size : Int) := of_decide_eq_true (by first | (with_reducible assumption) | assumption)
                    have hx4 := bt_at a0 x7_1
                    replace p4 := eq_true p4
                    replace q4 := eq_true q4
                    go_wp2_with (first | ((with_reducible refine gate_callee (f := 56) rfl ?_); refine goesL_ (some 28) rfl rfl Tryd.func56 (by kernel_rfl) rfl #[.string (a0.extract 0 (x7_1 : Int).toNat)] rfl (by (try simp only [List.map_toArray, List.map_cons, List.map_nil]); first | done | rfl | (simp only [List.length_drop, List.length_take]; rfl)) ?_; (with_reducible refine (whittleref3_Read.calls k1 (a0.extract 0 (x7_1 : Int).toNat) t610 t611 false _ A8.out).mono ?_); rintro e w' ⟨rfl, ⟨nd, rfl⟩⟩; refine ⟨_, rfl, ?_⟩) | ((with_reducible refine gate_callee (f := 56) rfl ?_); refine goesL_ (some 37) rfl rfl Tryd.func56 (by kernel_rfl) rfl #[.string (a0.extract ((ji9) : Int).toNat a0.size)] rfl (by (try simp only [List.map_toArray, List.map_cons, List.map_nil]); first | done | (simp only [hji9]; rfl) | rfl | (simp only [List.length_drop, List.length_take]; rfl)) ?_; (with_reducible refine (whittleref3_Read.calls k1 (a0.extract ((ji9) : Int).toNat a0.size) t613 t614 t615 _ A12.out).mono ?_); rintro e w' ⟨rfl, ⟨nd, rfl⟩⟩; refine ⟨_, rfl, ?_⟩))
                    refine bodyPost_ret (results_list (rs := [.tmp 2, .tmp 3, .tmp 4, .tmp 5, .tmp 6]) rfl (by simp) (.tmp (.tmp (.tmp (.tmp (.tmp .nil)))))) rfl ?_
                    exact ⟨by first | rfl | (simp [errW_none, errW_some] <;> rfl) | (simp only [← hji9]; first | rfl | (simp [errW_none, errW_some] <;> rfl)) | (simp [*, errW_none, errW_some] <;> rfl), by repeat (first | (with_reducible first | exact HB.out | apply below_alloc | apply pw_below_drewN | apply below_drew1) | exact HB.out)⟩
                · rw [if_neg c11] at H
                  exact absurd H (by simp)
              · rw [if_neg c10] at H
                exact absurd H (by simp)
            · rw [if_neg c7] at H
              exact absurd H (by simp)
          · rw [if_neg c5] at H
            have c5b0 : ((bt a0 x7_1) == 58) = false := beq_eq_false_iff_ne.mpr c5
            have c5b1 : ((bt a0 x7_1) != 58) = true := bne_iff_ne.mpr c5
            have H' := Aside0.mk H
            clear H
            have p4 : 0 ≤ (x7_1 : Int) := of_decide_eq_true (by first | (with_reducible assumption) | assumption)
            have q4 : x7_1 < (a0.size : Int) := of_decide_eq_true (by first | (with_reducible assumption) | assumption)
            have hx4 := bt_at a0 x7_1
            replace p4 := eq_true p4
            replace q4 := eq_true q4
            go_wp2
            go_roundg k1
            case measure => have := HK1.out; omega
            case rel => exact ⟨(wrap64 (x7_1 + 1)), (by first | rfl | (simp; done) | (simp [*]; done)), H', ⟨by have := HK1.out; omega⟩, ⟨by repeat (first | (with_reducible first | exact HB.out | apply below_alloc | apply pw_below_drewN | apply below_drew1) | exact HB.out)⟩⟩
        · rw [if_neg c3] at H
          exact absurd H (by simp)
      · rw [if_neg c2] at H
        have c2b0 : decide (x7_1 < (a0.size : Int)) = false := decide_eq_false c2
        clear c2
        simp only [Option.some.injEq, Prod.mk.injEq] at H
        obtain ⟨rfl, rfl, rfl, rfl, rfl⟩ := H
        go_wp2
        refine bodyPost_ret (results_list (rs := [.tmp 2, .tmp 3, .tmp 4, .tmp 5, .tmp 6]) rfl (by simp) (.tmp (.tmp (.tmp (.tmp (.tmp .nil)))))) rfl ?_
        exact ⟨by first | rfl | (simp [errW_none, errW_some] <;> rfl) | (simp [*, errW_none, errW_some] <;> rfl), by repeat (first | (with_reducible first | exact HB.out | apply below_alloc | apply pw_below_drewN | apply below_drew1) | exact HB.out)⟩

end Go.Proofs.YtijmipnafhljkaaDoor.P
