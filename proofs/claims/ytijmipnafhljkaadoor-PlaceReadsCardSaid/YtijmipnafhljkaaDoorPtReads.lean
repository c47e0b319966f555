-- Written by a program of this session (it drives the kit's print.py, with the contracts of some functions given by hand). Not trusted: Lean checks it.
import Derived.Test.YtijmipnafhljkaaDoorPx0
import Derived.Test.YtijmipnafhljkaaDoorPx40
import Derived.Test.YtijmipnafhljkaaDoorPx85
import Derived.Test.YtijmipnafhljkaaDoorPtRAG
import Derived.Test.YtijmipnafhljkaaDoorPx96
import Derived.Test.YtijmipnafhljkaaDoorGiven
import Derived.Test.YtijmipnafhljkaaDoorGivenG
namespace Go.Proofs.YtijmipnafhljkaaDoor.P
open Go.RowKit Go.Proofs.YtijmipnafhljkaaDoorW.PrintWords Go.Proofs.YtijmipnafhljkaaDoorW.PrintLast Go.Proofs.YtijmipnafhljkaaDoorW.PrintMore
attribute [local go_sem] max2_int min2_int max_two min_two max_three min_three max_four min_four   -- for this text's walks alone
set_option linter.unusedVariables false
set_option linter.unusedSimpArgs false

/-! ### whittlelaw3_PlaceReads_g: function 14 -/
def whittlelaw3_PlaceReads_g.f (k : Nat) (a0 : ByteArray) : Option (Bool) := (place_Read_g.f a0).bind fun bt184 => ((whittleref3_Read.f k a0).bind fun bt187 => ((place_ReadArea_g.f a0).bind fun bt190 => ((whittleref3_ReadArea.f k a0).bind fun bt195 => ((whittlelaw3_able.f).bind fun t200 => (if t200 = true then (if bt184.1 = bt187.1 then (if bt184.2.1 = bt187.2.1 then (if (bt184.2.2 == bt187.2.2) = true then (if bt190.1 = bt195.1 then (if bt190.2.1 = bt195.2.1 then (if bt190.2.2.1 = bt195.2.2.1 then (if bt190.2.2.2.1 = bt195.2.2.2.1 then (some (bt190.2.2.2.2 == bt195.2.2.2.2)) else (some false)) else (some false)) else (some false)) else (some false)) else (some false)) else (some false)) else (some false)) else (some false))))))
theorem whittlelaw3_PlaceReads_g.mono : ∀ a0 k, LeO (whittlelaw3_PlaceReads_g.f k a0) (whittlelaw3_PlaceReads_g.f (k + 1) a0) := by
  intro a0 k
  unfold whittlelaw3_PlaceReads_g.f
  repeat' first
      | (with_reducible exact whittleref3_Read.mono _ _)
      | (with_reducible exact whittleref3_ReadArea.mono _ _)
      | (with_reducible exact LeO.refl _)
      | (with_reducible exact LeO.none _)
      | (with_reducible refine LeO.ite ?_ ?_)
      | (with_reducible refine LeO.bind ?_ (fun _ => ?_))
      | exact whittleref3_Read.mono _ _
      | exact whittleref3_ReadArea.mono _ _
      | exact LeO.none _
      | refine LeO.ite ?_ ?_
      | refine LeO.bind ?_ (fun _ => ?_)
set_option maxHeartbeats 8000000 in
set_option maxRecDepth 100000 in
theorem whittlelaw3_PlaceReads_g.calls (k : Nat) (a0 : ByteArray) (r : Bool) (w : World) (hG : GL w) (hr_ : Aside0 (r = true)) (h : whittlelaw3_PlaceReads_g.f k a0 = some r) :
    Calls Tryd.prog 14 #[.string a0] w fun e w' => e = .returned (.bool r) ∧ Below w.heap.size w w' := by
  have HB := Aside0.mk (Below.refl w.heap.size w)
  have H : ((place_Read_g.f a0).bind fun bt184 => ((whittleref3_Read.f k a0).bind fun bt187 => ((place_ReadArea_g.f a0).bind fun bt190 => ((whittleref3_ReadArea.f k a0).bind fun bt195 => ((whittlelaw3_able.f).bind fun t200 => (if t200 = true then (if bt184.1 = bt187.1 then (if bt184.2.1 = bt187.2.1 then (if (bt184.2.2 == bt187.2.2) = true then (if bt190.1 = bt195.1 then (if bt190.2.1 = bt195.2.1 then (if bt190.2.2.1 = bt195.2.2.1 then (if bt190.2.2.2.1 = bt195.2.2.2.1 then (some (bt190.2.2.2.2 == bt195.2.2.2.2)) else (some false)) else (some false)) else (some false)) else (some false)) else (some false)) else (some false)) else (some false)) else (some false))))))) = some r := h
  clear h
  replace H := Option.bind_eq_some_iff.mp H
  obtain ⟨⟨t184, t185, t186⟩, A20, H⟩ := H
  replace H : ((whittleref3_Read.f k a0).bind fun bt187 => ((place_ReadArea_g.f a0).bind fun bt190 => ((whittleref3_ReadArea.f k a0).bind fun bt195 => ((whittlelaw3_able.f).bind fun t200 => (if t200 = true then (if t184 = bt187.1 then (if t185 = bt187.2.1 then (if (t186 == bt187.2.2) = true then (if bt190.1 = bt195.1 then (if bt190.2.1 = bt195.2.1 then (if bt190.2.2.1 = bt195.2.2.1 then (if bt190.2.2.2.1 = bt195.2.2.2.1 then (some (bt190.2.2.2.2 == bt195.2.2.2.2)) else (some false)) else (some false)) else (some false)) else (some false)) else (some false)) else (some false)) else (some false)) else (some false)))))) = some r := H
  have A2 := Aside0.mk A20
  clear A20
  replace H := Option.bind_eq_some_iff.mp H
  obtain ⟨⟨t187, t188, t189⟩, A30, H⟩ := H
  replace H : ((place_ReadArea_g.f a0).bind fun bt190 => ((whittleref3_ReadArea.f k a0).bind fun bt195 => ((whittlelaw3_able.f).bind fun t200 => (if t200 = true then (if t184 = t187 then (if t185 = t188 then (if (t186 == t189) = true then (if bt190.1 = bt195.1 then (if bt190.2.1 = bt195.2.1 then (if bt190.2.2.1 = bt195.2.2.1 then (if bt190.2.2.2.1 = bt195.2.2.2.1 then (some (bt190.2.2.2.2 == bt195.2.2.2.2)) else (some false)) else (some false)) else (some false)) else (some false)) else (some false)) else (some false)) else (some false)) else (some false))))) = some r := H
  have A3 := Aside0.mk A30
  clear A30
  replace H := Option.bind_eq_some_iff.mp H
  obtain ⟨⟨t190, t191, t192, t193, t194⟩, A40, H⟩ := H
  replace H : ((whittleref3_ReadArea.f k a0).bind fun bt195 => ((whittlelaw3_able.f).bind fun t200 => (if t200 = true then (if t184 = t187 then (if t185 = t188 then (if (t186 == t189) = true then (if t190 = bt195.1 then (if t191 = bt195.2.1 then (if t192 = bt195.2.2.1 then (if t193 = bt195.2.2.2.1 then (some (t194 == bt195.2.2.2.2)) else (some false)) else (some false)) else (some false)) else (some false)) else (some false)) else (some false)) else (some false)) else (some false)))) = some r := H
  have A4 := Aside0.mk A40
  clear A40
  replace H := Option.bind_eq_some_iff.mp H
  obtain ⟨⟨t195, t196, t197, t198, t199⟩, A50, H⟩ := H
  replace H : ((whittlelaw3_able.f).bind fun t200 => (if t200 = true then (if t184 = t187 then (if t185 = t188 then (if (t186 == t189) = true then (if t190 = t195 then (if t191 = t196 then (if t192 = t197 then (if t193 = t198 then (some (t194 == t199)) else (some false)) else (some false)) else (some false)) else (some false)) else (some false)) else (some false)) else (some false)) else (some false))) = some r := H
  have A5 := Aside0.mk A50
  clear A50
  replace H := Option.bind_eq_some_iff.mp H
  obtain ⟨t200, A60, H⟩ := H
  replace H : (if t200 = true then (if t184 = t187 then (if t185 = t188 then (if (t186 == t189) = true then (if t190 = t195 then (if t191 = t196 then (if t192 = t197 then (if t193 = t198 then (some (t194 == t199)) else (some false)) else (some false)) else (some false)) else (some false)) else (some false)) else (some false)) else (some false)) else (some false)) = some r := H
  have A6 := Aside0.mk A60
  clear A60
  by_cases c7 : t200 = true
  · subst c7
    have H1 : (if t184 = t187 then (if t185 = t188 then (if (t186 == t189) = true then (if t190 = t195 then (if t191 = t196 then (if t192 = t197 then (if t193 = t198 then (some (t194 == t199)) else (some false)) else (some false)) else (some false)) else (some false)) else (some false)) else (some false)) else (some false)) = some r := by rw [if_pos rfl] at H; exact H
    clear H
    have H := H1
    clear H1
    by_cases c8 : t184 = t187
    · rw [if_pos c8] at H
      have c8b0 : (t184 == t187) = true := beq_iff_eq.mpr c8
      have c8b1 : (t184 != t187) = false := bne_eq_false_iff_eq.mpr c8
      clear c8
      by_cases c9 : t185 = t188
      · rw [if_pos c9] at H
        have c9b0 : (t185 == t188) = true := beq_iff_eq.mpr c9
        have c9b1 : (t185 != t188) = false := bne_eq_false_iff_eq.mpr c9
        clear c9
        by_cases c10 : (t186 == t189) = true
        · rw [if_pos c10] at H
          have c10b0 : (t186 == t189) = true := c10
          (try (have c10b1 : decide (t186 = t189) = true := by simpa using c10))
          (try (have c10b2 : (t186 == t189) = true := by simpa using c10))
          clear c10
          by_cases c11 : t190 = t195
          · rw [if_pos c11] at H
            have c11b0 : (t190 == t195) = true := beq_iff_eq.mpr c11
            have c11b1 : (t190 != t195) = false := bne_eq_false_iff_eq.mpr c11
            clear c11
            by_cases c12 : t191 = t196
            · rw [if_pos c12] at H
              have c12b0 : (t191 == t196) = true := beq_iff_eq.mpr c12
              have c12b1 : (t191 != t196) = false := bne_eq_false_iff_eq.mpr c12
              clear c12
              by_cases c13 : t192 = t197
              · rw [if_pos c13] at H
                have c13b0 : (t192 == t197) = true := beq_iff_eq.mpr c13
                have c13b1 : (t192 != t197) = false := bne_eq_false_iff_eq.mpr c13
                clear c13
                by_cases c14 : t193 = t198
                · rw [if_pos c14] at H
                  have c14b0 : (t193 == t198) = true := beq_iff_eq.mpr c14
                  have c14b1 : (t193 != t198) = false := bne_eq_false_iff_eq.mpr c14
                  clear c14
                  obtain rfl := Option.some.inj H
                  go_enter Tryd.func14, Tryd.ntmps14
                  go_wp2_with (first | ((with_reducible refine gate_callee (f := 55) rfl ?_); refine goesL_ (some 21) rfl rfl Tryd.func55 (by kernel_rfl) rfl #[.string a0] rfl (by (try simp only [List.map_toArray, List.map_cons, List.map_nil]); first | done | rfl | (simp only [List.length_drop, List.length_take]; rfl)) ?_; (with_reducible refine (place_Read_g.calls a0 t184 t185 t186 _ ?side1 A2.out).mono ?_); (case side1 => exact GL.below hG (by repeat (first | (with_reducible first | exact HB.out | apply below_alloc | apply pw_below_drewN | apply below_drew1) | exact HB.out))); rintro e w15 ⟨rfl, hb⟩; refine ⟨_, rfl, ?_⟩; have n0_ := Aside0.mk (below_step (by repeat (first | (with_reducible first | exact HB.out | apply below_alloc | apply pw_below_drewN | apply below_drew1) | exact HB.out)) hb); clear HB; have HB := n0_; clear n0_; (try clear hb); (try clear hb2); (try clear hk); (try clear hi)) | ((with_reducible refine gate_callee (f := 56) rfl ?_); refine goesL_ (some 27) rfl rfl Tryd.func56 (by kernel_rfl) rfl #[.string a0] rfl (by (try simp only [List.map_toArray, List.map_cons, List.map_nil]); first | done | rfl | (simp only [List.length_drop, List.length_take]; rfl)) ?_; (with_reducible refine (whittleref3_Read.calls k a0 t187 t188 t189 _ A3.out).mono ?_); rintro e w' ⟨rfl, ⟨nd, rfl⟩⟩; refine ⟨_, rfl, ?_⟩) | ((with_reducible refine gate_callee (f := 57) rfl ?_); refine goesL_ (some 33) rfl rfl Tryd.func57 (by kernel_rfl) rfl #[.string a0] rfl (by (try simp only [List.map_toArray, List.map_cons, List.map_nil]); first | done | rfl | (simp only [List.length_drop, List.length_take]; rfl)) ?_; (with_reducible refine (place_ReadArea_g.calls a0 t190 t191 t192 t193 t194 _ ?side1 A4.out).mono ?_); (case side1 => exact GL.below hG (by repeat (first | (with_reducible first | exact HB.out | apply below_alloc | apply pw_below_drewN | apply below_drew1) | exact HB.out))); rintro e w16 ⟨rfl, hb⟩; refine ⟨_, rfl, ?_⟩; have n0_ := Aside0.mk (below_step (by repeat (first | (with_reducible first | exact HB.out | apply below_alloc | apply pw_below_drewN | apply below_drew1) | exact HB.out)) hb); clear HB; have HB := n0_; clear n0_; (try clear hb); (try clear hb2); (try clear hk); (try clear hi)) | ((with_reducible refine gate_callee (f := 58) rfl ?_); refine goesL_ (some 41) rfl rfl Tryd.func58 (by kernel_rfl) rfl #[.string a0] rfl (by (try simp only [List.map_toArray, List.map_cons, List.map_nil]); first | done | rfl | (simp only [List.length_drop, List.length_take]; rfl)) ?_; (with_reducible refine (whittleref3_ReadArea.calls k a0 t195 t196 t197 t198 t199 _ A5.out).mono ?_); rintro e w17 ⟨rfl, hb⟩; refine ⟨_, rfl, ?_⟩; have n0_ := Aside0.mk (below_step (by repeat (first | (with_reducible first | exact HB.out | apply below_alloc | apply pw_below_drewN | apply below_drew1) | exact HB.out)) hb); clear HB; have HB := n0_; clear n0_; (try clear hb); (try clear hb2); (try clear hk); (try clear hi)) | ((with_reducible refine gate_callee (f := 16) rfl ?_); refine goesL_ (some 47) rfl rfl Tryd.func16 (by kernel_rfl) rfl #[] rfl (by (try simp only [List.map_toArray, List.map_cons, List.map_nil]); first | done | rfl | (simp only [List.length_drop, List.length_take]; rfl)) ?_; (with_reducible refine (whittlelaw3_able.calls  true _ A6.out).mono ?_); rintro e w18 ⟨rfl, hb⟩; refine ⟨_, rfl, ?_⟩; have n0_ := Aside0.mk (below_step (by repeat (first | (with_reducible first | exact HB.out | apply below_alloc | apply pw_below_drewN | apply below_drew1) | exact HB.out)) hb); clear HB; have HB := n0_; clear n0_; (try clear hb); (try clear hb2); (try clear hk); (try clear hi)))
                  go_ret
                  exact ⟨by first | rfl | (simp [errW_none, errW_some] <;> rfl) | (simp [*, errW_none, errW_some] <;> rfl), by repeat (first | (with_reducible first | exact HB.out | apply below_alloc | apply pw_below_drewN | apply below_drew1) | exact HB.out)⟩
                · rw [if_neg c14] at H
                  have c14b0 : (t193 == t198) = false := beq_eq_false_iff_ne.mpr c14
                  have c14b1 : (t193 != t198) = true := bne_iff_ne.mpr c14
                  exact Bool.noConfusion ((Option.some.inj H).trans hr_.out)
              · rw [if_neg c13] at H
                have c13b0 : (t192 == t197) = false := beq_eq_false_iff_ne.mpr c13
                have c13b1 : (t192 != t197) = true := bne_iff_ne.mpr c13
                exact Bool.noConfusion ((Option.some.inj H).trans hr_.out)
            · rw [if_neg c12] at H
              have c12b0 : (t191 == t196) = false := beq_eq_false_iff_ne.mpr c12
              have c12b1 : (t191 != t196) = true := bne_iff_ne.mpr c12
              exact Bool.noConfusion ((Option.some.inj H).trans hr_.out)
          · rw [if_neg c11] at H
            have c11b0 : (t190 == t195) = false := beq_eq_false_iff_ne.mpr c11
            have c11b1 : (t190 != t195) = true := bne_iff_ne.mpr c11
            exact Bool.noConfusion ((Option.some.inj H).trans hr_.out)
        · rw [if_neg c10] at H
          have c10b0 : (t186 == t189) = false := by simpa using c10
          (try (have c10b1 : decide (t186 = t189) = false := by simpa using c10))
          (try (have c10b2 : (t186 == t189) = false := by simpa using c10))
          (try (have c10b3 : ¬ (t186 = t189) := by simpa using c10))
          clear c10
          exact Bool.noConfusion ((Option.some.inj H).trans hr_.out)
      · rw [if_neg c9] at H
        have c9b0 : (t185 == t188) = false := beq_eq_false_iff_ne.mpr c9
        have c9b1 : (t185 != t188) = true := bne_iff_ne.mpr c9
        exact Bool.noConfusion ((Option.some.inj H).trans hr_.out)
    · rw [if_neg c8] at H
      have c8b0 : (t184 == t187) = false := beq_eq_false_iff_ne.mpr c8
      have c8b1 : (t184 != t187) = true := bne_iff_ne.mpr c8
      exact Bool.noConfusion ((Option.some.inj H).trans hr_.out)
  · replace c7 := Bool.eq_false_iff.mpr c7
    subst c7
    have H1 : (some false) = some r := by rw [if_neg (show ¬ (false = true) by decide)] at H; exact H
    clear H
    have H := H1
    clear H1
    exact Bool.noConfusion ((Option.some.inj H).trans hr_.out)

end Go.Proofs.YtijmipnafhljkaaDoor.P
