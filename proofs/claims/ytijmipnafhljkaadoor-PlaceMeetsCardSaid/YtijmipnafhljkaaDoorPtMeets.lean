-- Written by a program of this session (it drives the kit's print.py, with the contracts of some functions given by hand). Not trusted: Lean checks it.
import Derived.Test.YtijmipnafhljkaaDoorPx0
import Derived.Test.YtijmipnafhljkaaDoorPx2
import Derived.Test.YtijmipnafhljkaaDoorPx23
import Derived.Test.YtijmipnafhljkaaDoorPx24
import Derived.Test.YtijmipnafhljkaaDoorPx40
import Derived.Test.YtijmipnafhljkaaDoorPx49
import Derived.Test.YtijmipnafhljkaaDoorPtMeets0
namespace Go.Proofs.YtijmipnafhljkaaDoor.P
open Go.RowKit Go.Proofs.YtijmipnafhljkaaDoorW.PrintWords Go.Proofs.YtijmipnafhljkaaDoorW.PrintLast Go.Proofs.YtijmipnafhljkaaDoorW.PrintMore
attribute [local go_sem] max2_int min2_int max_two min_two max_three min_three max_four min_four   -- for this text's walks alone
set_option linter.unusedVariables false
set_option linter.unusedSimpArgs false

attribute [local go_sem high] eqA25
set_option maxHeartbeats 8000000 in
set_option maxRecDepth 100000 in
theorem whittlelaw3_PlaceMeets.calls (k : Nat) (a0_0 : Int) (a0_1 : Int) (a0_2 : Int) (a0_3 : Int) (a0_4 : Int) (a1_0 : Int) (a1_1 : Int) (a1_2 : Int) (a1_3 : Int) (a1_4 : Int) (a2_0 : Int) (a2_1 : Int) (a2_2 : Int) (a2_3 : Int) (a2_4 : Int) (a3_0 : Int) (a3_1 : Int) (a3_2 : Int) (r : Bool) (w : World) (hr_ : Aside0 (r = true)) (h : whittlelaw3_PlaceMeets.f k a0_0 a0_1 a0_2 a0_3 a0_4 a1_0 a1_1 a1_2 a1_3 a1_4 a2_0 a2_1 a2_2 a2_3 a2_4 a3_0 a3_1 a3_2 = some r) :
    Calls Tryd.prog 4 #[.agg #[.int .i64 a0_0, .int .i64 a0_1, .int .i64 a0_2, .int .i64 a0_3, .int .i64 a0_4], .agg #[.int .i64 a1_0, .int .i64 a1_1, .int .i64 a1_2, .int .i64 a1_3, .int .i64 a1_4], .agg #[.int .i64 a2_0, .int .i64 a2_1, .int .i64 a2_2, .int .i64 a2_3, .int .i64 a2_4], .agg #[.int .i64 a3_0, .int .i64 a3_1, .int .i64 a3_2]] w fun e w' => e = .returned (.bool r) ∧ Below w.heap.size w w' := by
 have hu25 := Tryd.underlying25
 have hu23 := Tryd.underlying23
 have HB := Aside0.mk (Below.refl w.heap.size w)
 have H : ((whittlelaw3_able.f).bind fun t182 => (if t182 = true then ((place_Meet.f a0_0 a0_1 a0_2 a0_3 a0_4 a1_0 a1_1 a1_2 a1_3 a1_4).bind fun bt183 => ((place_Meet.f a1_0 a1_1 a1_2 a1_3 a1_4 a0_0 a0_1 a0_2 a0_3 a0_4).bind fun bt190 => (if (!(bt183.1 == bt190.1) || (!(bt183.2.1 == bt190.2.1) || (!(bt183.2.2.1 == bt190.2.2.1) || (!(bt183.2.2.2.1 == bt190.2.2.2.1) || (!(bt183.2.2.2.2.1 == bt190.2.2.2.2.1)))))) = true then (whittlelaw3_PlaceMeets.j0 k bt183.2.2.2.2.2 true a0_0 a0_1 a0_2 a0_3 a0_4 a1_0 a1_1 a1_2 a1_3 a1_4 a2_0 a2_1 a2_2 a2_3 a2_4 a3_0 a3_1 a3_2 bt183.1 bt183.2.1 bt183.2.2.1 bt183.2.2.2.1 bt183.2.2.2.2.1) else (if (bt183.2.2.2.2.2 != bt190.2.2.2.2.2) = true then (whittlelaw3_PlaceMeets.j0 k bt183.2.2.2.2.2 true a0_0 a0_1 a0_2 a0_3 a0_4 a1_0 a1_1 a1_2 a1_3 a1_4 a2_0 a2_1 a2_2 a2_3 a2_4 a3_0 a3_1 a3_2 bt183.1 bt183.2.1 bt183.2.2.1 bt183.2.2.2.1 bt183.2.2.2.2.1) else ((place_Has.f bt183.1 bt183.2.1 bt183.2.2.1 bt183.2.2.2.1 bt183.2.2.2.2.1 a3_0 a3_1 a3_2).bind fun t197 => (if t197 = true then ((place_Has.f a0_0 a0_1 a0_2 a0_3 a0_4 a3_0 a3_1 a3_2).bind fun t198 => (if t198 = true then ((place_Has.f a1_0 a1_1 a1_2 a1_3 a1_4 a3_0 a3_1 a3_2).bind fun t199 => (whittlelaw3_PlaceMeets.j0 k bt183.2.2.2.2.2 (bt183.2.2.2.2.2 != t199) a0_0 a0_1 a0_2 a0_3 a0_4 a1_0 a1_1 a1_2 a1_3 a1_4 a2_0 a2_1 a2_2 a2_3 a2_4 a3_0 a3_1 a3_2 bt183.1 bt183.2.1 bt183.2.2.1 bt183.2.2.2.1 bt183.2.2.2.2.1)) else (whittlelaw3_PlaceMeets.j0 k bt183.2.2.2.2.2 (bt183.2.2.2.2.2 != false) a0_0 a0_1 a0_2 a0_3 a0_4 a1_0 a1_1 a1_2 a1_3 a1_4 a2_0 a2_1 a2_2 a2_3 a2_4 a3_0 a3_1 a3_2 bt183.1 bt183.2.1 bt183.2.2.1 bt183.2.2.2.1 bt183.2.2.2.2.1))) else (whittlelaw3_PlaceMeets.j0 k bt183.2.2.2.2.2 false a0_0 a0_1 a0_2 a0_3 a0_4 a1_0 a1_1 a1_2 a1_3 a1_4 a2_0 a2_1 a2_2 a2_3 a2_4 a3_0 a3_1 a3_2 bt183.1 bt183.2.1 bt183.2.2.1 bt183.2.2.2.1 bt183.2.2.2.2.1))))))) else (some false))) = some r := h
 clear h
 replace H := Option.bind_eq_some_iff.mp H
 obtain ⟨t182, A50, H⟩ := H
 replace H : (if t182 = true then ((place_Meet.f a0_0 a0_1 a0_2 a0_3 a0_4 a1_0 a1_1 a1_2 a1_3 a1_4).bind fun bt183 => ((place_Meet.f a1_0 a1_1 a1_2 a1_3 a1_4 a0_0 a0_1 a0_2 a0_3 a0_4).bind fun bt190 => (if (!(bt183.1 == bt190.1) || (!(bt183.2.1 == bt190.2.1) || (!(bt183.2.2.1 == bt190.2.2.1) || (!(bt183.2.2.2.1 == bt190.2.2.2.1) || (!(bt183.2.2.2.2.1 == bt190.2.2.2.2.1)))))) = true then (whittlelaw3_PlaceMeets.j0 k bt183.2.2.2.2.2 true a0_0 a0_1 a0_2 a0_3 a0_4 a1_0 a1_1 a1_2 a1_3 a1_4 a2_0 a2_1 a2_2 a2_3 a2_4 a3_0 a3_1 a3_2 bt183.1 bt183.2.1 bt183.2.2.1 bt183.2.2.2.1 bt183.2.2.2.2.1) else (if (bt183.2.2.2.2.2 != bt190.2.2.2.2.2) = true then (whittlelaw3_PlaceMeets.j0 k bt183.2.2.2.2.2 true a0_0 a0_1 a0_2 a0_3 a0_4 a1_0 a1_1 a1_2 a1_3 a1_4 a2_0 a2_1 a2_2 a2_3 a2_4 a3_0 a3_1 a3_2 bt183.1 bt183.2.1 bt183.2.2.1 bt183.2.2.2.1 bt183.2.2.2.2.1) else ((place_Has.f bt183.1 bt183.2.1 bt183.2.2.1 bt183.2.2.2.1 bt183.2.2.2.2.1 a3_0 a3_1 a3_2).bind fun t197 => (if t197 = true then ((place_Has.f a0_0 a0_1 a0_2 a0_3 a0_4 a3_0 a3_1 a3_2).bind fun t198 => (if t198 = true then ((place_Has.f a1_0 a1_1 a1_2 a1_3 a1_4 a3_0 a3_1 a3_2).bind fun t199 => (whittlelaw3_PlaceMeets.j0 k bt183.2.2.2.2.2 (bt183.2.2.2.2.2 != t199) a0_0 a0_1 a0_2 a0_3 a0_4 a1_0 a1_1 a1_2 a1_3 a1_4 a2_0 a2_1 a2_2 a2_3 a2_4 a3_0 a3_1 a3_2 bt183.1 bt183.2.1 bt183.2.2.1 bt183.2.2.2.1 bt183.2.2.2.2.1)) else (whittlelaw3_PlaceMeets.j0 k bt183.2.2.2.2.2 (bt183.2.2.2.2.2 != false) a0_0 a0_1 a0_2 a0_3 a0_4 a1_0 a1_1 a1_2 a1_3 a1_4 a2_0 a2_1 a2_2 a2_3 a2_4 a3_0 a3_1 a3_2 bt183.1 bt183.2.1 bt183.2.2.1 bt183.2.2.2.1 bt183.2.2.2.2.1))) else (whittlelaw3_PlaceMeets.j0 k bt183.2.2.2.2.2 false a0_0 a0_1 a0_2 a0_3 a0_4 a1_0 a1_1 a1_2 a1_3 a1_4 a2_0 a2_1 a2_2 a2_3 a2_4 a3_0 a3_1 a3_2 bt183.1 bt183.2.1 bt183.2.2.1 bt183.2.2.2.1 bt183.2.2.2.2.1))))))) else (some false)) = some r := H
 have A5 := Aside0.mk A50
 clear A50
 by_cases c6 : t182 = true
 ·
  subst c6
  have H1 : ((place_Meet.f a0_0 a0_1 a0_2 a0_3 a0_4 a1_0 a1_1 a1_2 a1_3 a1_4).bind fun bt183 => ((place_Meet.f a1_0 a1_1 a1_2 a1_3 a1_4 a0_0 a0_1 a0_2 a0_3 a0_4).bind fun bt190 => (if (!(bt183.1 == bt190.1) || (!(bt183.2.1 == bt190.2.1) || (!(bt183.2.2.1 == bt190.2.2.1) || (!(bt183.2.2.2.1 == bt190.2.2.2.1) || (!(bt183.2.2.2.2.1 == bt190.2.2.2.2.1)))))) = true then (whittlelaw3_PlaceMeets.j0 k bt183.2.2.2.2.2 true a0_0 a0_1 a0_2 a0_3 a0_4 a1_0 a1_1 a1_2 a1_3 a1_4 a2_0 a2_1 a2_2 a2_3 a2_4 a3_0 a3_1 a3_2 bt183.1 bt183.2.1 bt183.2.2.1 bt183.2.2.2.1 bt183.2.2.2.2.1) else (if (bt183.2.2.2.2.2 != bt190.2.2.2.2.2) = true then (whittlelaw3_PlaceMeets.j0 k bt183.2.2.2.2.2 true a0_0 a0_1 a0_2 a0_3 a0_4 a1_0 a1_1 a1_2 a1_3 a1_4 a2_0 a2_1 a2_2 a2_3 a2_4 a3_0 a3_1 a3_2 bt183.1 bt183.2.1 bt183.2.2.1 bt183.2.2.2.1 bt183.2.2.2.2.1) else ((place_Has.f bt183.1 bt183.2.1 bt183.2.2.1 bt183.2.2.2.1 bt183.2.2.2.2.1 a3_0 a3_1 a3_2).bind fun t197 => (if t197 = true then ((place_Has.f a0_0 a0_1 a0_2 a0_3 a0_4 a3_0 a3_1 a3_2).bind fun t198 => (if t198 = true then ((place_Has.f a1_0 a1_1 a1_2 a1_3 a1_4 a3_0 a3_1 a3_2).bind fun t199 => (whittlelaw3_PlaceMeets.j0 k bt183.2.2.2.2.2 (bt183.2.2.2.2.2 != t199) a0_0 a0_1 a0_2 a0_3 a0_4 a1_0 a1_1 a1_2 a1_3 a1_4 a2_0 a2_1 a2_2 a2_3 a2_4 a3_0 a3_1 a3_2 bt183.1 bt183.2.1 bt183.2.2.1 bt183.2.2.2.1 bt183.2.2.2.2.1)) else (whittlelaw3_PlaceMeets.j0 k bt183.2.2.2.2.2 (bt183.2.2.2.2.2 != false) a0_0 a0_1 a0_2 a0_3 a0_4 a1_0 a1_1 a1_2 a1_3 a1_4 a2_0 a2_1 a2_2 a2_3 a2_4 a3_0 a3_1 a3_2 bt183.1 bt183.2.1 bt183.2.2.1 bt183.2.2.2.1 bt183.2.2.2.2.1))) else (whittlelaw3_PlaceMeets.j0 k bt183.2.2.2.2.2 false a0_0 a0_1 a0_2 a0_3 a0_4 a1_0 a1_1 a1_2 a1_3 a1_4 a2_0 a2_1 a2_2 a2_3 a2_4 a3_0 a3_1 a3_2 bt183.1 bt183.2.1 bt183.2.2.1 bt183.2.2.2.1 bt183.2.2.2.2.1))))))) = some r := by rw [if_pos rfl] at H; exact H
  clear H
  have H := H1
  clear H1
  replace H := Option.bind_eq_some_iff.mp H
  obtain ⟨⟨t183, t184, t185, t186, t187, t188⟩, A70, H⟩ := H
  replace H : ((place_Meet.f a1_0 a1_1 a1_2 a1_3 a1_4 a0_0 a0_1 a0_2 a0_3 a0_4).bind fun bt190 => (if (!(t183 == bt190.1) || (!(t184 == bt190.2.1) || (!(t185 == bt190.2.2.1) || (!(t186 == bt190.2.2.2.1) || (!(t187 == bt190.2.2.2.2.1)))))) = true then (whittlelaw3_PlaceMeets.j0 k t188 true a0_0 a0_1 a0_2 a0_3 a0_4 a1_0 a1_1 a1_2 a1_3 a1_4 a2_0 a2_1 a2_2 a2_3 a2_4 a3_0 a3_1 a3_2 t183 t184 t185 t186 t187) else (if (t188 != bt190.2.2.2.2.2) = true then (whittlelaw3_PlaceMeets.j0 k t188 true a0_0 a0_1 a0_2 a0_3 a0_4 a1_0 a1_1 a1_2 a1_3 a1_4 a2_0 a2_1 a2_2 a2_3 a2_4 a3_0 a3_1 a3_2 t183 t184 t185 t186 t187) else ((place_Has.f t183 t184 t185 t186 t187 a3_0 a3_1 a3_2).bind fun t197 => (if t197 = true then ((place_Has.f a0_0 a0_1 a0_2 a0_3 a0_4 a3_0 a3_1 a3_2).bind fun t198 => (if t198 = true then ((place_Has.f a1_0 a1_1 a1_2 a1_3 a1_4 a3_0 a3_1 a3_2).bind fun t199 => (whittlelaw3_PlaceMeets.j0 k t188 (t188 != t199) a0_0 a0_1 a0_2 a0_3 a0_4 a1_0 a1_1 a1_2 a1_3 a1_4 a2_0 a2_1 a2_2 a2_3 a2_4 a3_0 a3_1 a3_2 t183 t184 t185 t186 t187)) else (whittlelaw3_PlaceMeets.j0 k t188 (t188 != false) a0_0 a0_1 a0_2 a0_3 a0_4 a1_0 a1_1 a1_2 a1_3 a1_4 a2_0 a2_1 a2_2 a2_3 a2_4 a3_0 a3_1 a3_2 t183 t184 t185 t186 t187))) else (whittlelaw3_PlaceMeets.j0 k t188 false a0_0 a0_1 a0_2 a0_3 a0_4 a1_0 a1_1 a1_2 a1_3 a1_4 a2_0 a2_1 a2_2 a2_3 a2_4 a3_0 a3_1 a3_2 t183 t184 t185 t186 t187)))))) = some r := H
  have A7 := Aside0.mk A70
  clear A70
  replace H := Option.bind_eq_some_iff.mp H
  obtain ⟨⟨t190, t191, t192, t193, t194, t195⟩, A80, H⟩ := H
  replace H : (if (!(t183 == t190) || (!(t184 == t191) || (!(t185 == t192) || (!(t186 == t193) || (!(t187 == t194)))))) = true then (whittlelaw3_PlaceMeets.j0 k t188 true a0_0 a0_1 a0_2 a0_3 a0_4 a1_0 a1_1 a1_2 a1_3 a1_4 a2_0 a2_1 a2_2 a2_3 a2_4 a3_0 a3_1 a3_2 t183 t184 t185 t186 t187) else (if (t188 != t195) = true then (whittlelaw3_PlaceMeets.j0 k t188 true a0_0 a0_1 a0_2 a0_3 a0_4 a1_0 a1_1 a1_2 a1_3 a1_4 a2_0 a2_1 a2_2 a2_3 a2_4 a3_0 a3_1 a3_2 t183 t184 t185 t186 t187) else ((place_Has.f t183 t184 t185 t186 t187 a3_0 a3_1 a3_2).bind fun t197 => (if t197 = true then ((place_Has.f a0_0 a0_1 a0_2 a0_3 a0_4 a3_0 a3_1 a3_2).bind fun t198 => (if t198 = true then ((place_Has.f a1_0 a1_1 a1_2 a1_3 a1_4 a3_0 a3_1 a3_2).bind fun t199 => (whittlelaw3_PlaceMeets.j0 k t188 (t188 != t199) a0_0 a0_1 a0_2 a0_3 a0_4 a1_0 a1_1 a1_2 a1_3 a1_4 a2_0 a2_1 a2_2 a2_3 a2_4 a3_0 a3_1 a3_2 t183 t184 t185 t186 t187)) else (whittlelaw3_PlaceMeets.j0 k t188 (t188 != false) a0_0 a0_1 a0_2 a0_3 a0_4 a1_0 a1_1 a1_2 a1_3 a1_4 a2_0 a2_1 a2_2 a2_3 a2_4 a3_0 a3_1 a3_2 t183 t184 t185 t186 t187))) else (whittlelaw3_PlaceMeets.j0 k t188 false a0_0 a0_1 a0_2 a0_3 a0_4 a1_0 a1_1 a1_2 a1_3 a1_4 a2_0 a2_1 a2_2 a2_3 a2_4 a3_0 a3_1 a3_2 t183 t184 t185 t186 t187))))) = some r := H
  have A8 := Aside0.mk A80
  clear A80
  have HC9 := Aside0.mk H
  clear H
  go_enter Tryd.func4, Tryd.ntmps4
  go_upto_region 5 with (first | ((with_reducible refine gate_dst (N := 4) rfl ?_); refine box_event ?hg (N := 4) ?hd (cs := #[.int .i64 a0_0, .int .i64 a0_1, .int .i64 a0_2, .int .i64 a0_3, .int .i64 a0_4]) (t := 25) ?hr ?_; (case hd => rfl); (case hg => rfl); (case hr => go_simp <;> rfl); intro gb178 hg w10 hbox hb; have BK178 := Aside0.mk (hbox); have GW178 := Aside0.mk ((by rw [hg]; exact (below_size (by repeat first | exact HB.out)) : w.heap.size ≤ gb178)); have GE178 := GW178; replace HB := Aside0.mk (below_step (by repeat first | exact HB.out) hb); clear hb hbox hg) | ((with_reducible refine gate_dst (N := 5) rfl ?_); refine box_event ?hg (N := 5) ?hd (cs := #[.int .i64 a1_0, .int .i64 a1_1, .int .i64 a1_2, .int .i64 a1_3, .int .i64 a1_4]) (t := 25) ?hr ?_; (case hd => rfl); (case hg => rfl); (case hr => go_simp <;> rfl); intro gb179 hg w11 hbox hb; have BK179 := Aside0.mk (hbox); have GW179 := Aside0.mk ((by rw [hg]; exact (below_size (by repeat first | exact HB.out | refine below_set ?_ GE178.out)) : w.heap.size ≤ gb179)); have GE179 := GW179; have NB178_179 := Aside0.mk ((by rw [hg]; exact Nat.ne_of_lt (blk_lt BK178.out) : gb178 ≠ gb179)); have NB179_178 := Aside0.mk ((by rw [hg]; exact Nat.ne_of_gt (blk_lt BK178.out) : gb179 ≠ gb178)); replace BK178 := Aside0.mk (blk_below BK178.out hb); replace HB := Aside0.mk (below_step (by repeat first | exact HB.out | refine below_set ?_ GE178.out) hb); clear hb hbox hg) | ((with_reducible refine gate_dst (N := 6) rfl ?_); refine box_event ?hg (N := 6) ?hd (cs := #[.int .i64 a2_0, .int .i64 a2_1, .int .i64 a2_2, .int .i64 a2_3, .int .i64 a2_4]) (t := 25) ?hr ?_; (case hd => rfl); (case hg => rfl); (case hr => go_simp <;> rfl); intro gb180 hg w12 hbox hb; have BK180 := Aside0.mk (hbox); have GW180 := Aside0.mk ((by rw [hg]; exact (below_size (by repeat first | exact HB.out | refine below_set ?_ GE178.out | refine below_set ?_ GE179.out)) : w.heap.size ≤ gb180)); have GE180 := GW180; have NB178_180 := Aside0.mk ((by rw [hg]; exact Nat.ne_of_lt (blk_lt BK178.out) : gb178 ≠ gb180)); have NB180_178 := Aside0.mk ((by rw [hg]; exact Nat.ne_of_gt (blk_lt BK178.out) : gb180 ≠ gb178)); have NB179_180 := Aside0.mk ((by rw [hg]; exact Nat.ne_of_lt (blk_lt BK179.out) : gb179 ≠ gb180)); have NB180_179 := Aside0.mk ((by rw [hg]; exact Nat.ne_of_gt (blk_lt BK179.out) : gb180 ≠ gb179)); replace BK178 := Aside0.mk (blk_below BK178.out hb); replace BK179 := Aside0.mk (blk_below BK179.out hb); replace HB := Aside0.mk (below_step (by repeat first | exact HB.out | refine below_set ?_ GE178.out | refine below_set ?_ GE179.out) hb); clear hb hbox hg) | ((with_reducible refine gate_dst (N := 7) rfl ?_); refine box_event ?hg (N := 7) ?hd (cs := #[.int .i64 a3_0, .int .i64 a3_1, .int .i64 a3_2]) (t := 23) ?hr ?_; (case hd => rfl); (case hg => rfl); (case hr => go_simp <;> rfl); intro gb181 hg w13 hbox hb; have BK181 := Aside0.mk (hbox); have GW181 := Aside0.mk ((by rw [hg]; exact (below_size (by repeat first | exact HB.out | refine below_set ?_ GE178.out | refine below_set ?_ GE179.out | refine below_set ?_ GE180.out)) : w.heap.size ≤ gb181)); have GE181 := GW181; have NB178_181 := Aside0.mk ((by rw [hg]; exact Nat.ne_of_lt (blk_lt BK178.out) : gb178 ≠ gb181)); have NB181_178 := Aside0.mk ((by rw [hg]; exact Nat.ne_of_gt (blk_lt BK178.out) : gb181 ≠ gb178)); have NB179_181 := Aside0.mk ((by rw [hg]; exact Nat.ne_of_lt (blk_lt BK179.out) : gb179 ≠ gb181)); have NB181_179 := Aside0.mk ((by rw [hg]; exact Nat.ne_of_gt (blk_lt BK179.out) : gb181 ≠ gb179)); have NB180_181 := Aside0.mk ((by rw [hg]; exact Nat.ne_of_lt (blk_lt BK180.out) : gb180 ≠ gb181)); have NB181_180 := Aside0.mk ((by rw [hg]; exact Nat.ne_of_gt (blk_lt BK180.out) : gb181 ≠ gb180)); replace BK178 := Aside0.mk (blk_below BK178.out hb); replace BK179 := Aside0.mk (blk_below BK179.out hb); replace BK180 := Aside0.mk (blk_below BK180.out hb); replace HB := Aside0.mk (below_step (by repeat first | exact HB.out | refine below_set ?_ GE178.out | refine below_set ?_ GE179.out | refine below_set ?_ GE180.out) hb); clear hb hbox hg) | ((with_reducible refine gate_callee (f := 16) rfl ?_); refine goesL_ (some 21) rfl rfl Tryd.func16 (by kernel_rfl) rfl #[] rfl (by (try simp only [List.map_toArray, List.map_cons, List.map_nil]); first | done | rfl | (simp only [List.length_drop, List.length_take]; rfl)) ?_; (with_reducible refine (whittlelaw3_able.calls  true _ A5.out).mono ?_); rintro e w14 ⟨rfl, hb⟩; refine ⟨_, rfl, ?_⟩; replace BK178 := Aside0.mk (blk_below BK178.out hb); replace BK179 := Aside0.mk (blk_below BK179.out hb); replace BK180 := Aside0.mk (blk_below BK180.out hb); replace BK181 := Aside0.mk (blk_below BK181.out hb); replace HB := Aside0.mk (below_step (by repeat first | exact HB.out | refine below_set ?_ GE178.out | refine below_set ?_ GE179.out | refine below_set ?_ GE180.out | refine below_set ?_ GE181.out) hb); (try clear hb); (try clear hb2); (try clear hk); (try clear hi); have hnb15 := NB178_179.out; have hnc15 := NB179_178.out; have hnb16 := NB178_180.out; have hnc16 := NB180_178.out; have hnb17 := NB178_181.out; have hnc17 := NB181_178.out; have hcz18_0 : w14.cell? ⟨gb178, 0, none⟩ = some (.int .i64 a0_0) := (blk_cell BK178.out 0).trans rfl; have hcz18_1 : w14.cell? ⟨gb178, 1, none⟩ = some (.int .i64 a0_1) := (blk_cell BK178.out 1).trans rfl; have hcz18_2 : w14.cell? ⟨gb178, 2, none⟩ = some (.int .i64 a0_2) := (blk_cell BK178.out 2).trans rfl; have hcz18_3 : w14.cell? ⟨gb178, 3, none⟩ = some (.int .i64 a0_3) := (blk_cell BK178.out 3).trans rfl; have hcz18_4 : w14.cell? ⟨gb178, 4, none⟩ = some (.int .i64 a0_4) := (blk_cell BK178.out 4).trans rfl; have hfz18_0 := blk_frozen BK178.out 0; have hfz18_1 := blk_frozen BK178.out 1; have hfz18_2 := blk_frozen BK178.out 2; have hfz18_3 := blk_frozen BK178.out 3; have hfz18_4 := blk_frozen BK178.out 4; have hnb19 := NB179_180.out; have hnc19 := NB180_179.out; have hnb20 := NB179_181.out; have hnc20 := NB181_179.out; have hcz21_0 : w14.cell? ⟨gb179, 0, none⟩ = some (.int .i64 a1_0) := (blk_cell BK179.out 0).trans rfl; have hcz21_1 : w14.cell? ⟨gb179, 1, none⟩ = some (.int .i64 a1_1) := (blk_cell BK179.out 1).trans rfl; have hcz21_2 : w14.cell? ⟨gb179, 2, none⟩ = some (.int .i64 a1_2) := (blk_cell BK179.out 2).trans rfl; have hcz21_3 : w14.cell? ⟨gb179, 3, none⟩ = some (.int .i64 a1_3) := (blk_cell BK179.out 3).trans rfl; have hcz21_4 : w14.cell? ⟨gb179, 4, none⟩ = some (.int .i64 a1_4) := (blk_cell BK179.out 4).trans rfl; have hfz21_0 := blk_frozen BK179.out 0; have hfz21_1 := blk_frozen BK179.out 1; have hfz21_2 := blk_frozen BK179.out 2; have hfz21_3 := blk_frozen BK179.out 3; have hfz21_4 := blk_frozen BK179.out 4) | ((with_reducible refine gate_callee (f := 27) rfl ?_); refine goesL_ (some 26) rfl rfl Tryd.func27 (by kernel_rfl) rfl #[.agg #[.int .i64 a0_0, .int .i64 a0_1, .int .i64 a0_2, .int .i64 a0_3, .int .i64 a0_4], .agg #[.int .i64 a1_0, .int .i64 a1_1, .int .i64 a1_2, .int .i64 a1_3, .int .i64 a1_4]] rfl (by (try simp only [List.map_toArray, List.map_cons, List.map_nil]); first | done | rfl | (simp only [List.length_drop, List.length_take]; rfl)) ?_; (with_reducible refine (place_Meet.calls a0_0 a0_1 a0_2 a0_3 a0_4 a1_0 a1_1 a1_2 a1_3 a1_4 t183 t184 t185 t186 t187 t188 _ A7.out).mono ?_); rintro e w22 ⟨rfl, hb⟩; refine ⟨_, rfl, ?_⟩; replace BK178 := Aside0.mk (blk_below BK178.out hb); replace BK179 := Aside0.mk (blk_below BK179.out hb); replace BK180 := Aside0.mk (blk_below BK180.out hb); replace BK181 := Aside0.mk (blk_below BK181.out hb); replace HB := Aside0.mk (below_step (by repeat first | exact HB.out | refine below_set ?_ GE178.out | refine below_set ?_ GE179.out | refine below_set ?_ GE180.out | refine below_set ?_ GE181.out) hb); (try clear hb); (try clear hb2); (try clear hk); (try clear hi)) | ((with_reducible refine gate_dst (N := 9) rfl ?_); refine box_event ?hg (N := 9) ?hd (cs := #[.int .i64 0, .int .i64 0, .int .i64 0, .int .i64 0, .int .i64 0]) (t := 25) ?hr ?_; (case hd => rfl); (case hg => rfl); (case hr => go_simp <;> rfl); intro gb189 hg w23 hbox hb; have BK189 := Aside0.mk (hbox); have GW189 := Aside0.mk ((by rw [hg]; exact (below_size (by repeat first | exact HB.out | refine below_set ?_ GE178.out | refine below_set ?_ GE179.out | refine below_set ?_ GE180.out | refine below_set ?_ GE181.out)) : w.heap.size ≤ gb189)); have GE189 := GW189; have NB178_189 := Aside0.mk ((by rw [hg]; exact Nat.ne_of_lt (blk_lt BK178.out) : gb178 ≠ gb189)); have NB189_178 := Aside0.mk ((by rw [hg]; exact Nat.ne_of_gt (blk_lt BK178.out) : gb189 ≠ gb178)); have NB179_189 := Aside0.mk ((by rw [hg]; exact Nat.ne_of_lt (blk_lt BK179.out) : gb179 ≠ gb189)); have NB189_179 := Aside0.mk ((by rw [hg]; exact Nat.ne_of_gt (blk_lt BK179.out) : gb189 ≠ gb179)); have NB180_189 := Aside0.mk ((by rw [hg]; exact Nat.ne_of_lt (blk_lt BK180.out) : gb180 ≠ gb189)); have NB189_180 := Aside0.mk ((by rw [hg]; exact Nat.ne_of_gt (blk_lt BK180.out) : gb189 ≠ gb180)); have NB181_189 := Aside0.mk ((by rw [hg]; exact Nat.ne_of_lt (blk_lt BK181.out) : gb181 ≠ gb189)); have NB189_181 := Aside0.mk ((by rw [hg]; exact Nat.ne_of_gt (blk_lt BK181.out) : gb189 ≠ gb181)); replace BK178 := Aside0.mk (blk_below BK178.out hb); replace BK179 := Aside0.mk (blk_below BK179.out hb); replace BK180 := Aside0.mk (blk_below BK180.out hb); replace BK181 := Aside0.mk (blk_below BK181.out hb); replace HB := Aside0.mk (below_step (by repeat first | exact HB.out | refine below_set ?_ GE178.out | refine below_set ?_ GE179.out | refine below_set ?_ GE180.out | refine below_set ?_ GE181.out) hb); clear hb hbox hg; have hnb24 := NB189_178.out; have hnc24 := NB178_189.out; have hnb25 := NB189_179.out; have hnc25 := NB179_189.out; have hnb26 := NB189_180.out; have hnc26 := NB180_189.out; have hnb27 := NB189_181.out; have hnc27 := NB181_189.out; have hcz28_0 : w23.cell? ⟨gb189, 0, none⟩ = some (.int .i64 0) := (blk_cell BK189.out 0).trans rfl; have hcz28_1 : w23.cell? ⟨gb189, 1, none⟩ = some (.int .i64 0) := (blk_cell BK189.out 1).trans rfl; have hcz28_2 : w23.cell? ⟨gb189, 2, none⟩ = some (.int .i64 0) := (blk_cell BK189.out 2).trans rfl; have hcz28_3 : w23.cell? ⟨gb189, 3, none⟩ = some (.int .i64 0) := (blk_cell BK189.out 3).trans rfl; have hcz28_4 : w23.cell? ⟨gb189, 4, none⟩ = some (.int .i64 0) := (blk_cell BK189.out 4).trans rfl; have hfz28_0 := blk_frozen BK189.out 0; have hfz28_1 := blk_frozen BK189.out 1; have hfz28_2 := blk_frozen BK189.out 2; have hfz28_3 := blk_frozen BK189.out 3; have hfz28_4 := blk_frozen BK189.out 4; have hcz29_0 : w23.cell? ⟨gb179, 0, none⟩ = some (.int .i64 a1_0) := (blk_cell BK179.out 0).trans rfl; have hcz29_1 : w23.cell? ⟨gb179, 1, none⟩ = some (.int .i64 a1_1) := (blk_cell BK179.out 1).trans rfl; have hcz29_2 : w23.cell? ⟨gb179, 2, none⟩ = some (.int .i64 a1_2) := (blk_cell BK179.out 2).trans rfl; have hcz29_3 : w23.cell? ⟨gb179, 3, none⟩ = some (.int .i64 a1_3) := (blk_cell BK179.out 3).trans rfl; have hcz29_4 : w23.cell? ⟨gb179, 4, none⟩ = some (.int .i64 a1_4) := (blk_cell BK179.out 4).trans rfl; have hfz29_0 := blk_frozen BK179.out 0; have hfz29_1 := blk_frozen BK179.out 1; have hfz29_2 := blk_frozen BK179.out 2; have hfz29_3 := blk_frozen BK179.out 3; have hfz29_4 := blk_frozen BK179.out 4; have hcz30_0 : w23.cell? ⟨gb178, 0, none⟩ = some (.int .i64 a0_0) := (blk_cell BK178.out 0).trans rfl; have hcz30_1 : w23.cell? ⟨gb178, 1, none⟩ = some (.int .i64 a0_1) := (blk_cell BK178.out 1).trans rfl; have hcz30_2 : w23.cell? ⟨gb178, 2, none⟩ = some (.int .i64 a0_2) := (blk_cell BK178.out 2).trans rfl; have hcz30_3 : w23.cell? ⟨gb178, 3, none⟩ = some (.int .i64 a0_3) := (blk_cell BK178.out 3).trans rfl; have hcz30_4 : w23.cell? ⟨gb178, 4, none⟩ = some (.int .i64 a0_4) := (blk_cell BK178.out 4).trans rfl; have hfz30_0 := blk_frozen BK178.out 0; have hfz30_1 := blk_frozen BK178.out 1; have hfz30_2 := blk_frozen BK178.out 2; have hfz30_3 := blk_frozen BK178.out 3; have hfz30_4 := blk_frozen BK178.out 4) | ((with_reducible refine gate_callee (f := 27) rfl ?_); refine goesL_ (some 32) rfl rfl Tryd.func27 (by kernel_rfl) rfl #[.agg #[.int .i64 a1_0, .int .i64 a1_1, .int .i64 a1_2, .int .i64 a1_3, .int .i64 a1_4], .agg #[.int .i64 a0_0, .int .i64 a0_1, .int .i64 a0_2, .int .i64 a0_3, .int .i64 a0_4]] rfl (by (try simp only [List.map_toArray, List.map_cons, List.map_nil]); first | done | rfl | (simp only [List.length_drop, List.length_take]; rfl)) ?_; (with_reducible refine (place_Meet.calls a1_0 a1_1 a1_2 a1_3 a1_4 a0_0 a0_1 a0_2 a0_3 a0_4 t190 t191 t192 t193 t194 t195 _ A8.out).mono ?_); rintro e w31 ⟨rfl, hb⟩; refine ⟨_, rfl, ?_⟩; replace BK178 := Aside0.mk (blk_below (g := gb178) (o := .cells #[.int .i64 a0_0, .int .i64 a0_1, .int .i64 a0_2, .int .i64 a0_3, .int .i64 a0_4] 25 (0, 0)) (by (repeat refine blk_far ?_ NB178_189.out _); exact BK178.out) hb); replace BK179 := Aside0.mk (blk_below (g := gb179) (o := .cells #[.int .i64 a1_0, .int .i64 a1_1, .int .i64 a1_2, .int .i64 a1_3, .int .i64 a1_4] 25 (0, 0)) (by (repeat refine blk_far ?_ NB179_189.out _); exact BK179.out) hb); replace BK180 := Aside0.mk (blk_below (g := gb180) (o := .cells #[.int .i64 a2_0, .int .i64 a2_1, .int .i64 a2_2, .int .i64 a2_3, .int .i64 a2_4] 25 (0, 0)) (by (repeat refine blk_far ?_ NB180_189.out _); exact BK180.out) hb); replace BK181 := Aside0.mk (blk_below (g := gb181) (o := .cells #[.int .i64 a3_0, .int .i64 a3_1, .int .i64 a3_2] 23 (0, 0)) (by (repeat refine blk_far ?_ NB181_189.out _); exact BK181.out) hb); replace BK189 := Aside0.mk (blk_below (g := gb189) (o := .cells #[.int .i64 t183, .int .i64 t184, .int .i64 t185, .int .i64 t186, .int .i64 t187] 25 (0, 0)) (by (with_reducible repeat first | apply blk_drewN | apply blk_drew | apply blk_alloc); refine blk_put (cs := #[.int .i64 t183, .int .i64 t184, .int .i64 t185, .int .i64 t186, .int .i64 0]) ?_ 4 _ rfl; (with_reducible repeat first | apply blk_drewN | apply blk_drew | apply blk_alloc); refine blk_put (cs := #[.int .i64 t183, .int .i64 t184, .int .i64 t185, .int .i64 0, .int .i64 0]) ?_ 3 _ rfl; (with_reducible repeat first | apply blk_drewN | apply blk_drew | apply blk_alloc); refine blk_put (cs := #[.int .i64 t183, .int .i64 t184, .int .i64 0, .int .i64 0, .int .i64 0]) ?_ 2 _ rfl; (with_reducible repeat first | apply blk_drewN | apply blk_drew | apply blk_alloc); refine blk_put (cs := #[.int .i64 t183, .int .i64 0, .int .i64 0, .int .i64 0, .int .i64 0]) ?_ 1 _ rfl; (with_reducible repeat first | apply blk_drewN | apply blk_drew | apply blk_alloc); refine blk_put (cs := #[.int .i64 0, .int .i64 0, .int .i64 0, .int .i64 0, .int .i64 0]) ?_ 0 _ rfl; (with_reducible repeat first | apply blk_drewN | apply blk_drew | apply blk_alloc); exact BK189.out) hb); replace HB := Aside0.mk (below_step (by repeat first | exact HB.out | refine below_set ?_ GE178.out | refine below_set ?_ GE179.out | refine below_set ?_ GE180.out | refine below_set ?_ GE181.out | refine below_set ?_ GE189.out) hb); (try clear hb); (try clear hb2); (try clear hk); (try clear hi)) | ((with_reducible refine gate_dst (N := 11) rfl ?_); refine box_event ?hg (N := 11) ?hd (cs := #[.int .i64 0, .int .i64 0, .int .i64 0, .int .i64 0, .int .i64 0]) (t := 25) ?hr ?_; (case hd => rfl); (case hg => rfl); (case hr => go_simp <;> rfl); intro gb196 hg w32 hbox hb; have BK196 := Aside0.mk (hbox); have GW196 := Aside0.mk ((by rw [hg]; exact (below_size (by repeat first | exact HB.out | refine below_set ?_ GE178.out | refine below_set ?_ GE179.out | refine below_set ?_ GE180.out | refine below_set ?_ GE181.out | refine below_set ?_ GE189.out)) : w.heap.size ≤ gb196)); have GE196 := GW196; have NB178_196 := Aside0.mk ((by rw [hg]; exact Nat.ne_of_lt (blk_lt BK178.out) : gb178 ≠ gb196)); have NB196_178 := Aside0.mk ((by rw [hg]; exact Nat.ne_of_gt (blk_lt BK178.out) : gb196 ≠ gb178)); have NB179_196 := Aside0.mk ((by rw [hg]; exact Nat.ne_of_lt (blk_lt BK179.out) : gb179 ≠ gb196)); have NB196_179 := Aside0.mk ((by rw [hg]; exact Nat.ne_of_gt (blk_lt BK179.out) : gb196 ≠ gb179)); have NB180_196 := Aside0.mk ((by rw [hg]; exact Nat.ne_of_lt (blk_lt BK180.out) : gb180 ≠ gb196)); have NB196_180 := Aside0.mk ((by rw [hg]; exact Nat.ne_of_gt (blk_lt BK180.out) : gb196 ≠ gb180)); have NB181_196 := Aside0.mk ((by rw [hg]; exact Nat.ne_of_lt (blk_lt BK181.out) : gb181 ≠ gb196)); have NB196_181 := Aside0.mk ((by rw [hg]; exact Nat.ne_of_gt (blk_lt BK181.out) : gb196 ≠ gb181)); have NB189_196 := Aside0.mk ((by rw [hg]; exact Nat.ne_of_lt (blk_lt BK189.out) : gb189 ≠ gb196)); have NB196_189 := Aside0.mk ((by rw [hg]; exact Nat.ne_of_gt (blk_lt BK189.out) : gb196 ≠ gb189)); replace BK178 := Aside0.mk (blk_below BK178.out hb); replace BK179 := Aside0.mk (blk_below BK179.out hb); replace BK180 := Aside0.mk (blk_below BK180.out hb); replace BK181 := Aside0.mk (blk_below BK181.out hb); replace BK189 := Aside0.mk (blk_below BK189.out hb); replace HB := Aside0.mk (below_step (by repeat first | exact HB.out | refine below_set ?_ GE178.out | refine below_set ?_ GE179.out | refine below_set ?_ GE180.out | refine below_set ?_ GE181.out | refine below_set ?_ GE189.out) hb); clear hb hbox hg; have hnb33 := NB196_178.out; have hnc33 := NB178_196.out; have hnb34 := NB196_179.out; have hnc34 := NB179_196.out; have hnb35 := NB196_180.out; have hnc35 := NB180_196.out; have hnb36 := NB196_181.out; have hnc36 := NB181_196.out; have hnb37 := NB196_189.out; have hnc37 := NB189_196.out; have hcz38_0 : w32.cell? ⟨gb196, 0, none⟩ = some (.int .i64 0) := (blk_cell BK196.out 0).trans rfl; have hcz38_1 : w32.cell? ⟨gb196, 1, none⟩ = some (.int .i64 0) := (blk_cell BK196.out 1).trans rfl; have hcz38_2 : w32.cell? ⟨gb196, 2, none⟩ = some (.int .i64 0) := (blk_cell BK196.out 2).trans rfl; have hcz38_3 : w32.cell? ⟨gb196, 3, none⟩ = some (.int .i64 0) := (blk_cell BK196.out 3).trans rfl; have hcz38_4 : w32.cell? ⟨gb196, 4, none⟩ = some (.int .i64 0) := (blk_cell BK196.out 4).trans rfl; have hfz38_0 := blk_frozen BK196.out 0; have hfz38_1 := blk_frozen BK196.out 1; have hfz38_2 := blk_frozen BK196.out 2; have hfz38_3 := blk_frozen BK196.out 3; have hfz38_4 := blk_frozen BK196.out 4))
  (try simp only [Act.put, List.setIfInBounds_toArray, List.set_cons_zero, List.set_cons_succ])
  go_cut [59] (fun v59 wc => ∃ (kq : Nat) (x59_8 : Bool), v59 = .bool x59_8 ∧ Aside0 (whittlelaw3_PlaceMeets.j0 kq t188 x59_8 a0_0 a0_1 a0_2 a0_3 a0_4 a1_0 a1_1 a1_2 a1_3 a1_4 a2_0 a2_1 a2_2 a2_3 a2_4 a3_0 a3_1 a3_2 t183 t184 t185 t186 t187 = some r) ∧ Aside0 (kq ≤ k) ∧ Aside0 (wc.heap[gb178]? = some (.cells #[.int .i64 a0_0, .int .i64 a0_1, .int .i64 a0_2, .int .i64 a0_3, .int .i64 a0_4] 25 (0, 0))) ∧ Aside0 (wc.heap[gb179]? = some (.cells #[.int .i64 a1_0, .int .i64 a1_1, .int .i64 a1_2, .int .i64 a1_3, .int .i64 a1_4] 25 (0, 0))) ∧ Aside0 (wc.heap[gb180]? = some (.cells #[.int .i64 a2_0, .int .i64 a2_1, .int .i64 a2_2, .int .i64 a2_3, .int .i64 a2_4] 25 (0, 0))) ∧ Aside0 (wc.heap[gb181]? = some (.cells #[.int .i64 a3_0, .int .i64 a3_1, .int .i64 a3_2] 23 (0, 0))) ∧ Aside0 (wc.heap[gb189]? = some (.cells #[.int .i64 t183, .int .i64 t184, .int .i64 t185, .int .i64 t186, .int .i64 t187] 25 (0, 0))) ∧ Aside0 (wc.heap[gb196]? = some (.cells #[.int .i64 t190, .int .i64 t191, .int .i64 t192, .int .i64 t193, .int .i64 t194] 25 (0, 0))) ∧ Aside0 (Below w.heap.size w wc))
  case first =>
   have H := HC9.out
   clear HC9
   by_cases c39 : (!(t183 == t190) || (!(t184 == t191) || (!(t185 == t192) || (!(t186 == t193) || (!(t187 == t194)))))) = true
   ·
    rw [if_pos c39] at H
    have c39b0 : (!(t183 == t190) || (!(t184 == t191) || (!(t185 == t192) || (!(t186 == t193) || (!(t187 == t194)))))) = true := c39
    clear c39
    (first | rw [c39b0] | (simp only [i64_w, i32_w]; rw [c39b0]) | skip)
    exact absurd H (by rw [hr_.out]; cases k <;> simp [whittlelaw3_PlaceMeets.j0])
   ·
    rw [if_neg c39] at H
    have c39b0 : (!(t183 == t190) || (!(t184 == t191) || (!(t185 == t192) || (!(t186 == t193) || (!(t187 == t194)))))) = false := by simpa using c39
    clear c39
    (first | rw [c39b0] | (simp only [i64_w, i32_w]; rw [c39b0]) | skip)
    by_cases c40 : (t188 != t195) = true
    ·
     rw [if_pos c40] at H
     have c40b0 : (t188 != t195) = true := c40
     (try (have c40b1 : decide (t188 = t195) = false := by simpa using c40))
     (try (have c40b2 : (t188 == t195) = false := by simpa using c40))
     (try (have c40b3 : ¬ (t188 = t195) := by simpa using c40))
     clear c40
     exact absurd H (by rw [hr_.out]; cases k <;> simp [whittlelaw3_PlaceMeets.j0])
    ·
     rw [if_neg c40] at H
     have c40b0 : (t188 != t195) = false := by simpa using c40
     (try (have c40b1 : decide (t188 = t195) = true := by simpa using c40))
     (try (have c40b2 : (t188 == t195) = true := by simpa using c40))
     clear c40
     replace H := Option.bind_eq_some_iff.mp H
     obtain ⟨t197, A410, H⟩ := H
     replace H : (if t197 = true then ((place_Has.f a0_0 a0_1 a0_2 a0_3 a0_4 a3_0 a3_1 a3_2).bind fun t198 => (if t198 = true then ((place_Has.f a1_0 a1_1 a1_2 a1_3 a1_4 a3_0 a3_1 a3_2).bind fun t199 => (whittlelaw3_PlaceMeets.j0 k t188 (t188 != t199) a0_0 a0_1 a0_2 a0_3 a0_4 a1_0 a1_1 a1_2 a1_3 a1_4 a2_0 a2_1 a2_2 a2_3 a2_4 a3_0 a3_1 a3_2 t183 t184 t185 t186 t187)) else (whittlelaw3_PlaceMeets.j0 k t188 (t188 != false) a0_0 a0_1 a0_2 a0_3 a0_4 a1_0 a1_1 a1_2 a1_3 a1_4 a2_0 a2_1 a2_2 a2_3 a2_4 a3_0 a3_1 a3_2 t183 t184 t185 t186 t187))) else (whittlelaw3_PlaceMeets.j0 k t188 false a0_0 a0_1 a0_2 a0_3 a0_4 a1_0 a1_1 a1_2 a1_3 a1_4 a2_0 a2_1 a2_2 a2_3 a2_4 a3_0 a3_1 a3_2 t183 t184 t185 t186 t187)) = some r := H
     have A41 := Aside0.mk A410
     clear A410
     by_cases c42 : t197 = true
     ·
      subst c42
      have H1 : ((place_Has.f a0_0 a0_1 a0_2 a0_3 a0_4 a3_0 a3_1 a3_2).bind fun t198 => (if t198 = true then ((place_Has.f a1_0 a1_1 a1_2 a1_3 a1_4 a3_0 a3_1 a3_2).bind fun t199 => (whittlelaw3_PlaceMeets.j0 k t188 (t188 != t199) a0_0 a0_1 a0_2 a0_3 a0_4 a1_0 a1_1 a1_2 a1_3 a1_4 a2_0 a2_1 a2_2 a2_3 a2_4 a3_0 a3_1 a3_2 t183 t184 t185 t186 t187)) else (whittlelaw3_PlaceMeets.j0 k t188 (t188 != false) a0_0 a0_1 a0_2 a0_3 a0_4 a1_0 a1_1 a1_2 a1_3 a1_4 a2_0 a2_1 a2_2 a2_3 a2_4 a3_0 a3_1 a3_2 t183 t184 t185 t186 t187))) = some r := by rw [if_pos rfl] at H; exact H
      clear H
      have H := H1
      clear H1
      replace H := Option.bind_eq_some_iff.mp H
      obtain ⟨t198, A430, H⟩ := H
      replace H : (if t198 = true then ((place_Has.f a1_0 a1_1 a1_2 a1_3 a1_4 a3_0 a3_1 a3_2).bind fun t199 => (whittlelaw3_PlaceMeets.j0 k t188 (t188 != t199) a0_0 a0_1 a0_2 a0_3 a0_4 a1_0 a1_1 a1_2 a1_3 a1_4 a2_0 a2_1 a2_2 a2_3 a2_4 a3_0 a3_1 a3_2 t183 t184 t185 t186 t187)) else (whittlelaw3_PlaceMeets.j0 k t188 (t188 != false) a0_0 a0_1 a0_2 a0_3 a0_4 a1_0 a1_1 a1_2 a1_3 a1_4 a2_0 a2_1 a2_2 a2_3 a2_4 a3_0 a3_1 a3_2 t183 t184 t185 t186 t187)) = some r := H
      have A43 := Aside0.mk A430
      clear A430
      by_cases c44 : t198 = true
      ·
       subst c44
       have H1 : ((place_Has.f a1_0 a1_1 a1_2 a1_3 a1_4 a3_0 a3_1 a3_2).bind fun t199 => (whittlelaw3_PlaceMeets.j0 k t188 (t188 != t199) a0_0 a0_1 a0_2 a0_3 a0_4 a1_0 a1_1 a1_2 a1_3 a1_4 a2_0 a2_1 a2_2 a2_3 a2_4 a3_0 a3_1 a3_2 t183 t184 t185 t186 t187)) = some r := by rw [if_pos rfl] at H; exact H
       clear H
       have H := H1
       clear H1
       replace H := Option.bind_eq_some_iff.mp H
       obtain ⟨t199, A450, H⟩ := H
       replace H : (whittlelaw3_PlaceMeets.j0 k t188 (t188 != t199) a0_0 a0_1 a0_2 a0_3 a0_4 a1_0 a1_1 a1_2 a1_3 a1_4 a2_0 a2_1 a2_2 a2_3 a2_4 a3_0 a3_1 a3_2 t183 t184 t185 t186 t187) = some r := H
       have A45 := Aside0.mk A450
       clear A450
       have H' := Aside0.mk H
       clear H
       have hnb46 := NB189_178.out
       have hnc46 := NB178_189.out
       have hnb47 := NB189_179.out
       have hnc47 := NB179_189.out
       have hnb48 := NB189_180.out
       have hnc48 := NB180_189.out
       have hnb49 := NB189_181.out
       have hnc49 := NB181_189.out
       have hnb50 := NB189_196.out
       have hnc50 := NB196_189.out
       have hcz51_0 : w32.cell? ⟨gb189, 0, none⟩ = some (.int .i64 t183) := (blk_cell BK189.out 0).trans rfl
       have hcz51_1 : w32.cell? ⟨gb189, 1, none⟩ = some (.int .i64 t184) := (blk_cell BK189.out 1).trans rfl
       have hcz51_2 : w32.cell? ⟨gb189, 2, none⟩ = some (.int .i64 t185) := (blk_cell BK189.out 2).trans rfl
       have hcz51_3 : w32.cell? ⟨gb189, 3, none⟩ = some (.int .i64 t186) := (blk_cell BK189.out 3).trans rfl
       have hcz51_4 : w32.cell? ⟨gb189, 4, none⟩ = some (.int .i64 t187) := (blk_cell BK189.out 4).trans rfl
       have hfz51_0 := blk_frozen BK189.out 0
       have hfz51_1 := blk_frozen BK189.out 1
       have hfz51_2 := blk_frozen BK189.out 2
       have hfz51_3 := blk_frozen BK189.out 3
       have hfz51_4 := blk_frozen BK189.out 4
       have hnb52 := NB196_178.out
       have hnc52 := NB178_196.out
       have hnb53 := NB196_179.out
       have hnc53 := NB179_196.out
       have hnb54 := NB196_180.out
       have hnc54 := NB180_196.out
       have hnb55 := NB196_181.out
       have hnc55 := NB181_196.out
       have hcz56_0 : w32.cell? ⟨gb196, 0, none⟩ = some (.int .i64 0) := (blk_cell BK196.out 0).trans rfl
       have hcz56_1 : w32.cell? ⟨gb196, 1, none⟩ = some (.int .i64 0) := (blk_cell BK196.out 1).trans rfl
       have hcz56_2 : w32.cell? ⟨gb196, 2, none⟩ = some (.int .i64 0) := (blk_cell BK196.out 2).trans rfl
       have hcz56_3 : w32.cell? ⟨gb196, 3, none⟩ = some (.int .i64 0) := (blk_cell BK196.out 3).trans rfl
       have hcz56_4 : w32.cell? ⟨gb196, 4, none⟩ = some (.int .i64 0) := (blk_cell BK196.out 4).trans rfl
       have hfz56_0 := blk_frozen BK196.out 0
       have hfz56_1 := blk_frozen BK196.out 1
       have hfz56_2 := blk_frozen BK196.out 2
       have hfz56_3 := blk_frozen BK196.out 3
       have hfz56_4 := blk_frozen BK196.out 4
       have hnb57 := NB181_178.out
       have hnc57 := NB178_181.out
       have hnb58 := NB181_179.out
       have hnc58 := NB179_181.out
       have hnb59 := NB181_180.out
       have hnc59 := NB180_181.out
       have hcz60_0 : w32.cell? ⟨gb181, 0, none⟩ = some (.int .i64 a3_0) := (blk_cell BK181.out 0).trans rfl
       have hcz60_1 : w32.cell? ⟨gb181, 1, none⟩ = some (.int .i64 a3_1) := (blk_cell BK181.out 1).trans rfl
       have hcz60_2 : w32.cell? ⟨gb181, 2, none⟩ = some (.int .i64 a3_2) := (blk_cell BK181.out 2).trans rfl
       have hfz60_0 := blk_frozen BK181.out 0
       have hfz60_1 := blk_frozen BK181.out 1
       have hfz60_2 := blk_frozen BK181.out 2
       go_wp2_with (first | (go_at_call 28; (with_reducible refine (place_Has.calls t183 t184 t185 t186 t187 a3_0 a3_1 a3_2 true _ A41.out).mono ?_); rintro e w61 ⟨rfl, hb⟩; replace BK178 := Aside0.mk (blk_below (g := gb178) (o := .cells #[.int .i64 a0_0, .int .i64 a0_1, .int .i64 a0_2, .int .i64 a0_3, .int .i64 a0_4] 25 (0, 0)) (by (repeat refine blk_far ?_ NB178_196.out _); exact BK178.out) hb); replace BK179 := Aside0.mk (blk_below (g := gb179) (o := .cells #[.int .i64 a1_0, .int .i64 a1_1, .int .i64 a1_2, .int .i64 a1_3, .int .i64 a1_4] 25 (0, 0)) (by (repeat refine blk_far ?_ NB179_196.out _); exact BK179.out) hb); replace BK180 := Aside0.mk (blk_below (g := gb180) (o := .cells #[.int .i64 a2_0, .int .i64 a2_1, .int .i64 a2_2, .int .i64 a2_3, .int .i64 a2_4] 25 (0, 0)) (by (repeat refine blk_far ?_ NB180_196.out _); exact BK180.out) hb); replace BK181 := Aside0.mk (blk_below (g := gb181) (o := .cells #[.int .i64 a3_0, .int .i64 a3_1, .int .i64 a3_2] 23 (0, 0)) (by (repeat refine blk_far ?_ NB181_196.out _); exact BK181.out) hb); replace BK189 := Aside0.mk (blk_below (g := gb189) (o := .cells #[.int .i64 t183, .int .i64 t184, .int .i64 t185, .int .i64 t186, .int .i64 t187] 25 (0, 0)) (by (repeat refine blk_far ?_ NB189_196.out _); exact BK189.out) hb); replace BK196 := Aside0.mk (blk_below (g := gb196) (o := .cells #[.int .i64 t190, .int .i64 t191, .int .i64 t192, .int .i64 t193, .int .i64 t194] 25 (0, 0)) (by (with_reducible repeat first | apply blk_drewN | apply blk_drew | apply blk_alloc); refine blk_put (cs := #[.int .i64 t190, .int .i64 t191, .int .i64 t192, .int .i64 t193, .int .i64 0]) ?_ 4 _ rfl; (with_reducible repeat first | apply blk_drewN | apply blk_drew | apply blk_alloc); refine blk_put (cs := #[.int .i64 t190, .int .i64 t191, .int .i64 t192, .int .i64 0, .int .i64 0]) ?_ 3 _ rfl; (with_reducible repeat first | apply blk_drewN | apply blk_drew | apply blk_alloc); refine blk_put (cs := #[.int .i64 t190, .int .i64 t191, .int .i64 0, .int .i64 0, .int .i64 0]) ?_ 2 _ rfl; (with_reducible repeat first | apply blk_drewN | apply blk_drew | apply blk_alloc); refine blk_put (cs := #[.int .i64 t190, .int .i64 0, .int .i64 0, .int .i64 0, .int .i64 0]) ?_ 1 _ rfl; (with_reducible repeat first | apply blk_drewN | apply blk_drew | apply blk_alloc); refine blk_put (cs := #[.int .i64 0, .int .i64 0, .int .i64 0, .int .i64 0, .int .i64 0]) ?_ 0 _ rfl; (with_reducible repeat first | apply blk_drewN | apply blk_drew | apply blk_alloc); exact BK196.out) hb); replace HB := Aside0.mk (below_step (by repeat first | exact HB.out | refine below_set ?_ GE178.out | refine below_set ?_ GE179.out | refine below_set ?_ GE180.out | refine below_set ?_ GE181.out | refine below_set ?_ GE189.out | refine below_set ?_ GE196.out) hb); (try clear hb); (try clear hb2); (try clear hk); (try clear hi); have hnb62 := NB178_179.out; have hnc62 := NB179_178.out; have hnb63 := NB178_180.out; have hnc63 := NB180_178.out; have hcz64_0 : w61.cell? ⟨gb178, 0, none⟩ = some (.int .i64 a0_0) := (blk_cell BK178.out 0).trans rfl; have hcz64_1 : w61.cell? ⟨gb178, 1, none⟩ = some (.int .i64 a0_1) := (blk_cell BK178.out 1).trans rfl; have hcz64_2 : w61.cell? ⟨gb178, 2, none⟩ = some (.int .i64 a0_2) := (blk_cell BK178.out 2).trans rfl; have hcz64_3 : w61.cell? ⟨gb178, 3, none⟩ = some (.int .i64 a0_3) := (blk_cell BK178.out 3).trans rfl; have hcz64_4 : w61.cell? ⟨gb178, 4, none⟩ = some (.int .i64 a0_4) := (blk_cell BK178.out 4).trans rfl; have hfz64_0 := blk_frozen BK178.out 0; have hfz64_1 := blk_frozen BK178.out 1; have hfz64_2 := blk_frozen BK178.out 2; have hfz64_3 := blk_frozen BK178.out 3; have hfz64_4 := blk_frozen BK178.out 4; have hcz65_0 : w61.cell? ⟨gb181, 0, none⟩ = some (.int .i64 a3_0) := (blk_cell BK181.out 0).trans rfl; have hcz65_1 : w61.cell? ⟨gb181, 1, none⟩ = some (.int .i64 a3_1) := (blk_cell BK181.out 1).trans rfl; have hcz65_2 : w61.cell? ⟨gb181, 2, none⟩ = some (.int .i64 a3_2) := (blk_cell BK181.out 2).trans rfl; have hfz65_0 := blk_frozen BK181.out 0; have hfz65_1 := blk_frozen BK181.out 1; have hfz65_2 := blk_frozen BK181.out 2) | (go_at_call 28; (with_reducible refine (place_Has.calls a0_0 a0_1 a0_2 a0_3 a0_4 a3_0 a3_1 a3_2 true _ A43.out).mono ?_); rintro e w66 ⟨rfl, hb⟩; replace BK178 := Aside0.mk (blk_below BK178.out hb); replace BK179 := Aside0.mk (blk_below BK179.out hb); replace BK180 := Aside0.mk (blk_below BK180.out hb); replace BK181 := Aside0.mk (blk_below BK181.out hb); replace BK189 := Aside0.mk (blk_below BK189.out hb); replace BK196 := Aside0.mk (blk_below BK196.out hb); replace HB := Aside0.mk (below_step (by repeat first | exact HB.out | refine below_set ?_ GE178.out | refine below_set ?_ GE179.out | refine below_set ?_ GE180.out | refine below_set ?_ GE181.out | refine below_set ?_ GE189.out | refine below_set ?_ GE196.out) hb); (try clear hb); (try clear hb2); (try clear hk); (try clear hi); have hnb67 := NB179_180.out; have hnc67 := NB180_179.out; have hcz68_0 : w66.cell? ⟨gb179, 0, none⟩ = some (.int .i64 a1_0) := (blk_cell BK179.out 0).trans rfl; have hcz68_1 : w66.cell? ⟨gb179, 1, none⟩ = some (.int .i64 a1_1) := (blk_cell BK179.out 1).trans rfl; have hcz68_2 : w66.cell? ⟨gb179, 2, none⟩ = some (.int .i64 a1_2) := (blk_cell BK179.out 2).trans rfl; have hcz68_3 : w66.cell? ⟨gb179, 3, none⟩ = some (.int .i64 a1_3) := (blk_cell BK179.out 3).trans rfl; have hcz68_4 : w66.cell? ⟨gb179, 4, none⟩ = some (.int .i64 a1_4) := (blk_cell BK179.out 4).trans rfl; have hfz68_0 := blk_frozen BK179.out 0; have hfz68_1 := blk_frozen BK179.out 1; have hfz68_2 := blk_frozen BK179.out 2; have hfz68_3 := blk_frozen BK179.out 3; have hfz68_4 := blk_frozen BK179.out 4; have hcz69_0 : w66.cell? ⟨gb181, 0, none⟩ = some (.int .i64 a3_0) := (blk_cell BK181.out 0).trans rfl; have hcz69_1 : w66.cell? ⟨gb181, 1, none⟩ = some (.int .i64 a3_1) := (blk_cell BK181.out 1).trans rfl; have hcz69_2 : w66.cell? ⟨gb181, 2, none⟩ = some (.int .i64 a3_2) := (blk_cell BK181.out 2).trans rfl; have hfz69_0 := blk_frozen BK181.out 0; have hfz69_1 := blk_frozen BK181.out 1; have hfz69_2 := blk_frozen BK181.out 2) | (go_at_call 28; (with_reducible refine (place_Has.calls a1_0 a1_1 a1_2 a1_3 a1_4 a3_0 a3_1 a3_2 t199 _ A45.out).mono ?_); rintro e w70 ⟨rfl, hb⟩; replace BK178 := Aside0.mk (blk_below BK178.out hb); replace BK179 := Aside0.mk (blk_below BK179.out hb); replace BK180 := Aside0.mk (blk_below BK180.out hb); replace BK181 := Aside0.mk (blk_below BK181.out hb); replace BK189 := Aside0.mk (blk_below BK189.out hb); replace BK196 := Aside0.mk (blk_below BK196.out hb); replace HB := Aside0.mk (below_step (by repeat first | exact HB.out | refine below_set ?_ GE178.out | refine below_set ?_ GE179.out | refine below_set ?_ GE180.out | refine below_set ?_ GE181.out | refine below_set ?_ GE189.out | refine below_set ?_ GE196.out) hb); (try clear hb); (try clear hb2); (try clear hk); (try clear hi)))
       go_meet
       case rel => exact ⟨_, ((t188 != t199)), (by first | rfl | (simp; done) | (simp [*]; done)), H', ⟨by first | omega | exact Nat.le_refl _⟩, ⟨BK178.out⟩, ⟨BK179.out⟩, ⟨BK180.out⟩, ⟨BK181.out⟩, ⟨BK189.out⟩, ⟨BK196.out⟩, ⟨by repeat (first | (with_reducible first | exact HB.out | apply below_alloc | apply pw_below_drewN | apply below_drew1 | refine below_set ?_ GE178.out | refine below_set ?_ GE179.out | refine below_set ?_ GE180.out | refine below_set ?_ GE181.out | refine below_set ?_ GE189.out | refine below_set ?_ GE196.out) | exact HB.out)⟩⟩
      ·
       replace c44 := Bool.eq_false_iff.mpr c44
       subst c44
       have H1 : (whittlelaw3_PlaceMeets.j0 k t188 (t188 != false) a0_0 a0_1 a0_2 a0_3 a0_4 a1_0 a1_1 a1_2 a1_3 a1_4 a2_0 a2_1 a2_2 a2_3 a2_4 a3_0 a3_1 a3_2 t183 t184 t185 t186 t187) = some r := by rw [if_neg (show ¬ (false = true) by decide)] at H; exact H
       clear H
       have H := H1
       clear H1
       have H' := Aside0.mk H
       clear H
       have hnb71 := NB189_178.out
       have hnc71 := NB178_189.out
       have hnb72 := NB189_179.out
       have hnc72 := NB179_189.out
       have hnb73 := NB189_180.out
       have hnc73 := NB180_189.out
       have hnb74 := NB189_181.out
       have hnc74 := NB181_189.out
       have hnb75 := NB189_196.out
       have hnc75 := NB196_189.out
       have hcz76_0 : w32.cell? ⟨gb189, 0, none⟩ = some (.int .i64 t183) := (blk_cell BK189.out 0).trans rfl
       have hcz76_1 : w32.cell? ⟨gb189, 1, none⟩ = some (.int .i64 t184) := (blk_cell BK189.out 1).trans rfl
       have hcz76_2 : w32.cell? ⟨gb189, 2, none⟩ = some (.int .i64 t185) := (blk_cell BK189.out 2).trans rfl
       have hcz76_3 : w32.cell? ⟨gb189, 3, none⟩ = some (.int .i64 t186) := (blk_cell BK189.out 3).trans rfl
       have hcz76_4 : w32.cell? ⟨gb189, 4, none⟩ = some (.int .i64 t187) := (blk_cell BK189.out 4).trans rfl
       have hfz76_0 := blk_frozen BK189.out 0
       have hfz76_1 := blk_frozen BK189.out 1
       have hfz76_2 := blk_frozen BK189.out 2
       have hfz76_3 := blk_frozen BK189.out 3
       have hfz76_4 := blk_frozen BK189.out 4
       have hnb77 := NB196_178.out
       have hnc77 := NB178_196.out
       have hnb78 := NB196_179.out
       have hnc78 := NB179_196.out
       have hnb79 := NB196_180.out
       have hnc79 := NB180_196.out
       have hnb80 := NB196_181.out
       have hnc80 := NB181_196.out
       have hcz81_0 : w32.cell? ⟨gb196, 0, none⟩ = some (.int .i64 0) := (blk_cell BK196.out 0).trans rfl
       have hcz81_1 : w32.cell? ⟨gb196, 1, none⟩ = some (.int .i64 0) := (blk_cell BK196.out 1).trans rfl
       have hcz81_2 : w32.cell? ⟨gb196, 2, none⟩ = some (.int .i64 0) := (blk_cell BK196.out 2).trans rfl
       have hcz81_3 : w32.cell? ⟨gb196, 3, none⟩ = some (.int .i64 0) := (blk_cell BK196.out 3).trans rfl
       have hcz81_4 : w32.cell? ⟨gb196, 4, none⟩ = some (.int .i64 0) := (blk_cell BK196.out 4).trans rfl
       have hfz81_0 := blk_frozen BK196.out 0
       have hfz81_1 := blk_frozen BK196.out 1
       have hfz81_2 := blk_frozen BK196.out 2
       have hfz81_3 := blk_frozen BK196.out 3
       have hfz81_4 := blk_frozen BK196.out 4
       have hnb82 := NB181_178.out
       have hnc82 := NB178_181.out
       have hnb83 := NB181_179.out
       have hnc83 := NB179_181.out
       have hnb84 := NB181_180.out
       have hnc84 := NB180_181.out
       have hcz85_0 : w32.cell? ⟨gb181, 0, none⟩ = some (.int .i64 a3_0) := (blk_cell BK181.out 0).trans rfl
       have hcz85_1 : w32.cell? ⟨gb181, 1, none⟩ = some (.int .i64 a3_1) := (blk_cell BK181.out 1).trans rfl
       have hcz85_2 : w32.cell? ⟨gb181, 2, none⟩ = some (.int .i64 a3_2) := (blk_cell BK181.out 2).trans rfl
       have hfz85_0 := blk_frozen BK181.out 0
       have hfz85_1 := blk_frozen BK181.out 1
       have hfz85_2 := blk_frozen BK181.out 2
       go_wp2_with (first | (go_at_call 28; (with_reducible refine (place_Has.calls t183 t184 t185 t186 t187 a3_0 a3_1 a3_2 true _ A41.out).mono ?_); rintro e w86 ⟨rfl, hb⟩; replace BK178 := Aside0.mk (blk_below (g := gb178) (o := .cells #[.int .i64 a0_0, .int .i64 a0_1, .int .i64 a0_2, .int .i64 a0_3, .int .i64 a0_4] 25 (0, 0)) (by (repeat refine blk_far ?_ NB178_196.out _); exact BK178.out) hb); replace BK179 := Aside0.mk (blk_below (g := gb179) (o := .cells #[.int .i64 a1_0, .int .i64 a1_1, .int .i64 a1_2, .int .i64 a1_3, .int .i64 a1_4] 25 (0, 0)) (by (repeat refine blk_far ?_ NB179_196.out _); exact BK179.out) hb); replace BK180 := Aside0.mk (blk_below (g := gb180) (o := .cells #[.int .i64 a2_0, .int .i64 a2_1, .int .i64 a2_2, .int .i64 a2_3, .int .i64 a2_4] 25 (0, 0)) (by (repeat refine blk_far ?_ NB180_196.out _); exact BK180.out) hb); replace BK181 := Aside0.mk (blk_below (g := gb181) (o := .cells #[.int .i64 a3_0, .int .i64 a3_1, .int .i64 a3_2] 23 (0, 0)) (by (repeat refine blk_far ?_ NB181_196.out _); exact BK181.out) hb); replace BK189 := Aside0.mk (blk_below (g := gb189) (o := .cells #[.int .i64 t183, .int .i64 t184, .int .i64 t185, .int .i64 t186, .int .i64 t187] 25 (0, 0)) (by (repeat refine blk_far ?_ NB189_196.out _); exact BK189.out) hb); replace BK196 := Aside0.mk (blk_below (g := gb196) (o := .cells #[.int .i64 t190, .int .i64 t191, .int .i64 t192, .int .i64 t193, .int .i64 t194] 25 (0, 0)) (by (with_reducible repeat first | apply blk_drewN | apply blk_drew | apply blk_alloc); refine blk_put (cs := #[.int .i64 t190, .int .i64 t191, .int .i64 t192, .int .i64 t193, .int .i64 0]) ?_ 4 _ rfl; (with_reducible repeat first | apply blk_drewN | apply blk_drew | apply blk_alloc); refine blk_put (cs := #[.int .i64 t190, .int .i64 t191, .int .i64 t192, .int .i64 0, .int .i64 0]) ?_ 3 _ rfl; (with_reducible repeat first | apply blk_drewN | apply blk_drew | apply blk_alloc); refine blk_put (cs := #[.int .i64 t190, .int .i64 t191, .int .i64 0, .int .i64 0, .int .i64 0]) ?_ 2 _ rfl; (with_reducible repeat first | apply blk_drewN | apply blk_drew | apply blk_alloc); refine blk_put (cs := #[.int .i64 t190, .int .i64 0, .int .i64 0, .int .i64 0, .int .i64 0]) ?_ 1 _ rfl; (with_reducible repeat first | apply blk_drewN | apply blk_drew | apply blk_alloc); refine blk_put (cs := #[.int .i64 0, .int .i64 0, .int .i64 0, .int .i64 0, .int .i64 0]) ?_ 0 _ rfl; (with_reducible repeat first | apply blk_drewN | apply blk_drew | apply blk_alloc); exact BK196.out) hb); replace HB := Aside0.mk (below_step (by repeat first | exact HB.out | refine below_set ?_ GE178.out | refine below_set ?_ GE179.out | refine below_set ?_ GE180.out | refine below_set ?_ GE181.out | refine below_set ?_ GE189.out | refine below_set ?_ GE196.out) hb); (try clear hb); (try clear hb2); (try clear hk); (try clear hi); have hnb87 := NB178_179.out; have hnc87 := NB179_178.out; have hnb88 := NB178_180.out; have hnc88 := NB180_178.out; have hcz89_0 : w86.cell? ⟨gb178, 0, none⟩ = some (.int .i64 a0_0) := (blk_cell BK178.out 0).trans rfl; have hcz89_1 : w86.cell? ⟨gb178, 1, none⟩ = some (.int .i64 a0_1) := (blk_cell BK178.out 1).trans rfl; have hcz89_2 : w86.cell? ⟨gb178, 2, none⟩ = some (.int .i64 a0_2) := (blk_cell BK178.out 2).trans rfl; have hcz89_3 : w86.cell? ⟨gb178, 3, none⟩ = some (.int .i64 a0_3) := (blk_cell BK178.out 3).trans rfl; have hcz89_4 : w86.cell? ⟨gb178, 4, none⟩ = some (.int .i64 a0_4) := (blk_cell BK178.out 4).trans rfl; have hfz89_0 := blk_frozen BK178.out 0; have hfz89_1 := blk_frozen BK178.out 1; have hfz89_2 := blk_frozen BK178.out 2; have hfz89_3 := blk_frozen BK178.out 3; have hfz89_4 := blk_frozen BK178.out 4; have hcz90_0 : w86.cell? ⟨gb181, 0, none⟩ = some (.int .i64 a3_0) := (blk_cell BK181.out 0).trans rfl; have hcz90_1 : w86.cell? ⟨gb181, 1, none⟩ = some (.int .i64 a3_1) := (blk_cell BK181.out 1).trans rfl; have hcz90_2 : w86.cell? ⟨gb181, 2, none⟩ = some (.int .i64 a3_2) := (blk_cell BK181.out 2).trans rfl; have hfz90_0 := blk_frozen BK181.out 0; have hfz90_1 := blk_frozen BK181.out 1; have hfz90_2 := blk_frozen BK181.out 2) | (go_at_call 28; (with_reducible refine (place_Has.calls a0_0 a0_1 a0_2 a0_3 a0_4 a3_0 a3_1 a3_2 false _ A43.out).mono ?_); rintro e w91 ⟨rfl, hb⟩; replace BK178 := Aside0.mk (blk_below BK178.out hb); replace BK179 := Aside0.mk (blk_below BK179.out hb); replace BK180 := Aside0.mk (blk_below BK180.out hb); replace BK181 := Aside0.mk (blk_below BK181.out hb); replace BK189 := Aside0.mk (blk_below BK189.out hb); replace BK196 := Aside0.mk (blk_below BK196.out hb); replace HB := Aside0.mk (below_step (by repeat first | exact HB.out | refine below_set ?_ GE178.out | refine below_set ?_ GE179.out | refine below_set ?_ GE180.out | refine below_set ?_ GE181.out | refine below_set ?_ GE189.out | refine below_set ?_ GE196.out) hb); (try clear hb); (try clear hb2); (try clear hk); (try clear hi)))
       go_meet
       case rel => exact ⟨_, ((t188 != false)), (by first | rfl | (simp; done) | (simp [*]; done)), H', ⟨by first | omega | exact Nat.le_refl _⟩, ⟨BK178.out⟩, ⟨BK179.out⟩, ⟨BK180.out⟩, ⟨BK181.out⟩, ⟨BK189.out⟩, ⟨BK196.out⟩, ⟨by repeat (first | (with_reducible first | exact HB.out | apply below_alloc | apply pw_below_drewN | apply below_drew1 | refine below_set ?_ GE178.out | refine below_set ?_ GE179.out | refine below_set ?_ GE180.out | refine below_set ?_ GE181.out | refine below_set ?_ GE189.out | refine below_set ?_ GE196.out) | exact HB.out)⟩⟩
     ·
      replace c42 := Bool.eq_false_iff.mpr c42
      subst c42
      have H1 : (whittlelaw3_PlaceMeets.j0 k t188 false a0_0 a0_1 a0_2 a0_3 a0_4 a1_0 a1_1 a1_2 a1_3 a1_4 a2_0 a2_1 a2_2 a2_3 a2_4 a3_0 a3_1 a3_2 t183 t184 t185 t186 t187) = some r := by rw [if_neg (show ¬ (false = true) by decide)] at H; exact H
      clear H
      have H := H1
      clear H1
      have H' := Aside0.mk H
      clear H
      have hnb92 := NB189_178.out
      have hnc92 := NB178_189.out
      have hnb93 := NB189_179.out
      have hnc93 := NB179_189.out
      have hnb94 := NB189_180.out
      have hnc94 := NB180_189.out
      have hnb95 := NB189_181.out
      have hnc95 := NB181_189.out
      have hnb96 := NB189_196.out
      have hnc96 := NB196_189.out
      have hcz97_0 : w32.cell? ⟨gb189, 0, none⟩ = some (.int .i64 t183) := (blk_cell BK189.out 0).trans rfl
      have hcz97_1 : w32.cell? ⟨gb189, 1, none⟩ = some (.int .i64 t184) := (blk_cell BK189.out 1).trans rfl
      have hcz97_2 : w32.cell? ⟨gb189, 2, none⟩ = some (.int .i64 t185) := (blk_cell BK189.out 2).trans rfl
      have hcz97_3 : w32.cell? ⟨gb189, 3, none⟩ = some (.int .i64 t186) := (blk_cell BK189.out 3).trans rfl
      have hcz97_4 : w32.cell? ⟨gb189, 4, none⟩ = some (.int .i64 t187) := (blk_cell BK189.out 4).trans rfl
      have hfz97_0 := blk_frozen BK189.out 0
      have hfz97_1 := blk_frozen BK189.out 1
      have hfz97_2 := blk_frozen BK189.out 2
      have hfz97_3 := blk_frozen BK189.out 3
      have hfz97_4 := blk_frozen BK189.out 4
      have hnb98 := NB196_178.out
      have hnc98 := NB178_196.out
      have hnb99 := NB196_179.out
      have hnc99 := NB179_196.out
      have hnb100 := NB196_180.out
      have hnc100 := NB180_196.out
      have hnb101 := NB196_181.out
      have hnc101 := NB181_196.out
      have hcz102_0 : w32.cell? ⟨gb196, 0, none⟩ = some (.int .i64 0) := (blk_cell BK196.out 0).trans rfl
      have hcz102_1 : w32.cell? ⟨gb196, 1, none⟩ = some (.int .i64 0) := (blk_cell BK196.out 1).trans rfl
      have hcz102_2 : w32.cell? ⟨gb196, 2, none⟩ = some (.int .i64 0) := (blk_cell BK196.out 2).trans rfl
      have hcz102_3 : w32.cell? ⟨gb196, 3, none⟩ = some (.int .i64 0) := (blk_cell BK196.out 3).trans rfl
      have hcz102_4 : w32.cell? ⟨gb196, 4, none⟩ = some (.int .i64 0) := (blk_cell BK196.out 4).trans rfl
      have hfz102_0 := blk_frozen BK196.out 0
      have hfz102_1 := blk_frozen BK196.out 1
      have hfz102_2 := blk_frozen BK196.out 2
      have hfz102_3 := blk_frozen BK196.out 3
      have hfz102_4 := blk_frozen BK196.out 4
      have hnb103 := NB181_178.out
      have hnc103 := NB178_181.out
      have hnb104 := NB181_179.out
      have hnc104 := NB179_181.out
      have hnb105 := NB181_180.out
      have hnc105 := NB180_181.out
      have hcz106_0 : w32.cell? ⟨gb181, 0, none⟩ = some (.int .i64 a3_0) := (blk_cell BK181.out 0).trans rfl
      have hcz106_1 : w32.cell? ⟨gb181, 1, none⟩ = some (.int .i64 a3_1) := (blk_cell BK181.out 1).trans rfl
      have hcz106_2 : w32.cell? ⟨gb181, 2, none⟩ = some (.int .i64 a3_2) := (blk_cell BK181.out 2).trans rfl
      have hfz106_0 := blk_frozen BK181.out 0
      have hfz106_1 := blk_frozen BK181.out 1
      have hfz106_2 := blk_frozen BK181.out 2
      go_wp2_with (first | (go_at_call 28; (with_reducible refine (place_Has.calls t183 t184 t185 t186 t187 a3_0 a3_1 a3_2 false _ A41.out).mono ?_); rintro e w107 ⟨rfl, hb⟩; replace BK178 := Aside0.mk (blk_below (g := gb178) (o := .cells #[.int .i64 a0_0, .int .i64 a0_1, .int .i64 a0_2, .int .i64 a0_3, .int .i64 a0_4] 25 (0, 0)) (by (repeat refine blk_far ?_ NB178_196.out _); exact BK178.out) hb); replace BK179 := Aside0.mk (blk_below (g := gb179) (o := .cells #[.int .i64 a1_0, .int .i64 a1_1, .int .i64 a1_2, .int .i64 a1_3, .int .i64 a1_4] 25 (0, 0)) (by (repeat refine blk_far ?_ NB179_196.out _); exact BK179.out) hb); replace BK180 := Aside0.mk (blk_below (g := gb180) (o := .cells #[.int .i64 a2_0, .int .i64 a2_1, .int .i64 a2_2, .int .i64 a2_3, .int .i64 a2_4] 25 (0, 0)) (by (repeat refine blk_far ?_ NB180_196.out _); exact BK180.out) hb); replace BK181 := Aside0.mk (blk_below (g := gb181) (o := .cells #[.int .i64 a3_0, .int .i64 a3_1, .int .i64 a3_2] 23 (0, 0)) (by (repeat refine blk_far ?_ NB181_196.out _); exact BK181.out) hb); replace BK189 := Aside0.mk (blk_below (g := gb189) (o := .cells #[.int .i64 t183, .int .i64 t184, .int .i64 t185, .int .i64 t186, .int .i64 t187] 25 (0, 0)) (by (repeat refine blk_far ?_ NB189_196.out _); exact BK189.out) hb); replace BK196 := Aside0.mk (blk_below (g := gb196) (o := .cells #[.int .i64 t190, .int .i64 t191, .int .i64 t192, .int .i64 t193, .int .i64 t194] 25 (0, 0)) (by (with_reducible repeat first | apply blk_drewN | apply blk_drew | apply blk_alloc); refine blk_put (cs := #[.int .i64 t190, .int .i64 t191, .int .i64 t192, .int .i64 t193, .int .i64 0]) ?_ 4 _ rfl; (with_reducible repeat first | apply blk_drewN | apply blk_drew | apply blk_alloc); refine blk_put (cs := #[.int .i64 t190, .int .i64 t191, .int .i64 t192, .int .i64 0, .int .i64 0]) ?_ 3 _ rfl; (with_reducible repeat first | apply blk_drewN | apply blk_drew | apply blk_alloc); refine blk_put (cs := #[.int .i64 t190, .int .i64 t191, .int .i64 0, .int .i64 0, .int .i64 0]) ?_ 2 _ rfl; (with_reducible repeat first | apply blk_drewN | apply blk_drew | apply blk_alloc); refine blk_put (cs := #[.int .i64 t190, .int .i64 0, .int .i64 0, .int .i64 0, .int .i64 0]) ?_ 1 _ rfl; (with_reducible repeat first | apply blk_drewN | apply blk_drew | apply blk_alloc); refine blk_put (cs := #[.int .i64 0, .int .i64 0, .int .i64 0, .int .i64 0, .int .i64 0]) ?_ 0 _ rfl; (with_reducible repeat first | apply blk_drewN | apply blk_drew | apply blk_alloc); exact BK196.out) hb); replace HB := Aside0.mk (below_step (by repeat first | exact HB.out | refine below_set ?_ GE178.out | refine below_set ?_ GE179.out | refine below_set ?_ GE180.out | refine below_set ?_ GE181.out | refine below_set ?_ GE189.out | refine below_set ?_ GE196.out) hb); (try clear hb); (try clear hb2); (try clear hk); (try clear hi)))
      go_meet
      case rel => exact ⟨_, (false), (by first | rfl | (simp; done) | (simp [*]; done)), H', ⟨by first | omega | exact Nat.le_refl _⟩, ⟨BK178.out⟩, ⟨BK179.out⟩, ⟨BK180.out⟩, ⟨BK181.out⟩, ⟨BK189.out⟩, ⟨BK196.out⟩, ⟨by repeat (first | (with_reducible first | exact HB.out | apply below_alloc | apply pw_below_drewN | apply below_drew1 | refine below_set ?_ GE178.out | refine below_set ?_ GE179.out | refine below_set ?_ GE180.out | refine below_set ?_ GE181.out | refine below_set ?_ GE189.out | refine below_set ?_ GE196.out) | exact HB.out)⟩⟩
  case rest =>
   clear HC9
   (try clear c1); (try clear c2); (try clear p2); (try clear c3); (try clear c4); (try clear c5); (try clear c6); (try clear c7); (try clear c8); (try clear c9); (try clear c10); (try clear c15); (try clear c16); (try clear c17); (try clear c19); (try clear c20); (try clear c24); (try clear c25); (try clear c26); (try clear c27); (try clear c33); (try clear c34); (try clear c35); (try clear c36); (try clear c37); (try clear c39); (try clear c39b0); (try clear c40); (try clear c40b0); (try clear c40b1); (try clear c40b2); (try clear c42); (try clear c44); (try clear c46); (try clear c47); (try clear c48); (try clear c49); (try clear c50); (try clear c52); (try clear c53); (try clear c54); (try clear c55); (try clear c57); (try clear c58); (try clear c59); (try clear c62); (try clear c63); (try clear c67); (try clear c71); (try clear c72); (try clear c73); (try clear c74); (try clear c75); (try clear c77); (try clear c78); (try clear c79); (try clear c80); (try clear c82); (try clear c83); (try clear c84); (try clear c87); (try clear c88); (try clear c92); (try clear c93); (try clear c94); (try clear c95); (try clear c96); (try clear c98); (try clear c99); (try clear c100); (try clear c101); (try clear c103); (try clear c104); (try clear c105); (try clear hcz102_0); (try clear hcz102_1); (try clear hcz102_2); (try clear hcz102_3); (try clear hcz102_4); (try clear hcz106_0); (try clear hcz106_1); (try clear hcz106_2); (try clear hcz18_0); (try clear hcz18_1); (try clear hcz18_2); (try clear hcz18_3); (try clear hcz18_4); (try clear hcz21_0); (try clear hcz21_1); (try clear hcz21_2); (try clear hcz21_3); (try clear hcz21_4); (try clear hcz28_0); (try clear hcz28_1); (try clear hcz28_2); (try clear hcz28_3); (try clear hcz28_4); (try clear hcz29_0); (try clear hcz29_1); (try clear hcz29_2); (try clear hcz29_3); (try clear hcz29_4); (try clear hcz30_0); (try clear hcz30_1); (try clear hcz30_2); (try clear hcz30_3); (try clear hcz30_4); (try clear hcz38_0); (try clear hcz38_1); (try clear hcz38_2); (try clear hcz38_3); (try clear hcz38_4); (try clear hcz51_0); (try clear hcz51_1); (try clear hcz51_2); (try clear hcz51_3); (try clear hcz51_4); (try clear hcz56_0); (try clear hcz56_1); (try clear hcz56_2); (try clear hcz56_3); (try clear hcz56_4); (try clear hcz60_0); (try clear hcz60_1); (try clear hcz60_2); (try clear hcz64_0); (try clear hcz64_1); (try clear hcz64_2); (try clear hcz64_3); (try clear hcz64_4); (try clear hcz65_0); (try clear hcz65_1); (try clear hcz65_2); (try clear hcz68_0); (try clear hcz68_1); (try clear hcz68_2); (try clear hcz68_3); (try clear hcz68_4); (try clear hcz69_0); (try clear hcz69_1); (try clear hcz69_2); (try clear hcz76_0); (try clear hcz76_1); (try clear hcz76_2); (try clear hcz76_3); (try clear hcz76_4); (try clear hcz81_0); (try clear hcz81_1); (try clear hcz81_2); (try clear hcz81_3); (try clear hcz81_4); (try clear hcz85_0); (try clear hcz85_1); (try clear hcz85_2); (try clear hcz89_0); (try clear hcz89_1); (try clear hcz89_2); (try clear hcz89_3); (try clear hcz89_4); (try clear hcz90_0); (try clear hcz90_1); (try clear hcz90_2); (try clear hcz97_0); (try clear hcz97_1); (try clear hcz97_2); (try clear hcz97_3); (try clear hcz97_4); (try clear hfz102_0); (try clear hfz102_1); (try clear hfz102_2); (try clear hfz102_3); (try clear hfz102_4); (try clear hfz106_0); (try clear hfz106_1); (try clear hfz106_2); (try clear hfz18_0); (try clear hfz18_1); (try clear hfz18_2); (try clear hfz18_3); (try clear hfz18_4); (try clear hfz21_0); (try clear hfz21_1); (try clear hfz21_2); (try clear hfz21_3); (try clear hfz21_4); (try clear hfz28_0); (try clear hfz28_1); (try clear hfz28_2); (try clear hfz28_3); (try clear hfz28_4); (try clear hfz29_0); (try clear hfz29_1); (try clear hfz29_2); (try clear hfz29_3); (try clear hfz29_4); (try clear hfz30_0); (try clear hfz30_1); (try clear hfz30_2); (try clear hfz30_3); (try clear hfz30_4); (try clear hfz38_0); (try clear hfz38_1); (try clear hfz38_2); (try clear hfz38_3); (try clear hfz38_4); (try clear hfz51_0); (try clear hfz51_1); (try clear hfz51_2); (try clear hfz51_3); (try clear hfz51_4); (try clear hfz56_0); (try clear hfz56_1); (try clear hfz56_2); (try clear hfz56_3); (try clear hfz56_4); (try clear hfz60_0); (try clear hfz60_1); (try clear hfz60_2); (try clear hfz64_0); (try clear hfz64_1); (try clear hfz64_2); (try clear hfz64_3); (try clear hfz64_4); (try clear hfz65_0); (try clear hfz65_1); (try clear hfz65_2); (try clear hfz68_0); (try clear hfz68_1); (try clear hfz68_2); (try clear hfz68_3); (try clear hfz68_4); (try clear hfz69_0); (try clear hfz69_1); (try clear hfz69_2); (try clear hfz76_0); (try clear hfz76_1); (try clear hfz76_2); (try clear hfz76_3); (try clear hfz76_4); (try clear hfz81_0); (try clear hfz81_1); (try clear hfz81_2); (try clear hfz81_3); (try clear hfz81_4); (try clear hfz85_0); (try clear hfz85_1); (try clear hfz85_2); (try clear hfz89_0); (try clear hfz89_1); (try clear hfz89_2); (try clear hfz89_3); (try clear hfz89_4); (try clear hfz90_0); (try clear hfz90_1); (try clear hfz90_2); (try clear hfz97_0); (try clear hfz97_1); (try clear hfz97_2); (try clear hfz97_3); (try clear hfz97_4)
   obtain ⟨kq, x59_8, rfl, HA, HJ8, BK178, BK179, BK180, BK181, BK189, BK196, HB⟩ := hcut
   cases kq with
   | zero => exact absurd HA.out (by simp [whittlelaw3_PlaceMeets.j0])
   | succ kj8 =>
    have H := HA.out
    clear HA
    simp only [whittlelaw3_PlaceMeets.j0] at H
    by_cases c108 : x59_8 = true
    ·
     subst c108
     have H1 : (some false) = some r := by rw [if_pos rfl] at H; exact H
     clear H
     have H := H1
     clear H1
     exact Bool.noConfusion ((Option.some.inj H).trans hr_.out)
    ·
     replace c108 := Bool.eq_false_iff.mpr c108
     subst c108
     have H1 : (if t188 = true then ((place_Has.f t183 t184 t185 t186 t187 a3_0 a3_1 a3_2).bind fun t200 => ((place_Has.f a0_0 a0_1 a0_2 a0_3 a0_4 a3_0 a3_1 a3_2).bind fun t201 => (if t201 = true then ((place_Has.f a1_0 a1_1 a1_2 a1_3 a1_4 a3_0 a3_1 a3_2).bind fun t202 => (if (t200 != t202) = true then (whittlelaw3_PlaceMeets.j1 kj8 t188 true a0_0 a0_1 a0_2 a0_3 a0_4 a1_0 a1_1 a1_2 a1_3 a1_4 a2_0 a2_1 a2_2 a2_3 a2_4 t183 t184 t185 t186 t187) else (whittlelaw3_PlaceMeets.j1 kj8 t188 false a0_0 a0_1 a0_2 a0_3 a0_4 a1_0 a1_1 a1_2 a1_3 a1_4 a2_0 a2_1 a2_2 a2_3 a2_4 t183 t184 t185 t186 t187))) else (if (t200 != false) = true then (whittlelaw3_PlaceMeets.j1 kj8 t188 true a0_0 a0_1 a0_2 a0_3 a0_4 a1_0 a1_1 a1_2 a1_3 a1_4 a2_0 a2_1 a2_2 a2_3 a2_4 t183 t184 t185 t186 t187) else (whittlelaw3_PlaceMeets.j1 kj8 t188 false a0_0 a0_1 a0_2 a0_3 a0_4 a1_0 a1_1 a1_2 a1_3 a1_4 a2_0 a2_1 a2_2 a2_3 a2_4 t183 t184 t185 t186 t187))))) else ((place_Has.f a0_0 a0_1 a0_2 a0_3 a0_4 a3_0 a3_1 a3_2).bind fun t203 => (if t203 = true then ((place_Has.f a1_0 a1_1 a1_2 a1_3 a1_4 a3_0 a3_1 a3_2).bind fun t204 => (whittlelaw3_PlaceMeets.j1 kj8 t188 t204 a0_0 a0_1 a0_2 a0_3 a0_4 a1_0 a1_1 a1_2 a1_3 a1_4 a2_0 a2_1 a2_2 a2_3 a2_4 t183 t184 t185 t186 t187)) else (whittlelaw3_PlaceMeets.j1 kj8 t188 false a0_0 a0_1 a0_2 a0_3 a0_4 a1_0 a1_1 a1_2 a1_3 a1_4 a2_0 a2_1 a2_2 a2_3 a2_4 t183 t184 t185 t186 t187)))) = some r := by rw [if_neg (show ¬ (false = true) by decide)] at H; exact H
     clear H
     have H := H1
     clear H1
     have HC109 := Aside0.mk H
     clear H
     go_upto_region 7 with (fail)
     go_cut [88] (fun v88 wc => ∃ (kq : Nat) (x88_108 : Bool), v88 = .bool x88_108 ∧ Aside0 (whittlelaw3_PlaceMeets.j1 kq t188 x88_108 a0_0 a0_1 a0_2 a0_3 a0_4 a1_0 a1_1 a1_2 a1_3 a1_4 a2_0 a2_1 a2_2 a2_3 a2_4 t183 t184 t185 t186 t187 = some r) ∧ Aside0 (kq ≤ kj8) ∧ Aside0 (wc.heap[gb178]? = some (.cells #[.int .i64 a0_0, .int .i64 a0_1, .int .i64 a0_2, .int .i64 a0_3, .int .i64 a0_4] 25 (0, 0))) ∧ Aside0 (wc.heap[gb179]? = some (.cells #[.int .i64 a1_0, .int .i64 a1_1, .int .i64 a1_2, .int .i64 a1_3, .int .i64 a1_4] 25 (0, 0))) ∧ Aside0 (wc.heap[gb180]? = some (.cells #[.int .i64 a2_0, .int .i64 a2_1, .int .i64 a2_2, .int .i64 a2_3, .int .i64 a2_4] 25 (0, 0))) ∧ Aside0 (wc.heap[gb181]? = some (.cells #[.int .i64 a3_0, .int .i64 a3_1, .int .i64 a3_2] 23 (0, 0))) ∧ Aside0 (wc.heap[gb189]? = some (.cells #[.int .i64 t183, .int .i64 t184, .int .i64 t185, .int .i64 t186, .int .i64 t187] 25 (0, 0))) ∧ Aside0 (wc.heap[gb196]? = some (.cells #[.int .i64 t190, .int .i64 t191, .int .i64 t192, .int .i64 t193, .int .i64 t194] 25 (0, 0))) ∧ Aside0 (Below w.heap.size w wc))
     case first =>
      have H := HC109.out
      clear HC109
      by_cases c110 : t188 = true
      ·
       subst c110
       have H1 : ((place_Has.f t183 t184 t185 t186 t187 a3_0 a3_1 a3_2).bind fun t200 => ((place_Has.f a0_0 a0_1 a0_2 a0_3 a0_4 a3_0 a3_1 a3_2).bind fun t201 => (if t201 = true then ((place_Has.f a1_0 a1_1 a1_2 a1_3 a1_4 a3_0 a3_1 a3_2).bind fun t202 => (if (t200 != t202) = true then (whittlelaw3_PlaceMeets.j1 kj8 true true a0_0 a0_1 a0_2 a0_3 a0_4 a1_0 a1_1 a1_2 a1_3 a1_4 a2_0 a2_1 a2_2 a2_3 a2_4 t183 t184 t185 t186 t187) else (whittlelaw3_PlaceMeets.j1 kj8 true false a0_0 a0_1 a0_2 a0_3 a0_4 a1_0 a1_1 a1_2 a1_3 a1_4 a2_0 a2_1 a2_2 a2_3 a2_4 t183 t184 t185 t186 t187))) else (if (t200 != false) = true then (whittlelaw3_PlaceMeets.j1 kj8 true true a0_0 a0_1 a0_2 a0_3 a0_4 a1_0 a1_1 a1_2 a1_3 a1_4 a2_0 a2_1 a2_2 a2_3 a2_4 t183 t184 t185 t186 t187) else (whittlelaw3_PlaceMeets.j1 kj8 true false a0_0 a0_1 a0_2 a0_3 a0_4 a1_0 a1_1 a1_2 a1_3 a1_4 a2_0 a2_1 a2_2 a2_3 a2_4 t183 t184 t185 t186 t187))))) = some r := by rw [if_pos rfl] at H; exact H
       clear H
       have H := H1
       clear H1
       replace H := Option.bind_eq_some_iff.mp H
       obtain ⟨t200, A1110, H⟩ := H
       replace H : ((place_Has.f a0_0 a0_1 a0_2 a0_3 a0_4 a3_0 a3_1 a3_2).bind fun t201 => (if t201 = true then ((place_Has.f a1_0 a1_1 a1_2 a1_3 a1_4 a3_0 a3_1 a3_2).bind fun t202 => (if (t200 != t202) = true then (whittlelaw3_PlaceMeets.j1 kj8 true true a0_0 a0_1 a0_2 a0_3 a0_4 a1_0 a1_1 a1_2 a1_3 a1_4 a2_0 a2_1 a2_2 a2_3 a2_4 t183 t184 t185 t186 t187) else (whittlelaw3_PlaceMeets.j1 kj8 true false a0_0 a0_1 a0_2 a0_3 a0_4 a1_0 a1_1 a1_2 a1_3 a1_4 a2_0 a2_1 a2_2 a2_3 a2_4 t183 t184 t185 t186 t187))) else (if (t200 != false) = true then (whittlelaw3_PlaceMeets.j1 kj8 true true a0_0 a0_1 a0_2 a0_3 a0_4 a1_0 a1_1 a1_2 a1_3 a1_4 a2_0 a2_1 a2_2 a2_3 a2_4 t183 t184 t185 t186 t187) else (whittlelaw3_PlaceMeets.j1 kj8 true false a0_0 a0_1 a0_2 a0_3 a0_4 a1_0 a1_1 a1_2 a1_3 a1_4 a2_0 a2_1 a2_2 a2_3 a2_4 t183 t184 t185 t186 t187)))) = some r := H
       have A111 := Aside0.mk A1110
       clear A1110
       replace H := Option.bind_eq_some_iff.mp H
       obtain ⟨t201, A1120, H⟩ := H
       replace H : (if t201 = true then ((place_Has.f a1_0 a1_1 a1_2 a1_3 a1_4 a3_0 a3_1 a3_2).bind fun t202 => (if (t200 != t202) = true then (whittlelaw3_PlaceMeets.j1 kj8 true true a0_0 a0_1 a0_2 a0_3 a0_4 a1_0 a1_1 a1_2 a1_3 a1_4 a2_0 a2_1 a2_2 a2_3 a2_4 t183 t184 t185 t186 t187) else (whittlelaw3_PlaceMeets.j1 kj8 true false a0_0 a0_1 a0_2 a0_3 a0_4 a1_0 a1_1 a1_2 a1_3 a1_4 a2_0 a2_1 a2_2 a2_3 a2_4 t183 t184 t185 t186 t187))) else (if (t200 != false) = true then (whittlelaw3_PlaceMeets.j1 kj8 true true a0_0 a0_1 a0_2 a0_3 a0_4 a1_0 a1_1 a1_2 a1_3 a1_4 a2_0 a2_1 a2_2 a2_3 a2_4 t183 t184 t185 t186 t187) else (whittlelaw3_PlaceMeets.j1 kj8 true false a0_0 a0_1 a0_2 a0_3 a0_4 a1_0 a1_1 a1_2 a1_3 a1_4 a2_0 a2_1 a2_2 a2_3 a2_4 t183 t184 t185 t186 t187))) = some r := H
       have A112 := Aside0.mk A1120
       clear A1120
       by_cases c113 : t201 = true
       ·
        subst c113
        have H1 : ((place_Has.f a1_0 a1_1 a1_2 a1_3 a1_4 a3_0 a3_1 a3_2).bind fun t202 => (if (t200 != t202) = true then (whittlelaw3_PlaceMeets.j1 kj8 true true a0_0 a0_1 a0_2 a0_3 a0_4 a1_0 a1_1 a1_2 a1_3 a1_4 a2_0 a2_1 a2_2 a2_3 a2_4 t183 t184 t185 t186 t187) else (whittlelaw3_PlaceMeets.j1 kj8 true false a0_0 a0_1 a0_2 a0_3 a0_4 a1_0 a1_1 a1_2 a1_3 a1_4 a2_0 a2_1 a2_2 a2_3 a2_4 t183 t184 t185 t186 t187))) = some r := by rw [if_pos rfl] at H; exact H
        clear H
        have H := H1
        clear H1
        replace H := Option.bind_eq_some_iff.mp H
        obtain ⟨t202, A1140, H⟩ := H
        replace H : (if (t200 != t202) = true then (whittlelaw3_PlaceMeets.j1 kj8 true true a0_0 a0_1 a0_2 a0_3 a0_4 a1_0 a1_1 a1_2 a1_3 a1_4 a2_0 a2_1 a2_2 a2_3 a2_4 t183 t184 t185 t186 t187) else (whittlelaw3_PlaceMeets.j1 kj8 true false a0_0 a0_1 a0_2 a0_3 a0_4 a1_0 a1_1 a1_2 a1_3 a1_4 a2_0 a2_1 a2_2 a2_3 a2_4 t183 t184 t185 t186 t187)) = some r := H
        have A114 := Aside0.mk A1140
        clear A1140
        by_cases c115 : (t200 != t202) = true
        ·
         rw [if_pos c115] at H
         have c115b0 : (t200 != t202) = true := c115
         (try (have c115b1 : decide (t200 = t202) = false := by simpa using c115))
         (try (have c115b2 : (t200 == t202) = false := by simpa using c115))
         (try (have c115b3 : ¬ (t200 = t202) := by simpa using c115))
         clear c115
         (first | rw [c115b0] | (simp only [i64_w, i32_w]; rw [c115b0]) | skip)
         exact absurd H (by rw [hr_.out]; cases kj8 <;> simp [whittlelaw3_PlaceMeets.j1])
        ·
         rw [if_neg c115] at H
         have c115b0 : (t200 != t202) = false := by simpa using c115
         (try (have c115b1 : decide (t200 = t202) = true := by simpa using c115))
         (try (have c115b2 : (t200 == t202) = true := by simpa using c115))
         clear c115
         (first | rw [c115b0] | (simp only [i64_w, i32_w]; rw [c115b0]) | skip)
         have H' := Aside0.mk H
         clear H
         try go_wp2
         have n0_ := Aside0.mk (blk_drew BK178.out)
         have n1_ := Aside0.mk (blk_drew BK179.out)
         have n2_ := Aside0.mk (blk_drew BK180.out)
         have n3_ := Aside0.mk (blk_drew BK181.out)
         have n4_ := Aside0.mk (blk_drew BK189.out)
         have n5_ := Aside0.mk (blk_drew BK196.out)
         have n6_ := Aside0.mk (below_drew1 HB.out)
         clear BK178
         clear BK179
         clear BK180
         clear BK181
         clear BK189
         clear BK196
         clear HB
         have BK178 := n0_
         have BK179 := n1_
         have BK180 := n2_
         have BK181 := n3_
         have BK189 := n4_
         have BK196 := n5_
         have HB := n6_
         clear n0_ n1_ n2_ n3_ n4_ n5_ n6_
         refine start_ (n := 29) (S := fun w' => w'.cell? ⟨gb189, 0, none⟩ = some (.int .i64 t183) ∧ w'.cell? ⟨gb189, 1, none⟩ = some (.int .i64 t184) ∧ w'.cell? ⟨gb189, 2, none⟩ = some (.int .i64 t185) ∧ w'.cell? ⟨gb189, 3, none⟩ = some (.int .i64 t186) ∧ w'.cell? ⟨gb189, 4, none⟩ = some (.int .i64 t187) ∧ w'.cell? ⟨gb181, 0, none⟩ = some (.int .i64 a3_0) ∧ w'.cell? ⟨gb181, 1, none⟩ = some (.int .i64 a3_1) ∧ w'.cell? ⟨gb181, 2, none⟩ = some (.int .i64 a3_2) ∧ w'.cell? ⟨gb178, 0, none⟩ = some (.int .i64 a0_0) ∧ w'.cell? ⟨gb178, 1, none⟩ = some (.int .i64 a0_1) ∧ w'.cell? ⟨gb178, 2, none⟩ = some (.int .i64 a0_2) ∧ w'.cell? ⟨gb178, 3, none⟩ = some (.int .i64 a0_3) ∧ w'.cell? ⟨gb178, 4, none⟩ = some (.int .i64 a0_4) ∧ w'.cell? ⟨gb179, 0, none⟩ = some (.int .i64 a1_0) ∧ w'.cell? ⟨gb179, 1, none⟩ = some (.int .i64 a1_1) ∧ w'.cell? ⟨gb179, 2, none⟩ = some (.int .i64 a1_2) ∧ w'.cell? ⟨gb179, 3, none⟩ = some (.int .i64 a1_3) ∧ w'.cell? ⟨gb179, 4, none⟩ = some (.int .i64 a1_4)) (ds := []) #[false, false, false, false, false, false, false, false, false, false, false, false, false, false, false, false, false, false, false, false, false, false, false, false, false, false, false, false, false] (by kernel_rfl) rfl rfl ⟨(blk_cell BK189.out 0).trans rfl, (blk_cell BK189.out 1).trans rfl, (blk_cell BK189.out 2).trans rfl, (blk_cell BK189.out 3).trans rfl, (blk_cell BK189.out 4).trans rfl, (blk_cell BK181.out 0).trans rfl, (blk_cell BK181.out 1).trans rfl, (blk_cell BK181.out 2).trans rfl, (blk_cell BK178.out 0).trans rfl, (blk_cell BK178.out 1).trans rfl, (blk_cell BK178.out 2).trans rfl, (blk_cell BK178.out 3).trans rfl, (blk_cell BK178.out 4).trans rfl, (blk_cell BK179.out 0).trans rfl, (blk_cell BK179.out 1).trans rfl, (blk_cell BK179.out 2).trans rfl, (blk_cell BK179.out 3).trans rfl, (blk_cell BK179.out 4).trans rfl⟩ (fun hHeld => ?_); refine with_tabW whittlelaw3_PlaceMeets.tab7 whittlelaw3_PlaceMeets.bits7 (fun HT_ HW_ => ?_)
         generalize wc.drew = w116 at BK178 BK179 BK180 BK181 BK189 BK196 HB hHeld ⊢
         refine pure_ (i := 0) (N := some 60) (v := ?_) (a' := ?_) #[true, false, false, false, false, false, false, false, false, false, false, false, false, false, false, false, false, false, false, false, false, false, false, false, false, false, false, false, false] rfl rfl (any_of HT_.out (by kernel_rfl)) (fun _ _ _ h => h) (Or.inl ⟨by rfl, ?_⟩) ?_ ?_; rotate_left; (· intro w'; go_simp; with_reducible rfl)
         rotate_left; (· simp only [Act.put, List.setIfInBounds_toArray, List.set_cons_zero, List.set_cons_succ, i64_w, i32_w]; rfl)
         refine pure_ (i := 1) (N := some 61) (v := ?_) (a' := ?_) #[true, true, false, false, false, false, false, false, false, false, false, false, false, false, false, false, false, false, false, false, false, false, false, false, false, false, false, false, false] rfl rfl (any_of HT_.out (by kernel_rfl)) (fun _ _ _ h => h) (Or.inl ⟨by rfl, ?_⟩) ?_ ?_; rotate_left; (· intro w'; go_simp; with_reducible rfl)
         rotate_left; (· simp only [Act.put, List.setIfInBounds_toArray, List.set_cons_zero, List.set_cons_succ, i64_w, i32_w]; rfl)
         refine take_ (i := 2) (N := some 62) (v := ?_) (a' := ?_) #[true, true, true, false, false, false, false, false, false, false, false, false, false, false, false, false, false, false, false, false, false, false, false, false, false, false, false, false, false] rfl rfl (take_ofW HT_.out HW_.out (by kernel_rfl)) (fun _ _ _ h => h) (Or.inl ⟨by rfl, ?_⟩) hHeld ?_ ?_
         rotate_left
         ·
          rintro w' ⟨s0, s1, s2, s3, s4, s5, s6, s7, s8, s9, s10, s11, s12, s13, s14, s15, s16, s17⟩
          go_simp
          with_reducible rfl
         rotate_left; (· simp only [Act.put, List.setIfInBounds_toArray, List.set_cons_zero, List.set_cons_succ, i64_w, i32_w]; rfl)
         refine take_ (i := 3) (N := some 63) (v := ?_) (a' := ?_) #[true, true, true, true, false, false, false, false, false, false, false, false, false, false, false, false, false, false, false, false, false, false, false, false, false, false, false, false, false] rfl rfl (take_ofW HT_.out HW_.out (by kernel_rfl)) (fun _ _ _ h => h) (Or.inl ⟨by rfl, ?_⟩) hHeld ?_ ?_
         rotate_left
         ·
          rintro w' ⟨s0, s1, s2, s3, s4, s5, s6, s7, s8, s9, s10, s11, s12, s13, s14, s15, s16, s17⟩
          go_simp
          with_reducible rfl
         rotate_left; (· simp only [Act.put, List.setIfInBounds_toArray, List.set_cons_zero, List.set_cons_succ, i64_w, i32_w]; rfl)
         refine take_ (i := 5) (N := some 65) (v := ?_) (a' := ?_) #[true, true, true, true, false, true, false, false, false, false, false, false, false, false, false, false, false, false, false, false, false, false, false, false, false, false, false, false, false] rfl rfl (take_ofW HT_.out HW_.out (by kernel_rfl)) (fun _ _ _ h => h) (Or.inl ⟨by rfl, ?_⟩) hHeld ?_ ?_
         rotate_left
         ·
          rintro w' ⟨s0, s1, s2, s3, s4, s5, s6, s7, s8, s9, s10, s11, s12, s13, s14, s15, s16, s17⟩
          go_simp
          with_reducible rfl
         rotate_left; (· simp only [Act.put, List.setIfInBounds_toArray, List.set_cons_zero, List.set_cons_succ, i64_w, i32_w]; rfl)
         refine take_ (i := 6) (N := some 66) (v := ?_) (a' := ?_) #[true, true, true, true, false, true, true, false, false, false, false, false, false, false, false, false, false, false, false, false, false, false, false, false, false, false, false, false, false] rfl rfl (take_ofW HT_.out HW_.out (by kernel_rfl)) (fun _ _ _ h => h) (Or.inl ⟨by rfl, ?_⟩) hHeld ?_ ?_
         rotate_left
         ·
          rintro w' ⟨s0, s1, s2, s3, s4, s5, s6, s7, s8, s9, s10, s11, s12, s13, s14, s15, s16, s17⟩
          go_simp
          with_reducible rfl
         rotate_left; (· simp only [Act.put, List.setIfInBounds_toArray, List.set_cons_zero, List.set_cons_succ, i64_w, i32_w]; rfl)
         refine one_ (i := 4) (N := some 64) #[true, true, true, true, true, true, true, false, false, false, false, false, false, false, false, false, false, false, false, false, false, false, false, false, false, false, false, false, false] rfl rfl (one_of HT_.out (by kernel_rfl)) (by decide) (fun K hK => ?_)
         refine goes_ Tryd.func28 (by kernel_rfl) rfl #[.agg #[.int .i64 t183, .int .i64 t184, .int .i64 t185, .int .i64 t186, .int .i64 t187], .agg #[.int .i64 a3_0, .int .i64 a3_1, .int .i64 a3_2]] (by rfl) rfl rfl (by (try simp only [List.map_toArray, List.map_cons, List.map_nil]); first | done | rfl | (simp only [List.length_drop, List.length_take]; rfl)) ?_
         with_reducible refine (place_Has.calls t183 t184 t185 t186 t187 a3_0 a3_1 a3_2 t200 _ A111.out).mono ?_
         rintro e w117 ⟨rfl, hb⟩
         refine ⟨_, rfl, ?_⟩
         have n0_ := Aside0.mk (blk_below BK178.out hb)
         have n1_ := Aside0.mk (blk_below BK179.out hb)
         have n2_ := Aside0.mk (blk_below BK180.out hb)
         have n3_ := Aside0.mk (blk_below BK181.out hb)
         have n4_ := Aside0.mk (blk_below BK189.out hb)
         have n5_ := Aside0.mk (blk_below BK196.out hb)
         have n6_ := Aside0.mk (below_step (by repeat first | exact HB.out | refine below_set ?_ GE178.out | refine below_set ?_ GE179.out | refine below_set ?_ GE180.out | refine below_set ?_ GE181.out | refine below_set ?_ GE189.out | refine below_set ?_ GE196.out) hb)
         clear BK178
         clear BK179
         clear BK180
         clear BK181
         clear BK189
         clear BK196
         clear HB
         have BK178 := n0_
         have BK179 := n1_
         have BK180 := n2_
         have BK181 := n3_
         have BK189 := n4_
         have BK196 := n5_
         have HB := n6_
         clear n0_ n1_ n2_ n3_ n4_ n5_ n6_
         (try clear hb)
         (try clear hb2)
         (try clear hk)
         (try clear hi)
         refine hK.out _ _ ⟨(blk_cell BK189.out 0).trans rfl, (blk_cell BK189.out 1).trans rfl, (blk_cell BK189.out 2).trans rfl, (blk_cell BK189.out 3).trans rfl, (blk_cell BK189.out 4).trans rfl, (blk_cell BK181.out 0).trans rfl, (blk_cell BK181.out 1).trans rfl, (blk_cell BK181.out 2).trans rfl, (blk_cell BK178.out 0).trans rfl, (blk_cell BK178.out 1).trans rfl, (blk_cell BK178.out 2).trans rfl, (blk_cell BK178.out 3).trans rfl, (blk_cell BK178.out 4).trans rfl, (blk_cell BK179.out 0).trans rfl, (blk_cell BK179.out 1).trans rfl, (blk_cell BK179.out 2).trans rfl, (blk_cell BK179.out 3).trans rfl, (blk_cell BK179.out 4).trans rfl⟩ (fun hHeld => ?_)
         clear hK K
         refine norm_ (a' := ?_) ?_ ?_
         rotate_left
         ·
          show Act.put _ (some 64) _ = _
          simp only [Act.put, List.setIfInBounds_toArray, List.set_cons_zero, List.set_cons_succ, i64_w, i32_w]
          rfl
         refine one_ (i := 7) (N := some 67) #[true, true, true, true, true, true, true, true, false, false, false, false, false, false, false, false, false, false, false, false, false, false, false, false, false, false, false, false, false] rfl rfl (one_of HT_.out (by kernel_rfl)) (by decide) (fun K hK => ?_)
         refine goes_ Tryd.func28 (by kernel_rfl) rfl #[.agg #[.int .i64 a0_0, .int .i64 a0_1, .int .i64 a0_2, .int .i64 a0_3, .int .i64 a0_4], .agg #[.int .i64 a3_0, .int .i64 a3_1, .int .i64 a3_2]] (by rfl) rfl rfl (by (try simp only [List.map_toArray, List.map_cons, List.map_nil]); first | done | rfl | (simp only [List.length_drop, List.length_take]; rfl)) ?_
         with_reducible refine (place_Has.calls a0_0 a0_1 a0_2 a0_3 a0_4 a3_0 a3_1 a3_2 true _ A112.out).mono ?_
         rintro e w118 ⟨rfl, hb⟩
         refine ⟨_, rfl, ?_⟩
         have n0_ := Aside0.mk (blk_below BK178.out hb)
         have n1_ := Aside0.mk (blk_below BK179.out hb)
         have n2_ := Aside0.mk (blk_below BK180.out hb)
         have n3_ := Aside0.mk (blk_below BK181.out hb)
         have n4_ := Aside0.mk (blk_below BK189.out hb)
         have n5_ := Aside0.mk (blk_below BK196.out hb)
         have n6_ := Aside0.mk (below_step (by repeat first | exact HB.out | refine below_set ?_ GE178.out | refine below_set ?_ GE179.out | refine below_set ?_ GE180.out | refine below_set ?_ GE181.out | refine below_set ?_ GE189.out | refine below_set ?_ GE196.out) hb)
         clear BK178
         clear BK179
         clear BK180
         clear BK181
         clear BK189
         clear BK196
         clear HB
         have BK178 := n0_
         have BK179 := n1_
         have BK180 := n2_
         have BK181 := n3_
         have BK189 := n4_
         have BK196 := n5_
         have HB := n6_
         clear n0_ n1_ n2_ n3_ n4_ n5_ n6_
         (try clear hb)
         (try clear hb2)
         (try clear hk)
         (try clear hi)
         refine hK.out _ _ ⟨(blk_cell BK189.out 0).trans rfl, (blk_cell BK189.out 1).trans rfl, (blk_cell BK189.out 2).trans rfl, (blk_cell BK189.out 3).trans rfl, (blk_cell BK189.out 4).trans rfl, (blk_cell BK181.out 0).trans rfl, (blk_cell BK181.out 1).trans rfl, (blk_cell BK181.out 2).trans rfl, (blk_cell BK178.out 0).trans rfl, (blk_cell BK178.out 1).trans rfl, (blk_cell BK178.out 2).trans rfl, (blk_cell BK178.out 3).trans rfl, (blk_cell BK178.out 4).trans rfl, (blk_cell BK179.out 0).trans rfl, (blk_cell BK179.out 1).trans rfl, (blk_cell BK179.out 2).trans rfl, (blk_cell BK179.out 3).trans rfl, (blk_cell BK179.out 4).trans rfl⟩ (fun hHeld => ?_)
         clear hK K
         refine norm_ (a' := ?_) ?_ ?_
         rotate_left
         ·
          show Act.put _ (some 67) _ = _
          simp only [Act.put, List.setIfInBounds_toArray, List.set_cons_zero, List.set_cons_succ, i64_w, i32_w]
          rfl
         refine pure_ (i := 8) (N := some 68) (v := ?_) (a' := ?_) #[true, true, true, true, true, true, true, true, true, false, false, false, false, false, false, false, false, false, false, false, false, false, false, false, false, false, false, false, false] rfl rfl (any_of HT_.out (by kernel_rfl)) (fun _ _ _ h => h) (Or.inl ⟨by rfl, ?_⟩) ?_ ?_; rotate_left; (· intro w'; go_simp; with_reducible rfl)
         rotate_left; (· simp only [Act.put, List.setIfInBounds_toArray, List.set_cons_zero, List.set_cons_succ, i64_w, i32_w]; rfl)
         refine take_ (i := 9) (N := some 69) (v := ?_) (a' := ?_) #[true, true, true, true, true, true, true, true, true, true, false, false, false, false, false, false, false, false, false, false, false, false, false, false, false, false, false, false, false] rfl rfl (take_ofW HT_.out HW_.out (by kernel_rfl)) (fun _ _ _ h => h) (Or.inl ⟨by rfl, ?_⟩) hHeld ?_ ?_
         rotate_left
         ·
          rintro w' ⟨s0, s1, s2, s3, s4, s5, s6, s7, s8, s9, s10, s11, s12, s13, s14, s15, s16, s17⟩
          go_simp
          with_reducible rfl
         rotate_left; (· simp only [Act.put, List.setIfInBounds_toArray, List.set_cons_zero, List.set_cons_succ, i64_w, i32_w]; rfl)
         refine take_ (i := 10) (N := some 70) (v := ?_) (a' := ?_) #[true, true, true, true, true, true, true, true, true, true, true, false, false, false, false, false, false, false, false, false, false, false, false, false, false, false, false, false, false] rfl rfl (take_ofW HT_.out HW_.out (by kernel_rfl)) (fun _ _ _ h => h) (Or.inl ⟨by rfl, ?_⟩) hHeld ?_ ?_
         rotate_left
         ·
          rintro w' ⟨s0, s1, s2, s3, s4, s5, s6, s7, s8, s9, s10, s11, s12, s13, s14, s15, s16, s17⟩
          go_simp
          with_reducible rfl
         rotate_left; (· simp only [Act.put, List.setIfInBounds_toArray, List.set_cons_zero, List.set_cons_succ, i64_w, i32_w]; rfl)
         refine one_ (i := 11) (N := some 71) #[true, true, true, true, true, true, true, true, true, true, true, true, false, false, false, false, false, false, false, false, false, false, false, false, false, false, false, false, false] rfl rfl (one_of HT_.out (by kernel_rfl)) (by decide) (fun K hK => ?_)
         refine goes_ Tryd.func28 (by kernel_rfl) rfl #[.agg #[.int .i64 a1_0, .int .i64 a1_1, .int .i64 a1_2, .int .i64 a1_3, .int .i64 a1_4], .agg #[.int .i64 a3_0, .int .i64 a3_1, .int .i64 a3_2]] (by rfl) rfl rfl (by (try simp only [List.map_toArray, List.map_cons, List.map_nil]); first | done | rfl | (simp only [List.length_drop, List.length_take]; rfl)) ?_
         with_reducible refine (place_Has.calls a1_0 a1_1 a1_2 a1_3 a1_4 a3_0 a3_1 a3_2 t202 _ A114.out).mono ?_
         rintro e w119 ⟨rfl, hb⟩
         refine ⟨_, rfl, ?_⟩
         have n0_ := Aside0.mk (blk_below BK178.out hb)
         have n1_ := Aside0.mk (blk_below BK179.out hb)
         have n2_ := Aside0.mk (blk_below BK180.out hb)
         have n3_ := Aside0.mk (blk_below BK181.out hb)
         have n4_ := Aside0.mk (blk_below BK189.out hb)
         have n5_ := Aside0.mk (blk_below BK196.out hb)
         have n6_ := Aside0.mk (below_step (by repeat first | exact HB.out | refine below_set ?_ GE178.out | refine below_set ?_ GE179.out | refine below_set ?_ GE180.out | refine below_set ?_ GE181.out | refine below_set ?_ GE189.out | refine below_set ?_ GE196.out) hb)
         clear BK178
         clear BK179
         clear BK180
         clear BK181
         clear BK189
         clear BK196
         clear HB
         have BK178 := n0_
         have BK179 := n1_
         have BK180 := n2_
         have BK181 := n3_
         have BK189 := n4_
         have BK196 := n5_
         have HB := n6_
         clear n0_ n1_ n2_ n3_ n4_ n5_ n6_
         (try clear hb)
         (try clear hb2)
         (try clear hk)
         (try clear hi)
         refine hK.out _ _ ⟨(blk_cell BK189.out 0).trans rfl, (blk_cell BK189.out 1).trans rfl, (blk_cell BK189.out 2).trans rfl, (blk_cell BK189.out 3).trans rfl, (blk_cell BK189.out 4).trans rfl, (blk_cell BK181.out 0).trans rfl, (blk_cell BK181.out 1).trans rfl, (blk_cell BK181.out 2).trans rfl, (blk_cell BK178.out 0).trans rfl, (blk_cell BK178.out 1).trans rfl, (blk_cell BK178.out 2).trans rfl, (blk_cell BK178.out 3).trans rfl, (blk_cell BK178.out 4).trans rfl, (blk_cell BK179.out 0).trans rfl, (blk_cell BK179.out 1).trans rfl, (blk_cell BK179.out 2).trans rfl, (blk_cell BK179.out 3).trans rfl, (blk_cell BK179.out 4).trans rfl⟩ (fun hHeld => ?_)
         clear hK K
         refine norm_ (a' := ?_) ?_ ?_
         rotate_left
         ·
          show Act.put _ (some 71) _ = _
          simp only [Act.put, List.setIfInBounds_toArray, List.set_cons_zero, List.set_cons_succ, i64_w, i32_w]
          rfl
         refine pure_ (i := 12) (N := some 72) (v := ?_) (a' := ?_) #[true, true, true, true, true, true, true, true, true, true, true, true, true, false, false, false, false, false, false, false, false, false, false, false, false, false, false, false, false] rfl rfl (any_of HT_.out (by kernel_rfl)) (fun _ _ _ h => h) (Or.inl ⟨by rfl, ?_⟩) ?_ ?_; rotate_left; (· intro w'; go_simp; with_reducible rfl)
         rotate_left; (· simp only [Act.put, List.setIfInBounds_toArray, List.set_cons_zero, List.set_cons_succ, i64_w, i32_w]; rfl)
         refine pure_ (i := 13) (N := some 73) (v := ?_) (a' := ?_) #[true, true, true, true, true, true, true, true, true, true, true, true, true, true, false, false, false, false, false, false, false, false, false, false, false, false, false, false, false] rfl rfl (any_of HT_.out (by kernel_rfl)) (fun _ _ _ h => h) (Or.inl ⟨by rfl, ?_⟩) ?_ ?_; rotate_left; (· intro w'; go_simp; with_reducible rfl)
         rotate_left; (· simp only [Act.put, List.setIfInBounds_toArray, List.set_cons_zero, List.set_cons_succ, i64_w, i32_w]; rfl)
         refine pure_ (i := 14) (N := some 74) (v := ?_) (a' := ?_) #[true, true, true, true, true, true, true, true, true, true, true, true, true, true, true, false, false, false, false, false, false, false, false, false, false, false, false, false, false] rfl rfl (any_of HT_.out (by kernel_rfl)) (fun _ _ _ h => h) (Or.inl ⟨by rfl, ?_⟩) ?_ ?_; rotate_left; (· intro w'; go_simp; with_reducible rfl)
         rotate_left; (· simp only [Act.put, List.setIfInBounds_toArray, List.set_cons_zero, List.set_cons_succ, i64_w, i32_w]; rfl)
         refine pure_ (i := 15) (N := some 75) (v := ?_) (a' := ?_) #[true, true, true, true, true, true, true, true, true, true, true, true, true, true, true, true, false, false, false, false, false, false, false, false, false, false, false, false, false] rfl rfl (any_of HT_.out (by kernel_rfl)) (fun _ _ _ h => h) (Or.inl ⟨by rfl, ?_⟩) ?_ ?_; rotate_left; (· intro w'; go_simp; with_reducible rfl)
         rotate_left; (· simp only [Act.put, List.setIfInBounds_toArray, List.set_cons_zero, List.set_cons_succ, i64_w, i32_w]; rfl)
         refine pure_ (i := 16) (N := some 76) (v := ?_) (a' := ?_) #[true, true, true, true, true, true, true, true, true, true, true, true, true, true, true, true, true, false, false, false, false, false, false, false, false, false, false, false, false] rfl rfl (any_of HT_.out (by kernel_rfl)) (fun _ _ _ h => h) (Or.inl ⟨by rfl, ?_⟩) ?_ ?_; rotate_left; (· intro w'; go_simp; with_reducible rfl)
         rotate_left; (· simp only [Act.put, List.setIfInBounds_toArray, List.set_cons_zero, List.set_cons_succ, i64_w, i32_w]; rfl)
         refine pure_ (i := 17) (N := some 77) (v := ?_) (a' := ?_) #[true, true, true, true, true, true, true, true, true, true, true, true, true, true, true, true, true, true, false, false, false, false, false, false, false, false, false, false, false] rfl rfl (any_of HT_.out (by kernel_rfl)) (fun _ _ _ h => h) (Or.inl ⟨by rfl, ?_⟩) ?_ ?_; rotate_left; (· intro w'; go_simp; with_reducible rfl)
         rotate_left; (· simp only [Act.put, List.setIfInBounds_toArray, List.set_cons_zero, List.set_cons_succ, i64_w, i32_w]; rfl)
         refine pure_ (i := 18) (N := some 78) (v := ?_) (a' := ?_) #[true, true, true, true, true, true, true, true, true, true, true, true, true, true, true, true, true, true, true, false, false, false, false, false, false, false, false, false, false] rfl rfl (any_of HT_.out (by kernel_rfl)) (fun _ _ _ h => h) (Or.inl ⟨by rfl, ?_⟩) ?_ ?_; rotate_left; (· intro w'; go_simp; with_reducible rfl)
         rotate_left; (· simp only [Act.put, List.setIfInBounds_toArray, List.set_cons_zero, List.set_cons_succ, i64_w, i32_w]; rfl)
         refine pure_ (i := 19) (N := some 79) (v := undef) (a' := ?_) #[true, true, true, true, true, true, true, true, true, true, true, true, true, true, true, true, true, true, true, true, false, false, false, false, false, false, false, false, false] rfl rfl (any_of HT_.out (by kernel_rfl)) (fun _ _ _ h => h) (Or.inr ⟨by rfl, rfl⟩) ?_ ?_
         rotate_left; (· simp only [Act.put, List.setIfInBounds_toArray, List.set_cons_zero, List.set_cons_succ, i64_w, i32_w]; rfl)
         refine pure_ (i := 20) (N := some 80) (v := undef) (a' := ?_) #[true, true, true, true, true, true, true, true, true, true, true, true, true, true, true, true, true, true, true, true, true, false, false, false, false, false, false, false, false] rfl rfl (any_of HT_.out (by kernel_rfl)) (fun _ _ _ h => h) (Or.inr ⟨by rfl, rfl⟩) ?_ ?_
         rotate_left; (· simp only [Act.put, List.setIfInBounds_toArray, List.set_cons_zero, List.set_cons_succ, i64_w, i32_w]; rfl)
         refine pure_ (i := 21) (N := some 81) (v := undef) (a' := ?_) #[true, true, true, true, true, true, true, true, true, true, true, true, true, true, true, true, true, true, true, true, true, true, false, false, false, false, false, false, false] rfl rfl (any_of HT_.out (by kernel_rfl)) (fun _ _ _ h => h) (Or.inr ⟨by rfl, rfl⟩) ?_ ?_
         rotate_left; (· simp only [Act.put, List.setIfInBounds_toArray, List.set_cons_zero, List.set_cons_succ, i64_w, i32_w]; rfl)
         refine pure_ (i := 22) (N := some 82) (v := ?_) (a' := ?_) #[true, true, true, true, true, true, true, true, true, true, true, true, true, true, true, true, true, true, true, true, true, true, true, false, false, false, false, false, false] rfl rfl (any_of HT_.out (by kernel_rfl)) (fun _ _ _ h => h) (Or.inl ⟨by rfl, ?_⟩) ?_ ?_; rotate_left; (· intro w'; go_simp; with_reducible rfl)
         rotate_left; (· simp only [Act.put, List.setIfInBounds_toArray, List.set_cons_zero, List.set_cons_succ, i64_w, i32_w]; rfl)
         refine pure_ (i := 23) (N := some 83) (v := ?_) (a' := ?_) #[true, true, true, true, true, true, true, true, true, true, true, true, true, true, true, true, true, true, true, true, true, true, true, true, false, false, false, false, false] rfl rfl (any_of HT_.out (by kernel_rfl)) (fun _ _ _ h => h) (Or.inl ⟨by rfl, ?_⟩) ?_ ?_; rotate_left; (· intro w'; go_simp; with_reducible rfl)
         rotate_left; (· simp only [Act.put, List.setIfInBounds_toArray, List.set_cons_zero, List.set_cons_succ, i64_w, i32_w]; rfl)
         refine pure_ (i := 24) (N := some 84) (v := undef) (a' := ?_) #[true, true, true, true, true, true, true, true, true, true, true, true, true, true, true, true, true, true, true, true, true, true, true, true, true, false, false, false, false] rfl rfl (any_of HT_.out (by kernel_rfl)) (fun _ _ _ h => h) (Or.inr ⟨by rfl, rfl⟩) ?_ ?_
         rotate_left; (· simp only [Act.put, List.setIfInBounds_toArray, List.set_cons_zero, List.set_cons_succ, i64_w, i32_w]; rfl)
         refine pure_ (i := 25) (N := some 85) (v := undef) (a' := ?_) #[true, true, true, true, true, true, true, true, true, true, true, true, true, true, true, true, true, true, true, true, true, true, true, true, true, true, false, false, false] rfl rfl (any_of HT_.out (by kernel_rfl)) (fun _ _ _ h => h) (Or.inr ⟨by rfl, rfl⟩) ?_ ?_
         rotate_left; (· simp only [Act.put, List.setIfInBounds_toArray, List.set_cons_zero, List.set_cons_succ, i64_w, i32_w]; rfl)
         refine pure_ (i := 26) (N := some 86) (v := undef) (a' := ?_) #[true, true, true, true, true, true, true, true, true, true, true, true, true, true, true, true, true, true, true, true, true, true, true, true, true, true, true, false, false] rfl rfl (any_of HT_.out (by kernel_rfl)) (fun _ _ _ h => h) (Or.inr ⟨by rfl, rfl⟩) ?_ ?_
         rotate_left; (· simp only [Act.put, List.setIfInBounds_toArray, List.set_cons_zero, List.set_cons_succ, i64_w, i32_w]; rfl)
         refine pure_ (i := 27) (N := some 87) (v := ?_) (a' := ?_) #[true, true, true, true, true, true, true, true, true, true, true, true, true, true, true, true, true, true, true, true, true, true, true, true, true, true, true, true, false] rfl rfl (any_of HT_.out (by kernel_rfl)) (fun _ _ _ h => h) (Or.inl ⟨by rfl, ?_⟩) ?_ ?_; rotate_left; (· intro w'; go_simp; with_reducible rfl)
         rotate_left; (· simp only [Act.put, List.setIfInBounds_toArray, List.set_cons_zero, List.set_cons_succ, i64_w, i32_w]; rfl)
         refine pure_ (i := 28) (N := some 88) (v := ?_) (a' := ?_) #[true, true, true, true, true, true, true, true, true, true, true, true, true, true, true, true, true, true, true, true, true, true, true, true, true, true, true, true, true] rfl rfl (any_of HT_.out (by kernel_rfl)) (fun _ _ _ h => h) (Or.inl ⟨by rfl, ?_⟩) ?_ ?_; rotate_left; (· intro w'; go_simp; with_reducible rfl)
         rotate_left; (· simp only [Act.put, List.setIfInBounds_toArray, List.set_cons_zero, List.set_cons_succ, i64_w, i32_w]; rfl)
         refine done_ (done_of HT_.out (by kernel_rfl)) ?_
         try go_wp2
         go_meet
         case rel => exact ⟨_, (false), (by first | rfl | (simp; done) | (simp [*]; done)), H', ⟨by have := HJ8.out; first | omega | exact Nat.le_refl _⟩, ⟨BK178.out⟩, ⟨BK179.out⟩, ⟨BK180.out⟩, ⟨BK181.out⟩, ⟨BK189.out⟩, ⟨BK196.out⟩, ⟨by repeat (first | (with_reducible first | exact HB.out | apply below_alloc | apply pw_below_drewN | apply below_drew1 | refine below_set ?_ GE178.out | refine below_set ?_ GE179.out | refine below_set ?_ GE180.out | refine below_set ?_ GE181.out | refine below_set ?_ GE189.out | refine below_set ?_ GE196.out) | exact HB.out)⟩⟩
       ·
        replace c113 := Bool.eq_false_iff.mpr c113
        subst c113
        have H1 : (if (t200 != false) = true then (whittlelaw3_PlaceMeets.j1 kj8 true true a0_0 a0_1 a0_2 a0_3 a0_4 a1_0 a1_1 a1_2 a1_3 a1_4 a2_0 a2_1 a2_2 a2_3 a2_4 t183 t184 t185 t186 t187) else (whittlelaw3_PlaceMeets.j1 kj8 true false a0_0 a0_1 a0_2 a0_3 a0_4 a1_0 a1_1 a1_2 a1_3 a1_4 a2_0 a2_1 a2_2 a2_3 a2_4 t183 t184 t185 t186 t187)) = some r := by rw [if_neg (show ¬ (false = true) by decide)] at H; exact H
        clear H
        have H := H1
        clear H1
        by_cases c120 : (t200 != false) = true
        ·
         rw [if_pos c120] at H
         have c120b0 : (t200 != false) = true := c120
         (try (have c120b1 : decide (t200 = false) = false := by simpa using c120))
         (try (have c120b2 : (t200 == false) = false := by simpa using c120))
         (try (have c120b3 : ¬ (t200 = false) := by simpa using c120))
         clear c120
         exact absurd H (by rw [hr_.out]; cases kj8 <;> simp [whittlelaw3_PlaceMeets.j1])
        ·
         rw [if_neg c120] at H
         have c120b0 : (t200 != false) = false := by simpa using c120
         (try (have c120b1 : decide (t200 = false) = true := by simpa using c120))
         (try (have c120b2 : (t200 == false) = true := by simpa using c120))
         clear c120
         have H' := Aside0.mk H
         clear H
         try go_wp2
         have n0_ := Aside0.mk (blk_drew BK178.out)
         have n1_ := Aside0.mk (blk_drew BK179.out)
         have n2_ := Aside0.mk (blk_drew BK180.out)
         have n3_ := Aside0.mk (blk_drew BK181.out)
         have n4_ := Aside0.mk (blk_drew BK189.out)
         have n5_ := Aside0.mk (blk_drew BK196.out)
         have n6_ := Aside0.mk (below_drew1 HB.out)
         clear BK178
         clear BK179
         clear BK180
         clear BK181
         clear BK189
         clear BK196
         clear HB
         have BK178 := n0_
         have BK179 := n1_
         have BK180 := n2_
         have BK181 := n3_
         have BK189 := n4_
         have BK196 := n5_
         have HB := n6_
         clear n0_ n1_ n2_ n3_ n4_ n5_ n6_
         refine start_ (n := 29) (S := fun w' => w'.cell? ⟨gb189, 0, none⟩ = some (.int .i64 t183) ∧ w'.cell? ⟨gb189, 1, none⟩ = some (.int .i64 t184) ∧ w'.cell? ⟨gb189, 2, none⟩ = some (.int .i64 t185) ∧ w'.cell? ⟨gb189, 3, none⟩ = some (.int .i64 t186) ∧ w'.cell? ⟨gb189, 4, none⟩ = some (.int .i64 t187) ∧ w'.cell? ⟨gb181, 0, none⟩ = some (.int .i64 a3_0) ∧ w'.cell? ⟨gb181, 1, none⟩ = some (.int .i64 a3_1) ∧ w'.cell? ⟨gb181, 2, none⟩ = some (.int .i64 a3_2) ∧ w'.cell? ⟨gb178, 0, none⟩ = some (.int .i64 a0_0) ∧ w'.cell? ⟨gb178, 1, none⟩ = some (.int .i64 a0_1) ∧ w'.cell? ⟨gb178, 2, none⟩ = some (.int .i64 a0_2) ∧ w'.cell? ⟨gb178, 3, none⟩ = some (.int .i64 a0_3) ∧ w'.cell? ⟨gb178, 4, none⟩ = some (.int .i64 a0_4)) (ds := []) #[false, false, false, false, false, false, false, false, false, false, false, false, false, false, false, false, false, false, false, false, false, false, false, false, false, false, false, false, false] (by kernel_rfl) rfl rfl ⟨(blk_cell BK189.out 0).trans rfl, (blk_cell BK189.out 1).trans rfl, (blk_cell BK189.out 2).trans rfl, (blk_cell BK189.out 3).trans rfl, (blk_cell BK189.out 4).trans rfl, (blk_cell BK181.out 0).trans rfl, (blk_cell BK181.out 1).trans rfl, (blk_cell BK181.out 2).trans rfl, (blk_cell BK178.out 0).trans rfl, (blk_cell BK178.out 1).trans rfl, (blk_cell BK178.out 2).trans rfl, (blk_cell BK178.out 3).trans rfl, (blk_cell BK178.out 4).trans rfl⟩ (fun hHeld => ?_); refine with_tabW whittlelaw3_PlaceMeets.tab7 whittlelaw3_PlaceMeets.bits7 (fun HT_ HW_ => ?_)
         generalize wc.drew = w121 at BK178 BK179 BK180 BK181 BK189 BK196 HB hHeld ⊢
         refine pure_ (i := 0) (N := some 60) (v := ?_) (a' := ?_) #[true, false, false, false, false, false, false, false, false, false, false, false, false, false, false, false, false, false, false, false, false, false, false, false, false, false, false, false, false] rfl rfl (any_of HT_.out (by kernel_rfl)) (fun _ _ _ h => h) (Or.inl ⟨by rfl, ?_⟩) ?_ ?_; rotate_left; (· intro w'; go_simp; with_reducible rfl)
         rotate_left; (· simp only [Act.put, List.setIfInBounds_toArray, List.set_cons_zero, List.set_cons_succ, i64_w, i32_w]; rfl)
         refine pure_ (i := 1) (N := some 61) (v := ?_) (a' := ?_) #[true, true, false, false, false, false, false, false, false, false, false, false, false, false, false, false, false, false, false, false, false, false, false, false, false, false, false, false, false] rfl rfl (any_of HT_.out (by kernel_rfl)) (fun _ _ _ h => h) (Or.inl ⟨by rfl, ?_⟩) ?_ ?_; rotate_left; (· intro w'; go_simp; with_reducible rfl)
         rotate_left; (· simp only [Act.put, List.setIfInBounds_toArray, List.set_cons_zero, List.set_cons_succ, i64_w, i32_w]; rfl)
         refine take_ (i := 2) (N := some 62) (v := ?_) (a' := ?_) #[true, true, true, false, false, false, false, false, false, false, false, false, false, false, false, false, false, false, false, false, false, false, false, false, false, false, false, false, false] rfl rfl (take_ofW HT_.out HW_.out (by kernel_rfl)) (fun _ _ _ h => h) (Or.inl ⟨by rfl, ?_⟩) hHeld ?_ ?_
         rotate_left
         ·
          rintro w' ⟨s0, s1, s2, s3, s4, s5, s6, s7, s8, s9, s10, s11, s12⟩
          go_simp
          with_reducible rfl
         rotate_left; (· simp only [Act.put, List.setIfInBounds_toArray, List.set_cons_zero, List.set_cons_succ, i64_w, i32_w]; rfl)
         refine take_ (i := 3) (N := some 63) (v := ?_) (a' := ?_) #[true, true, true, true, false, false, false, false, false, false, false, false, false, false, false, false, false, false, false, false, false, false, false, false, false, false, false, false, false] rfl rfl (take_ofW HT_.out HW_.out (by kernel_rfl)) (fun _ _ _ h => h) (Or.inl ⟨by rfl, ?_⟩) hHeld ?_ ?_
         rotate_left
         ·
          rintro w' ⟨s0, s1, s2, s3, s4, s5, s6, s7, s8, s9, s10, s11, s12⟩
          go_simp
          with_reducible rfl
         rotate_left; (· simp only [Act.put, List.setIfInBounds_toArray, List.set_cons_zero, List.set_cons_succ, i64_w, i32_w]; rfl)
         refine take_ (i := 5) (N := some 65) (v := ?_) (a' := ?_) #[true, true, true, true, false, true, false, false, false, false, false, false, false, false, false, false, false, false, false, false, false, false, false, false, false, false, false, false, false] rfl rfl (take_ofW HT_.out HW_.out (by kernel_rfl)) (fun _ _ _ h => h) (Or.inl ⟨by rfl, ?_⟩) hHeld ?_ ?_
         rotate_left
         ·
          rintro w' ⟨s0, s1, s2, s3, s4, s5, s6, s7, s8, s9, s10, s11, s12⟩
          go_simp
          with_reducible rfl
         rotate_left; (· simp only [Act.put, List.setIfInBounds_toArray, List.set_cons_zero, List.set_cons_succ, i64_w, i32_w]; rfl)
         refine take_ (i := 6) (N := some 66) (v := ?_) (a' := ?_) #[true, true, true, true, false, true, true, false, false, false, false, false, false, false, false, false, false, false, false, false, false, false, false, false, false, false, false, false, false] rfl rfl (take_ofW HT_.out HW_.out (by kernel_rfl)) (fun _ _ _ h => h) (Or.inl ⟨by rfl, ?_⟩) hHeld ?_ ?_
         rotate_left
         ·
          rintro w' ⟨s0, s1, s2, s3, s4, s5, s6, s7, s8, s9, s10, s11, s12⟩
          go_simp
          with_reducible rfl
         rotate_left; (· simp only [Act.put, List.setIfInBounds_toArray, List.set_cons_zero, List.set_cons_succ, i64_w, i32_w]; rfl)
         refine one_ (i := 4) (N := some 64) #[true, true, true, true, true, true, true, false, false, false, false, false, false, false, false, false, false, false, false, false, false, false, false, false, false, false, false, false, false] rfl rfl (one_of HT_.out (by kernel_rfl)) (by decide) (fun K hK => ?_)
         refine goes_ Tryd.func28 (by kernel_rfl) rfl #[.agg #[.int .i64 t183, .int .i64 t184, .int .i64 t185, .int .i64 t186, .int .i64 t187], .agg #[.int .i64 a3_0, .int .i64 a3_1, .int .i64 a3_2]] (by rfl) rfl rfl (by (try simp only [List.map_toArray, List.map_cons, List.map_nil]); first | done | rfl | (simp only [List.length_drop, List.length_take]; rfl)) ?_
         with_reducible refine (place_Has.calls t183 t184 t185 t186 t187 a3_0 a3_1 a3_2 t200 _ A111.out).mono ?_
         rintro e w122 ⟨rfl, hb⟩
         refine ⟨_, rfl, ?_⟩
         have n0_ := Aside0.mk (blk_below BK178.out hb)
         have n1_ := Aside0.mk (blk_below BK179.out hb)
         have n2_ := Aside0.mk (blk_below BK180.out hb)
         have n3_ := Aside0.mk (blk_below BK181.out hb)
         have n4_ := Aside0.mk (blk_below BK189.out hb)
         have n5_ := Aside0.mk (blk_below BK196.out hb)
         have n6_ := Aside0.mk (below_step (by repeat first | exact HB.out | refine below_set ?_ GE178.out | refine below_set ?_ GE179.out | refine below_set ?_ GE180.out | refine below_set ?_ GE181.out | refine below_set ?_ GE189.out | refine below_set ?_ GE196.out) hb)
         clear BK178
         clear BK179
         clear BK180
         clear BK181
         clear BK189
         clear BK196
         clear HB
         have BK178 := n0_
         have BK179 := n1_
         have BK180 := n2_
         have BK181 := n3_
         have BK189 := n4_
         have BK196 := n5_
         have HB := n6_
         clear n0_ n1_ n2_ n3_ n4_ n5_ n6_
         (try clear hb)
         (try clear hb2)
         (try clear hk)
         (try clear hi)
         refine hK.out _ _ ⟨(blk_cell BK189.out 0).trans rfl, (blk_cell BK189.out 1).trans rfl, (blk_cell BK189.out 2).trans rfl, (blk_cell BK189.out 3).trans rfl, (blk_cell BK189.out 4).trans rfl, (blk_cell BK181.out 0).trans rfl, (blk_cell BK181.out 1).trans rfl, (blk_cell BK181.out 2).trans rfl, (blk_cell BK178.out 0).trans rfl, (blk_cell BK178.out 1).trans rfl, (blk_cell BK178.out 2).trans rfl, (blk_cell BK178.out 3).trans rfl, (blk_cell BK178.out 4).trans rfl⟩ (fun hHeld => ?_)
         clear hK K
         refine norm_ (a' := ?_) ?_ ?_
         rotate_left
         ·
          show Act.put _ (some 64) _ = _
          simp only [Act.put, List.setIfInBounds_toArray, List.set_cons_zero, List.set_cons_succ, i64_w, i32_w]
          rfl
         refine one_ (i := 7) (N := some 67) #[true, true, true, true, true, true, true, true, false, false, false, false, false, false, false, false, false, false, false, false, false, false, false, false, false, false, false, false, false] rfl rfl (one_of HT_.out (by kernel_rfl)) (by decide) (fun K hK => ?_)
         refine goes_ Tryd.func28 (by kernel_rfl) rfl #[.agg #[.int .i64 a0_0, .int .i64 a0_1, .int .i64 a0_2, .int .i64 a0_3, .int .i64 a0_4], .agg #[.int .i64 a3_0, .int .i64 a3_1, .int .i64 a3_2]] (by rfl) rfl rfl (by (try simp only [List.map_toArray, List.map_cons, List.map_nil]); first | done | rfl | (simp only [List.length_drop, List.length_take]; rfl)) ?_
         with_reducible refine (place_Has.calls a0_0 a0_1 a0_2 a0_3 a0_4 a3_0 a3_1 a3_2 false _ A112.out).mono ?_
         rintro e w123 ⟨rfl, hb⟩
         refine ⟨_, rfl, ?_⟩
         have n0_ := Aside0.mk (blk_below BK178.out hb)
         have n1_ := Aside0.mk (blk_below BK179.out hb)
         have n2_ := Aside0.mk (blk_below BK180.out hb)
         have n3_ := Aside0.mk (blk_below BK181.out hb)
         have n4_ := Aside0.mk (blk_below BK189.out hb)
         have n5_ := Aside0.mk (blk_below BK196.out hb)
         have n6_ := Aside0.mk (below_step (by repeat first | exact HB.out | refine below_set ?_ GE178.out | refine below_set ?_ GE179.out | refine below_set ?_ GE180.out | refine below_set ?_ GE181.out | refine below_set ?_ GE189.out | refine below_set ?_ GE196.out) hb)
         clear BK178
         clear BK179
         clear BK180
         clear BK181
         clear BK189
         clear BK196
         clear HB
         have BK178 := n0_
         have BK179 := n1_
         have BK180 := n2_
         have BK181 := n3_
         have BK189 := n4_
         have BK196 := n5_
         have HB := n6_
         clear n0_ n1_ n2_ n3_ n4_ n5_ n6_
         (try clear hb)
         (try clear hb2)
         (try clear hk)
         (try clear hi)
         refine hK.out _ _ ⟨(blk_cell BK189.out 0).trans rfl, (blk_cell BK189.out 1).trans rfl, (blk_cell BK189.out 2).trans rfl, (blk_cell BK189.out 3).trans rfl, (blk_cell BK189.out 4).trans rfl, (blk_cell BK181.out 0).trans rfl, (blk_cell BK181.out 1).trans rfl, (blk_cell BK181.out 2).trans rfl, (blk_cell BK178.out 0).trans rfl, (blk_cell BK178.out 1).trans rfl, (blk_cell BK178.out 2).trans rfl, (blk_cell BK178.out 3).trans rfl, (blk_cell BK178.out 4).trans rfl⟩ (fun hHeld => ?_)
         clear hK K
         refine norm_ (a' := ?_) ?_ ?_
         rotate_left
         ·
          show Act.put _ (some 67) _ = _
          simp only [Act.put, List.setIfInBounds_toArray, List.set_cons_zero, List.set_cons_succ, i64_w, i32_w]
          rfl
         refine pure_ (i := 8) (N := some 68) (v := ?_) (a' := ?_) #[true, true, true, true, true, true, true, true, true, false, false, false, false, false, false, false, false, false, false, false, false, false, false, false, false, false, false, false, false] rfl rfl (any_of HT_.out (by kernel_rfl)) (fun _ _ _ h => h) (Or.inl ⟨by rfl, ?_⟩) ?_ ?_; rotate_left; (· intro w'; go_simp; with_reducible rfl)
         rotate_left; (· simp only [Act.put, List.setIfInBounds_toArray, List.set_cons_zero, List.set_cons_succ, i64_w, i32_w]; rfl)
         refine pure_ (i := 9) (N := some 69) (v := undef) (a' := ?_) #[true, true, true, true, true, true, true, true, true, true, false, false, false, false, false, false, false, false, false, false, false, false, false, false, false, false, false, false, false] rfl rfl (any_of HT_.out (by kernel_rfl)) (fun _ _ _ h => h) (Or.inr ⟨by rfl, rfl⟩) ?_ ?_
         rotate_left; (· simp only [Act.put, List.setIfInBounds_toArray, List.set_cons_zero, List.set_cons_succ, i64_w, i32_w]; rfl)
         refine pure_ (i := 10) (N := some 70) (v := undef) (a' := ?_) #[true, true, true, true, true, true, true, true, true, true, true, false, false, false, false, false, false, false, false, false, false, false, false, false, false, false, false, false, false] rfl rfl (any_of HT_.out (by kernel_rfl)) (fun _ _ _ h => h) (Or.inr ⟨by rfl, rfl⟩) ?_ ?_
         rotate_left; (· simp only [Act.put, List.setIfInBounds_toArray, List.set_cons_zero, List.set_cons_succ, i64_w, i32_w]; rfl)
         refine pure_ (i := 11) (N := some 71) (v := undef) (a' := ?_) #[true, true, true, true, true, true, true, true, true, true, true, true, false, false, false, false, false, false, false, false, false, false, false, false, false, false, false, false, false] rfl rfl (any_of HT_.out (by kernel_rfl)) (fun _ _ _ h => h) (Or.inr ⟨by rfl, rfl⟩) ?_ ?_
         rotate_left; (· simp only [Act.put, List.setIfInBounds_toArray, List.set_cons_zero, List.set_cons_succ, i64_w, i32_w]; rfl)
         refine pure_ (i := 12) (N := some 72) (v := ?_) (a' := ?_) #[true, true, true, true, true, true, true, true, true, true, true, true, true, false, false, false, false, false, false, false, false, false, false, false, false, false, false, false, false] rfl rfl (any_of HT_.out (by kernel_rfl)) (fun _ _ _ h => h) (Or.inl ⟨by rfl, ?_⟩) ?_ ?_; rotate_left; (· intro w'; go_simp; with_reducible rfl)
         rotate_left; (· simp only [Act.put, List.setIfInBounds_toArray, List.set_cons_zero, List.set_cons_succ, i64_w, i32_w]; rfl)
         refine pure_ (i := 13) (N := some 73) (v := ?_) (a' := ?_) #[true, true, true, true, true, true, true, true, true, true, true, true, true, true, false, false, false, false, false, false, false, false, false, false, false, false, false, false, false] rfl rfl (any_of HT_.out (by kernel_rfl)) (fun _ _ _ h => h) (Or.inl ⟨by rfl, ?_⟩) ?_ ?_; rotate_left; (· intro w'; go_simp; with_reducible rfl)
         rotate_left; (· simp only [Act.put, List.setIfInBounds_toArray, List.set_cons_zero, List.set_cons_succ, i64_w, i32_w]; rfl)
         refine pure_ (i := 14) (N := some 74) (v := ?_) (a' := ?_) #[true, true, true, true, true, true, true, true, true, true, true, true, true, true, true, false, false, false, false, false, false, false, false, false, false, false, false, false, false] rfl rfl (any_of HT_.out (by kernel_rfl)) (fun _ _ _ h => h) (Or.inl ⟨by rfl, ?_⟩) ?_ ?_; rotate_left; (· intro w'; go_simp; with_reducible rfl)
         rotate_left; (· simp only [Act.put, List.setIfInBounds_toArray, List.set_cons_zero, List.set_cons_succ, i64_w, i32_w]; rfl)
         refine pure_ (i := 15) (N := some 75) (v := ?_) (a' := ?_) #[true, true, true, true, true, true, true, true, true, true, true, true, true, true, true, true, false, false, false, false, false, false, false, false, false, false, false, false, false] rfl rfl (any_of HT_.out (by kernel_rfl)) (fun _ _ _ h => h) (Or.inl ⟨by rfl, ?_⟩) ?_ ?_; rotate_left; (· intro w'; go_simp; with_reducible rfl)
         rotate_left; (· simp only [Act.put, List.setIfInBounds_toArray, List.set_cons_zero, List.set_cons_succ, i64_w, i32_w]; rfl)
         refine pure_ (i := 16) (N := some 76) (v := ?_) (a' := ?_) #[true, true, true, true, true, true, true, true, true, true, true, true, true, true, true, true, true, false, false, false, false, false, false, false, false, false, false, false, false] rfl rfl (any_of HT_.out (by kernel_rfl)) (fun _ _ _ h => h) (Or.inl ⟨by rfl, ?_⟩) ?_ ?_; rotate_left; (· intro w'; go_simp; with_reducible rfl)
         rotate_left; (· simp only [Act.put, List.setIfInBounds_toArray, List.set_cons_zero, List.set_cons_succ, i64_w, i32_w]; rfl)
         refine pure_ (i := 17) (N := some 77) (v := ?_) (a' := ?_) #[true, true, true, true, true, true, true, true, true, true, true, true, true, true, true, true, true, true, false, false, false, false, false, false, false, false, false, false, false] rfl rfl (any_of HT_.out (by kernel_rfl)) (fun _ _ _ h => h) (Or.inl ⟨by rfl, ?_⟩) ?_ ?_; rotate_left; (· intro w'; go_simp; with_reducible rfl)
         rotate_left; (· simp only [Act.put, List.setIfInBounds_toArray, List.set_cons_zero, List.set_cons_succ, i64_w, i32_w]; rfl)
         refine pure_ (i := 18) (N := some 78) (v := ?_) (a' := ?_) #[true, true, true, true, true, true, true, true, true, true, true, true, true, true, true, true, true, true, true, false, false, false, false, false, false, false, false, false, false] rfl rfl (any_of HT_.out (by kernel_rfl)) (fun _ _ _ h => h) (Or.inl ⟨by rfl, ?_⟩) ?_ ?_; rotate_left; (· intro w'; go_simp; with_reducible rfl)
         rotate_left; (· simp only [Act.put, List.setIfInBounds_toArray, List.set_cons_zero, List.set_cons_succ, i64_w, i32_w]; rfl)
         refine pure_ (i := 19) (N := some 79) (v := undef) (a' := ?_) #[true, true, true, true, true, true, true, true, true, true, true, true, true, true, true, true, true, true, true, true, false, false, false, false, false, false, false, false, false] rfl rfl (any_of HT_.out (by kernel_rfl)) (fun _ _ _ h => h) (Or.inr ⟨by rfl, rfl⟩) ?_ ?_
         rotate_left; (· simp only [Act.put, List.setIfInBounds_toArray, List.set_cons_zero, List.set_cons_succ, i64_w, i32_w]; rfl)
         refine pure_ (i := 20) (N := some 80) (v := undef) (a' := ?_) #[true, true, true, true, true, true, true, true, true, true, true, true, true, true, true, true, true, true, true, true, true, false, false, false, false, false, false, false, false] rfl rfl (any_of HT_.out (by kernel_rfl)) (fun _ _ _ h => h) (Or.inr ⟨by rfl, rfl⟩) ?_ ?_
         rotate_left; (· simp only [Act.put, List.setIfInBounds_toArray, List.set_cons_zero, List.set_cons_succ, i64_w, i32_w]; rfl)
         refine pure_ (i := 21) (N := some 81) (v := undef) (a' := ?_) #[true, true, true, true, true, true, true, true, true, true, true, true, true, true, true, true, true, true, true, true, true, true, false, false, false, false, false, false, false] rfl rfl (any_of HT_.out (by kernel_rfl)) (fun _ _ _ h => h) (Or.inr ⟨by rfl, rfl⟩) ?_ ?_
         rotate_left; (· simp only [Act.put, List.setIfInBounds_toArray, List.set_cons_zero, List.set_cons_succ, i64_w, i32_w]; rfl)
         refine pure_ (i := 22) (N := some 82) (v := ?_) (a' := ?_) #[true, true, true, true, true, true, true, true, true, true, true, true, true, true, true, true, true, true, true, true, true, true, true, false, false, false, false, false, false] rfl rfl (any_of HT_.out (by kernel_rfl)) (fun _ _ _ h => h) (Or.inl ⟨by rfl, ?_⟩) ?_ ?_; rotate_left; (· intro w'; go_simp; with_reducible rfl)
         rotate_left; (· simp only [Act.put, List.setIfInBounds_toArray, List.set_cons_zero, List.set_cons_succ, i64_w, i32_w]; rfl)
         refine pure_ (i := 23) (N := some 83) (v := ?_) (a' := ?_) #[true, true, true, true, true, true, true, true, true, true, true, true, true, true, true, true, true, true, true, true, true, true, true, true, false, false, false, false, false] rfl rfl (any_of HT_.out (by kernel_rfl)) (fun _ _ _ h => h) (Or.inl ⟨by rfl, ?_⟩) ?_ ?_; rotate_left; (· intro w'; go_simp; with_reducible rfl)
         rotate_left; (· simp only [Act.put, List.setIfInBounds_toArray, List.set_cons_zero, List.set_cons_succ, i64_w, i32_w]; rfl)
         refine pure_ (i := 24) (N := some 84) (v := undef) (a' := ?_) #[true, true, true, true, true, true, true, true, true, true, true, true, true, true, true, true, true, true, true, true, true, true, true, true, true, false, false, false, false] rfl rfl (any_of HT_.out (by kernel_rfl)) (fun _ _ _ h => h) (Or.inr ⟨by rfl, rfl⟩) ?_ ?_
         rotate_left; (· simp only [Act.put, List.setIfInBounds_toArray, List.set_cons_zero, List.set_cons_succ, i64_w, i32_w]; rfl)
         refine pure_ (i := 25) (N := some 85) (v := undef) (a' := ?_) #[true, true, true, true, true, true, true, true, true, true, true, true, true, true, true, true, true, true, true, true, true, true, true, true, true, true, false, false, false] rfl rfl (any_of HT_.out (by kernel_rfl)) (fun _ _ _ h => h) (Or.inr ⟨by rfl, rfl⟩) ?_ ?_
         rotate_left; (· simp only [Act.put, List.setIfInBounds_toArray, List.set_cons_zero, List.set_cons_succ, i64_w, i32_w]; rfl)
         refine pure_ (i := 26) (N := some 86) (v := undef) (a' := ?_) #[true, true, true, true, true, true, true, true, true, true, true, true, true, true, true, true, true, true, true, true, true, true, true, true, true, true, true, false, false] rfl rfl (any_of HT_.out (by kernel_rfl)) (fun _ _ _ h => h) (Or.inr ⟨by rfl, rfl⟩) ?_ ?_
         rotate_left; (· simp only [Act.put, List.setIfInBounds_toArray, List.set_cons_zero, List.set_cons_succ, i64_w, i32_w]; rfl)
         refine pure_ (i := 27) (N := some 87) (v := ?_) (a' := ?_) #[true, true, true, true, true, true, true, true, true, true, true, true, true, true, true, true, true, true, true, true, true, true, true, true, true, true, true, true, false] rfl rfl (any_of HT_.out (by kernel_rfl)) (fun _ _ _ h => h) (Or.inl ⟨by rfl, ?_⟩) ?_ ?_; rotate_left; (· intro w'; go_simp; with_reducible rfl)
         rotate_left; (· simp only [Act.put, List.setIfInBounds_toArray, List.set_cons_zero, List.set_cons_succ, i64_w, i32_w]; rfl)
         refine pure_ (i := 28) (N := some 88) (v := ?_) (a' := ?_) #[true, true, true, true, true, true, true, true, true, true, true, true, true, true, true, true, true, true, true, true, true, true, true, true, true, true, true, true, true] rfl rfl (any_of HT_.out (by kernel_rfl)) (fun _ _ _ h => h) (Or.inl ⟨by rfl, ?_⟩) ?_ ?_; rotate_left; (· intro w'; go_simp; with_reducible rfl)
         rotate_left; (· simp only [Act.put, List.setIfInBounds_toArray, List.set_cons_zero, List.set_cons_succ, i64_w, i32_w]; rfl)
         refine done_ (done_of HT_.out (by kernel_rfl)) ?_
         try go_wp2
         go_meet
         case rel => exact ⟨_, (false), (by first | rfl | (simp; done) | (simp [*]; done)), H', ⟨by have := HJ8.out; first | omega | exact Nat.le_refl _⟩, ⟨BK178.out⟩, ⟨BK179.out⟩, ⟨BK180.out⟩, ⟨BK181.out⟩, ⟨BK189.out⟩, ⟨BK196.out⟩, ⟨by repeat (first | (with_reducible first | exact HB.out | apply below_alloc | apply pw_below_drewN | apply below_drew1 | refine below_set ?_ GE178.out | refine below_set ?_ GE179.out | refine below_set ?_ GE180.out | refine below_set ?_ GE181.out | refine below_set ?_ GE189.out | refine below_set ?_ GE196.out) | exact HB.out)⟩⟩
      ·
       replace c110 := Bool.eq_false_iff.mpr c110
       subst c110
       have H1 : ((place_Has.f a0_0 a0_1 a0_2 a0_3 a0_4 a3_0 a3_1 a3_2).bind fun t203 => (if t203 = true then ((place_Has.f a1_0 a1_1 a1_2 a1_3 a1_4 a3_0 a3_1 a3_2).bind fun t204 => (whittlelaw3_PlaceMeets.j1 kj8 false t204 a0_0 a0_1 a0_2 a0_3 a0_4 a1_0 a1_1 a1_2 a1_3 a1_4 a2_0 a2_1 a2_2 a2_3 a2_4 t183 t184 t185 t186 t187)) else (whittlelaw3_PlaceMeets.j1 kj8 false false a0_0 a0_1 a0_2 a0_3 a0_4 a1_0 a1_1 a1_2 a1_3 a1_4 a2_0 a2_1 a2_2 a2_3 a2_4 t183 t184 t185 t186 t187))) = some r := by rw [if_neg (show ¬ (false = true) by decide)] at H; exact H
       clear H
       have H := H1
       clear H1
       replace H := Option.bind_eq_some_iff.mp H
       obtain ⟨t203, A1240, H⟩ := H
       replace H : (if t203 = true then ((place_Has.f a1_0 a1_1 a1_2 a1_3 a1_4 a3_0 a3_1 a3_2).bind fun t204 => (whittlelaw3_PlaceMeets.j1 kj8 false t204 a0_0 a0_1 a0_2 a0_3 a0_4 a1_0 a1_1 a1_2 a1_3 a1_4 a2_0 a2_1 a2_2 a2_3 a2_4 t183 t184 t185 t186 t187)) else (whittlelaw3_PlaceMeets.j1 kj8 false false a0_0 a0_1 a0_2 a0_3 a0_4 a1_0 a1_1 a1_2 a1_3 a1_4 a2_0 a2_1 a2_2 a2_3 a2_4 t183 t184 t185 t186 t187)) = some r := H
       have A124 := Aside0.mk A1240
       clear A1240
       by_cases c125 : t203 = true
       ·
        subst c125
        have H1 : ((place_Has.f a1_0 a1_1 a1_2 a1_3 a1_4 a3_0 a3_1 a3_2).bind fun t204 => (whittlelaw3_PlaceMeets.j1 kj8 false t204 a0_0 a0_1 a0_2 a0_3 a0_4 a1_0 a1_1 a1_2 a1_3 a1_4 a2_0 a2_1 a2_2 a2_3 a2_4 t183 t184 t185 t186 t187)) = some r := by rw [if_pos rfl] at H; exact H
        clear H
        have H := H1
        clear H1
        replace H := Option.bind_eq_some_iff.mp H
        obtain ⟨t204, A1260, H⟩ := H
        replace H : (whittlelaw3_PlaceMeets.j1 kj8 false t204 a0_0 a0_1 a0_2 a0_3 a0_4 a1_0 a1_1 a1_2 a1_3 a1_4 a2_0 a2_1 a2_2 a2_3 a2_4 t183 t184 t185 t186 t187) = some r := H
        have A126 := Aside0.mk A1260
        clear A1260
        have H' := Aside0.mk H
        clear H
        try go_wp2
        have n0_ := Aside0.mk (blk_drew BK178.out)
        have n1_ := Aside0.mk (blk_drew BK179.out)
        have n2_ := Aside0.mk (blk_drew BK180.out)
        have n3_ := Aside0.mk (blk_drew BK181.out)
        have n4_ := Aside0.mk (blk_drew BK189.out)
        have n5_ := Aside0.mk (blk_drew BK196.out)
        have n6_ := Aside0.mk (below_drew1 HB.out)
        clear BK178
        clear BK179
        clear BK180
        clear BK181
        clear BK189
        clear BK196
        clear HB
        have BK178 := n0_
        have BK179 := n1_
        have BK180 := n2_
        have BK181 := n3_
        have BK189 := n4_
        have BK196 := n5_
        have HB := n6_
        clear n0_ n1_ n2_ n3_ n4_ n5_ n6_
        refine start_ (n := 29) (S := fun w' => w'.cell? ⟨gb178, 0, none⟩ = some (.int .i64 a0_0) ∧ w'.cell? ⟨gb178, 1, none⟩ = some (.int .i64 a0_1) ∧ w'.cell? ⟨gb178, 2, none⟩ = some (.int .i64 a0_2) ∧ w'.cell? ⟨gb178, 3, none⟩ = some (.int .i64 a0_3) ∧ w'.cell? ⟨gb178, 4, none⟩ = some (.int .i64 a0_4) ∧ w'.cell? ⟨gb181, 0, none⟩ = some (.int .i64 a3_0) ∧ w'.cell? ⟨gb181, 1, none⟩ = some (.int .i64 a3_1) ∧ w'.cell? ⟨gb181, 2, none⟩ = some (.int .i64 a3_2) ∧ w'.cell? ⟨gb179, 0, none⟩ = some (.int .i64 a1_0) ∧ w'.cell? ⟨gb179, 1, none⟩ = some (.int .i64 a1_1) ∧ w'.cell? ⟨gb179, 2, none⟩ = some (.int .i64 a1_2) ∧ w'.cell? ⟨gb179, 3, none⟩ = some (.int .i64 a1_3) ∧ w'.cell? ⟨gb179, 4, none⟩ = some (.int .i64 a1_4)) (ds := []) #[false, false, false, false, false, false, false, false, false, false, false, false, false, false, false, false, false, false, false, false, false, false, false, false, false, false, false, false, false] (by kernel_rfl) rfl rfl ⟨(blk_cell BK178.out 0).trans rfl, (blk_cell BK178.out 1).trans rfl, (blk_cell BK178.out 2).trans rfl, (blk_cell BK178.out 3).trans rfl, (blk_cell BK178.out 4).trans rfl, (blk_cell BK181.out 0).trans rfl, (blk_cell BK181.out 1).trans rfl, (blk_cell BK181.out 2).trans rfl, (blk_cell BK179.out 0).trans rfl, (blk_cell BK179.out 1).trans rfl, (blk_cell BK179.out 2).trans rfl, (blk_cell BK179.out 3).trans rfl, (blk_cell BK179.out 4).trans rfl⟩ (fun hHeld => ?_); refine with_tabW whittlelaw3_PlaceMeets.tab7 whittlelaw3_PlaceMeets.bits7 (fun HT_ HW_ => ?_)
        generalize wc.drew = w127 at BK178 BK179 BK180 BK181 BK189 BK196 HB hHeld ⊢
        refine pure_ (i := 0) (N := some 60) (v := ?_) (a' := ?_) #[true, false, false, false, false, false, false, false, false, false, false, false, false, false, false, false, false, false, false, false, false, false, false, false, false, false, false, false, false] rfl rfl (any_of HT_.out (by kernel_rfl)) (fun _ _ _ h => h) (Or.inl ⟨by rfl, ?_⟩) ?_ ?_; rotate_left; (· intro w'; go_simp; with_reducible rfl)
        rotate_left; (· simp only [Act.put, List.setIfInBounds_toArray, List.set_cons_zero, List.set_cons_succ, i64_w, i32_w]; rfl)
        refine pure_ (i := 1) (N := some 61) (v := ?_) (a' := ?_) #[true, true, false, false, false, false, false, false, false, false, false, false, false, false, false, false, false, false, false, false, false, false, false, false, false, false, false, false, false] rfl rfl (any_of HT_.out (by kernel_rfl)) (fun _ _ _ h => h) (Or.inl ⟨by rfl, ?_⟩) ?_ ?_; rotate_left; (· intro w'; go_simp; with_reducible rfl)
        rotate_left; (· simp only [Act.put, List.setIfInBounds_toArray, List.set_cons_zero, List.set_cons_succ, i64_w, i32_w]; rfl)
        refine pure_ (i := 2) (N := some 62) (v := undef) (a' := ?_) #[true, true, true, false, false, false, false, false, false, false, false, false, false, false, false, false, false, false, false, false, false, false, false, false, false, false, false, false, false] rfl rfl (any_of HT_.out (by kernel_rfl)) (fun _ _ _ h => h) (Or.inr ⟨by rfl, rfl⟩) ?_ ?_
        rotate_left; (· simp only [Act.put, List.setIfInBounds_toArray, List.set_cons_zero, List.set_cons_succ, i64_w, i32_w]; rfl)
        refine pure_ (i := 3) (N := some 63) (v := undef) (a' := ?_) #[true, true, true, true, false, false, false, false, false, false, false, false, false, false, false, false, false, false, false, false, false, false, false, false, false, false, false, false, false] rfl rfl (any_of HT_.out (by kernel_rfl)) (fun _ _ _ h => h) (Or.inr ⟨by rfl, rfl⟩) ?_ ?_
        rotate_left; (· simp only [Act.put, List.setIfInBounds_toArray, List.set_cons_zero, List.set_cons_succ, i64_w, i32_w]; rfl)
        refine pure_ (i := 4) (N := some 64) (v := undef) (a' := ?_) #[true, true, true, true, true, false, false, false, false, false, false, false, false, false, false, false, false, false, false, false, false, false, false, false, false, false, false, false, false] rfl rfl (any_of HT_.out (by kernel_rfl)) (fun _ _ _ h => h) (Or.inr ⟨by rfl, rfl⟩) ?_ ?_
        rotate_left; (· simp only [Act.put, List.setIfInBounds_toArray, List.set_cons_zero, List.set_cons_succ, i64_w, i32_w]; rfl)
        refine pure_ (i := 5) (N := some 65) (v := undef) (a' := ?_) #[true, true, true, true, true, true, false, false, false, false, false, false, false, false, false, false, false, false, false, false, false, false, false, false, false, false, false, false, false] rfl rfl (any_of HT_.out (by kernel_rfl)) (fun _ _ _ h => h) (Or.inr ⟨by rfl, rfl⟩) ?_ ?_
        rotate_left; (· simp only [Act.put, List.setIfInBounds_toArray, List.set_cons_zero, List.set_cons_succ, i64_w, i32_w]; rfl)
        refine pure_ (i := 6) (N := some 66) (v := undef) (a' := ?_) #[true, true, true, true, true, true, true, false, false, false, false, false, false, false, false, false, false, false, false, false, false, false, false, false, false, false, false, false, false] rfl rfl (any_of HT_.out (by kernel_rfl)) (fun _ _ _ h => h) (Or.inr ⟨by rfl, rfl⟩) ?_ ?_
        rotate_left; (· simp only [Act.put, List.setIfInBounds_toArray, List.set_cons_zero, List.set_cons_succ, i64_w, i32_w]; rfl)
        refine pure_ (i := 7) (N := some 67) (v := undef) (a' := ?_) #[true, true, true, true, true, true, true, true, false, false, false, false, false, false, false, false, false, false, false, false, false, false, false, false, false, false, false, false, false] rfl rfl (any_of HT_.out (by kernel_rfl)) (fun _ _ _ h => h) (Or.inr ⟨by rfl, rfl⟩) ?_ ?_
        rotate_left; (· simp only [Act.put, List.setIfInBounds_toArray, List.set_cons_zero, List.set_cons_succ, i64_w, i32_w]; rfl)
        refine pure_ (i := 8) (N := some 68) (v := undef) (a' := ?_) #[true, true, true, true, true, true, true, true, true, false, false, false, false, false, false, false, false, false, false, false, false, false, false, false, false, false, false, false, false] rfl rfl (any_of HT_.out (by kernel_rfl)) (fun _ _ _ h => h) (Or.inr ⟨by rfl, rfl⟩) ?_ ?_
        rotate_left; (· simp only [Act.put, List.setIfInBounds_toArray, List.set_cons_zero, List.set_cons_succ, i64_w, i32_w]; rfl)
        refine pure_ (i := 9) (N := some 69) (v := undef) (a' := ?_) #[true, true, true, true, true, true, true, true, true, true, false, false, false, false, false, false, false, false, false, false, false, false, false, false, false, false, false, false, false] rfl rfl (any_of HT_.out (by kernel_rfl)) (fun _ _ _ h => h) (Or.inr ⟨by rfl, rfl⟩) ?_ ?_
        rotate_left; (· simp only [Act.put, List.setIfInBounds_toArray, List.set_cons_zero, List.set_cons_succ, i64_w, i32_w]; rfl)
        refine pure_ (i := 10) (N := some 70) (v := undef) (a' := ?_) #[true, true, true, true, true, true, true, true, true, true, true, false, false, false, false, false, false, false, false, false, false, false, false, false, false, false, false, false, false] rfl rfl (any_of HT_.out (by kernel_rfl)) (fun _ _ _ h => h) (Or.inr ⟨by rfl, rfl⟩) ?_ ?_
        rotate_left; (· simp only [Act.put, List.setIfInBounds_toArray, List.set_cons_zero, List.set_cons_succ, i64_w, i32_w]; rfl)
        refine pure_ (i := 11) (N := some 71) (v := undef) (a' := ?_) #[true, true, true, true, true, true, true, true, true, true, true, true, false, false, false, false, false, false, false, false, false, false, false, false, false, false, false, false, false] rfl rfl (any_of HT_.out (by kernel_rfl)) (fun _ _ _ h => h) (Or.inr ⟨by rfl, rfl⟩) ?_ ?_
        rotate_left; (· simp only [Act.put, List.setIfInBounds_toArray, List.set_cons_zero, List.set_cons_succ, i64_w, i32_w]; rfl)
        refine pure_ (i := 12) (N := some 72) (v := undef) (a' := ?_) #[true, true, true, true, true, true, true, true, true, true, true, true, true, false, false, false, false, false, false, false, false, false, false, false, false, false, false, false, false] rfl rfl (any_of HT_.out (by kernel_rfl)) (fun _ _ _ h => h) (Or.inr ⟨by rfl, rfl⟩) ?_ ?_
        rotate_left; (· simp only [Act.put, List.setIfInBounds_toArray, List.set_cons_zero, List.set_cons_succ, i64_w, i32_w]; rfl)
        refine pure_ (i := 13) (N := some 73) (v := undef) (a' := ?_) #[true, true, true, true, true, true, true, true, true, true, true, true, true, true, false, false, false, false, false, false, false, false, false, false, false, false, false, false, false] rfl rfl (any_of HT_.out (by kernel_rfl)) (fun _ _ _ h => h) (Or.inr ⟨by rfl, rfl⟩) ?_ ?_
        rotate_left; (· simp only [Act.put, List.setIfInBounds_toArray, List.set_cons_zero, List.set_cons_succ, i64_w, i32_w]; rfl)
        refine pure_ (i := 14) (N := some 74) (v := ?_) (a' := ?_) #[true, true, true, true, true, true, true, true, true, true, true, true, true, true, true, false, false, false, false, false, false, false, false, false, false, false, false, false, false] rfl rfl (any_of HT_.out (by kernel_rfl)) (fun _ _ _ h => h) (Or.inl ⟨by rfl, ?_⟩) ?_ ?_; rotate_left; (· intro w'; go_simp; with_reducible rfl)
        rotate_left; (· simp only [Act.put, List.setIfInBounds_toArray, List.set_cons_zero, List.set_cons_succ, i64_w, i32_w]; rfl)
        refine pure_ (i := 15) (N := some 75) (v := ?_) (a' := ?_) #[true, true, true, true, true, true, true, true, true, true, true, true, true, true, true, true, false, false, false, false, false, false, false, false, false, false, false, false, false] rfl rfl (any_of HT_.out (by kernel_rfl)) (fun _ _ _ h => h) (Or.inl ⟨by rfl, ?_⟩) ?_ ?_; rotate_left; (· intro w'; go_simp; with_reducible rfl)
        rotate_left; (· simp only [Act.put, List.setIfInBounds_toArray, List.set_cons_zero, List.set_cons_succ, i64_w, i32_w]; rfl)
        refine pure_ (i := 16) (N := some 76) (v := ?_) (a' := ?_) #[true, true, true, true, true, true, true, true, true, true, true, true, true, true, true, true, true, false, false, false, false, false, false, false, false, false, false, false, false] rfl rfl (any_of HT_.out (by kernel_rfl)) (fun _ _ _ h => h) (Or.inl ⟨by rfl, ?_⟩) ?_ ?_; rotate_left; (· intro w'; go_simp; with_reducible rfl)
        rotate_left; (· simp only [Act.put, List.setIfInBounds_toArray, List.set_cons_zero, List.set_cons_succ, i64_w, i32_w]; rfl)
        refine pure_ (i := 17) (N := some 77) (v := ?_) (a' := ?_) #[true, true, true, true, true, true, true, true, true, true, true, true, true, true, true, true, true, true, false, false, false, false, false, false, false, false, false, false, false] rfl rfl (any_of HT_.out (by kernel_rfl)) (fun _ _ _ h => h) (Or.inl ⟨by rfl, ?_⟩) ?_ ?_; rotate_left; (· intro w'; go_simp; with_reducible rfl)
        rotate_left; (· simp only [Act.put, List.setIfInBounds_toArray, List.set_cons_zero, List.set_cons_succ, i64_w, i32_w]; rfl)
        refine pure_ (i := 18) (N := some 78) (v := ?_) (a' := ?_) #[true, true, true, true, true, true, true, true, true, true, true, true, true, true, true, true, true, true, true, false, false, false, false, false, false, false, false, false, false] rfl rfl (any_of HT_.out (by kernel_rfl)) (fun _ _ _ h => h) (Or.inl ⟨by rfl, ?_⟩) ?_ ?_; rotate_left; (· intro w'; go_simp; with_reducible rfl)
        rotate_left; (· simp only [Act.put, List.setIfInBounds_toArray, List.set_cons_zero, List.set_cons_succ, i64_w, i32_w]; rfl)
        refine take_ (i := 19) (N := some 79) (v := ?_) (a' := ?_) #[true, true, true, true, true, true, true, true, true, true, true, true, true, true, true, true, true, true, true, true, false, false, false, false, false, false, false, false, false] rfl rfl (take_ofW HT_.out HW_.out (by kernel_rfl)) (fun _ _ _ h => h) (Or.inl ⟨by rfl, ?_⟩) hHeld ?_ ?_
        rotate_left
        ·
         rintro w' ⟨s0, s1, s2, s3, s4, s5, s6, s7, s8, s9, s10, s11, s12⟩
         go_simp
         with_reducible rfl
        rotate_left; (· simp only [Act.put, List.setIfInBounds_toArray, List.set_cons_zero, List.set_cons_succ, i64_w, i32_w]; rfl)
        refine take_ (i := 20) (N := some 80) (v := ?_) (a' := ?_) #[true, true, true, true, true, true, true, true, true, true, true, true, true, true, true, true, true, true, true, true, true, false, false, false, false, false, false, false, false] rfl rfl (take_ofW HT_.out HW_.out (by kernel_rfl)) (fun _ _ _ h => h) (Or.inl ⟨by rfl, ?_⟩) hHeld ?_ ?_
        rotate_left
        ·
         rintro w' ⟨s0, s1, s2, s3, s4, s5, s6, s7, s8, s9, s10, s11, s12⟩
         go_simp
         with_reducible rfl
        rotate_left; (· simp only [Act.put, List.setIfInBounds_toArray, List.set_cons_zero, List.set_cons_succ, i64_w, i32_w]; rfl)
        refine one_ (i := 21) (N := some 81) #[true, true, true, true, true, true, true, true, true, true, true, true, true, true, true, true, true, true, true, true, true, true, false, false, false, false, false, false, false] rfl rfl (one_of HT_.out (by kernel_rfl)) (by decide) (fun K hK => ?_)
        refine goes_ Tryd.func28 (by kernel_rfl) rfl #[.agg #[.int .i64 a0_0, .int .i64 a0_1, .int .i64 a0_2, .int .i64 a0_3, .int .i64 a0_4], .agg #[.int .i64 a3_0, .int .i64 a3_1, .int .i64 a3_2]] (by rfl) rfl rfl (by (try simp only [List.map_toArray, List.map_cons, List.map_nil]); first | done | rfl | (simp only [List.length_drop, List.length_take]; rfl)) ?_
        with_reducible refine (place_Has.calls a0_0 a0_1 a0_2 a0_3 a0_4 a3_0 a3_1 a3_2 true _ A124.out).mono ?_
        rintro e w128 ⟨rfl, hb⟩
        refine ⟨_, rfl, ?_⟩
        have n0_ := Aside0.mk (blk_below BK178.out hb)
        have n1_ := Aside0.mk (blk_below BK179.out hb)
        have n2_ := Aside0.mk (blk_below BK180.out hb)
        have n3_ := Aside0.mk (blk_below BK181.out hb)
        have n4_ := Aside0.mk (blk_below BK189.out hb)
        have n5_ := Aside0.mk (blk_below BK196.out hb)
        have n6_ := Aside0.mk (below_step (by repeat first | exact HB.out | refine below_set ?_ GE178.out | refine below_set ?_ GE179.out | refine below_set ?_ GE180.out | refine below_set ?_ GE181.out | refine below_set ?_ GE189.out | refine below_set ?_ GE196.out) hb)
        clear BK178
        clear BK179
        clear BK180
        clear BK181
        clear BK189
        clear BK196
        clear HB
        have BK178 := n0_
        have BK179 := n1_
        have BK180 := n2_
        have BK181 := n3_
        have BK189 := n4_
        have BK196 := n5_
        have HB := n6_
        clear n0_ n1_ n2_ n3_ n4_ n5_ n6_
        (try clear hb)
        (try clear hb2)
        (try clear hk)
        (try clear hi)
        refine hK.out _ _ ⟨(blk_cell BK178.out 0).trans rfl, (blk_cell BK178.out 1).trans rfl, (blk_cell BK178.out 2).trans rfl, (blk_cell BK178.out 3).trans rfl, (blk_cell BK178.out 4).trans rfl, (blk_cell BK181.out 0).trans rfl, (blk_cell BK181.out 1).trans rfl, (blk_cell BK181.out 2).trans rfl, (blk_cell BK179.out 0).trans rfl, (blk_cell BK179.out 1).trans rfl, (blk_cell BK179.out 2).trans rfl, (blk_cell BK179.out 3).trans rfl, (blk_cell BK179.out 4).trans rfl⟩ (fun hHeld => ?_)
        clear hK K
        refine norm_ (a' := ?_) ?_ ?_
        rotate_left
        ·
         show Act.put _ (some 81) _ = _
         simp only [Act.put, List.setIfInBounds_toArray, List.set_cons_zero, List.set_cons_succ, i64_w, i32_w]
         rfl
        refine pure_ (i := 22) (N := some 82) (v := ?_) (a' := ?_) #[true, true, true, true, true, true, true, true, true, true, true, true, true, true, true, true, true, true, true, true, true, true, true, false, false, false, false, false, false] rfl rfl (any_of HT_.out (by kernel_rfl)) (fun _ _ _ h => h) (Or.inl ⟨by rfl, ?_⟩) ?_ ?_; rotate_left; (· intro w'; go_simp; with_reducible rfl)
        rotate_left; (· simp only [Act.put, List.setIfInBounds_toArray, List.set_cons_zero, List.set_cons_succ, i64_w, i32_w]; rfl)
        refine pure_ (i := 23) (N := some 83) (v := ?_) (a' := ?_) #[true, true, true, true, true, true, true, true, true, true, true, true, true, true, true, true, true, true, true, true, true, true, true, true, false, false, false, false, false] rfl rfl (any_of HT_.out (by kernel_rfl)) (fun _ _ _ h => h) (Or.inl ⟨by rfl, ?_⟩) ?_ ?_; rotate_left; (· intro w'; go_simp; with_reducible rfl)
        rotate_left; (· simp only [Act.put, List.setIfInBounds_toArray, List.set_cons_zero, List.set_cons_succ, i64_w, i32_w]; rfl)
        refine take_ (i := 24) (N := some 84) (v := ?_) (a' := ?_) #[true, true, true, true, true, true, true, true, true, true, true, true, true, true, true, true, true, true, true, true, true, true, true, true, true, false, false, false, false] rfl rfl (take_ofW HT_.out HW_.out (by kernel_rfl)) (fun _ _ _ h => h) (Or.inl ⟨by rfl, ?_⟩) hHeld ?_ ?_
        rotate_left
        ·
         rintro w' ⟨s0, s1, s2, s3, s4, s5, s6, s7, s8, s9, s10, s11, s12⟩
         go_simp
         with_reducible rfl
        rotate_left; (· simp only [Act.put, List.setIfInBounds_toArray, List.set_cons_zero, List.set_cons_succ, i64_w, i32_w]; rfl)
        refine take_ (i := 25) (N := some 85) (v := ?_) (a' := ?_) #[true, true, true, true, true, true, true, true, true, true, true, true, true, true, true, true, true, true, true, true, true, true, true, true, true, true, false, false, false] rfl rfl (take_ofW HT_.out HW_.out (by kernel_rfl)) (fun _ _ _ h => h) (Or.inl ⟨by rfl, ?_⟩) hHeld ?_ ?_
        rotate_left
        ·
         rintro w' ⟨s0, s1, s2, s3, s4, s5, s6, s7, s8, s9, s10, s11, s12⟩
         go_simp
         with_reducible rfl
        rotate_left; (· simp only [Act.put, List.setIfInBounds_toArray, List.set_cons_zero, List.set_cons_succ, i64_w, i32_w]; rfl)
        refine one_ (i := 26) (N := some 86) #[true, true, true, true, true, true, true, true, true, true, true, true, true, true, true, true, true, true, true, true, true, true, true, true, true, true, true, false, false] rfl rfl (one_of HT_.out (by kernel_rfl)) (by decide) (fun K hK => ?_)
        refine goes_ Tryd.func28 (by kernel_rfl) rfl #[.agg #[.int .i64 a1_0, .int .i64 a1_1, .int .i64 a1_2, .int .i64 a1_3, .int .i64 a1_4], .agg #[.int .i64 a3_0, .int .i64 a3_1, .int .i64 a3_2]] (by rfl) rfl rfl (by (try simp only [List.map_toArray, List.map_cons, List.map_nil]); first | done | rfl | (simp only [List.length_drop, List.length_take]; rfl)) ?_
        with_reducible refine (place_Has.calls a1_0 a1_1 a1_2 a1_3 a1_4 a3_0 a3_1 a3_2 t204 _ A126.out).mono ?_
        rintro e w129 ⟨rfl, hb⟩
        refine ⟨_, rfl, ?_⟩
        have n0_ := Aside0.mk (blk_below BK178.out hb)
        have n1_ := Aside0.mk (blk_below BK179.out hb)
        have n2_ := Aside0.mk (blk_below BK180.out hb)
        have n3_ := Aside0.mk (blk_below BK181.out hb)
        have n4_ := Aside0.mk (blk_below BK189.out hb)
        have n5_ := Aside0.mk (blk_below BK196.out hb)
        have n6_ := Aside0.mk (below_step (by repeat first | exact HB.out | refine below_set ?_ GE178.out | refine below_set ?_ GE179.out | refine below_set ?_ GE180.out | refine below_set ?_ GE181.out | refine below_set ?_ GE189.out | refine below_set ?_ GE196.out) hb)
        clear BK178
        clear BK179
        clear BK180
        clear BK181
        clear BK189
        clear BK196
        clear HB
        have BK178 := n0_
        have BK179 := n1_
        have BK180 := n2_
        have BK181 := n3_
        have BK189 := n4_
        have BK196 := n5_
        have HB := n6_
        clear n0_ n1_ n2_ n3_ n4_ n5_ n6_
        (try clear hb)
        (try clear hb2)
        (try clear hk)
        (try clear hi)
        refine hK.out _ _ ⟨(blk_cell BK178.out 0).trans rfl, (blk_cell BK178.out 1).trans rfl, (blk_cell BK178.out 2).trans rfl, (blk_cell BK178.out 3).trans rfl, (blk_cell BK178.out 4).trans rfl, (blk_cell BK181.out 0).trans rfl, (blk_cell BK181.out 1).trans rfl, (blk_cell BK181.out 2).trans rfl, (blk_cell BK179.out 0).trans rfl, (blk_cell BK179.out 1).trans rfl, (blk_cell BK179.out 2).trans rfl, (blk_cell BK179.out 3).trans rfl, (blk_cell BK179.out 4).trans rfl⟩ (fun hHeld => ?_)
        clear hK K
        refine norm_ (a' := ?_) ?_ ?_
        rotate_left
        ·
         show Act.put _ (some 86) _ = _
         simp only [Act.put, List.setIfInBounds_toArray, List.set_cons_zero, List.set_cons_succ, i64_w, i32_w]
         rfl
        refine pure_ (i := 27) (N := some 87) (v := ?_) (a' := ?_) #[true, true, true, true, true, true, true, true, true, true, true, true, true, true, true, true, true, true, true, true, true, true, true, true, true, true, true, true, false] rfl rfl (any_of HT_.out (by kernel_rfl)) (fun _ _ _ h => h) (Or.inl ⟨by rfl, ?_⟩) ?_ ?_; rotate_left; (· intro w'; go_simp; with_reducible rfl)
        rotate_left; (· simp only [Act.put, List.setIfInBounds_toArray, List.set_cons_zero, List.set_cons_succ, i64_w, i32_w]; rfl)
        refine pure_ (i := 28) (N := some 88) (v := ?_) (a' := ?_) #[true, true, true, true, true, true, true, true, true, true, true, true, true, true, true, true, true, true, true, true, true, true, true, true, true, true, true, true, true] rfl rfl (any_of HT_.out (by kernel_rfl)) (fun _ _ _ h => h) (Or.inl ⟨by rfl, ?_⟩) ?_ ?_; rotate_left; (· intro w'; go_simp; with_reducible rfl)
        rotate_left; (· simp only [Act.put, List.setIfInBounds_toArray, List.set_cons_zero, List.set_cons_succ, i64_w, i32_w]; rfl)
        refine done_ (done_of HT_.out (by kernel_rfl)) ?_
        try go_wp2
        go_meet
        case rel => exact ⟨_, (t204), (by first | rfl | (simp; done) | (simp [*]; done)), H', ⟨by have := HJ8.out; first | omega | exact Nat.le_refl _⟩, ⟨BK178.out⟩, ⟨BK179.out⟩, ⟨BK180.out⟩, ⟨BK181.out⟩, ⟨BK189.out⟩, ⟨BK196.out⟩, ⟨by repeat (first | (with_reducible first | exact HB.out | apply below_alloc | apply pw_below_drewN | apply below_drew1 | refine below_set ?_ GE178.out | refine below_set ?_ GE179.out | refine below_set ?_ GE180.out | refine below_set ?_ GE181.out | refine below_set ?_ GE189.out | refine below_set ?_ GE196.out) | exact HB.out)⟩⟩
       ·
        replace c125 := Bool.eq_false_iff.mpr c125
        subst c125
        have H1 : (whittlelaw3_PlaceMeets.j1 kj8 false false a0_0 a0_1 a0_2 a0_3 a0_4 a1_0 a1_1 a1_2 a1_3 a1_4 a2_0 a2_1 a2_2 a2_3 a2_4 t183 t184 t185 t186 t187) = some r := by rw [if_neg (show ¬ (false = true) by decide)] at H; exact H
        clear H
        have H := H1
        clear H1
        have H' := Aside0.mk H
        clear H
        try go_wp2
        have n0_ := Aside0.mk (blk_drew BK178.out)
        have n1_ := Aside0.mk (blk_drew BK179.out)
        have n2_ := Aside0.mk (blk_drew BK180.out)
        have n3_ := Aside0.mk (blk_drew BK181.out)
        have n4_ := Aside0.mk (blk_drew BK189.out)
        have n5_ := Aside0.mk (blk_drew BK196.out)
        have n6_ := Aside0.mk (below_drew1 HB.out)
        clear BK178
        clear BK179
        clear BK180
        clear BK181
        clear BK189
        clear BK196
        clear HB
        have BK178 := n0_
        have BK179 := n1_
        have BK180 := n2_
        have BK181 := n3_
        have BK189 := n4_
        have BK196 := n5_
        have HB := n6_
        clear n0_ n1_ n2_ n3_ n4_ n5_ n6_
        refine start_ (n := 29) (S := fun w' => w'.cell? ⟨gb178, 0, none⟩ = some (.int .i64 a0_0) ∧ w'.cell? ⟨gb178, 1, none⟩ = some (.int .i64 a0_1) ∧ w'.cell? ⟨gb178, 2, none⟩ = some (.int .i64 a0_2) ∧ w'.cell? ⟨gb178, 3, none⟩ = some (.int .i64 a0_3) ∧ w'.cell? ⟨gb178, 4, none⟩ = some (.int .i64 a0_4) ∧ w'.cell? ⟨gb181, 0, none⟩ = some (.int .i64 a3_0) ∧ w'.cell? ⟨gb181, 1, none⟩ = some (.int .i64 a3_1) ∧ w'.cell? ⟨gb181, 2, none⟩ = some (.int .i64 a3_2)) (ds := []) #[false, false, false, false, false, false, false, false, false, false, false, false, false, false, false, false, false, false, false, false, false, false, false, false, false, false, false, false, false] (by kernel_rfl) rfl rfl ⟨(blk_cell BK178.out 0).trans rfl, (blk_cell BK178.out 1).trans rfl, (blk_cell BK178.out 2).trans rfl, (blk_cell BK178.out 3).trans rfl, (blk_cell BK178.out 4).trans rfl, (blk_cell BK181.out 0).trans rfl, (blk_cell BK181.out 1).trans rfl, (blk_cell BK181.out 2).trans rfl⟩ (fun hHeld => ?_); refine with_tabW whittlelaw3_PlaceMeets.tab7 whittlelaw3_PlaceMeets.bits7 (fun HT_ HW_ => ?_)
        generalize wc.drew = w130 at BK178 BK179 BK180 BK181 BK189 BK196 HB hHeld ⊢
        refine pure_ (i := 0) (N := some 60) (v := ?_) (a' := ?_) #[true, false, false, false, false, false, false, false, false, false, false, false, false, false, false, false, false, false, false, false, false, false, false, false, false, false, false, false, false] rfl rfl (any_of HT_.out (by kernel_rfl)) (fun _ _ _ h => h) (Or.inl ⟨by rfl, ?_⟩) ?_ ?_; rotate_left; (· intro w'; go_simp; with_reducible rfl)
        rotate_left; (· simp only [Act.put, List.setIfInBounds_toArray, List.set_cons_zero, List.set_cons_succ, i64_w, i32_w]; rfl)
        refine pure_ (i := 1) (N := some 61) (v := ?_) (a' := ?_) #[true, true, false, false, false, false, false, false, false, false, false, false, false, false, false, false, false, false, false, false, false, false, false, false, false, false, false, false, false] rfl rfl (any_of HT_.out (by kernel_rfl)) (fun _ _ _ h => h) (Or.inl ⟨by rfl, ?_⟩) ?_ ?_; rotate_left; (· intro w'; go_simp; with_reducible rfl)
        rotate_left; (· simp only [Act.put, List.setIfInBounds_toArray, List.set_cons_zero, List.set_cons_succ, i64_w, i32_w]; rfl)
        refine pure_ (i := 2) (N := some 62) (v := undef) (a' := ?_) #[true, true, true, false, false, false, false, false, false, false, false, false, false, false, false, false, false, false, false, false, false, false, false, false, false, false, false, false, false] rfl rfl (any_of HT_.out (by kernel_rfl)) (fun _ _ _ h => h) (Or.inr ⟨by rfl, rfl⟩) ?_ ?_
        rotate_left; (· simp only [Act.put, List.setIfInBounds_toArray, List.set_cons_zero, List.set_cons_succ, i64_w, i32_w]; rfl)
        refine pure_ (i := 3) (N := some 63) (v := undef) (a' := ?_) #[true, true, true, true, false, false, false, false, false, false, false, false, false, false, false, false, false, false, false, false, false, false, false, false, false, false, false, false, false] rfl rfl (any_of HT_.out (by kernel_rfl)) (fun _ _ _ h => h) (Or.inr ⟨by rfl, rfl⟩) ?_ ?_
        rotate_left; (· simp only [Act.put, List.setIfInBounds_toArray, List.set_cons_zero, List.set_cons_succ, i64_w, i32_w]; rfl)
        refine pure_ (i := 4) (N := some 64) (v := undef) (a' := ?_) #[true, true, true, true, true, false, false, false, false, false, false, false, false, false, false, false, false, false, false, false, false, false, false, false, false, false, false, false, false] rfl rfl (any_of HT_.out (by kernel_rfl)) (fun _ _ _ h => h) (Or.inr ⟨by rfl, rfl⟩) ?_ ?_
        rotate_left; (· simp only [Act.put, List.setIfInBounds_toArray, List.set_cons_zero, List.set_cons_succ, i64_w, i32_w]; rfl)
        refine pure_ (i := 5) (N := some 65) (v := undef) (a' := ?_) #[true, true, true, true, true, true, false, false, false, false, false, false, false, false, false, false, false, false, false, false, false, false, false, false, false, false, false, false, false] rfl rfl (any_of HT_.out (by kernel_rfl)) (fun _ _ _ h => h) (Or.inr ⟨by rfl, rfl⟩) ?_ ?_
        rotate_left; (· simp only [Act.put, List.setIfInBounds_toArray, List.set_cons_zero, List.set_cons_succ, i64_w, i32_w]; rfl)
        refine pure_ (i := 6) (N := some 66) (v := undef) (a' := ?_) #[true, true, true, true, true, true, true, false, false, false, false, false, false, false, false, false, false, false, false, false, false, false, false, false, false, false, false, false, false] rfl rfl (any_of HT_.out (by kernel_rfl)) (fun _ _ _ h => h) (Or.inr ⟨by rfl, rfl⟩) ?_ ?_
        rotate_left; (· simp only [Act.put, List.setIfInBounds_toArray, List.set_cons_zero, List.set_cons_succ, i64_w, i32_w]; rfl)
        refine pure_ (i := 7) (N := some 67) (v := undef) (a' := ?_) #[true, true, true, true, true, true, true, true, false, false, false, false, false, false, false, false, false, false, false, false, false, false, false, false, false, false, false, false, false] rfl rfl (any_of HT_.out (by kernel_rfl)) (fun _ _ _ h => h) (Or.inr ⟨by rfl, rfl⟩) ?_ ?_
        rotate_left; (· simp only [Act.put, List.setIfInBounds_toArray, List.set_cons_zero, List.set_cons_succ, i64_w, i32_w]; rfl)
        refine pure_ (i := 8) (N := some 68) (v := undef) (a' := ?_) #[true, true, true, true, true, true, true, true, true, false, false, false, false, false, false, false, false, false, false, false, false, false, false, false, false, false, false, false, false] rfl rfl (any_of HT_.out (by kernel_rfl)) (fun _ _ _ h => h) (Or.inr ⟨by rfl, rfl⟩) ?_ ?_
        rotate_left; (· simp only [Act.put, List.setIfInBounds_toArray, List.set_cons_zero, List.set_cons_succ, i64_w, i32_w]; rfl)
        refine pure_ (i := 9) (N := some 69) (v := undef) (a' := ?_) #[true, true, true, true, true, true, true, true, true, true, false, false, false, false, false, false, false, false, false, false, false, false, false, false, false, false, false, false, false] rfl rfl (any_of HT_.out (by kernel_rfl)) (fun _ _ _ h => h) (Or.inr ⟨by rfl, rfl⟩) ?_ ?_
        rotate_left; (· simp only [Act.put, List.setIfInBounds_toArray, List.set_cons_zero, List.set_cons_succ, i64_w, i32_w]; rfl)
        refine pure_ (i := 10) (N := some 70) (v := undef) (a' := ?_) #[true, true, true, true, true, true, true, true, true, true, true, false, false, false, false, false, false, false, false, false, false, false, false, false, false, false, false, false, false] rfl rfl (any_of HT_.out (by kernel_rfl)) (fun _ _ _ h => h) (Or.inr ⟨by rfl, rfl⟩) ?_ ?_
        rotate_left; (· simp only [Act.put, List.setIfInBounds_toArray, List.set_cons_zero, List.set_cons_succ, i64_w, i32_w]; rfl)
        refine pure_ (i := 11) (N := some 71) (v := undef) (a' := ?_) #[true, true, true, true, true, true, true, true, true, true, true, true, false, false, false, false, false, false, false, false, false, false, false, false, false, false, false, false, false] rfl rfl (any_of HT_.out (by kernel_rfl)) (fun _ _ _ h => h) (Or.inr ⟨by rfl, rfl⟩) ?_ ?_
        rotate_left; (· simp only [Act.put, List.setIfInBounds_toArray, List.set_cons_zero, List.set_cons_succ, i64_w, i32_w]; rfl)
        refine pure_ (i := 12) (N := some 72) (v := undef) (a' := ?_) #[true, true, true, true, true, true, true, true, true, true, true, true, true, false, false, false, false, false, false, false, false, false, false, false, false, false, false, false, false] rfl rfl (any_of HT_.out (by kernel_rfl)) (fun _ _ _ h => h) (Or.inr ⟨by rfl, rfl⟩) ?_ ?_
        rotate_left; (· simp only [Act.put, List.setIfInBounds_toArray, List.set_cons_zero, List.set_cons_succ, i64_w, i32_w]; rfl)
        refine pure_ (i := 13) (N := some 73) (v := undef) (a' := ?_) #[true, true, true, true, true, true, true, true, true, true, true, true, true, true, false, false, false, false, false, false, false, false, false, false, false, false, false, false, false] rfl rfl (any_of HT_.out (by kernel_rfl)) (fun _ _ _ h => h) (Or.inr ⟨by rfl, rfl⟩) ?_ ?_
        rotate_left; (· simp only [Act.put, List.setIfInBounds_toArray, List.set_cons_zero, List.set_cons_succ, i64_w, i32_w]; rfl)
        refine pure_ (i := 14) (N := some 74) (v := ?_) (a' := ?_) #[true, true, true, true, true, true, true, true, true, true, true, true, true, true, true, false, false, false, false, false, false, false, false, false, false, false, false, false, false] rfl rfl (any_of HT_.out (by kernel_rfl)) (fun _ _ _ h => h) (Or.inl ⟨by rfl, ?_⟩) ?_ ?_; rotate_left; (· intro w'; go_simp; with_reducible rfl)
        rotate_left; (· simp only [Act.put, List.setIfInBounds_toArray, List.set_cons_zero, List.set_cons_succ, i64_w, i32_w]; rfl)
        refine pure_ (i := 15) (N := some 75) (v := ?_) (a' := ?_) #[true, true, true, true, true, true, true, true, true, true, true, true, true, true, true, true, false, false, false, false, false, false, false, false, false, false, false, false, false] rfl rfl (any_of HT_.out (by kernel_rfl)) (fun _ _ _ h => h) (Or.inl ⟨by rfl, ?_⟩) ?_ ?_; rotate_left; (· intro w'; go_simp; with_reducible rfl)
        rotate_left; (· simp only [Act.put, List.setIfInBounds_toArray, List.set_cons_zero, List.set_cons_succ, i64_w, i32_w]; rfl)
        refine pure_ (i := 16) (N := some 76) (v := ?_) (a' := ?_) #[true, true, true, true, true, true, true, true, true, true, true, true, true, true, true, true, true, false, false, false, false, false, false, false, false, false, false, false, false] rfl rfl (any_of HT_.out (by kernel_rfl)) (fun _ _ _ h => h) (Or.inl ⟨by rfl, ?_⟩) ?_ ?_; rotate_left; (· intro w'; go_simp; with_reducible rfl)
        rotate_left; (· simp only [Act.put, List.setIfInBounds_toArray, List.set_cons_zero, List.set_cons_succ, i64_w, i32_w]; rfl)
        refine pure_ (i := 17) (N := some 77) (v := ?_) (a' := ?_) #[true, true, true, true, true, true, true, true, true, true, true, true, true, true, true, true, true, true, false, false, false, false, false, false, false, false, false, false, false] rfl rfl (any_of HT_.out (by kernel_rfl)) (fun _ _ _ h => h) (Or.inl ⟨by rfl, ?_⟩) ?_ ?_; rotate_left; (· intro w'; go_simp; with_reducible rfl)
        rotate_left; (· simp only [Act.put, List.setIfInBounds_toArray, List.set_cons_zero, List.set_cons_succ, i64_w, i32_w]; rfl)
        refine pure_ (i := 18) (N := some 78) (v := ?_) (a' := ?_) #[true, true, true, true, true, true, true, true, true, true, true, true, true, true, true, true, true, true, true, false, false, false, false, false, false, false, false, false, false] rfl rfl (any_of HT_.out (by kernel_rfl)) (fun _ _ _ h => h) (Or.inl ⟨by rfl, ?_⟩) ?_ ?_; rotate_left; (· intro w'; go_simp; with_reducible rfl)
        rotate_left; (· simp only [Act.put, List.setIfInBounds_toArray, List.set_cons_zero, List.set_cons_succ, i64_w, i32_w]; rfl)
        refine take_ (i := 19) (N := some 79) (v := ?_) (a' := ?_) #[true, true, true, true, true, true, true, true, true, true, true, true, true, true, true, true, true, true, true, true, false, false, false, false, false, false, false, false, false] rfl rfl (take_ofW HT_.out HW_.out (by kernel_rfl)) (fun _ _ _ h => h) (Or.inl ⟨by rfl, ?_⟩) hHeld ?_ ?_
        rotate_left
        ·
         rintro w' ⟨s0, s1, s2, s3, s4, s5, s6, s7⟩
         go_simp
         with_reducible rfl
        rotate_left; (· simp only [Act.put, List.setIfInBounds_toArray, List.set_cons_zero, List.set_cons_succ, i64_w, i32_w]; rfl)
        refine take_ (i := 20) (N := some 80) (v := ?_) (a' := ?_) #[true, true, true, true, true, true, true, true, true, true, true, true, true, true, true, true, true, true, true, true, true, false, false, false, false, false, false, false, false] rfl rfl (take_ofW HT_.out HW_.out (by kernel_rfl)) (fun _ _ _ h => h) (Or.inl ⟨by rfl, ?_⟩) hHeld ?_ ?_
        rotate_left
        ·
         rintro w' ⟨s0, s1, s2, s3, s4, s5, s6, s7⟩
         go_simp
         with_reducible rfl
        rotate_left; (· simp only [Act.put, List.setIfInBounds_toArray, List.set_cons_zero, List.set_cons_succ, i64_w, i32_w]; rfl)
        refine one_ (i := 21) (N := some 81) #[true, true, true, true, true, true, true, true, true, true, true, true, true, true, true, true, true, true, true, true, true, true, false, false, false, false, false, false, false] rfl rfl (one_of HT_.out (by kernel_rfl)) (by decide) (fun K hK => ?_)
        refine goes_ Tryd.func28 (by kernel_rfl) rfl #[.agg #[.int .i64 a0_0, .int .i64 a0_1, .int .i64 a0_2, .int .i64 a0_3, .int .i64 a0_4], .agg #[.int .i64 a3_0, .int .i64 a3_1, .int .i64 a3_2]] (by rfl) rfl rfl (by (try simp only [List.map_toArray, List.map_cons, List.map_nil]); first | done | rfl | (simp only [List.length_drop, List.length_take]; rfl)) ?_
        with_reducible refine (place_Has.calls a0_0 a0_1 a0_2 a0_3 a0_4 a3_0 a3_1 a3_2 false _ A124.out).mono ?_
        rintro e w131 ⟨rfl, hb⟩
        refine ⟨_, rfl, ?_⟩
        have n0_ := Aside0.mk (blk_below BK178.out hb)
        have n1_ := Aside0.mk (blk_below BK179.out hb)
        have n2_ := Aside0.mk (blk_below BK180.out hb)
        have n3_ := Aside0.mk (blk_below BK181.out hb)
        have n4_ := Aside0.mk (blk_below BK189.out hb)
        have n5_ := Aside0.mk (blk_below BK196.out hb)
        have n6_ := Aside0.mk (below_step (by repeat first | exact HB.out | refine below_set ?_ GE178.out | refine below_set ?_ GE179.out | refine below_set ?_ GE180.out | refine below_set ?_ GE181.out | refine below_set ?_ GE189.out | refine below_set ?_ GE196.out) hb)
        clear BK178
        clear BK179
        clear BK180
        clear BK181
        clear BK189
        clear BK196
        clear HB
        have BK178 := n0_
        have BK179 := n1_
        have BK180 := n2_
        have BK181 := n3_
        have BK189 := n4_
        have BK196 := n5_
        have HB := n6_
        clear n0_ n1_ n2_ n3_ n4_ n5_ n6_
        (try clear hb)
        (try clear hb2)
        (try clear hk)
        (try clear hi)
        refine hK.out _ _ ⟨(blk_cell BK178.out 0).trans rfl, (blk_cell BK178.out 1).trans rfl, (blk_cell BK178.out 2).trans rfl, (blk_cell BK178.out 3).trans rfl, (blk_cell BK178.out 4).trans rfl, (blk_cell BK181.out 0).trans rfl, (blk_cell BK181.out 1).trans rfl, (blk_cell BK181.out 2).trans rfl⟩ (fun hHeld => ?_)
        clear hK K
        refine norm_ (a' := ?_) ?_ ?_
        rotate_left
        ·
         show Act.put _ (some 81) _ = _
         simp only [Act.put, List.setIfInBounds_toArray, List.set_cons_zero, List.set_cons_succ, i64_w, i32_w]
         rfl
        refine pure_ (i := 22) (N := some 82) (v := ?_) (a' := ?_) #[true, true, true, true, true, true, true, true, true, true, true, true, true, true, true, true, true, true, true, true, true, true, true, false, false, false, false, false, false] rfl rfl (any_of HT_.out (by kernel_rfl)) (fun _ _ _ h => h) (Or.inl ⟨by rfl, ?_⟩) ?_ ?_; rotate_left; (· intro w'; go_simp; with_reducible rfl)
        rotate_left; (· simp only [Act.put, List.setIfInBounds_toArray, List.set_cons_zero, List.set_cons_succ, i64_w, i32_w]; rfl)
        refine pure_ (i := 23) (N := some 83) (v := ?_) (a' := ?_) #[true, true, true, true, true, true, true, true, true, true, true, true, true, true, true, true, true, true, true, true, true, true, true, true, false, false, false, false, false] rfl rfl (any_of HT_.out (by kernel_rfl)) (fun _ _ _ h => h) (Or.inl ⟨by rfl, ?_⟩) ?_ ?_; rotate_left; (· intro w'; go_simp; with_reducible rfl)
        rotate_left; (· simp only [Act.put, List.setIfInBounds_toArray, List.set_cons_zero, List.set_cons_succ, i64_w, i32_w]; rfl)
        refine pure_ (i := 24) (N := some 84) (v := undef) (a' := ?_) #[true, true, true, true, true, true, true, true, true, true, true, true, true, true, true, true, true, true, true, true, true, true, true, true, true, false, false, false, false] rfl rfl (any_of HT_.out (by kernel_rfl)) (fun _ _ _ h => h) (Or.inr ⟨by rfl, rfl⟩) ?_ ?_
        rotate_left; (· simp only [Act.put, List.setIfInBounds_toArray, List.set_cons_zero, List.set_cons_succ, i64_w, i32_w]; rfl)
        refine pure_ (i := 25) (N := some 85) (v := undef) (a' := ?_) #[true, true, true, true, true, true, true, true, true, true, true, true, true, true, true, true, true, true, true, true, true, true, true, true, true, true, false, false, false] rfl rfl (any_of HT_.out (by kernel_rfl)) (fun _ _ _ h => h) (Or.inr ⟨by rfl, rfl⟩) ?_ ?_
        rotate_left; (· simp only [Act.put, List.setIfInBounds_toArray, List.set_cons_zero, List.set_cons_succ, i64_w, i32_w]; rfl)
        refine pure_ (i := 26) (N := some 86) (v := undef) (a' := ?_) #[true, true, true, true, true, true, true, true, true, true, true, true, true, true, true, true, true, true, true, true, true, true, true, true, true, true, true, false, false] rfl rfl (any_of HT_.out (by kernel_rfl)) (fun _ _ _ h => h) (Or.inr ⟨by rfl, rfl⟩) ?_ ?_
        rotate_left; (· simp only [Act.put, List.setIfInBounds_toArray, List.set_cons_zero, List.set_cons_succ, i64_w, i32_w]; rfl)
        refine pure_ (i := 27) (N := some 87) (v := ?_) (a' := ?_) #[true, true, true, true, true, true, true, true, true, true, true, true, true, true, true, true, true, true, true, true, true, true, true, true, true, true, true, true, false] rfl rfl (any_of HT_.out (by kernel_rfl)) (fun _ _ _ h => h) (Or.inl ⟨by rfl, ?_⟩) ?_ ?_; rotate_left; (· intro w'; go_simp; with_reducible rfl)
        rotate_left; (· simp only [Act.put, List.setIfInBounds_toArray, List.set_cons_zero, List.set_cons_succ, i64_w, i32_w]; rfl)
        refine pure_ (i := 28) (N := some 88) (v := ?_) (a' := ?_) #[true, true, true, true, true, true, true, true, true, true, true, true, true, true, true, true, true, true, true, true, true, true, true, true, true, true, true, true, true] rfl rfl (any_of HT_.out (by kernel_rfl)) (fun _ _ _ h => h) (Or.inl ⟨by rfl, ?_⟩) ?_ ?_; rotate_left; (· intro w'; go_simp; with_reducible rfl)
        rotate_left; (· simp only [Act.put, List.setIfInBounds_toArray, List.set_cons_zero, List.set_cons_succ, i64_w, i32_w]; rfl)
        refine done_ (done_of HT_.out (by kernel_rfl)) ?_
        try go_wp2
        go_meet
        case rel => exact ⟨_, (false), (by first | rfl | (simp; done) | (simp [*]; done)), H', ⟨by have := HJ8.out; first | omega | exact Nat.le_refl _⟩, ⟨BK178.out⟩, ⟨BK179.out⟩, ⟨BK180.out⟩, ⟨BK181.out⟩, ⟨BK189.out⟩, ⟨BK196.out⟩, ⟨by repeat (first | (with_reducible first | exact HB.out | apply below_alloc | apply pw_below_drewN | apply below_drew1 | refine below_set ?_ GE178.out | refine below_set ?_ GE179.out | refine below_set ?_ GE180.out | refine below_set ?_ GE181.out | refine below_set ?_ GE189.out | refine below_set ?_ GE196.out) | exact HB.out)⟩⟩
     case rest =>
      clear HC109
      (try clear c1); (try clear c2); (try clear p2); (try clear c11); (try clear c12); (try clear c28); (try clear c110); (try clear c125)
      obtain ⟨kq, x88_108, rfl, HA, HJ108, BK178, BK179, BK180, BK181, BK189, BK196, HB⟩ := hcut
      cases kq with
      | zero => exact absurd HA.out (by simp [whittlelaw3_PlaceMeets.j1])
      | succ kj108 =>
       have H := HA.out
       clear HA
       simp only [whittlelaw3_PlaceMeets.j1] at H
       by_cases c132 : x88_108 = true
       ·
        subst c132
        have H1 : (some false) = some r := by rw [if_pos rfl] at H; exact H
        clear H
        have H := H1
        clear H1
        exact Bool.noConfusion ((Option.some.inj H).trans hr_.out)
       ·
        replace c132 := Bool.eq_false_iff.mpr c132
        subst c132
        have H1 : ((place_Meet.f t183 t184 t185 t186 t187 a2_0 a2_1 a2_2 a2_3 a2_4).bind fun bt205 => ((place_Meet.f a1_0 a1_1 a1_2 a1_3 a1_4 a2_0 a2_1 a2_2 a2_3 a2_4).bind fun bt212 => ((place_Meet.f a0_0 a0_1 a0_2 a0_3 a0_4 bt212.1 bt212.2.1 bt212.2.2.1 bt212.2.2.2.1 bt212.2.2.2.2.1).bind fun bt219 => (if bt205.2.2.2.2.2 = true then (whittlelaw3_PlaceMeets.j2 kj108 t188 bt212.2.2.2.2.2 bt219.2.2.2.2.2 a0_0 a0_1 a0_2 a0_3 a0_4 bt205.1 bt205.2.1 bt205.2.2.1 bt205.2.2.2.1 bt205.2.2.2.2.1 bt219.1 bt219.2.1 bt219.2.2.1 bt219.2.2.2.1 bt219.2.2.2.2.1) else (whittlelaw3_PlaceMeets.j2 kj108 false bt212.2.2.2.2.2 bt219.2.2.2.2.2 a0_0 a0_1 a0_2 a0_3 a0_4 bt205.1 bt205.2.1 bt205.2.2.1 bt205.2.2.2.1 bt205.2.2.2.2.1 bt219.1 bt219.2.1 bt219.2.2.1 bt219.2.2.2.1 bt219.2.2.2.2.1))))) = some r := by rw [if_neg (show ¬ (false = true) by decide)] at H; exact H
        clear H
        have H := H1
        clear H1
        replace H := Option.bind_eq_some_iff.mp H
        obtain ⟨⟨t205, t206, t207, t208, t209, t210⟩, A1330, H⟩ := H
        replace H : ((place_Meet.f a1_0 a1_1 a1_2 a1_3 a1_4 a2_0 a2_1 a2_2 a2_3 a2_4).bind fun bt212 => ((place_Meet.f a0_0 a0_1 a0_2 a0_3 a0_4 bt212.1 bt212.2.1 bt212.2.2.1 bt212.2.2.2.1 bt212.2.2.2.2.1).bind fun bt219 => (if t210 = true then (whittlelaw3_PlaceMeets.j2 kj108 t188 bt212.2.2.2.2.2 bt219.2.2.2.2.2 a0_0 a0_1 a0_2 a0_3 a0_4 t205 t206 t207 t208 t209 bt219.1 bt219.2.1 bt219.2.2.1 bt219.2.2.2.1 bt219.2.2.2.2.1) else (whittlelaw3_PlaceMeets.j2 kj108 false bt212.2.2.2.2.2 bt219.2.2.2.2.2 a0_0 a0_1 a0_2 a0_3 a0_4 t205 t206 t207 t208 t209 bt219.1 bt219.2.1 bt219.2.2.1 bt219.2.2.2.1 bt219.2.2.2.2.1)))) = some r := H
        have A133 := Aside0.mk A1330
        clear A1330
        replace H := Option.bind_eq_some_iff.mp H
        obtain ⟨⟨t212, t213, t214, t215, t216, t217⟩, A1340, H⟩ := H
        replace H : ((place_Meet.f a0_0 a0_1 a0_2 a0_3 a0_4 t212 t213 t214 t215 t216).bind fun bt219 => (if t210 = true then (whittlelaw3_PlaceMeets.j2 kj108 t188 t217 bt219.2.2.2.2.2 a0_0 a0_1 a0_2 a0_3 a0_4 t205 t206 t207 t208 t209 bt219.1 bt219.2.1 bt219.2.2.1 bt219.2.2.2.1 bt219.2.2.2.2.1) else (whittlelaw3_PlaceMeets.j2 kj108 false t217 bt219.2.2.2.2.2 a0_0 a0_1 a0_2 a0_3 a0_4 t205 t206 t207 t208 t209 bt219.1 bt219.2.1 bt219.2.2.1 bt219.2.2.2.1 bt219.2.2.2.2.1))) = some r := H
        have A134 := Aside0.mk A1340
        clear A1340
        replace H := Option.bind_eq_some_iff.mp H
        obtain ⟨⟨t219, t220, t221, t222, t223, t224⟩, A1350, H⟩ := H
        replace H : (if t210 = true then (whittlelaw3_PlaceMeets.j2 kj108 t188 t217 t224 a0_0 a0_1 a0_2 a0_3 a0_4 t205 t206 t207 t208 t209 t219 t220 t221 t222 t223) else (whittlelaw3_PlaceMeets.j2 kj108 false t217 t224 a0_0 a0_1 a0_2 a0_3 a0_4 t205 t206 t207 t208 t209 t219 t220 t221 t222 t223)) = some r := H
        have A135 := Aside0.mk A1350
        clear A1350
        have HC136 := Aside0.mk H
        clear H
        have hnb137 := NB189_178.out
        have hnc137 := NB178_189.out
        have hnb138 := NB189_179.out
        have hnc138 := NB179_189.out
        have hnb139 := NB189_180.out
        have hnc139 := NB180_189.out
        have hnb140 := NB189_181.out
        have hnc140 := NB181_189.out
        have hnb141 := NB189_196.out
        have hnc141 := NB196_189.out
        have hcz142_0 : wc.cell? ⟨gb189, 0, none⟩ = some (.int .i64 t183) := (blk_cell BK189.out 0).trans rfl
        have hcz142_1 : wc.cell? ⟨gb189, 1, none⟩ = some (.int .i64 t184) := (blk_cell BK189.out 1).trans rfl
        have hcz142_2 : wc.cell? ⟨gb189, 2, none⟩ = some (.int .i64 t185) := (blk_cell BK189.out 2).trans rfl
        have hcz142_3 : wc.cell? ⟨gb189, 3, none⟩ = some (.int .i64 t186) := (blk_cell BK189.out 3).trans rfl
        have hcz142_4 : wc.cell? ⟨gb189, 4, none⟩ = some (.int .i64 t187) := (blk_cell BK189.out 4).trans rfl
        have hfz142_0 := blk_frozen BK189.out 0
        have hfz142_1 := blk_frozen BK189.out 1
        have hfz142_2 := blk_frozen BK189.out 2
        have hfz142_3 := blk_frozen BK189.out 3
        have hfz142_4 := blk_frozen BK189.out 4
        have hnb143 := NB180_178.out
        have hnc143 := NB178_180.out
        have hnb144 := NB180_179.out
        have hnc144 := NB179_180.out
        have hnb145 := NB180_181.out
        have hnc145 := NB181_180.out
        have hnb146 := NB180_196.out
        have hnc146 := NB196_180.out
        have hcz147_0 : wc.cell? ⟨gb180, 0, none⟩ = some (.int .i64 a2_0) := (blk_cell BK180.out 0).trans rfl
        have hcz147_1 : wc.cell? ⟨gb180, 1, none⟩ = some (.int .i64 a2_1) := (blk_cell BK180.out 1).trans rfl
        have hcz147_2 : wc.cell? ⟨gb180, 2, none⟩ = some (.int .i64 a2_2) := (blk_cell BK180.out 2).trans rfl
        have hcz147_3 : wc.cell? ⟨gb180, 3, none⟩ = some (.int .i64 a2_3) := (blk_cell BK180.out 3).trans rfl
        have hcz147_4 : wc.cell? ⟨gb180, 4, none⟩ = some (.int .i64 a2_4) := (blk_cell BK180.out 4).trans rfl
        have hfz147_0 := blk_frozen BK180.out 0
        have hfz147_1 := blk_frozen BK180.out 1
        have hfz147_2 := blk_frozen BK180.out 2
        have hfz147_3 := blk_frozen BK180.out 3
        have hfz147_4 := blk_frozen BK180.out 4
        go_upto_region 12 with (first | ((with_reducible refine gate_callee (f := 27) rfl ?_); refine goesL_ (some 92) rfl rfl Tryd.func27 (by kernel_rfl) rfl #[.agg #[.int .i64 t183, .int .i64 t184, .int .i64 t185, .int .i64 t186, .int .i64 t187], .agg #[.int .i64 a2_0, .int .i64 a2_1, .int .i64 a2_2, .int .i64 a2_3, .int .i64 a2_4]] rfl (by (try simp only [List.map_toArray, List.map_cons, List.map_nil]); first | done | rfl | (simp only [List.length_drop, List.length_take]; rfl)) ?_; (with_reducible refine (place_Meet.calls t183 t184 t185 t186 t187 a2_0 a2_1 a2_2 a2_3 a2_4 t205 t206 t207 t208 t209 t210 _ A133.out).mono ?_); rintro e w148 ⟨rfl, hb⟩; refine ⟨_, rfl, ?_⟩; replace BK178 := Aside0.mk (blk_below BK178.out hb); replace BK179 := Aside0.mk (blk_below BK179.out hb); replace BK180 := Aside0.mk (blk_below BK180.out hb); replace BK181 := Aside0.mk (blk_below BK181.out hb); replace BK189 := Aside0.mk (blk_below BK189.out hb); replace BK196 := Aside0.mk (blk_below BK196.out hb); replace HB := Aside0.mk (below_step (by repeat first | exact HB.out | refine below_set ?_ GE178.out | refine below_set ?_ GE179.out | refine below_set ?_ GE180.out | refine below_set ?_ GE181.out | refine below_set ?_ GE189.out | refine below_set ?_ GE196.out) hb); (try clear hb); (try clear hb2); (try clear hk); (try clear hi)) | ((with_reducible refine gate_dst (N := 13) rfl ?_); refine box_event ?hg (N := 13) ?hd (cs := #[.int .i64 0, .int .i64 0, .int .i64 0, .int .i64 0, .int .i64 0]) (t := 25) ?hr ?_; (case hd => rfl); (case hg => rfl); (case hr => go_simp <;> rfl); intro gb211 hg w149 hbox hb; have BK211 := Aside0.mk (hbox); have GW211 := Aside0.mk ((by rw [hg]; exact (below_size (by repeat first | exact HB.out | refine below_set ?_ GE178.out | refine below_set ?_ GE179.out | refine below_set ?_ GE180.out | refine below_set ?_ GE181.out | refine below_set ?_ GE189.out | refine below_set ?_ GE196.out)) : w.heap.size ≤ gb211)); have GE211 := GW211; have NB178_211 := Aside0.mk ((by rw [hg]; exact Nat.ne_of_lt (blk_lt BK178.out) : gb178 ≠ gb211)); have NB211_178 := Aside0.mk ((by rw [hg]; exact Nat.ne_of_gt (blk_lt BK178.out) : gb211 ≠ gb178)); have NB179_211 := Aside0.mk ((by rw [hg]; exact Nat.ne_of_lt (blk_lt BK179.out) : gb179 ≠ gb211)); have NB211_179 := Aside0.mk ((by rw [hg]; exact Nat.ne_of_gt (blk_lt BK179.out) : gb211 ≠ gb179)); have NB180_211 := Aside0.mk ((by rw [hg]; exact Nat.ne_of_lt (blk_lt BK180.out) : gb180 ≠ gb211)); have NB211_180 := Aside0.mk ((by rw [hg]; exact Nat.ne_of_gt (blk_lt BK180.out) : gb211 ≠ gb180)); have NB181_211 := Aside0.mk ((by rw [hg]; exact Nat.ne_of_lt (blk_lt BK181.out) : gb181 ≠ gb211)); have NB211_181 := Aside0.mk ((by rw [hg]; exact Nat.ne_of_gt (blk_lt BK181.out) : gb211 ≠ gb181)); have NB189_211 := Aside0.mk ((by rw [hg]; exact Nat.ne_of_lt (blk_lt BK189.out) : gb189 ≠ gb211)); have NB211_189 := Aside0.mk ((by rw [hg]; exact Nat.ne_of_gt (blk_lt BK189.out) : gb211 ≠ gb189)); have NB196_211 := Aside0.mk ((by rw [hg]; exact Nat.ne_of_lt (blk_lt BK196.out) : gb196 ≠ gb211)); have NB211_196 := Aside0.mk ((by rw [hg]; exact Nat.ne_of_gt (blk_lt BK196.out) : gb211 ≠ gb196)); replace BK178 := Aside0.mk (blk_below BK178.out hb); replace BK179 := Aside0.mk (blk_below BK179.out hb); replace BK180 := Aside0.mk (blk_below BK180.out hb); replace BK181 := Aside0.mk (blk_below BK181.out hb); replace BK189 := Aside0.mk (blk_below BK189.out hb); replace BK196 := Aside0.mk (blk_below BK196.out hb); replace HB := Aside0.mk (below_step (by repeat first | exact HB.out | refine below_set ?_ GE178.out | refine below_set ?_ GE179.out | refine below_set ?_ GE180.out | refine below_set ?_ GE181.out | refine below_set ?_ GE189.out | refine below_set ?_ GE196.out) hb); clear hb hbox hg; have hnb150 := NB211_178.out; have hnc150 := NB178_211.out; have hnb151 := NB211_179.out; have hnc151 := NB179_211.out; have hnb152 := NB211_180.out; have hnc152 := NB180_211.out; have hnb153 := NB211_181.out; have hnc153 := NB181_211.out; have hnb154 := NB211_189.out; have hnc154 := NB189_211.out; have hnb155 := NB211_196.out; have hnc155 := NB196_211.out; have hcz156_0 : w149.cell? ⟨gb211, 0, none⟩ = some (.int .i64 0) := (blk_cell BK211.out 0).trans rfl; have hcz156_1 : w149.cell? ⟨gb211, 1, none⟩ = some (.int .i64 0) := (blk_cell BK211.out 1).trans rfl; have hcz156_2 : w149.cell? ⟨gb211, 2, none⟩ = some (.int .i64 0) := (blk_cell BK211.out 2).trans rfl; have hcz156_3 : w149.cell? ⟨gb211, 3, none⟩ = some (.int .i64 0) := (blk_cell BK211.out 3).trans rfl; have hcz156_4 : w149.cell? ⟨gb211, 4, none⟩ = some (.int .i64 0) := (blk_cell BK211.out 4).trans rfl; have hfz156_0 := blk_frozen BK211.out 0; have hfz156_1 := blk_frozen BK211.out 1; have hfz156_2 := blk_frozen BK211.out 2; have hfz156_3 := blk_frozen BK211.out 3; have hfz156_4 := blk_frozen BK211.out 4; have hnb157 := NB179_178.out; have hnc157 := NB178_179.out; have hnb158 := NB179_181.out; have hnc158 := NB181_179.out; have hnb159 := NB179_196.out; have hnc159 := NB196_179.out; have hcz160_0 : w149.cell? ⟨gb179, 0, none⟩ = some (.int .i64 a1_0) := (blk_cell BK179.out 0).trans rfl; have hcz160_1 : w149.cell? ⟨gb179, 1, none⟩ = some (.int .i64 a1_1) := (blk_cell BK179.out 1).trans rfl; have hcz160_2 : w149.cell? ⟨gb179, 2, none⟩ = some (.int .i64 a1_2) := (blk_cell BK179.out 2).trans rfl; have hcz160_3 : w149.cell? ⟨gb179, 3, none⟩ = some (.int .i64 a1_3) := (blk_cell BK179.out 3).trans rfl; have hcz160_4 : w149.cell? ⟨gb179, 4, none⟩ = some (.int .i64 a1_4) := (blk_cell BK179.out 4).trans rfl; have hfz160_0 := blk_frozen BK179.out 0; have hfz160_1 := blk_frozen BK179.out 1; have hfz160_2 := blk_frozen BK179.out 2; have hfz160_3 := blk_frozen BK179.out 3; have hfz160_4 := blk_frozen BK179.out 4; have hcz161_0 : w149.cell? ⟨gb180, 0, none⟩ = some (.int .i64 a2_0) := (blk_cell BK180.out 0).trans rfl; have hcz161_1 : w149.cell? ⟨gb180, 1, none⟩ = some (.int .i64 a2_1) := (blk_cell BK180.out 1).trans rfl; have hcz161_2 : w149.cell? ⟨gb180, 2, none⟩ = some (.int .i64 a2_2) := (blk_cell BK180.out 2).trans rfl; have hcz161_3 : w149.cell? ⟨gb180, 3, none⟩ = some (.int .i64 a2_3) := (blk_cell BK180.out 3).trans rfl; have hcz161_4 : w149.cell? ⟨gb180, 4, none⟩ = some (.int .i64 a2_4) := (blk_cell BK180.out 4).trans rfl; have hfz161_0 := blk_frozen BK180.out 0; have hfz161_1 := blk_frozen BK180.out 1; have hfz161_2 := blk_frozen BK180.out 2; have hfz161_3 := blk_frozen BK180.out 3; have hfz161_4 := blk_frozen BK180.out 4) | ((with_reducible refine gate_callee (f := 27) rfl ?_); refine goesL_ (some 98) rfl rfl Tryd.func27 (by kernel_rfl) rfl #[.agg #[.int .i64 a1_0, .int .i64 a1_1, .int .i64 a1_2, .int .i64 a1_3, .int .i64 a1_4], .agg #[.int .i64 a2_0, .int .i64 a2_1, .int .i64 a2_2, .int .i64 a2_3, .int .i64 a2_4]] rfl (by (try simp only [List.map_toArray, List.map_cons, List.map_nil]); first | done | rfl | (simp only [List.length_drop, List.length_take]; rfl)) ?_; (with_reducible refine (place_Meet.calls a1_0 a1_1 a1_2 a1_3 a1_4 a2_0 a2_1 a2_2 a2_3 a2_4 t212 t213 t214 t215 t216 t217 _ A134.out).mono ?_); rintro e w162 ⟨rfl, hb⟩; refine ⟨_, rfl, ?_⟩; replace BK178 := Aside0.mk (blk_below (g := gb178) (o := .cells #[.int .i64 a0_0, .int .i64 a0_1, .int .i64 a0_2, .int .i64 a0_3, .int .i64 a0_4] 25 (0, 0)) (by (repeat refine blk_far ?_ NB178_211.out _); exact BK178.out) hb); replace BK179 := Aside0.mk (blk_below (g := gb179) (o := .cells #[.int .i64 a1_0, .int .i64 a1_1, .int .i64 a1_2, .int .i64 a1_3, .int .i64 a1_4] 25 (0, 0)) (by (repeat refine blk_far ?_ NB179_211.out _); exact BK179.out) hb); replace BK180 := Aside0.mk (blk_below (g := gb180) (o := .cells #[.int .i64 a2_0, .int .i64 a2_1, .int .i64 a2_2, .int .i64 a2_3, .int .i64 a2_4] 25 (0, 0)) (by (repeat refine blk_far ?_ NB180_211.out _); exact BK180.out) hb); replace BK181 := Aside0.mk (blk_below (g := gb181) (o := .cells #[.int .i64 a3_0, .int .i64 a3_1, .int .i64 a3_2] 23 (0, 0)) (by (repeat refine blk_far ?_ NB181_211.out _); exact BK181.out) hb); replace BK189 := Aside0.mk (blk_below (g := gb189) (o := .cells #[.int .i64 t183, .int .i64 t184, .int .i64 t185, .int .i64 t186, .int .i64 t187] 25 (0, 0)) (by (repeat refine blk_far ?_ NB189_211.out _); exact BK189.out) hb); replace BK196 := Aside0.mk (blk_below (g := gb196) (o := .cells #[.int .i64 t190, .int .i64 t191, .int .i64 t192, .int .i64 t193, .int .i64 t194] 25 (0, 0)) (by (repeat refine blk_far ?_ NB196_211.out _); exact BK196.out) hb); replace BK211 := Aside0.mk (blk_below (g := gb211) (o := .cells #[.int .i64 t205, .int .i64 t206, .int .i64 t207, .int .i64 t208, .int .i64 t209] 25 (0, 0)) (by (with_reducible repeat first | apply blk_drewN | apply blk_drew | apply blk_alloc); refine blk_put (cs := #[.int .i64 t205, .int .i64 t206, .int .i64 t207, .int .i64 t208, .int .i64 0]) ?_ 4 _ rfl; (with_reducible repeat first | apply blk_drewN | apply blk_drew | apply blk_alloc); refine blk_put (cs := #[.int .i64 t205, .int .i64 t206, .int .i64 t207, .int .i64 0, .int .i64 0]) ?_ 3 _ rfl; (with_reducible repeat first | apply blk_drewN | apply blk_drew | apply blk_alloc); refine blk_put (cs := #[.int .i64 t205, .int .i64 t206, .int .i64 0, .int .i64 0, .int .i64 0]) ?_ 2 _ rfl; (with_reducible repeat first | apply blk_drewN | apply blk_drew | apply blk_alloc); refine blk_put (cs := #[.int .i64 t205, .int .i64 0, .int .i64 0, .int .i64 0, .int .i64 0]) ?_ 1 _ rfl; (with_reducible repeat first | apply blk_drewN | apply blk_drew | apply blk_alloc); refine blk_put (cs := #[.int .i64 0, .int .i64 0, .int .i64 0, .int .i64 0, .int .i64 0]) ?_ 0 _ rfl; (with_reducible repeat first | apply blk_drewN | apply blk_drew | apply blk_alloc); exact BK211.out) hb); replace HB := Aside0.mk (below_step (by repeat first | exact HB.out | refine below_set ?_ GE178.out | refine below_set ?_ GE179.out | refine below_set ?_ GE180.out | refine below_set ?_ GE181.out | refine below_set ?_ GE189.out | refine below_set ?_ GE196.out | refine below_set ?_ GE211.out) hb); (try clear hb); (try clear hb2); (try clear hk); (try clear hi)) | ((with_reducible refine gate_dst (N := 15) rfl ?_); refine box_event ?hg (N := 15) ?hd (cs := #[.int .i64 0, .int .i64 0, .int .i64 0, .int .i64 0, .int .i64 0]) (t := 25) ?hr ?_; (case hd => rfl); (case hg => rfl); (case hr => go_simp <;> rfl); intro gb218 hg w163 hbox hb; have BK218 := Aside0.mk (hbox); have GW218 := Aside0.mk ((by rw [hg]; exact (below_size (by repeat first | exact HB.out | refine below_set ?_ GE178.out | refine below_set ?_ GE179.out | refine below_set ?_ GE180.out | refine below_set ?_ GE181.out | refine below_set ?_ GE189.out | refine below_set ?_ GE196.out | refine below_set ?_ GE211.out)) : w.heap.size ≤ gb218)); have GE218 := GW218; have NB178_218 := Aside0.mk ((by rw [hg]; exact Nat.ne_of_lt (blk_lt BK178.out) : gb178 ≠ gb218)); have NB218_178 := Aside0.mk ((by rw [hg]; exact Nat.ne_of_gt (blk_lt BK178.out) : gb218 ≠ gb178)); have NB179_218 := Aside0.mk ((by rw [hg]; exact Nat.ne_of_lt (blk_lt BK179.out) : gb179 ≠ gb218)); have NB218_179 := Aside0.mk ((by rw [hg]; exact Nat.ne_of_gt (blk_lt BK179.out) : gb218 ≠ gb179)); have NB180_218 := Aside0.mk ((by rw [hg]; exact Nat.ne_of_lt (blk_lt BK180.out) : gb180 ≠ gb218)); have NB218_180 := Aside0.mk ((by rw [hg]; exact Nat.ne_of_gt (blk_lt BK180.out) : gb218 ≠ gb180)); have NB181_218 := Aside0.mk ((by rw [hg]; exact Nat.ne_of_lt (blk_lt BK181.out) : gb181 ≠ gb218)); have NB218_181 := Aside0.mk ((by rw [hg]; exact Nat.ne_of_gt (blk_lt BK181.out) : gb218 ≠ gb181)); have NB189_218 := Aside0.mk ((by rw [hg]; exact Nat.ne_of_lt (blk_lt BK189.out) : gb189 ≠ gb218)); have NB218_189 := Aside0.mk ((by rw [hg]; exact Nat.ne_of_gt (blk_lt BK189.out) : gb218 ≠ gb189)); have NB196_218 := Aside0.mk ((by rw [hg]; exact Nat.ne_of_lt (blk_lt BK196.out) : gb196 ≠ gb218)); have NB218_196 := Aside0.mk ((by rw [hg]; exact Nat.ne_of_gt (blk_lt BK196.out) : gb218 ≠ gb196)); have NB211_218 := Aside0.mk ((by rw [hg]; exact Nat.ne_of_lt (blk_lt BK211.out) : gb211 ≠ gb218)); have NB218_211 := Aside0.mk ((by rw [hg]; exact Nat.ne_of_gt (blk_lt BK211.out) : gb218 ≠ gb211)); replace BK178 := Aside0.mk (blk_below BK178.out hb); replace BK179 := Aside0.mk (blk_below BK179.out hb); replace BK180 := Aside0.mk (blk_below BK180.out hb); replace BK181 := Aside0.mk (blk_below BK181.out hb); replace BK189 := Aside0.mk (blk_below BK189.out hb); replace BK196 := Aside0.mk (blk_below BK196.out hb); replace BK211 := Aside0.mk (blk_below BK211.out hb); replace HB := Aside0.mk (below_step (by repeat first | exact HB.out | refine below_set ?_ GE178.out | refine below_set ?_ GE179.out | refine below_set ?_ GE180.out | refine below_set ?_ GE181.out | refine below_set ?_ GE189.out | refine below_set ?_ GE196.out | refine below_set ?_ GE211.out) hb); clear hb hbox hg; have hnb164 := NB218_178.out; have hnc164 := NB178_218.out; have hnb165 := NB218_179.out; have hnc165 := NB179_218.out; have hnb166 := NB218_180.out; have hnc166 := NB180_218.out; have hnb167 := NB218_181.out; have hnc167 := NB181_218.out; have hnb168 := NB218_189.out; have hnc168 := NB189_218.out; have hnb169 := NB218_196.out; have hnc169 := NB196_218.out; have hnb170 := NB218_211.out; have hnc170 := NB211_218.out; have hcz171_0 : w163.cell? ⟨gb218, 0, none⟩ = some (.int .i64 0) := (blk_cell BK218.out 0).trans rfl; have hcz171_1 : w163.cell? ⟨gb218, 1, none⟩ = some (.int .i64 0) := (blk_cell BK218.out 1).trans rfl; have hcz171_2 : w163.cell? ⟨gb218, 2, none⟩ = some (.int .i64 0) := (blk_cell BK218.out 2).trans rfl; have hcz171_3 : w163.cell? ⟨gb218, 3, none⟩ = some (.int .i64 0) := (blk_cell BK218.out 3).trans rfl; have hcz171_4 : w163.cell? ⟨gb218, 4, none⟩ = some (.int .i64 0) := (blk_cell BK218.out 4).trans rfl; have hfz171_0 := blk_frozen BK218.out 0; have hfz171_1 := blk_frozen BK218.out 1; have hfz171_2 := blk_frozen BK218.out 2; have hfz171_3 := blk_frozen BK218.out 3; have hfz171_4 := blk_frozen BK218.out 4; have hnb172 := NB178_181.out; have hnc172 := NB181_178.out; have hnb173 := NB178_196.out; have hnc173 := NB196_178.out; have hcz174_0 : w163.cell? ⟨gb178, 0, none⟩ = some (.int .i64 a0_0) := (blk_cell BK178.out 0).trans rfl; have hcz174_1 : w163.cell? ⟨gb178, 1, none⟩ = some (.int .i64 a0_1) := (blk_cell BK178.out 1).trans rfl; have hcz174_2 : w163.cell? ⟨gb178, 2, none⟩ = some (.int .i64 a0_2) := (blk_cell BK178.out 2).trans rfl; have hcz174_3 : w163.cell? ⟨gb178, 3, none⟩ = some (.int .i64 a0_3) := (blk_cell BK178.out 3).trans rfl; have hcz174_4 : w163.cell? ⟨gb178, 4, none⟩ = some (.int .i64 a0_4) := (blk_cell BK178.out 4).trans rfl; have hfz174_0 := blk_frozen BK178.out 0; have hfz174_1 := blk_frozen BK178.out 1; have hfz174_2 := blk_frozen BK178.out 2; have hfz174_3 := blk_frozen BK178.out 3; have hfz174_4 := blk_frozen BK178.out 4) | ((with_reducible refine gate_callee (f := 27) rfl ?_); refine goesL_ (some 104) rfl rfl Tryd.func27 (by kernel_rfl) rfl #[.agg #[.int .i64 a0_0, .int .i64 a0_1, .int .i64 a0_2, .int .i64 a0_3, .int .i64 a0_4], .agg #[.int .i64 t212, .int .i64 t213, .int .i64 t214, .int .i64 t215, .int .i64 t216]] rfl (by (try simp only [List.map_toArray, List.map_cons, List.map_nil]); first | done | rfl | (simp only [List.length_drop, List.length_take]; rfl)) ?_; (with_reducible refine (place_Meet.calls a0_0 a0_1 a0_2 a0_3 a0_4 t212 t213 t214 t215 t216 t219 t220 t221 t222 t223 t224 _ A135.out).mono ?_); rintro e w175 ⟨rfl, hb⟩; refine ⟨_, rfl, ?_⟩; replace BK178 := Aside0.mk (blk_below (g := gb178) (o := .cells #[.int .i64 a0_0, .int .i64 a0_1, .int .i64 a0_2, .int .i64 a0_3, .int .i64 a0_4] 25 (0, 0)) (by (repeat refine blk_far ?_ NB178_218.out _); exact BK178.out) hb); replace BK179 := Aside0.mk (blk_below (g := gb179) (o := .cells #[.int .i64 a1_0, .int .i64 a1_1, .int .i64 a1_2, .int .i64 a1_3, .int .i64 a1_4] 25 (0, 0)) (by (repeat refine blk_far ?_ NB179_218.out _); exact BK179.out) hb); replace BK180 := Aside0.mk (blk_below (g := gb180) (o := .cells #[.int .i64 a2_0, .int .i64 a2_1, .int .i64 a2_2, .int .i64 a2_3, .int .i64 a2_4] 25 (0, 0)) (by (repeat refine blk_far ?_ NB180_218.out _); exact BK180.out) hb); replace BK181 := Aside0.mk (blk_below (g := gb181) (o := .cells #[.int .i64 a3_0, .int .i64 a3_1, .int .i64 a3_2] 23 (0, 0)) (by (repeat refine blk_far ?_ NB181_218.out _); exact BK181.out) hb); replace BK189 := Aside0.mk (blk_below (g := gb189) (o := .cells #[.int .i64 t183, .int .i64 t184, .int .i64 t185, .int .i64 t186, .int .i64 t187] 25 (0, 0)) (by (repeat refine blk_far ?_ NB189_218.out _); exact BK189.out) hb); replace BK196 := Aside0.mk (blk_below (g := gb196) (o := .cells #[.int .i64 t190, .int .i64 t191, .int .i64 t192, .int .i64 t193, .int .i64 t194] 25 (0, 0)) (by (repeat refine blk_far ?_ NB196_218.out _); exact BK196.out) hb); replace BK211 := Aside0.mk (blk_below (g := gb211) (o := .cells #[.int .i64 t205, .int .i64 t206, .int .i64 t207, .int .i64 t208, .int .i64 t209] 25 (0, 0)) (by (repeat refine blk_far ?_ NB211_218.out _); exact BK211.out) hb); replace BK218 := Aside0.mk (blk_below (g := gb218) (o := .cells #[.int .i64 t212, .int .i64 t213, .int .i64 t214, .int .i64 t215, .int .i64 t216] 25 (0, 0)) (by (with_reducible repeat first | apply blk_drewN | apply blk_drew | apply blk_alloc); refine blk_put (cs := #[.int .i64 t212, .int .i64 t213, .int .i64 t214, .int .i64 t215, .int .i64 0]) ?_ 4 _ rfl; (with_reducible repeat first | apply blk_drewN | apply blk_drew | apply blk_alloc); refine blk_put (cs := #[.int .i64 t212, .int .i64 t213, .int .i64 t214, .int .i64 0, .int .i64 0]) ?_ 3 _ rfl; (with_reducible repeat first | apply blk_drewN | apply blk_drew | apply blk_alloc); refine blk_put (cs := #[.int .i64 t212, .int .i64 t213, .int .i64 0, .int .i64 0, .int .i64 0]) ?_ 2 _ rfl; (with_reducible repeat first | apply blk_drewN | apply blk_drew | apply blk_alloc); refine blk_put (cs := #[.int .i64 t212, .int .i64 0, .int .i64 0, .int .i64 0, .int .i64 0]) ?_ 1 _ rfl; (with_reducible repeat first | apply blk_drewN | apply blk_drew | apply blk_alloc); refine blk_put (cs := #[.int .i64 0, .int .i64 0, .int .i64 0, .int .i64 0, .int .i64 0]) ?_ 0 _ rfl; (with_reducible repeat first | apply blk_drewN | apply blk_drew | apply blk_alloc); exact BK218.out) hb); replace HB := Aside0.mk (below_step (by repeat first | exact HB.out | refine below_set ?_ GE178.out | refine below_set ?_ GE179.out | refine below_set ?_ GE180.out | refine below_set ?_ GE181.out | refine below_set ?_ GE189.out | refine below_set ?_ GE196.out | refine below_set ?_ GE211.out | refine below_set ?_ GE218.out) hb); (try clear hb); (try clear hb2); (try clear hk); (try clear hi)) | ((with_reducible refine gate_dst (N := 17) rfl ?_); refine box_event ?hg (N := 17) ?hd (cs := #[.int .i64 0, .int .i64 0, .int .i64 0, .int .i64 0, .int .i64 0]) (t := 25) ?hr ?_; (case hd => rfl); (case hg => rfl); (case hr => go_simp <;> rfl); intro gb225 hg w176 hbox hb; have BK225 := Aside0.mk (hbox); have GW225 := Aside0.mk ((by rw [hg]; exact (below_size (by repeat first | exact HB.out | refine below_set ?_ GE178.out | refine below_set ?_ GE179.out | refine below_set ?_ GE180.out | refine below_set ?_ GE181.out | refine below_set ?_ GE189.out | refine below_set ?_ GE196.out | refine below_set ?_ GE211.out | refine below_set ?_ GE218.out)) : w.heap.size ≤ gb225)); have GE225 := GW225; have NB178_225 := Aside0.mk ((by rw [hg]; exact Nat.ne_of_lt (blk_lt BK178.out) : gb178 ≠ gb225)); have NB225_178 := Aside0.mk ((by rw [hg]; exact Nat.ne_of_gt (blk_lt BK178.out) : gb225 ≠ gb178)); have NB179_225 := Aside0.mk ((by rw [hg]; exact Nat.ne_of_lt (blk_lt BK179.out) : gb179 ≠ gb225)); have NB225_179 := Aside0.mk ((by rw [hg]; exact Nat.ne_of_gt (blk_lt BK179.out) : gb225 ≠ gb179)); have NB180_225 := Aside0.mk ((by rw [hg]; exact Nat.ne_of_lt (blk_lt BK180.out) : gb180 ≠ gb225)); have NB225_180 := Aside0.mk ((by rw [hg]; exact Nat.ne_of_gt (blk_lt BK180.out) : gb225 ≠ gb180)); have NB181_225 := Aside0.mk ((by rw [hg]; exact Nat.ne_of_lt (blk_lt BK181.out) : gb181 ≠ gb225)); have NB225_181 := Aside0.mk ((by rw [hg]; exact Nat.ne_of_gt (blk_lt BK181.out) : gb225 ≠ gb181)); have NB189_225 := Aside0.mk ((by rw [hg]; exact Nat.ne_of_lt (blk_lt BK189.out) : gb189 ≠ gb225)); have NB225_189 := Aside0.mk ((by rw [hg]; exact Nat.ne_of_gt (blk_lt BK189.out) : gb225 ≠ gb189)); have NB196_225 := Aside0.mk ((by rw [hg]; exact Nat.ne_of_lt (blk_lt BK196.out) : gb196 ≠ gb225)); have NB225_196 := Aside0.mk ((by rw [hg]; exact Nat.ne_of_gt (blk_lt BK196.out) : gb225 ≠ gb196)); have NB211_225 := Aside0.mk ((by rw [hg]; exact Nat.ne_of_lt (blk_lt BK211.out) : gb211 ≠ gb225)); have NB225_211 := Aside0.mk ((by rw [hg]; exact Nat.ne_of_gt (blk_lt BK211.out) : gb225 ≠ gb211)); have NB218_225 := Aside0.mk ((by rw [hg]; exact Nat.ne_of_lt (blk_lt BK218.out) : gb218 ≠ gb225)); have NB225_218 := Aside0.mk ((by rw [hg]; exact Nat.ne_of_gt (blk_lt BK218.out) : gb225 ≠ gb218)); replace BK178 := Aside0.mk (blk_below BK178.out hb); replace BK179 := Aside0.mk (blk_below BK179.out hb); replace BK180 := Aside0.mk (blk_below BK180.out hb); replace BK181 := Aside0.mk (blk_below BK181.out hb); replace BK189 := Aside0.mk (blk_below BK189.out hb); replace BK196 := Aside0.mk (blk_below BK196.out hb); replace BK211 := Aside0.mk (blk_below BK211.out hb); replace BK218 := Aside0.mk (blk_below BK218.out hb); replace HB := Aside0.mk (below_step (by repeat first | exact HB.out | refine below_set ?_ GE178.out | refine below_set ?_ GE179.out | refine below_set ?_ GE180.out | refine below_set ?_ GE181.out | refine below_set ?_ GE189.out | refine below_set ?_ GE196.out | refine below_set ?_ GE211.out | refine below_set ?_ GE218.out) hb); clear hb hbox hg; have hnb177 := NB225_178.out; have hnc177 := NB178_225.out; have hnb178 := NB225_179.out; have hnc178 := NB179_225.out; have hnb179 := NB225_180.out; have hnc179 := NB180_225.out; have hnb180 := NB225_181.out; have hnc180 := NB181_225.out; have hnb181 := NB225_189.out; have hnc181 := NB189_225.out; have hnb182 := NB225_196.out; have hnc182 := NB196_225.out; have hnb183 := NB225_211.out; have hnc183 := NB211_225.out; have hnb184 := NB225_218.out; have hnc184 := NB218_225.out; have hcz185_0 : w176.cell? ⟨gb225, 0, none⟩ = some (.int .i64 0) := (blk_cell BK225.out 0).trans rfl; have hcz185_1 : w176.cell? ⟨gb225, 1, none⟩ = some (.int .i64 0) := (blk_cell BK225.out 1).trans rfl; have hcz185_2 : w176.cell? ⟨gb225, 2, none⟩ = some (.int .i64 0) := (blk_cell BK225.out 2).trans rfl; have hcz185_3 : w176.cell? ⟨gb225, 3, none⟩ = some (.int .i64 0) := (blk_cell BK225.out 3).trans rfl; have hcz185_4 : w176.cell? ⟨gb225, 4, none⟩ = some (.int .i64 0) := (blk_cell BK225.out 4).trans rfl; have hfz185_0 := blk_frozen BK225.out 0; have hfz185_1 := blk_frozen BK225.out 1; have hfz185_2 := blk_frozen BK225.out 2; have hfz185_3 := blk_frozen BK225.out 3; have hfz185_4 := blk_frozen BK225.out 4))
        (try simp only [Act.put, List.setIfInBounds_toArray, List.set_cons_zero, List.set_cons_succ])
        go_cut [14] (fun v14 wc => ∃ (kq : Nat) (x14_135 : Bool), v14 = .bool x14_135 ∧ Aside0 (whittlelaw3_PlaceMeets.j2 kq x14_135 t217 t224 a0_0 a0_1 a0_2 a0_3 a0_4 t205 t206 t207 t208 t209 t219 t220 t221 t222 t223 = some r) ∧ Aside0 (kq ≤ kj108) ∧ Aside0 (wc.heap[gb178]? = some (.cells #[.int .i64 a0_0, .int .i64 a0_1, .int .i64 a0_2, .int .i64 a0_3, .int .i64 a0_4] 25 (0, 0))) ∧ Aside0 (wc.heap[gb179]? = some (.cells #[.int .i64 a1_0, .int .i64 a1_1, .int .i64 a1_2, .int .i64 a1_3, .int .i64 a1_4] 25 (0, 0))) ∧ Aside0 (wc.heap[gb180]? = some (.cells #[.int .i64 a2_0, .int .i64 a2_1, .int .i64 a2_2, .int .i64 a2_3, .int .i64 a2_4] 25 (0, 0))) ∧ Aside0 (wc.heap[gb181]? = some (.cells #[.int .i64 a3_0, .int .i64 a3_1, .int .i64 a3_2] 23 (0, 0))) ∧ Aside0 (wc.heap[gb189]? = some (.cells #[.int .i64 t183, .int .i64 t184, .int .i64 t185, .int .i64 t186, .int .i64 t187] 25 (0, 0))) ∧ Aside0 (wc.heap[gb196]? = some (.cells #[.int .i64 t190, .int .i64 t191, .int .i64 t192, .int .i64 t193, .int .i64 t194] 25 (0, 0))) ∧ Aside0 (wc.heap[gb211]? = some (.cells #[.int .i64 t205, .int .i64 t206, .int .i64 t207, .int .i64 t208, .int .i64 t209] 25 (0, 0))) ∧ Aside0 (wc.heap[gb218]? = some (.cells #[.int .i64 t212, .int .i64 t213, .int .i64 t214, .int .i64 t215, .int .i64 t216] 25 (0, 0))) ∧ Aside0 (wc.heap[gb225]? = some (.cells #[.int .i64 t219, .int .i64 t220, .int .i64 t221, .int .i64 t222, .int .i64 t223] 25 (0, 0))) ∧ Aside0 (Below w.heap.size w wc))
        case first =>
         have H := HC136.out
         clear HC136
         by_cases c186 : t210 = true
         ·
          subst c186
          have H1 : (whittlelaw3_PlaceMeets.j2 kj108 t188 t217 t224 a0_0 a0_1 a0_2 a0_3 a0_4 t205 t206 t207 t208 t209 t219 t220 t221 t222 t223) = some r := by rw [if_pos rfl] at H; exact H
          clear H
          have H := H1
          clear H1
          have H' := Aside0.mk H
          clear H
          go_wp2
          go_meet
          case rel => exact ⟨_, (t188), (by first | rfl | (simp; done) | (simp [*]; done)), H', ⟨by have := HJ8.out; have := HJ108.out; first | omega | exact Nat.le_refl _⟩, ⟨by (with_reducible repeat first | apply blk_drewN | apply blk_drew | apply blk_alloc); refine blk_far ?_ NB178_225.out _; (with_reducible repeat first | apply blk_drewN | apply blk_drew | apply blk_alloc); refine blk_far ?_ NB178_225.out _; (with_reducible repeat first | apply blk_drewN | apply blk_drew | apply blk_alloc); refine blk_far ?_ NB178_225.out _; (with_reducible repeat first | apply blk_drewN | apply blk_drew | apply blk_alloc); refine blk_far ?_ NB178_225.out _; (with_reducible repeat first | apply blk_drewN | apply blk_drew | apply blk_alloc); refine blk_far ?_ NB178_225.out _; (with_reducible repeat first | apply blk_drewN | apply blk_drew | apply blk_alloc); exact BK178.out⟩, ⟨by (with_reducible repeat first | apply blk_drewN | apply blk_drew | apply blk_alloc); refine blk_far ?_ NB179_225.out _; (with_reducible repeat first | apply blk_drewN | apply blk_drew | apply blk_alloc); refine blk_far ?_ NB179_225.out _; (with_reducible repeat first | apply blk_drewN | apply blk_drew | apply blk_alloc); refine blk_far ?_ NB179_225.out _; (with_reducible repeat first | apply blk_drewN | apply blk_drew | apply blk_alloc); refine blk_far ?_ NB179_225.out _; (with_reducible repeat first | apply blk_drewN | apply blk_drew | apply blk_alloc); refine blk_far ?_ NB179_225.out _; (with_reducible repeat first | apply blk_drewN | apply blk_drew | apply blk_alloc); exact BK179.out⟩, ⟨by (with_reducible repeat first | apply blk_drewN | apply blk_drew | apply blk_alloc); refine blk_far ?_ NB180_225.out _; (with_reducible repeat first | apply blk_drewN | apply blk_drew | apply blk_alloc); refine blk_far ?_ NB180_225.out _; (with_reducible repeat first | apply blk_drewN | apply blk_drew | apply blk_alloc); refine blk_far ?_ NB180_225.out _; (with_reducible repeat first | apply blk_drewN | apply blk_drew | apply blk_alloc); refine blk_far ?_ NB180_225.out _; (with_reducible repeat first | apply blk_drewN | apply blk_drew | apply blk_alloc); refine blk_far ?_ NB180_225.out _; (with_reducible repeat first | apply blk_drewN | apply blk_drew | apply blk_alloc); exact BK180.out⟩, ⟨by (with_reducible repeat first | apply blk_drewN | apply blk_drew | apply blk_alloc); refine blk_far ?_ NB181_225.out _; (with_reducible repeat first | apply blk_drewN | apply blk_drew | apply blk_alloc); refine blk_far ?_ NB181_225.out _; (with_reducible repeat first | apply blk_drewN | apply blk_drew | apply blk_alloc); refine blk_far ?_ NB181_225.out _; (with_reducible repeat first | apply blk_drewN | apply blk_drew | apply blk_alloc); refine blk_far ?_ NB181_225.out _; (with_reducible repeat first | apply blk_drewN | apply blk_drew | apply blk_alloc); refine blk_far ?_ NB181_225.out _; (with_reducible repeat first | apply blk_drewN | apply blk_drew | apply blk_alloc); exact BK181.out⟩, ⟨by (with_reducible repeat first | apply blk_drewN | apply blk_drew | apply blk_alloc); refine blk_far ?_ NB189_225.out _; (with_reducible repeat first | apply blk_drewN | apply blk_drew | apply blk_alloc); refine blk_far ?_ NB189_225.out _; (with_reducible repeat first | apply blk_drewN | apply blk_drew | apply blk_alloc); refine blk_far ?_ NB189_225.out _; (with_reducible repeat first | apply blk_drewN | apply blk_drew | apply blk_alloc); refine blk_far ?_ NB189_225.out _; (with_reducible repeat first | apply blk_drewN | apply blk_drew | apply blk_alloc); refine blk_far ?_ NB189_225.out _; (with_reducible repeat first | apply blk_drewN | apply blk_drew | apply blk_alloc); exact BK189.out⟩, ⟨by (with_reducible repeat first | apply blk_drewN | apply blk_drew | apply blk_alloc); refine blk_far ?_ NB196_225.out _; (with_reducible repeat first | apply blk_drewN | apply blk_drew | apply blk_alloc); refine blk_far ?_ NB196_225.out _; (with_reducible repeat first | apply blk_drewN | apply blk_drew | apply blk_alloc); refine blk_far ?_ NB196_225.out _; (with_reducible repeat first | apply blk_drewN | apply blk_drew | apply blk_alloc); refine blk_far ?_ NB196_225.out _; (with_reducible repeat first | apply blk_drewN | apply blk_drew | apply blk_alloc); refine blk_far ?_ NB196_225.out _; (with_reducible repeat first | apply blk_drewN | apply blk_drew | apply blk_alloc); exact BK196.out⟩, ⟨by (with_reducible repeat first | apply blk_drewN | apply blk_drew | apply blk_alloc); refine blk_far ?_ NB211_225.out _; (with_reducible repeat first | apply blk_drewN | apply blk_drew | apply blk_alloc); refine blk_far ?_ NB211_225.out _; (with_reducible repeat first | apply blk_drewN | apply blk_drew | apply blk_alloc); refine blk_far ?_ NB211_225.out _; (with_reducible repeat first | apply blk_drewN | apply blk_drew | apply blk_alloc); refine blk_far ?_ NB211_225.out _; (with_reducible repeat first | apply blk_drewN | apply blk_drew | apply blk_alloc); refine blk_far ?_ NB211_225.out _; (with_reducible repeat first | apply blk_drewN | apply blk_drew | apply blk_alloc); exact BK211.out⟩, ⟨by (with_reducible repeat first | apply blk_drewN | apply blk_drew | apply blk_alloc); refine blk_far ?_ NB218_225.out _; (with_reducible repeat first | apply blk_drewN | apply blk_drew | apply blk_alloc); refine blk_far ?_ NB218_225.out _; (with_reducible repeat first | apply blk_drewN | apply blk_drew | apply blk_alloc); refine blk_far ?_ NB218_225.out _; (with_reducible repeat first | apply blk_drewN | apply blk_drew | apply blk_alloc); refine blk_far ?_ NB218_225.out _; (with_reducible repeat first | apply blk_drewN | apply blk_drew | apply blk_alloc); refine blk_far ?_ NB218_225.out _; (with_reducible repeat first | apply blk_drewN | apply blk_drew | apply blk_alloc); exact BK218.out⟩, ⟨by (with_reducible repeat first | apply blk_drewN | apply blk_drew | apply blk_alloc); refine blk_put (cs := #[.int .i64 t219, .int .i64 t220, .int .i64 t221, .int .i64 t222, .int .i64 0]) ?_ 4 _ rfl; (with_reducible repeat first | apply blk_drewN | apply blk_drew | apply blk_alloc); refine blk_put (cs := #[.int .i64 t219, .int .i64 t220, .int .i64 t221, .int .i64 0, .int .i64 0]) ?_ 3 _ rfl; (with_reducible repeat first | apply blk_drewN | apply blk_drew | apply blk_alloc); refine blk_put (cs := #[.int .i64 t219, .int .i64 t220, .int .i64 0, .int .i64 0, .int .i64 0]) ?_ 2 _ rfl; (with_reducible repeat first | apply blk_drewN | apply blk_drew | apply blk_alloc); refine blk_put (cs := #[.int .i64 t219, .int .i64 0, .int .i64 0, .int .i64 0, .int .i64 0]) ?_ 1 _ rfl; (with_reducible repeat first | apply blk_drewN | apply blk_drew | apply blk_alloc); refine blk_put (cs := #[.int .i64 0, .int .i64 0, .int .i64 0, .int .i64 0, .int .i64 0]) ?_ 0 _ rfl; (with_reducible repeat first | apply blk_drewN | apply blk_drew | apply blk_alloc); exact BK225.out⟩, ⟨by repeat (first | (with_reducible first | exact HB.out | apply below_alloc | apply pw_below_drewN | apply below_drew1 | refine below_set ?_ GE178.out | refine below_set ?_ GE179.out | refine below_set ?_ GE180.out | refine below_set ?_ GE181.out | refine below_set ?_ GE189.out | refine below_set ?_ GE196.out | refine below_set ?_ GE211.out | refine below_set ?_ GE218.out | refine below_set ?_ GE225.out) | exact HB.out)⟩⟩
         ·
          replace c186 := Bool.eq_false_iff.mpr c186
          subst c186
          have H1 : (whittlelaw3_PlaceMeets.j2 kj108 false t217 t224 a0_0 a0_1 a0_2 a0_3 a0_4 t205 t206 t207 t208 t209 t219 t220 t221 t222 t223) = some r := by rw [if_neg (show ¬ (false = true) by decide)] at H; exact H
          clear H
          have H := H1
          clear H1
          have H' := Aside0.mk H
          clear H
          go_wp2
          go_meet
          case rel => exact ⟨_, (false), (by first | rfl | (simp; done) | (simp [*]; done)), H', ⟨by have := HJ8.out; have := HJ108.out; first | omega | exact Nat.le_refl _⟩, ⟨by (with_reducible repeat first | apply blk_drewN | apply blk_drew | apply blk_alloc); refine blk_far ?_ NB178_225.out _; (with_reducible repeat first | apply blk_drewN | apply blk_drew | apply blk_alloc); refine blk_far ?_ NB178_225.out _; (with_reducible repeat first | apply blk_drewN | apply blk_drew | apply blk_alloc); refine blk_far ?_ NB178_225.out _; (with_reducible repeat first | apply blk_drewN | apply blk_drew | apply blk_alloc); refine blk_far ?_ NB178_225.out _; (with_reducible repeat first | apply blk_drewN | apply blk_drew | apply blk_alloc); refine blk_far ?_ NB178_225.out _; (with_reducible repeat first | apply blk_drewN | apply blk_drew | apply blk_alloc); exact BK178.out⟩, ⟨by (with_reducible repeat first | apply blk_drewN | apply blk_drew | apply blk_alloc); refine blk_far ?_ NB179_225.out _; (with_reducible repeat first | apply blk_drewN | apply blk_drew | apply blk_alloc); refine blk_far ?_ NB179_225.out _; (with_reducible repeat first | apply blk_drewN | apply blk_drew | apply blk_alloc); refine blk_far ?_ NB179_225.out _; (with_reducible repeat first | apply blk_drewN | apply blk_drew | apply blk_alloc); refine blk_far ?_ NB179_225.out _; (with_reducible repeat first | apply blk_drewN | apply blk_drew | apply blk_alloc); refine blk_far ?_ NB179_225.out _; (with_reducible repeat first | apply blk_drewN | apply blk_drew | apply blk_alloc); exact BK179.out⟩, ⟨by (with_reducible repeat first | apply blk_drewN | apply blk_drew | apply blk_alloc); refine blk_far ?_ NB180_225.out _; (with_reducible repeat first | apply blk_drewN | apply blk_drew | apply blk_alloc); refine blk_far ?_ NB180_225.out _; (with_reducible repeat first | apply blk_drewN | apply blk_drew | apply blk_alloc); refine blk_far ?_ NB180_225.out _; (with_reducible repeat first | apply blk_drewN | apply blk_drew | apply blk_alloc); refine blk_far ?_ NB180_225.out _; (with_reducible repeat first | apply blk_drewN | apply blk_drew | apply blk_alloc); refine blk_far ?_ NB180_225.out _; (with_reducible repeat first | apply blk_drewN | apply blk_drew | apply blk_alloc); exact BK180.out⟩, ⟨by (with_reducible repeat first | apply blk_drewN | apply blk_drew | apply blk_alloc); refine blk_far ?_ NB181_225.out _; (with_reducible repeat first | apply blk_drewN | apply blk_drew | apply blk_alloc); refine blk_far ?_ NB181_225.out _; (with_reducible repeat first | apply blk_drewN | apply blk_drew | apply blk_alloc); refine blk_far ?_ NB181_225.out _; (with_reducible repeat first | apply blk_drewN | apply blk_drew | apply blk_alloc); refine blk_far ?_ NB181_225.out _; (with_reducible repeat first | apply blk_drewN | apply blk_drew | apply blk_alloc); refine blk_far ?_ NB181_225.out _; (with_reducible repeat first | apply blk_drewN | apply blk_drew | apply blk_alloc); exact BK181.out⟩, ⟨by (with_reducible repeat first | apply blk_drewN | apply blk_drew | apply blk_alloc); refine blk_far ?_ NB189_225.out _; (with_reducible repeat first | apply blk_drewN | apply blk_drew | apply blk_alloc); refine blk_far ?_ NB189_225.out _; (with_reducible repeat first | apply blk_drewN | apply blk_drew | apply blk_alloc); refine blk_far ?_ NB189_225.out _; (with_reducible repeat first | apply blk_drewN | apply blk_drew | apply blk_alloc); refine blk_far ?_ NB189_225.out _; (with_reducible repeat first | apply blk_drewN | apply blk_drew | apply blk_alloc); refine blk_far ?_ NB189_225.out _; (with_reducible repeat first | apply blk_drewN | apply blk_drew | apply blk_alloc); exact BK189.out⟩, ⟨by (with_reducible repeat first | apply blk_drewN | apply blk_drew | apply blk_alloc); refine blk_far ?_ NB196_225.out _; (with_reducible repeat first | apply blk_drewN | apply blk_drew | apply blk_alloc); refine blk_far ?_ NB196_225.out _; (with_reducible repeat first | apply blk_drewN | apply blk_drew | apply blk_alloc); refine blk_far ?_ NB196_225.out _; (with_reducible repeat first | apply blk_drewN | apply blk_drew | apply blk_alloc); refine blk_far ?_ NB196_225.out _; (with_reducible repeat first | apply blk_drewN | apply blk_drew | apply blk_alloc); refine blk_far ?_ NB196_225.out _; (with_reducible repeat first | apply blk_drewN | apply blk_drew | apply blk_alloc); exact BK196.out⟩, ⟨by (with_reducible repeat first | apply blk_drewN | apply blk_drew | apply blk_alloc); refine blk_far ?_ NB211_225.out _; (with_reducible repeat first | apply blk_drewN | apply blk_drew | apply blk_alloc); refine blk_far ?_ NB211_225.out _; (with_reducible repeat first | apply blk_drewN | apply blk_drew | apply blk_alloc); refine blk_far ?_ NB211_225.out _; (with_reducible repeat first | apply blk_drewN | apply blk_drew | apply blk_alloc); refine blk_far ?_ NB211_225.out _; (with_reducible repeat first | apply blk_drewN | apply blk_drew | apply blk_alloc); refine blk_far ?_ NB211_225.out _; (with_reducible repeat first | apply blk_drewN | apply blk_drew | apply blk_alloc); exact BK211.out⟩, ⟨by (with_reducible repeat first | apply blk_drewN | apply blk_drew | apply blk_alloc); refine blk_far ?_ NB218_225.out _; (with_reducible repeat first | apply blk_drewN | apply blk_drew | apply blk_alloc); refine blk_far ?_ NB218_225.out _; (with_reducible repeat first | apply blk_drewN | apply blk_drew | apply blk_alloc); refine blk_far ?_ NB218_225.out _; (with_reducible repeat first | apply blk_drewN | apply blk_drew | apply blk_alloc); refine blk_far ?_ NB218_225.out _; (with_reducible repeat first | apply blk_drewN | apply blk_drew | apply blk_alloc); refine blk_far ?_ NB218_225.out _; (with_reducible repeat first | apply blk_drewN | apply blk_drew | apply blk_alloc); exact BK218.out⟩, ⟨by (with_reducible repeat first | apply blk_drewN | apply blk_drew | apply blk_alloc); refine blk_put (cs := #[.int .i64 t219, .int .i64 t220, .int .i64 t221, .int .i64 t222, .int .i64 0]) ?_ 4 _ rfl; (with_reducible repeat first | apply blk_drewN | apply blk_drew | apply blk_alloc); refine blk_put (cs := #[.int .i64 t219, .int .i64 t220, .int .i64 t221, .int .i64 0, .int .i64 0]) ?_ 3 _ rfl; (with_reducible repeat first | apply blk_drewN | apply blk_drew | apply blk_alloc); refine blk_put (cs := #[.int .i64 t219, .int .i64 t220, .int .i64 0, .int .i64 0, .int .i64 0]) ?_ 2 _ rfl; (with_reducible repeat first | apply blk_drewN | apply blk_drew | apply blk_alloc); refine blk_put (cs := #[.int .i64 t219, .int .i64 0, .int .i64 0, .int .i64 0, .int .i64 0]) ?_ 1 _ rfl; (with_reducible repeat first | apply blk_drewN | apply blk_drew | apply blk_alloc); refine blk_put (cs := #[.int .i64 0, .int .i64 0, .int .i64 0, .int .i64 0, .int .i64 0]) ?_ 0 _ rfl; (with_reducible repeat first | apply blk_drewN | apply blk_drew | apply blk_alloc); exact BK225.out⟩, ⟨by repeat (first | (with_reducible first | exact HB.out | apply below_alloc | apply pw_below_drewN | apply below_drew1 | refine below_set ?_ GE178.out | refine below_set ?_ GE179.out | refine below_set ?_ GE180.out | refine below_set ?_ GE181.out | refine below_set ?_ GE189.out | refine below_set ?_ GE196.out | refine below_set ?_ GE211.out | refine below_set ?_ GE218.out | refine below_set ?_ GE225.out) | exact HB.out)⟩⟩
        case rest =>
         clear HC136
         (try clear c1); (try clear c2); (try clear p2); (try clear c11); (try clear c12); (try clear c13); (try clear c14); (try clear c15); (try clear c16); (try clear c17); (try clear c18); (try clear c27); (try clear c28); (try clear c110); (try clear c125); (try clear c132); (try clear c137); (try clear c138); (try clear c139); (try clear c140); (try clear c141); (try clear c143); (try clear c144); (try clear c145); (try clear c146); (try clear c150); (try clear c151); (try clear c152); (try clear c153); (try clear c154); (try clear c155); (try clear c157); (try clear c158); (try clear c159); (try clear c164); (try clear c165); (try clear c166); (try clear c167); (try clear c168); (try clear c169); (try clear c170); (try clear c172); (try clear c173); (try clear c177); (try clear c178); (try clear c179); (try clear c180); (try clear c181); (try clear c182); (try clear c183); (try clear c184); (try clear c186); (try clear hcz142_0); (try clear hcz142_1); (try clear hcz142_2); (try clear hcz142_3); (try clear hcz142_4); (try clear hcz147_0); (try clear hcz147_1); (try clear hcz147_2); (try clear hcz147_3); (try clear hcz147_4); (try clear hcz156_0); (try clear hcz156_1); (try clear hcz156_2); (try clear hcz156_3); (try clear hcz156_4); (try clear hcz160_0); (try clear hcz160_1); (try clear hcz160_2); (try clear hcz160_3); (try clear hcz160_4); (try clear hcz161_0); (try clear hcz161_1); (try clear hcz161_2); (try clear hcz161_3); (try clear hcz161_4); (try clear hcz171_0); (try clear hcz171_1); (try clear hcz171_2); (try clear hcz171_3); (try clear hcz171_4); (try clear hcz174_0); (try clear hcz174_1); (try clear hcz174_2); (try clear hcz174_3); (try clear hcz174_4); (try clear hcz185_0); (try clear hcz185_1); (try clear hcz185_2); (try clear hcz185_3); (try clear hcz185_4); (try clear hfz142_0); (try clear hfz142_1); (try clear hfz142_2); (try clear hfz142_3); (try clear hfz142_4); (try clear hfz147_0); (try clear hfz147_1); (try clear hfz147_2); (try clear hfz147_3); (try clear hfz147_4); (try clear hfz156_0); (try clear hfz156_1); (try clear hfz156_2); (try clear hfz156_3); (try clear hfz156_4); (try clear hfz160_0); (try clear hfz160_1); (try clear hfz160_2); (try clear hfz160_3); (try clear hfz160_4); (try clear hfz161_0); (try clear hfz161_1); (try clear hfz161_2); (try clear hfz161_3); (try clear hfz161_4); (try clear hfz171_0); (try clear hfz171_1); (try clear hfz171_2); (try clear hfz171_3); (try clear hfz171_4); (try clear hfz174_0); (try clear hfz174_1); (try clear hfz174_2); (try clear hfz174_3); (try clear hfz174_4); (try clear hfz185_0); (try clear hfz185_1); (try clear hfz185_2); (try clear hfz185_3); (try clear hfz185_4); (try clear p2)
         obtain ⟨kq, x14_135, rfl, HA, HJ135, BK178, BK179, BK180, BK181, BK189, BK196, BK211, BK218, BK225, HB⟩ := hcut
         cases kq with
         | zero => exact absurd HA.out (by simp [whittlelaw3_PlaceMeets.j2])
         | succ kj135 =>
          have H := HA.out
          clear HA
          simp only [whittlelaw3_PlaceMeets.j2] at H
          have HC187 := Aside0.mk H
          clear H
          go_upto_region 13 with (fail)
          go_cut [18] (fun v18 wc => ∃ (kq : Nat) (x18_186 : Bool), v18 = .bool x18_186 ∧ Aside0 (whittlelaw3_PlaceMeets.j3 kq x14_135 x18_186 a0_0 a0_1 a0_2 a0_3 a0_4 t205 t206 t207 t208 t209 t219 t220 t221 t222 t223 = some r) ∧ Aside0 (kq ≤ kj135) ∧ Aside0 (wc.heap[gb178]? = some (.cells #[.int .i64 a0_0, .int .i64 a0_1, .int .i64 a0_2, .int .i64 a0_3, .int .i64 a0_4] 25 (0, 0))) ∧ Aside0 (wc.heap[gb179]? = some (.cells #[.int .i64 a1_0, .int .i64 a1_1, .int .i64 a1_2, .int .i64 a1_3, .int .i64 a1_4] 25 (0, 0))) ∧ Aside0 (wc.heap[gb180]? = some (.cells #[.int .i64 a2_0, .int .i64 a2_1, .int .i64 a2_2, .int .i64 a2_3, .int .i64 a2_4] 25 (0, 0))) ∧ Aside0 (wc.heap[gb181]? = some (.cells #[.int .i64 a3_0, .int .i64 a3_1, .int .i64 a3_2] 23 (0, 0))) ∧ Aside0 (wc.heap[gb189]? = some (.cells #[.int .i64 t183, .int .i64 t184, .int .i64 t185, .int .i64 t186, .int .i64 t187] 25 (0, 0))) ∧ Aside0 (wc.heap[gb196]? = some (.cells #[.int .i64 t190, .int .i64 t191, .int .i64 t192, .int .i64 t193, .int .i64 t194] 25 (0, 0))) ∧ Aside0 (wc.heap[gb211]? = some (.cells #[.int .i64 t205, .int .i64 t206, .int .i64 t207, .int .i64 t208, .int .i64 t209] 25 (0, 0))) ∧ Aside0 (wc.heap[gb218]? = some (.cells #[.int .i64 t212, .int .i64 t213, .int .i64 t214, .int .i64 t215, .int .i64 t216] 25 (0, 0))) ∧ Aside0 (wc.heap[gb225]? = some (.cells #[.int .i64 t219, .int .i64 t220, .int .i64 t221, .int .i64 t222, .int .i64 t223] 25 (0, 0))) ∧ Aside0 (Below w.heap.size w wc))
          case first =>
           have H := HC187.out
           clear HC187
           by_cases c188 : t224 = true
           ·
            subst c188
            have H1 : (whittlelaw3_PlaceMeets.j3 kj135 x14_135 t217 a0_0 a0_1 a0_2 a0_3 a0_4 t205 t206 t207 t208 t209 t219 t220 t221 t222 t223) = some r := by rw [if_pos rfl] at H; exact H
            clear H
            have H := H1
            clear H1
            have H' := Aside0.mk H
            clear H
            go_wp2
            go_meet
            case rel => exact ⟨_, (t217), (by first | rfl | (simp; done) | (simp [*]; done)), H', ⟨by have := HJ8.out; have := HJ108.out; have := HJ135.out; first | omega | exact Nat.le_refl _⟩, ⟨BK178.out⟩, ⟨BK179.out⟩, ⟨BK180.out⟩, ⟨BK181.out⟩, ⟨BK189.out⟩, ⟨BK196.out⟩, ⟨BK211.out⟩, ⟨BK218.out⟩, ⟨BK225.out⟩, ⟨by repeat (first | (with_reducible first | exact HB.out | apply below_alloc | apply pw_below_drewN | apply below_drew1 | refine below_set ?_ GE178.out | refine below_set ?_ GE179.out | refine below_set ?_ GE180.out | refine below_set ?_ GE181.out | refine below_set ?_ GE189.out | refine below_set ?_ GE196.out | refine below_set ?_ GE211.out | refine below_set ?_ GE218.out | refine below_set ?_ GE225.out) | exact HB.out)⟩⟩
           ·
            replace c188 := Bool.eq_false_iff.mpr c188
            subst c188
            have H1 : (whittlelaw3_PlaceMeets.j3 kj135 x14_135 false a0_0 a0_1 a0_2 a0_3 a0_4 t205 t206 t207 t208 t209 t219 t220 t221 t222 t223) = some r := by rw [if_neg (show ¬ (false = true) by decide)] at H; exact H
            clear H
            have H := H1
            clear H1
            have H' := Aside0.mk H
            clear H
            go_wp2
            go_meet
            case rel => exact ⟨_, (false), (by first | rfl | (simp; done) | (simp [*]; done)), H', ⟨by have := HJ8.out; have := HJ108.out; have := HJ135.out; first | omega | exact Nat.le_refl _⟩, ⟨BK178.out⟩, ⟨BK179.out⟩, ⟨BK180.out⟩, ⟨BK181.out⟩, ⟨BK189.out⟩, ⟨BK196.out⟩, ⟨BK211.out⟩, ⟨BK218.out⟩, ⟨BK225.out⟩, ⟨by repeat (first | (with_reducible first | exact HB.out | apply below_alloc | apply pw_below_drewN | apply below_drew1 | refine below_set ?_ GE178.out | refine below_set ?_ GE179.out | refine below_set ?_ GE180.out | refine below_set ?_ GE181.out | refine below_set ?_ GE189.out | refine below_set ?_ GE196.out | refine below_set ?_ GE211.out | refine below_set ?_ GE218.out | refine below_set ?_ GE225.out) | exact HB.out)⟩⟩
          case rest =>
           clear HC187
           (try clear c1); (try clear c2); (try clear p2); (try clear c11); (try clear c12); (try clear c13); (try clear c14); (try clear c15); (try clear c16); (try clear c17); (try clear c18); (try clear c27); (try clear c28); (try clear c110); (try clear c125); (try clear c132); (try clear c137); (try clear c138); (try clear c139); (try clear c140); (try clear c141); (try clear c143); (try clear c144); (try clear c145); (try clear c146); (try clear c150); (try clear c151); (try clear c152); (try clear c153); (try clear c154); (try clear c155); (try clear c157); (try clear c158); (try clear c159); (try clear c164); (try clear c165); (try clear c166); (try clear c167); (try clear c168); (try clear c169); (try clear c170); (try clear c172); (try clear c173); (try clear c177); (try clear c178); (try clear c179); (try clear c180); (try clear c181); (try clear c182); (try clear c183); (try clear c184); (try clear c186); (try clear c188); (try clear hcz142_0); (try clear hcz142_1); (try clear hcz142_2); (try clear hcz142_3); (try clear hcz142_4); (try clear hcz147_0); (try clear hcz147_1); (try clear hcz147_2); (try clear hcz147_3); (try clear hcz147_4); (try clear hcz156_0); (try clear hcz156_1); (try clear hcz156_2); (try clear hcz156_3); (try clear hcz156_4); (try clear hcz160_0); (try clear hcz160_1); (try clear hcz160_2); (try clear hcz160_3); (try clear hcz160_4); (try clear hcz161_0); (try clear hcz161_1); (try clear hcz161_2); (try clear hcz161_3); (try clear hcz161_4); (try clear hcz171_0); (try clear hcz171_1); (try clear hcz171_2); (try clear hcz171_3); (try clear hcz171_4); (try clear hcz174_0); (try clear hcz174_1); (try clear hcz174_2); (try clear hcz174_3); (try clear hcz174_4); (try clear hcz185_0); (try clear hcz185_1); (try clear hcz185_2); (try clear hcz185_3); (try clear hcz185_4); (try clear hfz142_0); (try clear hfz142_1); (try clear hfz142_2); (try clear hfz142_3); (try clear hfz142_4); (try clear hfz147_0); (try clear hfz147_1); (try clear hfz147_2); (try clear hfz147_3); (try clear hfz147_4); (try clear hfz156_0); (try clear hfz156_1); (try clear hfz156_2); (try clear hfz156_3); (try clear hfz156_4); (try clear hfz160_0); (try clear hfz160_1); (try clear hfz160_2); (try clear hfz160_3); (try clear hfz160_4); (try clear hfz161_0); (try clear hfz161_1); (try clear hfz161_2); (try clear hfz161_3); (try clear hfz161_4); (try clear hfz171_0); (try clear hfz171_1); (try clear hfz171_2); (try clear hfz171_3); (try clear hfz171_4); (try clear hfz174_0); (try clear hfz174_1); (try clear hfz174_2); (try clear hfz174_3); (try clear hfz174_4); (try clear hfz185_0); (try clear hfz185_1); (try clear hfz185_2); (try clear hfz185_3); (try clear hfz185_4); (try clear p2)
           obtain ⟨kq, x18_186, rfl, HA, HJ186, BK178, BK179, BK180, BK181, BK189, BK196, BK211, BK218, BK225, HB⟩ := hcut
           cases kq with
           | zero => exact absurd HA.out (by simp [whittlelaw3_PlaceMeets.j3])
           | succ kj186 =>
            have H := HA.out
            clear HA
            simp only [whittlelaw3_PlaceMeets.j3] at H
            replace H := Option.bind_eq_some_iff.mp H
            obtain ⟨⟨t226, t227, t228, t229, t230, t231⟩, A1890, H⟩ := H
            replace H : (if (x14_135 == x18_186) = true then (if x14_135 = true then (if (t205 == t219 && (t206 == t220 && (t207 == t221 && (t208 == t222 && (t209 == t223))))) = true then ((place_RightArea.f a0_0 a0_1 a0_2 a0_3 a0_4).bind fun t233 => (if (t231 == t233) = true then (if t231 = true then (some (t226 == a0_0 && (t227 == a0_1 && (t228 == a0_2 && (t229 == a0_3 && (t230 == a0_4)))))) else (some true)) else (some false))) else (some false)) else ((place_RightArea.f a0_0 a0_1 a0_2 a0_3 a0_4).bind fun t234 => (if (t231 == t234) = true then (if t231 = true then (some (t226 == a0_0 && (t227 == a0_1 && (t228 == a0_2 && (t229 == a0_3 && (t230 == a0_4)))))) else (some true)) else (some false)))) else (some false)) = some r := H
            have A189 := Aside0.mk A1890
            clear A1890
            by_cases c190 : (x14_135 == x18_186) = true
            ·
             rw [if_pos c190] at H
             have c190b0 : (x14_135 == x18_186) = true := c190
             (try (have c190b1 : decide (x14_135 = x18_186) = true := by simpa using c190))
             (try (have c190b2 : (x14_135 == x18_186) = true := by simpa using c190))
             clear c190
             by_cases c191 : x14_135 = true
             ·
              subst c191
              have e190 : x18_186 = true := by simpa using c190b0
              subst e190
              have H1 : (if (t205 == t219 && (t206 == t220 && (t207 == t221 && (t208 == t222 && (t209 == t223))))) = true then ((place_RightArea.f a0_0 a0_1 a0_2 a0_3 a0_4).bind fun t233 => (if (t231 == t233) = true then (if t231 = true then (some (t226 == a0_0 && (t227 == a0_1 && (t228 == a0_2 && (t229 == a0_3 && (t230 == a0_4)))))) else (some true)) else (some false))) else (some false)) = some r := by rw [if_pos rfl] at H; exact H
              clear H
              have H := H1
              clear H1
              by_cases c192 : (t205 == t219 && (t206 == t220 && (t207 == t221 && (t208 == t222 && (t209 == t223))))) = true
              ·
               rw [if_pos c192] at H
               have c192b0 : (t205 == t219 && (t206 == t220 && (t207 == t221 && (t208 == t222 && (t209 == t223))))) = true := c192
               (try (have c192b1 : decide (t205 = t219 && (t206 == t220 && (t207 == t221 && (t208 == t222 && (t209 == t223))))) = true := by simpa using c192))
               (try (have c192b2 : (t205 == t219 && (t206 == t220 && (t207 == t221 && (t208 == t222 && (t209 == t223))))) = true := by simpa using c192))
               clear c192
               replace H := Option.bind_eq_some_iff.mp H
               obtain ⟨t233, A1930, H⟩ := H
               replace H : (if (t231 == t233) = true then (if t231 = true then (some (t226 == a0_0 && (t227 == a0_1 && (t228 == a0_2 && (t229 == a0_3 && (t230 == a0_4)))))) else (some true)) else (some false)) = some r := H
               have A193 := Aside0.mk A1930
               clear A1930
               by_cases c194 : (t231 == t233) = true
               ·
                rw [if_pos c194] at H
                have c194b0 : (t231 == t233) = true := c194
                (try (have c194b1 : decide (t231 = t233) = true := by simpa using c194))
                (try (have c194b2 : (t231 == t233) = true := by simpa using c194))
                clear c194
                by_cases c195 : t231 = true
                ·
                 subst c195
                 have H1 : (some (t226 == a0_0 && (t227 == a0_1 && (t228 == a0_2 && (t229 == a0_3 && (t230 == a0_4)))))) = some r := by rw [if_pos rfl] at H; exact H
                 clear H
                 have H := H1
                 clear H1
                 obtain rfl := Option.some.inj H
                 have hnb196 := NB178_179.out
                 have hnc196 := NB179_178.out
                 have hnb197 := NB178_180.out
                 have hnc197 := NB180_178.out
                 have hnb198 := NB178_181.out
                 have hnc198 := NB181_178.out
                 have hnb199 := NB178_189.out
                 have hnc199 := NB189_178.out
                 have hnb200 := NB178_196.out
                 have hnc200 := NB196_178.out
                 have hnb201 := NB178_211.out
                 have hnc201 := NB211_178.out
                 have hnb202 := NB178_218.out
                 have hnc202 := NB218_178.out
                 have hnb203 := NB178_225.out
                 have hnc203 := NB225_178.out
                 have hcz204_0 : wc.cell? ⟨gb178, 0, none⟩ = some (.int .i64 a0_0) := (blk_cell BK178.out 0).trans rfl
                 have hcz204_1 : wc.cell? ⟨gb178, 1, none⟩ = some (.int .i64 a0_1) := (blk_cell BK178.out 1).trans rfl
                 have hcz204_2 : wc.cell? ⟨gb178, 2, none⟩ = some (.int .i64 a0_2) := (blk_cell BK178.out 2).trans rfl
                 have hcz204_3 : wc.cell? ⟨gb178, 3, none⟩ = some (.int .i64 a0_3) := (blk_cell BK178.out 3).trans rfl
                 have hcz204_4 : wc.cell? ⟨gb178, 4, none⟩ = some (.int .i64 a0_4) := (blk_cell BK178.out 4).trans rfl
                 have hfz204_0 := blk_frozen BK178.out 0
                 have hfz204_1 := blk_frozen BK178.out 1
                 have hfz204_2 := blk_frozen BK178.out 2
                 have hfz204_3 := blk_frozen BK178.out 3
                 have hfz204_4 := blk_frozen BK178.out 4
                 go_upto_region 15 with (first | ((with_reducible refine gate_callee (f := 27) rfl ?_); refine goesL_ (some 118) rfl rfl Tryd.func27 (by kernel_rfl) rfl #[.agg #[.int .i64 a0_0, .int .i64 a0_1, .int .i64 a0_2, .int .i64 a0_3, .int .i64 a0_4], .agg #[.int .i64 a0_0, .int .i64 a0_1, .int .i64 a0_2, .int .i64 a0_3, .int .i64 a0_4]] rfl (by (try simp only [List.map_toArray, List.map_cons, List.map_nil]); first | done | rfl | (simp only [List.length_drop, List.length_take]; rfl)) ?_; (with_reducible refine (place_Meet.calls a0_0 a0_1 a0_2 a0_3 a0_4 a0_0 a0_1 a0_2 a0_3 a0_4 t226 t227 t228 t229 t230 true _ A189.out).mono ?_); rintro e w205 ⟨rfl, hb⟩; refine ⟨_, rfl, ?_⟩; replace BK178 := Aside0.mk (blk_below BK178.out hb); replace BK179 := Aside0.mk (blk_below BK179.out hb); replace BK180 := Aside0.mk (blk_below BK180.out hb); replace BK181 := Aside0.mk (blk_below BK181.out hb); replace BK189 := Aside0.mk (blk_below BK189.out hb); replace BK196 := Aside0.mk (blk_below BK196.out hb); replace BK211 := Aside0.mk (blk_below BK211.out hb); replace BK218 := Aside0.mk (blk_below BK218.out hb); replace BK225 := Aside0.mk (blk_below BK225.out hb); replace HB := Aside0.mk (below_step (by repeat first | exact HB.out | refine below_set ?_ GE178.out | refine below_set ?_ GE179.out | refine below_set ?_ GE180.out | refine below_set ?_ GE181.out | refine below_set ?_ GE189.out | refine below_set ?_ GE196.out | refine below_set ?_ GE211.out | refine below_set ?_ GE218.out | refine below_set ?_ GE225.out) hb); (try clear hb); (try clear hb2); (try clear hk); (try clear hi)) | ((with_reducible refine gate_dst (N := 19) rfl ?_); refine box_event ?hg (N := 19) ?hd (cs := #[.int .i64 0, .int .i64 0, .int .i64 0, .int .i64 0, .int .i64 0]) (t := 25) ?hr ?_; (case hd => rfl); (case hg => rfl); (case hr => go_simp <;> rfl); intro gb232 hg w206 hbox hb; have BK232 := Aside0.mk (hbox); have GW232 := Aside0.mk ((by rw [hg]; exact (below_size (by repeat first | exact HB.out | refine below_set ?_ GE178.out | refine below_set ?_ GE179.out | refine below_set ?_ GE180.out | refine below_set ?_ GE181.out | refine below_set ?_ GE189.out | refine below_set ?_ GE196.out | refine below_set ?_ GE211.out | refine below_set ?_ GE218.out | refine below_set ?_ GE225.out)) : w.heap.size ≤ gb232)); have GE232 := GW232; have NB178_232 := Aside0.mk ((by rw [hg]; exact Nat.ne_of_lt (blk_lt BK178.out) : gb178 ≠ gb232)); have NB232_178 := Aside0.mk ((by rw [hg]; exact Nat.ne_of_gt (blk_lt BK178.out) : gb232 ≠ gb178)); have NB179_232 := Aside0.mk ((by rw [hg]; exact Nat.ne_of_lt (blk_lt BK179.out) : gb179 ≠ gb232)); have NB232_179 := Aside0.mk ((by rw [hg]; exact Nat.ne_of_gt (blk_lt BK179.out) : gb232 ≠ gb179)); have NB180_232 := Aside0.mk ((by rw [hg]; exact Nat.ne_of_lt (blk_lt BK180.out) : gb180 ≠ gb232)); have NB232_180 := Aside0.mk ((by rw [hg]; exact Nat.ne_of_gt (blk_lt BK180.out) : gb232 ≠ gb180)); have NB181_232 := Aside0.mk ((by rw [hg]; exact Nat.ne_of_lt (blk_lt BK181.out) : gb181 ≠ gb232)); have NB232_181 := Aside0.mk ((by rw [hg]; exact Nat.ne_of_gt (blk_lt BK181.out) : gb232 ≠ gb181)); have NB189_232 := Aside0.mk ((by rw [hg]; exact Nat.ne_of_lt (blk_lt BK189.out) : gb189 ≠ gb232)); have NB232_189 := Aside0.mk ((by rw [hg]; exact Nat.ne_of_gt (blk_lt BK189.out) : gb232 ≠ gb189)); have NB196_232 := Aside0.mk ((by rw [hg]; exact Nat.ne_of_lt (blk_lt BK196.out) : gb196 ≠ gb232)); have NB232_196 := Aside0.mk ((by rw [hg]; exact Nat.ne_of_gt (blk_lt BK196.out) : gb232 ≠ gb196)); have NB211_232 := Aside0.mk ((by rw [hg]; exact Nat.ne_of_lt (blk_lt BK211.out) : gb211 ≠ gb232)); have NB232_211 := Aside0.mk ((by rw [hg]; exact Nat.ne_of_gt (blk_lt BK211.out) : gb232 ≠ gb211)); have NB218_232 := Aside0.mk ((by rw [hg]; exact Nat.ne_of_lt (blk_lt BK218.out) : gb218 ≠ gb232)); have NB232_218 := Aside0.mk ((by rw [hg]; exact Nat.ne_of_gt (blk_lt BK218.out) : gb232 ≠ gb218)); have NB225_232 := Aside0.mk ((by rw [hg]; exact Nat.ne_of_lt (blk_lt BK225.out) : gb225 ≠ gb232)); have NB232_225 := Aside0.mk ((by rw [hg]; exact Nat.ne_of_gt (blk_lt BK225.out) : gb232 ≠ gb225)); replace BK178 := Aside0.mk (blk_below BK178.out hb); replace BK179 := Aside0.mk (blk_below BK179.out hb); replace BK180 := Aside0.mk (blk_below BK180.out hb); replace BK181 := Aside0.mk (blk_below BK181.out hb); replace BK189 := Aside0.mk (blk_below BK189.out hb); replace BK196 := Aside0.mk (blk_below BK196.out hb); replace BK211 := Aside0.mk (blk_below BK211.out hb); replace BK218 := Aside0.mk (blk_below BK218.out hb); replace BK225 := Aside0.mk (blk_below BK225.out hb); replace HB := Aside0.mk (below_step (by repeat first | exact HB.out | refine below_set ?_ GE178.out | refine below_set ?_ GE179.out | refine below_set ?_ GE180.out | refine below_set ?_ GE181.out | refine below_set ?_ GE189.out | refine below_set ?_ GE196.out | refine below_set ?_ GE211.out | refine below_set ?_ GE218.out | refine below_set ?_ GE225.out) hb); clear hb hbox hg; have hnb207 := NB232_178.out; have hnc207 := NB178_232.out; have hnb208 := NB232_179.out; have hnc208 := NB179_232.out; have hnb209 := NB232_180.out; have hnc209 := NB180_232.out; have hnb210 := NB232_181.out; have hnc210 := NB181_232.out; have hnb211 := NB232_189.out; have hnc211 := NB189_232.out; have hnb212 := NB232_196.out; have hnc212 := NB196_232.out; have hnb213 := NB232_211.out; have hnc213 := NB211_232.out; have hnb214 := NB232_218.out; have hnc214 := NB218_232.out; have hnb215 := NB232_225.out; have hnc215 := NB225_232.out; have hcz216_0 : w206.cell? ⟨gb232, 0, none⟩ = some (.int .i64 0) := (blk_cell BK232.out 0).trans rfl; have hcz216_1 : w206.cell? ⟨gb232, 1, none⟩ = some (.int .i64 0) := (blk_cell BK232.out 1).trans rfl; have hcz216_2 : w206.cell? ⟨gb232, 2, none⟩ = some (.int .i64 0) := (blk_cell BK232.out 2).trans rfl; have hcz216_3 : w206.cell? ⟨gb232, 3, none⟩ = some (.int .i64 0) := (blk_cell BK232.out 3).trans rfl; have hcz216_4 : w206.cell? ⟨gb232, 4, none⟩ = some (.int .i64 0) := (blk_cell BK232.out 4).trans rfl; have hfz216_0 := blk_frozen BK232.out 0; have hfz216_1 := blk_frozen BK232.out 1; have hfz216_2 := blk_frozen BK232.out 2; have hfz216_3 := blk_frozen BK232.out 3; have hfz216_4 := blk_frozen BK232.out 4; have hnb217 := NB211_179.out; have hnc217 := NB179_211.out; have hnb218 := NB211_180.out; have hnc218 := NB180_211.out; have hnb219 := NB211_181.out; have hnc219 := NB181_211.out; have hnb220 := NB211_189.out; have hnc220 := NB189_211.out; have hnb221 := NB211_196.out; have hnc221 := NB196_211.out; have hnb222 := NB211_218.out; have hnc222 := NB218_211.out; have hnb223 := NB211_225.out; have hnc223 := NB225_211.out; have hcz224_0 : w206.cell? ⟨gb211, 0, none⟩ = some (.int .i64 t205) := (blk_cell BK211.out 0).trans rfl; have hcz224_1 : w206.cell? ⟨gb211, 1, none⟩ = some (.int .i64 t206) := (blk_cell BK211.out 1).trans rfl; have hcz224_2 : w206.cell? ⟨gb211, 2, none⟩ = some (.int .i64 t207) := (blk_cell BK211.out 2).trans rfl; have hcz224_3 : w206.cell? ⟨gb211, 3, none⟩ = some (.int .i64 t208) := (blk_cell BK211.out 3).trans rfl; have hcz224_4 : w206.cell? ⟨gb211, 4, none⟩ = some (.int .i64 t209) := (blk_cell BK211.out 4).trans rfl; have hfz224_0 := blk_frozen BK211.out 0; have hfz224_1 := blk_frozen BK211.out 1; have hfz224_2 := blk_frozen BK211.out 2; have hfz224_3 := blk_frozen BK211.out 3; have hfz224_4 := blk_frozen BK211.out 4; have hnb225 := NB225_179.out; have hnc225 := NB179_225.out; have hnb226 := NB225_180.out; have hnc226 := NB180_225.out; have hnb227 := NB225_181.out; have hnc227 := NB181_225.out; have hnb228 := NB225_189.out; have hnc228 := NB189_225.out; have hnb229 := NB225_196.out; have hnc229 := NB196_225.out; have hnb230 := NB225_218.out; have hnc230 := NB218_225.out; have hcz231_0 : w206.cell? ⟨gb225, 0, none⟩ = some (.int .i64 t219) := (blk_cell BK225.out 0).trans rfl; have hcz231_1 : w206.cell? ⟨gb225, 1, none⟩ = some (.int .i64 t220) := (blk_cell BK225.out 1).trans rfl; have hcz231_2 : w206.cell? ⟨gb225, 2, none⟩ = some (.int .i64 t221) := (blk_cell BK225.out 2).trans rfl; have hcz231_3 : w206.cell? ⟨gb225, 3, none⟩ = some (.int .i64 t222) := (blk_cell BK225.out 3).trans rfl; have hcz231_4 : w206.cell? ⟨gb225, 4, none⟩ = some (.int .i64 t223) := (blk_cell BK225.out 4).trans rfl; have hfz231_0 := blk_frozen BK225.out 0; have hfz231_1 := blk_frozen BK225.out 1; have hfz231_2 := blk_frozen BK225.out 2; have hfz231_3 := blk_frozen BK225.out 3; have hfz231_4 := blk_frozen BK225.out 4; have hcz232_0 : w206.cell? ⟨gb178, 0, none⟩ = some (.int .i64 a0_0) := (blk_cell BK178.out 0).trans rfl; have hcz232_1 : w206.cell? ⟨gb178, 1, none⟩ = some (.int .i64 a0_1) := (blk_cell BK178.out 1).trans rfl; have hcz232_2 : w206.cell? ⟨gb178, 2, none⟩ = some (.int .i64 a0_2) := (blk_cell BK178.out 2).trans rfl; have hcz232_3 : w206.cell? ⟨gb178, 3, none⟩ = some (.int .i64 a0_3) := (blk_cell BK178.out 3).trans rfl; have hcz232_4 : w206.cell? ⟨gb178, 4, none⟩ = some (.int .i64 a0_4) := (blk_cell BK178.out 4).trans rfl; have hfz232_0 := blk_frozen BK178.out 0; have hfz232_1 := blk_frozen BK178.out 1; have hfz232_2 := blk_frozen BK178.out 2; have hfz232_3 := blk_frozen BK178.out 3; have hfz232_4 := blk_frozen BK178.out 4))
                 obtain ⟨wz, hwz⟩ : ∃ wz : World, wz = (World.setCell (World.setCell (World.setCell (World.setCell (World.setCell w206 ⟨gb232, 0, none⟩ (.int .i64 t226)) ⟨gb232, 1, none⟩ (.int .i64 t227)) ⟨gb232, 2, none⟩ (.int .i64 t228)) ⟨gb232, 3, none⟩ (.int .i64 t229)) ⟨gb232, 4, none⟩ (.int .i64 t230)) := ⟨_, rfl⟩
                 rw [← hwz]
                 have Z178 : wz.heap[gb178]? = some (.cells #[.int .i64 a0_0, .int .i64 a0_1, .int .i64 a0_2, .int .i64 a0_3, .int .i64 a0_4] 25 (0, 0)) := by rw [hwz]; exact (blk_far (blk_far (blk_far (blk_far (blk_far BK178.out NB178_232.out _) NB178_232.out _) NB178_232.out _) NB178_232.out _) NB178_232.out _)
                 have Z211 : wz.heap[gb211]? = some (.cells #[.int .i64 t205, .int .i64 t206, .int .i64 t207, .int .i64 t208, .int .i64 t209] 25 (0, 0)) := by rw [hwz]; exact (blk_far (blk_far (blk_far (blk_far (blk_far BK211.out NB211_232.out _) NB211_232.out _) NB211_232.out _) NB211_232.out _) NB211_232.out _)
                 have Z225 : wz.heap[gb225]? = some (.cells #[.int .i64 t219, .int .i64 t220, .int .i64 t221, .int .i64 t222, .int .i64 t223] 25 (0, 0)) := by rw [hwz]; exact (blk_far (blk_far (blk_far (blk_far (blk_far BK225.out NB225_232.out _) NB225_232.out _) NB225_232.out _) NB225_232.out _) NB225_232.out _)
                 have Z232 : wz.heap[gb232]? = some (.cells #[.int .i64 t226, .int .i64 t227, .int .i64 t228, .int .i64 t229, .int .i64 t230] 25 (0, 0)) := by rw [hwz]; exact (blk_put (blk_put (blk_put (blk_put (blk_put BK232.out 0 _ rfl) 1 _ rfl) 2 _ rfl) 3 _ rfl) 4 _ rfl)
                 have ZB := Aside0.mk (show Below w.heap.size w wz by rw [hwz]; exact (below_set (below_set (below_set (below_set (below_set HB.out GE232.out) GE232.out) GE232.out) GE232.out) GE232.out))
                 clear hwz
                 have z178_0 : wz.cell? ⟨gb178, 0, none⟩ = some (.int .i64 a0_0) := (blk_cell Z178 0).trans rfl
                 have z178_1 : wz.cell? ⟨gb178, 1, none⟩ = some (.int .i64 a0_1) := (blk_cell Z178 1).trans rfl
                 have z178_2 : wz.cell? ⟨gb178, 2, none⟩ = some (.int .i64 a0_2) := (blk_cell Z178 2).trans rfl
                 have z178_3 : wz.cell? ⟨gb178, 3, none⟩ = some (.int .i64 a0_3) := (blk_cell Z178 3).trans rfl
                 have z178_4 : wz.cell? ⟨gb178, 4, none⟩ = some (.int .i64 a0_4) := (blk_cell Z178 4).trans rfl
                 have z211_0 : wz.cell? ⟨gb211, 0, none⟩ = some (.int .i64 t205) := (blk_cell Z211 0).trans rfl
                 have z211_1 : wz.cell? ⟨gb211, 1, none⟩ = some (.int .i64 t206) := (blk_cell Z211 1).trans rfl
                 have z211_2 : wz.cell? ⟨gb211, 2, none⟩ = some (.int .i64 t207) := (blk_cell Z211 2).trans rfl
                 have z211_3 : wz.cell? ⟨gb211, 3, none⟩ = some (.int .i64 t208) := (blk_cell Z211 3).trans rfl
                 have z211_4 : wz.cell? ⟨gb211, 4, none⟩ = some (.int .i64 t209) := (blk_cell Z211 4).trans rfl
                 have z225_0 : wz.cell? ⟨gb225, 0, none⟩ = some (.int .i64 t219) := (blk_cell Z225 0).trans rfl
                 have z225_1 : wz.cell? ⟨gb225, 1, none⟩ = some (.int .i64 t220) := (blk_cell Z225 1).trans rfl
                 have z225_2 : wz.cell? ⟨gb225, 2, none⟩ = some (.int .i64 t221) := (blk_cell Z225 2).trans rfl
                 have z225_3 : wz.cell? ⟨gb225, 3, none⟩ = some (.int .i64 t222) := (blk_cell Z225 3).trans rfl
                 have z225_4 : wz.cell? ⟨gb225, 4, none⟩ = some (.int .i64 t223) := (blk_cell Z225 4).trans rfl
                 have z232_0 : wz.cell? ⟨gb232, 0, none⟩ = some (.int .i64 t226) := (blk_cell Z232 0).trans rfl
                 have z232_1 : wz.cell? ⟨gb232, 1, none⟩ = some (.int .i64 t227) := (blk_cell Z232 1).trans rfl
                 have z232_2 : wz.cell? ⟨gb232, 2, none⟩ = some (.int .i64 t228) := (blk_cell Z232 2).trans rfl
                 have z232_3 : wz.cell? ⟨gb232, 3, none⟩ = some (.int .i64 t229) := (blk_cell Z232 3).trans rfl
                 have z232_4 : wz.cell? ⟨gb232, 4, none⟩ = some (.int .i64 t230) := (blk_cell Z232 4).trans rfl
                 go_wp2_with (first | (go_at_call 19; (with_reducible refine (place_RightArea.calls a0_0 a0_1 a0_2 a0_3 a0_4 t233 _ A193.out).mono ?_); rintro e wy ⟨rfl, hb⟩; have Y178 := blk_below Z178 hb; have y178_0 : wy.cell? ⟨gb178, 0, none⟩ = some (.int .i64 a0_0) := (blk_cell Y178 0).trans rfl; have y178_1 : wy.cell? ⟨gb178, 1, none⟩ = some (.int .i64 a0_1) := (blk_cell Y178 1).trans rfl; have y178_2 : wy.cell? ⟨gb178, 2, none⟩ = some (.int .i64 a0_2) := (blk_cell Y178 2).trans rfl; have y178_3 : wy.cell? ⟨gb178, 3, none⟩ = some (.int .i64 a0_3) := (blk_cell Y178 3).trans rfl; have y178_4 : wy.cell? ⟨gb178, 4, none⟩ = some (.int .i64 a0_4) := (blk_cell Y178 4).trans rfl; have Y232 := blk_below Z232 hb; have y232_0 : wy.cell? ⟨gb232, 0, none⟩ = some (.int .i64 t226) := (blk_cell Y232 0).trans rfl; have y232_1 : wy.cell? ⟨gb232, 1, none⟩ = some (.int .i64 t227) := (blk_cell Y232 1).trans rfl; have y232_2 : wy.cell? ⟨gb232, 2, none⟩ = some (.int .i64 t228) := (blk_cell Y232 2).trans rfl; have y232_3 : wy.cell? ⟨gb232, 3, none⟩ = some (.int .i64 t229) := (blk_cell Y232 3).trans rfl; have y232_4 : wy.cell? ⟨gb232, 4, none⟩ = some (.int .i64 t230) := (blk_cell Y232 4).trans rfl; replace ZB := Aside0.mk (below_step ZB.out hb); clear hb))
                 go_ret
                 exact ⟨by first | rfl | (simp [errW_none, errW_some] <;> rfl) | (simp [*, errW_none, errW_some] <;> rfl), ZB.out⟩
                ·
                 replace c195 := Bool.eq_false_iff.mpr c195
                 subst c195
                 have H1 : (some true) = some r := by rw [if_neg (show ¬ (false = true) by decide)] at H; exact H
                 clear H
                 have H := H1
                 clear H1
                 obtain rfl := Option.some.inj H
                 have hnb236 := NB178_179.out
                 have hnc236 := NB179_178.out
                 have hnb237 := NB178_180.out
                 have hnc237 := NB180_178.out
                 have hnb238 := NB178_181.out
                 have hnc238 := NB181_178.out
                 have hnb239 := NB178_189.out
                 have hnc239 := NB189_178.out
                 have hnb240 := NB178_196.out
                 have hnc240 := NB196_178.out
                 have hnb241 := NB178_211.out
                 have hnc241 := NB211_178.out
                 have hnb242 := NB178_218.out
                 have hnc242 := NB218_178.out
                 have hnb243 := NB178_225.out
                 have hnc243 := NB225_178.out
                 have hcz244_0 : wc.cell? ⟨gb178, 0, none⟩ = some (.int .i64 a0_0) := (blk_cell BK178.out 0).trans rfl
                 have hcz244_1 : wc.cell? ⟨gb178, 1, none⟩ = some (.int .i64 a0_1) := (blk_cell BK178.out 1).trans rfl
                 have hcz244_2 : wc.cell? ⟨gb178, 2, none⟩ = some (.int .i64 a0_2) := (blk_cell BK178.out 2).trans rfl
                 have hcz244_3 : wc.cell? ⟨gb178, 3, none⟩ = some (.int .i64 a0_3) := (blk_cell BK178.out 3).trans rfl
                 have hcz244_4 : wc.cell? ⟨gb178, 4, none⟩ = some (.int .i64 a0_4) := (blk_cell BK178.out 4).trans rfl
                 have hfz244_0 := blk_frozen BK178.out 0
                 have hfz244_1 := blk_frozen BK178.out 1
                 have hfz244_2 := blk_frozen BK178.out 2
                 have hfz244_3 := blk_frozen BK178.out 3
                 have hfz244_4 := blk_frozen BK178.out 4
                 go_upto_region 15 with (first | ((with_reducible refine gate_callee (f := 27) rfl ?_); refine goesL_ (some 118) rfl rfl Tryd.func27 (by kernel_rfl) rfl #[.agg #[.int .i64 a0_0, .int .i64 a0_1, .int .i64 a0_2, .int .i64 a0_3, .int .i64 a0_4], .agg #[.int .i64 a0_0, .int .i64 a0_1, .int .i64 a0_2, .int .i64 a0_3, .int .i64 a0_4]] rfl (by (try simp only [List.map_toArray, List.map_cons, List.map_nil]); first | done | rfl | (simp only [List.length_drop, List.length_take]; rfl)) ?_; (with_reducible refine (place_Meet.calls a0_0 a0_1 a0_2 a0_3 a0_4 a0_0 a0_1 a0_2 a0_3 a0_4 t226 t227 t228 t229 t230 false _ A189.out).mono ?_); rintro e w245 ⟨rfl, hb⟩; refine ⟨_, rfl, ?_⟩; replace BK178 := Aside0.mk (blk_below BK178.out hb); replace BK179 := Aside0.mk (blk_below BK179.out hb); replace BK180 := Aside0.mk (blk_below BK180.out hb); replace BK181 := Aside0.mk (blk_below BK181.out hb); replace BK189 := Aside0.mk (blk_below BK189.out hb); replace BK196 := Aside0.mk (blk_below BK196.out hb); replace BK211 := Aside0.mk (blk_below BK211.out hb); replace BK218 := Aside0.mk (blk_below BK218.out hb); replace BK225 := Aside0.mk (blk_below BK225.out hb); replace HB := Aside0.mk (below_step (by repeat first | exact HB.out | refine below_set ?_ GE178.out | refine below_set ?_ GE179.out | refine below_set ?_ GE180.out | refine below_set ?_ GE181.out | refine below_set ?_ GE189.out | refine below_set ?_ GE196.out | refine below_set ?_ GE211.out | refine below_set ?_ GE218.out | refine below_set ?_ GE225.out) hb); (try clear hb); (try clear hb2); (try clear hk); (try clear hi)) | ((with_reducible refine gate_dst (N := 19) rfl ?_); refine box_event ?hg (N := 19) ?hd (cs := #[.int .i64 0, .int .i64 0, .int .i64 0, .int .i64 0, .int .i64 0]) (t := 25) ?hr ?_; (case hd => rfl); (case hg => rfl); (case hr => go_simp <;> rfl); intro gb232 hg w246 hbox hb; have BK232 := Aside0.mk (hbox); have GW232 := Aside0.mk ((by rw [hg]; exact (below_size (by repeat first | exact HB.out | refine below_set ?_ GE178.out | refine below_set ?_ GE179.out | refine below_set ?_ GE180.out | refine below_set ?_ GE181.out | refine below_set ?_ GE189.out | refine below_set ?_ GE196.out | refine below_set ?_ GE211.out | refine below_set ?_ GE218.out | refine below_set ?_ GE225.out)) : w.heap.size ≤ gb232)); have GE232 := GW232; have NB178_232 := Aside0.mk ((by rw [hg]; exact Nat.ne_of_lt (blk_lt BK178.out) : gb178 ≠ gb232)); have NB232_178 := Aside0.mk ((by rw [hg]; exact Nat.ne_of_gt (blk_lt BK178.out) : gb232 ≠ gb178)); have NB179_232 := Aside0.mk ((by rw [hg]; exact Nat.ne_of_lt (blk_lt BK179.out) : gb179 ≠ gb232)); have NB232_179 := Aside0.mk ((by rw [hg]; exact Nat.ne_of_gt (blk_lt BK179.out) : gb232 ≠ gb179)); have NB180_232 := Aside0.mk ((by rw [hg]; exact Nat.ne_of_lt (blk_lt BK180.out) : gb180 ≠ gb232)); have NB232_180 := Aside0.mk ((by rw [hg]; exact Nat.ne_of_gt (blk_lt BK180.out) : gb232 ≠ gb180)); have NB181_232 := Aside0.mk ((by rw [hg]; exact Nat.ne_of_lt (blk_lt BK181.out) : gb181 ≠ gb232)); have NB232_181 := Aside0.mk ((by rw [hg]; exact Nat.ne_of_gt (blk_lt BK181.out) : gb232 ≠ gb181)); have NB189_232 := Aside0.mk ((by rw [hg]; exact Nat.ne_of_lt (blk_lt BK189.out) : gb189 ≠ gb232)); have NB232_189 := Aside0.mk ((by rw [hg]; exact Nat.ne_of_gt (blk_lt BK189.out) : gb232 ≠ gb189)); have NB196_232 := Aside0.mk ((by rw [hg]; exact Nat.ne_of_lt (blk_lt BK196.out) : gb196 ≠ gb232)); have NB232_196 := Aside0.mk ((by rw [hg]; exact Nat.ne_of_gt (blk_lt BK196.out) : gb232 ≠ gb196)); have NB211_232 := Aside0.mk ((by rw [hg]; exact Nat.ne_of_lt (blk_lt BK211.out) : gb211 ≠ gb232)); have NB232_211 := Aside0.mk ((by rw [hg]; exact Nat.ne_of_gt (blk_lt BK211.out) : gb232 ≠ gb211)); have NB218_232 := Aside0.mk ((by rw [hg]; exact Nat.ne_of_lt (blk_lt BK218.out) : gb218 ≠ gb232)); have NB232_218 := Aside0.mk ((by rw [hg]; exact Nat.ne_of_gt (blk_lt BK218.out) : gb232 ≠ gb218)); have NB225_232 := Aside0.mk ((by rw [hg]; exact Nat.ne_of_lt (blk_lt BK225.out) : gb225 ≠ gb232)); have NB232_225 := Aside0.mk ((by rw [hg]; exact Nat.ne_of_gt (blk_lt BK225.out) : gb232 ≠ gb225)); replace BK178 := Aside0.mk (blk_below BK178.out hb); replace BK179 := Aside0.mk (blk_below BK179.out hb); replace BK180 := Aside0.mk (blk_below BK180.out hb); replace BK181 := Aside0.mk (blk_below BK181.out hb); replace BK189 := Aside0.mk (blk_below BK189.out hb); replace BK196 := Aside0.mk (blk_below BK196.out hb); replace BK211 := Aside0.mk (blk_below BK211.out hb); replace BK218 := Aside0.mk (blk_below BK218.out hb); replace BK225 := Aside0.mk (blk_below BK225.out hb); replace HB := Aside0.mk (below_step (by repeat first | exact HB.out | refine below_set ?_ GE178.out | refine below_set ?_ GE179.out | refine below_set ?_ GE180.out | refine below_set ?_ GE181.out | refine below_set ?_ GE189.out | refine below_set ?_ GE196.out | refine below_set ?_ GE211.out | refine below_set ?_ GE218.out | refine below_set ?_ GE225.out) hb); clear hb hbox hg; have hnb247 := NB232_178.out; have hnc247 := NB178_232.out; have hnb248 := NB232_179.out; have hnc248 := NB179_232.out; have hnb249 := NB232_180.out; have hnc249 := NB180_232.out; have hnb250 := NB232_181.out; have hnc250 := NB181_232.out; have hnb251 := NB232_189.out; have hnc251 := NB189_232.out; have hnb252 := NB232_196.out; have hnc252 := NB196_232.out; have hnb253 := NB232_211.out; have hnc253 := NB211_232.out; have hnb254 := NB232_218.out; have hnc254 := NB218_232.out; have hnb255 := NB232_225.out; have hnc255 := NB225_232.out; have hcz256_0 : w246.cell? ⟨gb232, 0, none⟩ = some (.int .i64 0) := (blk_cell BK232.out 0).trans rfl; have hcz256_1 : w246.cell? ⟨gb232, 1, none⟩ = some (.int .i64 0) := (blk_cell BK232.out 1).trans rfl; have hcz256_2 : w246.cell? ⟨gb232, 2, none⟩ = some (.int .i64 0) := (blk_cell BK232.out 2).trans rfl; have hcz256_3 : w246.cell? ⟨gb232, 3, none⟩ = some (.int .i64 0) := (blk_cell BK232.out 3).trans rfl; have hcz256_4 : w246.cell? ⟨gb232, 4, none⟩ = some (.int .i64 0) := (blk_cell BK232.out 4).trans rfl; have hfz256_0 := blk_frozen BK232.out 0; have hfz256_1 := blk_frozen BK232.out 1; have hfz256_2 := blk_frozen BK232.out 2; have hfz256_3 := blk_frozen BK232.out 3; have hfz256_4 := blk_frozen BK232.out 4; have hnb257 := NB211_179.out; have hnc257 := NB179_211.out; have hnb258 := NB211_180.out; have hnc258 := NB180_211.out; have hnb259 := NB211_181.out; have hnc259 := NB181_211.out; have hnb260 := NB211_189.out; have hnc260 := NB189_211.out; have hnb261 := NB211_196.out; have hnc261 := NB196_211.out; have hnb262 := NB211_218.out; have hnc262 := NB218_211.out; have hnb263 := NB211_225.out; have hnc263 := NB225_211.out; have hcz264_0 : w246.cell? ⟨gb211, 0, none⟩ = some (.int .i64 t205) := (blk_cell BK211.out 0).trans rfl; have hcz264_1 : w246.cell? ⟨gb211, 1, none⟩ = some (.int .i64 t206) := (blk_cell BK211.out 1).trans rfl; have hcz264_2 : w246.cell? ⟨gb211, 2, none⟩ = some (.int .i64 t207) := (blk_cell BK211.out 2).trans rfl; have hcz264_3 : w246.cell? ⟨gb211, 3, none⟩ = some (.int .i64 t208) := (blk_cell BK211.out 3).trans rfl; have hcz264_4 : w246.cell? ⟨gb211, 4, none⟩ = some (.int .i64 t209) := (blk_cell BK211.out 4).trans rfl; have hfz264_0 := blk_frozen BK211.out 0; have hfz264_1 := blk_frozen BK211.out 1; have hfz264_2 := blk_frozen BK211.out 2; have hfz264_3 := blk_frozen BK211.out 3; have hfz264_4 := blk_frozen BK211.out 4; have hnb265 := NB225_179.out; have hnc265 := NB179_225.out; have hnb266 := NB225_180.out; have hnc266 := NB180_225.out; have hnb267 := NB225_181.out; have hnc267 := NB181_225.out; have hnb268 := NB225_189.out; have hnc268 := NB189_225.out; have hnb269 := NB225_196.out; have hnc269 := NB196_225.out; have hnb270 := NB225_218.out; have hnc270 := NB218_225.out; have hcz271_0 : w246.cell? ⟨gb225, 0, none⟩ = some (.int .i64 t219) := (blk_cell BK225.out 0).trans rfl; have hcz271_1 : w246.cell? ⟨gb225, 1, none⟩ = some (.int .i64 t220) := (blk_cell BK225.out 1).trans rfl; have hcz271_2 : w246.cell? ⟨gb225, 2, none⟩ = some (.int .i64 t221) := (blk_cell BK225.out 2).trans rfl; have hcz271_3 : w246.cell? ⟨gb225, 3, none⟩ = some (.int .i64 t222) := (blk_cell BK225.out 3).trans rfl; have hcz271_4 : w246.cell? ⟨gb225, 4, none⟩ = some (.int .i64 t223) := (blk_cell BK225.out 4).trans rfl; have hfz271_0 := blk_frozen BK225.out 0; have hfz271_1 := blk_frozen BK225.out 1; have hfz271_2 := blk_frozen BK225.out 2; have hfz271_3 := blk_frozen BK225.out 3; have hfz271_4 := blk_frozen BK225.out 4; have hcz272_0 : w246.cell? ⟨gb178, 0, none⟩ = some (.int .i64 a0_0) := (blk_cell BK178.out 0).trans rfl; have hcz272_1 : w246.cell? ⟨gb178, 1, none⟩ = some (.int .i64 a0_1) := (blk_cell BK178.out 1).trans rfl; have hcz272_2 : w246.cell? ⟨gb178, 2, none⟩ = some (.int .i64 a0_2) := (blk_cell BK178.out 2).trans rfl; have hcz272_3 : w246.cell? ⟨gb178, 3, none⟩ = some (.int .i64 a0_3) := (blk_cell BK178.out 3).trans rfl; have hcz272_4 : w246.cell? ⟨gb178, 4, none⟩ = some (.int .i64 a0_4) := (blk_cell BK178.out 4).trans rfl; have hfz272_0 := blk_frozen BK178.out 0; have hfz272_1 := blk_frozen BK178.out 1; have hfz272_2 := blk_frozen BK178.out 2; have hfz272_3 := blk_frozen BK178.out 3; have hfz272_4 := blk_frozen BK178.out 4))
                 obtain ⟨wz, hwz⟩ : ∃ wz : World, wz = (World.setCell (World.setCell (World.setCell (World.setCell (World.setCell w246 ⟨gb232, 0, none⟩ (.int .i64 t226)) ⟨gb232, 1, none⟩ (.int .i64 t227)) ⟨gb232, 2, none⟩ (.int .i64 t228)) ⟨gb232, 3, none⟩ (.int .i64 t229)) ⟨gb232, 4, none⟩ (.int .i64 t230)) := ⟨_, rfl⟩
                 rw [← hwz]
                 have Z178 : wz.heap[gb178]? = some (.cells #[.int .i64 a0_0, .int .i64 a0_1, .int .i64 a0_2, .int .i64 a0_3, .int .i64 a0_4] 25 (0, 0)) := by rw [hwz]; exact (blk_far (blk_far (blk_far (blk_far (blk_far BK178.out NB178_232.out _) NB178_232.out _) NB178_232.out _) NB178_232.out _) NB178_232.out _)
                 have Z211 : wz.heap[gb211]? = some (.cells #[.int .i64 t205, .int .i64 t206, .int .i64 t207, .int .i64 t208, .int .i64 t209] 25 (0, 0)) := by rw [hwz]; exact (blk_far (blk_far (blk_far (blk_far (blk_far BK211.out NB211_232.out _) NB211_232.out _) NB211_232.out _) NB211_232.out _) NB211_232.out _)
                 have Z225 : wz.heap[gb225]? = some (.cells #[.int .i64 t219, .int .i64 t220, .int .i64 t221, .int .i64 t222, .int .i64 t223] 25 (0, 0)) := by rw [hwz]; exact (blk_far (blk_far (blk_far (blk_far (blk_far BK225.out NB225_232.out _) NB225_232.out _) NB225_232.out _) NB225_232.out _) NB225_232.out _)
                 have Z232 : wz.heap[gb232]? = some (.cells #[.int .i64 t226, .int .i64 t227, .int .i64 t228, .int .i64 t229, .int .i64 t230] 25 (0, 0)) := by rw [hwz]; exact (blk_put (blk_put (blk_put (blk_put (blk_put BK232.out 0 _ rfl) 1 _ rfl) 2 _ rfl) 3 _ rfl) 4 _ rfl)
                 have ZB := Aside0.mk (show Below w.heap.size w wz by rw [hwz]; exact (below_set (below_set (below_set (below_set (below_set HB.out GE232.out) GE232.out) GE232.out) GE232.out) GE232.out))
                 clear hwz
                 have z178_0 : wz.cell? ⟨gb178, 0, none⟩ = some (.int .i64 a0_0) := (blk_cell Z178 0).trans rfl
                 have z178_1 : wz.cell? ⟨gb178, 1, none⟩ = some (.int .i64 a0_1) := (blk_cell Z178 1).trans rfl
                 have z178_2 : wz.cell? ⟨gb178, 2, none⟩ = some (.int .i64 a0_2) := (blk_cell Z178 2).trans rfl
                 have z178_3 : wz.cell? ⟨gb178, 3, none⟩ = some (.int .i64 a0_3) := (blk_cell Z178 3).trans rfl
                 have z178_4 : wz.cell? ⟨gb178, 4, none⟩ = some (.int .i64 a0_4) := (blk_cell Z178 4).trans rfl
                 have z211_0 : wz.cell? ⟨gb211, 0, none⟩ = some (.int .i64 t205) := (blk_cell Z211 0).trans rfl
                 have z211_1 : wz.cell? ⟨gb211, 1, none⟩ = some (.int .i64 t206) := (blk_cell Z211 1).trans rfl
                 have z211_2 : wz.cell? ⟨gb211, 2, none⟩ = some (.int .i64 t207) := (blk_cell Z211 2).trans rfl
                 have z211_3 : wz.cell? ⟨gb211, 3, none⟩ = some (.int .i64 t208) := (blk_cell Z211 3).trans rfl
                 have z211_4 : wz.cell? ⟨gb211, 4, none⟩ = some (.int .i64 t209) := (blk_cell Z211 4).trans rfl
                 have z225_0 : wz.cell? ⟨gb225, 0, none⟩ = some (.int .i64 t219) := (blk_cell Z225 0).trans rfl
                 have z225_1 : wz.cell? ⟨gb225, 1, none⟩ = some (.int .i64 t220) := (blk_cell Z225 1).trans rfl
                 have z225_2 : wz.cell? ⟨gb225, 2, none⟩ = some (.int .i64 t221) := (blk_cell Z225 2).trans rfl
                 have z225_3 : wz.cell? ⟨gb225, 3, none⟩ = some (.int .i64 t222) := (blk_cell Z225 3).trans rfl
                 have z225_4 : wz.cell? ⟨gb225, 4, none⟩ = some (.int .i64 t223) := (blk_cell Z225 4).trans rfl
                 have z232_0 : wz.cell? ⟨gb232, 0, none⟩ = some (.int .i64 t226) := (blk_cell Z232 0).trans rfl
                 have z232_1 : wz.cell? ⟨gb232, 1, none⟩ = some (.int .i64 t227) := (blk_cell Z232 1).trans rfl
                 have z232_2 : wz.cell? ⟨gb232, 2, none⟩ = some (.int .i64 t228) := (blk_cell Z232 2).trans rfl
                 have z232_3 : wz.cell? ⟨gb232, 3, none⟩ = some (.int .i64 t229) := (blk_cell Z232 3).trans rfl
                 have z232_4 : wz.cell? ⟨gb232, 4, none⟩ = some (.int .i64 t230) := (blk_cell Z232 4).trans rfl
                 go_wp2_with (first | (go_at_call 19; (with_reducible refine (place_RightArea.calls a0_0 a0_1 a0_2 a0_3 a0_4 t233 _ A193.out).mono ?_); rintro e wy ⟨rfl, hb⟩; have Y178 := blk_below Z178 hb; have y178_0 : wy.cell? ⟨gb178, 0, none⟩ = some (.int .i64 a0_0) := (blk_cell Y178 0).trans rfl; have y178_1 : wy.cell? ⟨gb178, 1, none⟩ = some (.int .i64 a0_1) := (blk_cell Y178 1).trans rfl; have y178_2 : wy.cell? ⟨gb178, 2, none⟩ = some (.int .i64 a0_2) := (blk_cell Y178 2).trans rfl; have y178_3 : wy.cell? ⟨gb178, 3, none⟩ = some (.int .i64 a0_3) := (blk_cell Y178 3).trans rfl; have y178_4 : wy.cell? ⟨gb178, 4, none⟩ = some (.int .i64 a0_4) := (blk_cell Y178 4).trans rfl; have Y232 := blk_below Z232 hb; have y232_0 : wy.cell? ⟨gb232, 0, none⟩ = some (.int .i64 t226) := (blk_cell Y232 0).trans rfl; have y232_1 : wy.cell? ⟨gb232, 1, none⟩ = some (.int .i64 t227) := (blk_cell Y232 1).trans rfl; have y232_2 : wy.cell? ⟨gb232, 2, none⟩ = some (.int .i64 t228) := (blk_cell Y232 2).trans rfl; have y232_3 : wy.cell? ⟨gb232, 3, none⟩ = some (.int .i64 t229) := (blk_cell Y232 3).trans rfl; have y232_4 : wy.cell? ⟨gb232, 4, none⟩ = some (.int .i64 t230) := (blk_cell Y232 4).trans rfl; replace ZB := Aside0.mk (below_step ZB.out hb); clear hb))
                 go_ret
                 exact ⟨by first | rfl | (simp [errW_none, errW_some] <;> rfl) | (simp [*, errW_none, errW_some] <;> rfl), ZB.out⟩
               ·
                rw [if_neg c194] at H
                have c194b0 : (t231 == t233) = false := by simpa using c194
                (try (have c194b1 : decide (t231 = t233) = false := by simpa using c194))
                (try (have c194b2 : (t231 == t233) = false := by simpa using c194))
                (try (have c194b3 : ¬ (t231 = t233) := by simpa using c194))
                clear c194
                exact Bool.noConfusion ((Option.some.inj H).trans hr_.out)
              ·
               rw [if_neg c192] at H
               have c192b0 : (t205 == t219 && (t206 == t220 && (t207 == t221 && (t208 == t222 && (t209 == t223))))) = false := by simpa using c192
               (try (have c192b1 : decide (t205 = t219 && (t206 == t220 && (t207 == t221 && (t208 == t222 && (t209 == t223))))) = false := by simpa using c192))
               (try (have c192b2 : (t205 == t219 && (t206 == t220 && (t207 == t221 && (t208 == t222 && (t209 == t223))))) = false := by simpa using c192))
               (try (have c192b3 : ¬ (t205 = t219 && (t206 == t220 && (t207 == t221 && (t208 == t222 && (t209 == t223))))) := by simpa using c192))
               clear c192
               exact Bool.noConfusion ((Option.some.inj H).trans hr_.out)
             ·
              replace c191 := Bool.eq_false_iff.mpr c191
              subst c191
              have e190 : x18_186 = false := by simpa using c190b0
              subst e190
              have H1 : ((place_RightArea.f a0_0 a0_1 a0_2 a0_3 a0_4).bind fun t234 => (if (t231 == t234) = true then (if t231 = true then (some (t226 == a0_0 && (t227 == a0_1 && (t228 == a0_2 && (t229 == a0_3 && (t230 == a0_4)))))) else (some true)) else (some false))) = some r := by rw [if_neg (show ¬ (false = true) by decide)] at H; exact H
              clear H
              have H := H1
              clear H1
              replace H := Option.bind_eq_some_iff.mp H
              obtain ⟨t234, A2740, H⟩ := H
              replace H : (if (t231 == t234) = true then (if t231 = true then (some (t226 == a0_0 && (t227 == a0_1 && (t228 == a0_2 && (t229 == a0_3 && (t230 == a0_4)))))) else (some true)) else (some false)) = some r := H
              have A274 := Aside0.mk A2740
              clear A2740
              by_cases c275 : (t231 == t234) = true
              ·
               rw [if_pos c275] at H
               have c275b0 : (t231 == t234) = true := c275
               (try (have c275b1 : decide (t231 = t234) = true := by simpa using c275))
               (try (have c275b2 : (t231 == t234) = true := by simpa using c275))
               clear c275
               by_cases c276 : t231 = true
               ·
                subst c276
                have H1 : (some (t226 == a0_0 && (t227 == a0_1 && (t228 == a0_2 && (t229 == a0_3 && (t230 == a0_4)))))) = some r := by rw [if_pos rfl] at H; exact H
                clear H
                have H := H1
                clear H1
                obtain rfl := Option.some.inj H
                have hnb277 := NB178_179.out
                have hnc277 := NB179_178.out
                have hnb278 := NB178_180.out
                have hnc278 := NB180_178.out
                have hnb279 := NB178_181.out
                have hnc279 := NB181_178.out
                have hnb280 := NB178_189.out
                have hnc280 := NB189_178.out
                have hnb281 := NB178_196.out
                have hnc281 := NB196_178.out
                have hnb282 := NB178_211.out
                have hnc282 := NB211_178.out
                have hnb283 := NB178_218.out
                have hnc283 := NB218_178.out
                have hnb284 := NB178_225.out
                have hnc284 := NB225_178.out
                have hcz285_0 : wc.cell? ⟨gb178, 0, none⟩ = some (.int .i64 a0_0) := (blk_cell BK178.out 0).trans rfl
                have hcz285_1 : wc.cell? ⟨gb178, 1, none⟩ = some (.int .i64 a0_1) := (blk_cell BK178.out 1).trans rfl
                have hcz285_2 : wc.cell? ⟨gb178, 2, none⟩ = some (.int .i64 a0_2) := (blk_cell BK178.out 2).trans rfl
                have hcz285_3 : wc.cell? ⟨gb178, 3, none⟩ = some (.int .i64 a0_3) := (blk_cell BK178.out 3).trans rfl
                have hcz285_4 : wc.cell? ⟨gb178, 4, none⟩ = some (.int .i64 a0_4) := (blk_cell BK178.out 4).trans rfl
                have hfz285_0 := blk_frozen BK178.out 0
                have hfz285_1 := blk_frozen BK178.out 1
                have hfz285_2 := blk_frozen BK178.out 2
                have hfz285_3 := blk_frozen BK178.out 3
                have hfz285_4 := blk_frozen BK178.out 4
                go_upto_region 15 with (first | ((with_reducible refine gate_callee (f := 27) rfl ?_); refine goesL_ (some 118) rfl rfl Tryd.func27 (by kernel_rfl) rfl #[.agg #[.int .i64 a0_0, .int .i64 a0_1, .int .i64 a0_2, .int .i64 a0_3, .int .i64 a0_4], .agg #[.int .i64 a0_0, .int .i64 a0_1, .int .i64 a0_2, .int .i64 a0_3, .int .i64 a0_4]] rfl (by (try simp only [List.map_toArray, List.map_cons, List.map_nil]); first | done | rfl | (simp only [List.length_drop, List.length_take]; rfl)) ?_; (with_reducible refine (place_Meet.calls a0_0 a0_1 a0_2 a0_3 a0_4 a0_0 a0_1 a0_2 a0_3 a0_4 t226 t227 t228 t229 t230 true _ A189.out).mono ?_); rintro e w286 ⟨rfl, hb⟩; refine ⟨_, rfl, ?_⟩; replace BK178 := Aside0.mk (blk_below BK178.out hb); replace BK179 := Aside0.mk (blk_below BK179.out hb); replace BK180 := Aside0.mk (blk_below BK180.out hb); replace BK181 := Aside0.mk (blk_below BK181.out hb); replace BK189 := Aside0.mk (blk_below BK189.out hb); replace BK196 := Aside0.mk (blk_below BK196.out hb); replace BK211 := Aside0.mk (blk_below BK211.out hb); replace BK218 := Aside0.mk (blk_below BK218.out hb); replace BK225 := Aside0.mk (blk_below BK225.out hb); replace HB := Aside0.mk (below_step (by repeat first | exact HB.out | refine below_set ?_ GE178.out | refine below_set ?_ GE179.out | refine below_set ?_ GE180.out | refine below_set ?_ GE181.out | refine below_set ?_ GE189.out | refine below_set ?_ GE196.out | refine below_set ?_ GE211.out | refine below_set ?_ GE218.out | refine below_set ?_ GE225.out) hb); (try clear hb); (try clear hb2); (try clear hk); (try clear hi)) | ((with_reducible refine gate_dst (N := 19) rfl ?_); refine box_event ?hg (N := 19) ?hd (cs := #[.int .i64 0, .int .i64 0, .int .i64 0, .int .i64 0, .int .i64 0]) (t := 25) ?hr ?_; (case hd => rfl); (case hg => rfl); (case hr => go_simp <;> rfl); intro gb232 hg w287 hbox hb; have BK232 := Aside0.mk (hbox); have GW232 := Aside0.mk ((by rw [hg]; exact (below_size (by repeat first | exact HB.out | refine below_set ?_ GE178.out | refine below_set ?_ GE179.out | refine below_set ?_ GE180.out | refine below_set ?_ GE181.out | refine below_set ?_ GE189.out | refine below_set ?_ GE196.out | refine below_set ?_ GE211.out | refine below_set ?_ GE218.out | refine below_set ?_ GE225.out)) : w.heap.size ≤ gb232)); have GE232 := GW232; have NB178_232 := Aside0.mk ((by rw [hg]; exact Nat.ne_of_lt (blk_lt BK178.out) : gb178 ≠ gb232)); have NB232_178 := Aside0.mk ((by rw [hg]; exact Nat.ne_of_gt (blk_lt BK178.out) : gb232 ≠ gb178)); have NB179_232 := Aside0.mk ((by rw [hg]; exact Nat.ne_of_lt (blk_lt BK179.out) : gb179 ≠ gb232)); have NB232_179 := Aside0.mk ((by rw [hg]; exact Nat.ne_of_gt (blk_lt BK179.out) : gb232 ≠ gb179)); have NB180_232 := Aside0.mk ((by rw [hg]; exact Nat.ne_of_lt (blk_lt BK180.out) : gb180 ≠ gb232)); have NB232_180 := Aside0.mk ((by rw [hg]; exact Nat.ne_of_gt (blk_lt BK180.out) : gb232 ≠ gb180)); have NB181_232 := Aside0.mk ((by rw [hg]; exact Nat.ne_of_lt (blk_lt BK181.out) : gb181 ≠ gb232)); have NB232_181 := Aside0.mk ((by rw [hg]; exact Nat.ne_of_gt (blk_lt BK181.out) : gb232 ≠ gb181)); have NB189_232 := Aside0.mk ((by rw [hg]; exact Nat.ne_of_lt (blk_lt BK189.out) : gb189 ≠ gb232)); have NB232_189 := Aside0.mk ((by rw [hg]; exact Nat.ne_of_gt (blk_lt BK189.out) : gb232 ≠ gb189)); have NB196_232 := Aside0.mk ((by rw [hg]; exact Nat.ne_of_lt (blk_lt BK196.out) : gb196 ≠ gb232)); have NB232_196 := Aside0.mk ((by rw [hg]; exact Nat.ne_of_gt (blk_lt BK196.out) : gb232 ≠ gb196)); have NB211_232 := Aside0.mk ((by rw [hg]; exact Nat.ne_of_lt (blk_lt BK211.out) : gb211 ≠ gb232)); have NB232_211 := Aside0.mk ((by rw [hg]; exact Nat.ne_of_gt (blk_lt BK211.out) : gb232 ≠ gb211)); have NB218_232 := Aside0.mk ((by rw [hg]; exact Nat.ne_of_lt (blk_lt BK218.out) : gb218 ≠ gb232)); have NB232_218 := Aside0.mk ((by rw [hg]; exact Nat.ne_of_gt (blk_lt BK218.out) : gb232 ≠ gb218)); have NB225_232 := Aside0.mk ((by rw [hg]; exact Nat.ne_of_lt (blk_lt BK225.out) : gb225 ≠ gb232)); have NB232_225 := Aside0.mk ((by rw [hg]; exact Nat.ne_of_gt (blk_lt BK225.out) : gb232 ≠ gb225)); replace BK178 := Aside0.mk (blk_below BK178.out hb); replace BK179 := Aside0.mk (blk_below BK179.out hb); replace BK180 := Aside0.mk (blk_below BK180.out hb); replace BK181 := Aside0.mk (blk_below BK181.out hb); replace BK189 := Aside0.mk (blk_below BK189.out hb); replace BK196 := Aside0.mk (blk_below BK196.out hb); replace BK211 := Aside0.mk (blk_below BK211.out hb); replace BK218 := Aside0.mk (blk_below BK218.out hb); replace BK225 := Aside0.mk (blk_below BK225.out hb); replace HB := Aside0.mk (below_step (by repeat first | exact HB.out | refine below_set ?_ GE178.out | refine below_set ?_ GE179.out | refine below_set ?_ GE180.out | refine below_set ?_ GE181.out | refine below_set ?_ GE189.out | refine below_set ?_ GE196.out | refine below_set ?_ GE211.out | refine below_set ?_ GE218.out | refine below_set ?_ GE225.out) hb); clear hb hbox hg; have hnb288 := NB232_178.out; have hnc288 := NB178_232.out; have hnb289 := NB232_179.out; have hnc289 := NB179_232.out; have hnb290 := NB232_180.out; have hnc290 := NB180_232.out; have hnb291 := NB232_181.out; have hnc291 := NB181_232.out; have hnb292 := NB232_189.out; have hnc292 := NB189_232.out; have hnb293 := NB232_196.out; have hnc293 := NB196_232.out; have hnb294 := NB232_211.out; have hnc294 := NB211_232.out; have hnb295 := NB232_218.out; have hnc295 := NB218_232.out; have hnb296 := NB232_225.out; have hnc296 := NB225_232.out; have hcz297_0 : w287.cell? ⟨gb232, 0, none⟩ = some (.int .i64 0) := (blk_cell BK232.out 0).trans rfl; have hcz297_1 : w287.cell? ⟨gb232, 1, none⟩ = some (.int .i64 0) := (blk_cell BK232.out 1).trans rfl; have hcz297_2 : w287.cell? ⟨gb232, 2, none⟩ = some (.int .i64 0) := (blk_cell BK232.out 2).trans rfl; have hcz297_3 : w287.cell? ⟨gb232, 3, none⟩ = some (.int .i64 0) := (blk_cell BK232.out 3).trans rfl; have hcz297_4 : w287.cell? ⟨gb232, 4, none⟩ = some (.int .i64 0) := (blk_cell BK232.out 4).trans rfl; have hfz297_0 := blk_frozen BK232.out 0; have hfz297_1 := blk_frozen BK232.out 1; have hfz297_2 := blk_frozen BK232.out 2; have hfz297_3 := blk_frozen BK232.out 3; have hfz297_4 := blk_frozen BK232.out 4; have hcz298_0 : w287.cell? ⟨gb178, 0, none⟩ = some (.int .i64 a0_0) := (blk_cell BK178.out 0).trans rfl; have hcz298_1 : w287.cell? ⟨gb178, 1, none⟩ = some (.int .i64 a0_1) := (blk_cell BK178.out 1).trans rfl; have hcz298_2 : w287.cell? ⟨gb178, 2, none⟩ = some (.int .i64 a0_2) := (blk_cell BK178.out 2).trans rfl; have hcz298_3 : w287.cell? ⟨gb178, 3, none⟩ = some (.int .i64 a0_3) := (blk_cell BK178.out 3).trans rfl; have hcz298_4 : w287.cell? ⟨gb178, 4, none⟩ = some (.int .i64 a0_4) := (blk_cell BK178.out 4).trans rfl; have hfz298_0 := blk_frozen BK178.out 0; have hfz298_1 := blk_frozen BK178.out 1; have hfz298_2 := blk_frozen BK178.out 2; have hfz298_3 := blk_frozen BK178.out 3; have hfz298_4 := blk_frozen BK178.out 4))
                obtain ⟨wz, hwz⟩ : ∃ wz : World, wz = (World.setCell (World.setCell (World.setCell (World.setCell (World.setCell w287 ⟨gb232, 0, none⟩ (.int .i64 t226)) ⟨gb232, 1, none⟩ (.int .i64 t227)) ⟨gb232, 2, none⟩ (.int .i64 t228)) ⟨gb232, 3, none⟩ (.int .i64 t229)) ⟨gb232, 4, none⟩ (.int .i64 t230)) := ⟨_, rfl⟩
                rw [← hwz]
                have Z178 : wz.heap[gb178]? = some (.cells #[.int .i64 a0_0, .int .i64 a0_1, .int .i64 a0_2, .int .i64 a0_3, .int .i64 a0_4] 25 (0, 0)) := by rw [hwz]; exact (blk_far (blk_far (blk_far (blk_far (blk_far BK178.out NB178_232.out _) NB178_232.out _) NB178_232.out _) NB178_232.out _) NB178_232.out _)
                have Z211 : wz.heap[gb211]? = some (.cells #[.int .i64 t205, .int .i64 t206, .int .i64 t207, .int .i64 t208, .int .i64 t209] 25 (0, 0)) := by rw [hwz]; exact (blk_far (blk_far (blk_far (blk_far (blk_far BK211.out NB211_232.out _) NB211_232.out _) NB211_232.out _) NB211_232.out _) NB211_232.out _)
                have Z225 : wz.heap[gb225]? = some (.cells #[.int .i64 t219, .int .i64 t220, .int .i64 t221, .int .i64 t222, .int .i64 t223] 25 (0, 0)) := by rw [hwz]; exact (blk_far (blk_far (blk_far (blk_far (blk_far BK225.out NB225_232.out _) NB225_232.out _) NB225_232.out _) NB225_232.out _) NB225_232.out _)
                have Z232 : wz.heap[gb232]? = some (.cells #[.int .i64 t226, .int .i64 t227, .int .i64 t228, .int .i64 t229, .int .i64 t230] 25 (0, 0)) := by rw [hwz]; exact (blk_put (blk_put (blk_put (blk_put (blk_put BK232.out 0 _ rfl) 1 _ rfl) 2 _ rfl) 3 _ rfl) 4 _ rfl)
                have ZB := Aside0.mk (show Below w.heap.size w wz by rw [hwz]; exact (below_set (below_set (below_set (below_set (below_set HB.out GE232.out) GE232.out) GE232.out) GE232.out) GE232.out))
                clear hwz
                have z178_0 : wz.cell? ⟨gb178, 0, none⟩ = some (.int .i64 a0_0) := (blk_cell Z178 0).trans rfl
                have z178_1 : wz.cell? ⟨gb178, 1, none⟩ = some (.int .i64 a0_1) := (blk_cell Z178 1).trans rfl
                have z178_2 : wz.cell? ⟨gb178, 2, none⟩ = some (.int .i64 a0_2) := (blk_cell Z178 2).trans rfl
                have z178_3 : wz.cell? ⟨gb178, 3, none⟩ = some (.int .i64 a0_3) := (blk_cell Z178 3).trans rfl
                have z178_4 : wz.cell? ⟨gb178, 4, none⟩ = some (.int .i64 a0_4) := (blk_cell Z178 4).trans rfl
                have z211_0 : wz.cell? ⟨gb211, 0, none⟩ = some (.int .i64 t205) := (blk_cell Z211 0).trans rfl
                have z211_1 : wz.cell? ⟨gb211, 1, none⟩ = some (.int .i64 t206) := (blk_cell Z211 1).trans rfl
                have z211_2 : wz.cell? ⟨gb211, 2, none⟩ = some (.int .i64 t207) := (blk_cell Z211 2).trans rfl
                have z211_3 : wz.cell? ⟨gb211, 3, none⟩ = some (.int .i64 t208) := (blk_cell Z211 3).trans rfl
                have z211_4 : wz.cell? ⟨gb211, 4, none⟩ = some (.int .i64 t209) := (blk_cell Z211 4).trans rfl
                have z225_0 : wz.cell? ⟨gb225, 0, none⟩ = some (.int .i64 t219) := (blk_cell Z225 0).trans rfl
                have z225_1 : wz.cell? ⟨gb225, 1, none⟩ = some (.int .i64 t220) := (blk_cell Z225 1).trans rfl
                have z225_2 : wz.cell? ⟨gb225, 2, none⟩ = some (.int .i64 t221) := (blk_cell Z225 2).trans rfl
                have z225_3 : wz.cell? ⟨gb225, 3, none⟩ = some (.int .i64 t222) := (blk_cell Z225 3).trans rfl
                have z225_4 : wz.cell? ⟨gb225, 4, none⟩ = some (.int .i64 t223) := (blk_cell Z225 4).trans rfl
                have z232_0 : wz.cell? ⟨gb232, 0, none⟩ = some (.int .i64 t226) := (blk_cell Z232 0).trans rfl
                have z232_1 : wz.cell? ⟨gb232, 1, none⟩ = some (.int .i64 t227) := (blk_cell Z232 1).trans rfl
                have z232_2 : wz.cell? ⟨gb232, 2, none⟩ = some (.int .i64 t228) := (blk_cell Z232 2).trans rfl
                have z232_3 : wz.cell? ⟨gb232, 3, none⟩ = some (.int .i64 t229) := (blk_cell Z232 3).trans rfl
                have z232_4 : wz.cell? ⟨gb232, 4, none⟩ = some (.int .i64 t230) := (blk_cell Z232 4).trans rfl
                go_wp2_with (first | (go_at_call 19; (with_reducible refine (place_RightArea.calls a0_0 a0_1 a0_2 a0_3 a0_4 t234 _ A274.out).mono ?_); rintro e wy ⟨rfl, hb⟩; have Y178 := blk_below Z178 hb; have y178_0 : wy.cell? ⟨gb178, 0, none⟩ = some (.int .i64 a0_0) := (blk_cell Y178 0).trans rfl; have y178_1 : wy.cell? ⟨gb178, 1, none⟩ = some (.int .i64 a0_1) := (blk_cell Y178 1).trans rfl; have y178_2 : wy.cell? ⟨gb178, 2, none⟩ = some (.int .i64 a0_2) := (blk_cell Y178 2).trans rfl; have y178_3 : wy.cell? ⟨gb178, 3, none⟩ = some (.int .i64 a0_3) := (blk_cell Y178 3).trans rfl; have y178_4 : wy.cell? ⟨gb178, 4, none⟩ = some (.int .i64 a0_4) := (blk_cell Y178 4).trans rfl; have Y232 := blk_below Z232 hb; have y232_0 : wy.cell? ⟨gb232, 0, none⟩ = some (.int .i64 t226) := (blk_cell Y232 0).trans rfl; have y232_1 : wy.cell? ⟨gb232, 1, none⟩ = some (.int .i64 t227) := (blk_cell Y232 1).trans rfl; have y232_2 : wy.cell? ⟨gb232, 2, none⟩ = some (.int .i64 t228) := (blk_cell Y232 2).trans rfl; have y232_3 : wy.cell? ⟨gb232, 3, none⟩ = some (.int .i64 t229) := (blk_cell Y232 3).trans rfl; have y232_4 : wy.cell? ⟨gb232, 4, none⟩ = some (.int .i64 t230) := (blk_cell Y232 4).trans rfl; replace ZB := Aside0.mk (below_step ZB.out hb); clear hb))
                go_ret
                exact ⟨by first | rfl | (simp [errW_none, errW_some] <;> rfl) | (simp [*, errW_none, errW_some] <;> rfl), ZB.out⟩
               ·
                replace c276 := Bool.eq_false_iff.mpr c276
                subst c276
                have H1 : (some true) = some r := by rw [if_neg (show ¬ (false = true) by decide)] at H; exact H
                clear H
                have H := H1
                clear H1
                obtain rfl := Option.some.inj H
                have hnb302 := NB178_179.out
                have hnc302 := NB179_178.out
                have hnb303 := NB178_180.out
                have hnc303 := NB180_178.out
                have hnb304 := NB178_181.out
                have hnc304 := NB181_178.out
                have hnb305 := NB178_189.out
                have hnc305 := NB189_178.out
                have hnb306 := NB178_196.out
                have hnc306 := NB196_178.out
                have hnb307 := NB178_211.out
                have hnc307 := NB211_178.out
                have hnb308 := NB178_218.out
                have hnc308 := NB218_178.out
                have hnb309 := NB178_225.out
                have hnc309 := NB225_178.out
                have hcz310_0 : wc.cell? ⟨gb178, 0, none⟩ = some (.int .i64 a0_0) := (blk_cell BK178.out 0).trans rfl
                have hcz310_1 : wc.cell? ⟨gb178, 1, none⟩ = some (.int .i64 a0_1) := (blk_cell BK178.out 1).trans rfl
                have hcz310_2 : wc.cell? ⟨gb178, 2, none⟩ = some (.int .i64 a0_2) := (blk_cell BK178.out 2).trans rfl
                have hcz310_3 : wc.cell? ⟨gb178, 3, none⟩ = some (.int .i64 a0_3) := (blk_cell BK178.out 3).trans rfl
                have hcz310_4 : wc.cell? ⟨gb178, 4, none⟩ = some (.int .i64 a0_4) := (blk_cell BK178.out 4).trans rfl
                have hfz310_0 := blk_frozen BK178.out 0
                have hfz310_1 := blk_frozen BK178.out 1
                have hfz310_2 := blk_frozen BK178.out 2
                have hfz310_3 := blk_frozen BK178.out 3
                have hfz310_4 := blk_frozen BK178.out 4
                go_upto_region 15 with (first | ((with_reducible refine gate_callee (f := 27) rfl ?_); refine goesL_ (some 118) rfl rfl Tryd.func27 (by kernel_rfl) rfl #[.agg #[.int .i64 a0_0, .int .i64 a0_1, .int .i64 a0_2, .int .i64 a0_3, .int .i64 a0_4], .agg #[.int .i64 a0_0, .int .i64 a0_1, .int .i64 a0_2, .int .i64 a0_3, .int .i64 a0_4]] rfl (by (try simp only [List.map_toArray, List.map_cons, List.map_nil]); first | done | rfl | (simp only [List.length_drop, List.length_take]; rfl)) ?_; (with_reducible refine (place_Meet.calls a0_0 a0_1 a0_2 a0_3 a0_4 a0_0 a0_1 a0_2 a0_3 a0_4 t226 t227 t228 t229 t230 false _ A189.out).mono ?_); rintro e w311 ⟨rfl, hb⟩; refine ⟨_, rfl, ?_⟩; replace BK178 := Aside0.mk (blk_below BK178.out hb); replace BK179 := Aside0.mk (blk_below BK179.out hb); replace BK180 := Aside0.mk (blk_below BK180.out hb); replace BK181 := Aside0.mk (blk_below BK181.out hb); replace BK189 := Aside0.mk (blk_below BK189.out hb); replace BK196 := Aside0.mk (blk_below BK196.out hb); replace BK211 := Aside0.mk (blk_below BK211.out hb); replace BK218 := Aside0.mk (blk_below BK218.out hb); replace BK225 := Aside0.mk (blk_below BK225.out hb); replace HB := Aside0.mk (below_step (by repeat first | exact HB.out | refine below_set ?_ GE178.out | refine below_set ?_ GE179.out | refine below_set ?_ GE180.out | refine below_set ?_ GE181.out | refine below_set ?_ GE189.out | refine below_set ?_ GE196.out | refine below_set ?_ GE211.out | refine below_set ?_ GE218.out | refine below_set ?_ GE225.out) hb); (try clear hb); (try clear hb2); (try clear hk); (try clear hi)) | ((with_reducible refine gate_dst (N := 19) rfl ?_); refine box_event ?hg (N := 19) ?hd (cs := #[.int .i64 0, .int .i64 0, .int .i64 0, .int .i64 0, .int .i64 0]) (t := 25) ?hr ?_; (case hd => rfl); (case hg => rfl); (case hr => go_simp <;> rfl); intro gb232 hg w312 hbox hb; have BK232 := Aside0.mk (hbox); have GW232 := Aside0.mk ((by rw [hg]; exact (below_size (by repeat first | exact HB.out | refine below_set ?_ GE178.out | refine below_set ?_ GE179.out | refine below_set ?_ GE180.out | refine below_set ?_ GE181.out | refine below_set ?_ GE189.out | refine below_set ?_ GE196.out | refine below_set ?_ GE211.out | refine below_set ?_ GE218.out | refine below_set ?_ GE225.out)) : w.heap.size ≤ gb232)); have GE232 := GW232; have NB178_232 := Aside0.mk ((by rw [hg]; exact Nat.ne_of_lt (blk_lt BK178.out) : gb178 ≠ gb232)); have NB232_178 := Aside0.mk ((by rw [hg]; exact Nat.ne_of_gt (blk_lt BK178.out) : gb232 ≠ gb178)); have NB179_232 := Aside0.mk ((by rw [hg]; exact Nat.ne_of_lt (blk_lt BK179.out) : gb179 ≠ gb232)); have NB232_179 := Aside0.mk ((by rw [hg]; exact Nat.ne_of_gt (blk_lt BK179.out) : gb232 ≠ gb179)); have NB180_232 := Aside0.mk ((by rw [hg]; exact Nat.ne_of_lt (blk_lt BK180.out) : gb180 ≠ gb232)); have NB232_180 := Aside0.mk ((by rw [hg]; exact Nat.ne_of_gt (blk_lt BK180.out) : gb232 ≠ gb180)); have NB181_232 := Aside0.mk ((by rw [hg]; exact Nat.ne_of_lt (blk_lt BK181.out) : gb181 ≠ gb232)); have NB232_181 := Aside0.mk ((by rw [hg]; exact Nat.ne_of_gt (blk_lt BK181.out) : gb232 ≠ gb181)); have NB189_232 := Aside0.mk ((by rw [hg]; exact Nat.ne_of_lt (blk_lt BK189.out) : gb189 ≠ gb232)); have NB232_189 := Aside0.mk ((by rw [hg]; exact Nat.ne_of_gt (blk_lt BK189.out) : gb232 ≠ gb189)); have NB196_232 := Aside0.mk ((by rw [hg]; exact Nat.ne_of_lt (blk_lt BK196.out) : gb196 ≠ gb232)); have NB232_196 := Aside0.mk ((by rw [hg]; exact Nat.ne_of_gt (blk_lt BK196.out) : gb232 ≠ gb196)); have NB211_232 := Aside0.mk ((by rw [hg]; exact Nat.ne_of_lt (blk_lt BK211.out) : gb211 ≠ gb232)); have NB232_211 := Aside0.mk ((by rw [hg]; exact Nat.ne_of_gt (blk_lt BK211.out) : gb232 ≠ gb211)); have NB218_232 := Aside0.mk ((by rw [hg]; exact Nat.ne_of_lt (blk_lt BK218.out) : gb218 ≠ gb232)); have NB232_218 := Aside0.mk ((by rw [hg]; exact Nat.ne_of_gt (blk_lt BK218.out) : gb232 ≠ gb218)); have NB225_232 := Aside0.mk ((by rw [hg]; exact Nat.ne_of_lt (blk_lt BK225.out) : gb225 ≠ gb232)); have NB232_225 := Aside0.mk ((by rw [hg]; exact Nat.ne_of_gt (blk_lt BK225.out) : gb232 ≠ gb225)); replace BK178 := Aside0.mk (blk_below BK178.out hb); replace BK179 := Aside0.mk (blk_below BK179.out hb); replace BK180 := Aside0.mk (blk_below BK180.out hb); replace BK181 := Aside0.mk (blk_below BK181.out hb); replace BK189 := Aside0.mk (blk_below BK189.out hb); replace BK196 := Aside0.mk (blk_below BK196.out hb); replace BK211 := Aside0.mk (blk_below BK211.out hb); replace BK218 := Aside0.mk (blk_below BK218.out hb); replace BK225 := Aside0.mk (blk_below BK225.out hb); replace HB := Aside0.mk (below_step (by repeat first | exact HB.out | refine below_set ?_ GE178.out | refine below_set ?_ GE179.out | refine below_set ?_ GE180.out | refine below_set ?_ GE181.out | refine below_set ?_ GE189.out | refine below_set ?_ GE196.out | refine below_set ?_ GE211.out | refine below_set ?_ GE218.out | refine below_set ?_ GE225.out) hb); clear hb hbox hg; have hnb313 := NB232_178.out; have hnc313 := NB178_232.out; have hnb314 := NB232_179.out; have hnc314 := NB179_232.out; have hnb315 := NB232_180.out; have hnc315 := NB180_232.out; have hnb316 := NB232_181.out; have hnc316 := NB181_232.out; have hnb317 := NB232_189.out; have hnc317 := NB189_232.out; have hnb318 := NB232_196.out; have hnc318 := NB196_232.out; have hnb319 := NB232_211.out; have hnc319 := NB211_232.out; have hnb320 := NB232_218.out; have hnc320 := NB218_232.out; have hnb321 := NB232_225.out; have hnc321 := NB225_232.out; have hcz322_0 : w312.cell? ⟨gb232, 0, none⟩ = some (.int .i64 0) := (blk_cell BK232.out 0).trans rfl; have hcz322_1 : w312.cell? ⟨gb232, 1, none⟩ = some (.int .i64 0) := (blk_cell BK232.out 1).trans rfl; have hcz322_2 : w312.cell? ⟨gb232, 2, none⟩ = some (.int .i64 0) := (blk_cell BK232.out 2).trans rfl; have hcz322_3 : w312.cell? ⟨gb232, 3, none⟩ = some (.int .i64 0) := (blk_cell BK232.out 3).trans rfl; have hcz322_4 : w312.cell? ⟨gb232, 4, none⟩ = some (.int .i64 0) := (blk_cell BK232.out 4).trans rfl; have hfz322_0 := blk_frozen BK232.out 0; have hfz322_1 := blk_frozen BK232.out 1; have hfz322_2 := blk_frozen BK232.out 2; have hfz322_3 := blk_frozen BK232.out 3; have hfz322_4 := blk_frozen BK232.out 4; have hcz323_0 : w312.cell? ⟨gb178, 0, none⟩ = some (.int .i64 a0_0) := (blk_cell BK178.out 0).trans rfl; have hcz323_1 : w312.cell? ⟨gb178, 1, none⟩ = some (.int .i64 a0_1) := (blk_cell BK178.out 1).trans rfl; have hcz323_2 : w312.cell? ⟨gb178, 2, none⟩ = some (.int .i64 a0_2) := (blk_cell BK178.out 2).trans rfl; have hcz323_3 : w312.cell? ⟨gb178, 3, none⟩ = some (.int .i64 a0_3) := (blk_cell BK178.out 3).trans rfl; have hcz323_4 : w312.cell? ⟨gb178, 4, none⟩ = some (.int .i64 a0_4) := (blk_cell BK178.out 4).trans rfl; have hfz323_0 := blk_frozen BK178.out 0; have hfz323_1 := blk_frozen BK178.out 1; have hfz323_2 := blk_frozen BK178.out 2; have hfz323_3 := blk_frozen BK178.out 3; have hfz323_4 := blk_frozen BK178.out 4))
                obtain ⟨wz, hwz⟩ : ∃ wz : World, wz = (World.setCell (World.setCell (World.setCell (World.setCell (World.setCell w312 ⟨gb232, 0, none⟩ (.int .i64 t226)) ⟨gb232, 1, none⟩ (.int .i64 t227)) ⟨gb232, 2, none⟩ (.int .i64 t228)) ⟨gb232, 3, none⟩ (.int .i64 t229)) ⟨gb232, 4, none⟩ (.int .i64 t230)) := ⟨_, rfl⟩
                rw [← hwz]
                have Z178 : wz.heap[gb178]? = some (.cells #[.int .i64 a0_0, .int .i64 a0_1, .int .i64 a0_2, .int .i64 a0_3, .int .i64 a0_4] 25 (0, 0)) := by rw [hwz]; exact (blk_far (blk_far (blk_far (blk_far (blk_far BK178.out NB178_232.out _) NB178_232.out _) NB178_232.out _) NB178_232.out _) NB178_232.out _)
                have Z211 : wz.heap[gb211]? = some (.cells #[.int .i64 t205, .int .i64 t206, .int .i64 t207, .int .i64 t208, .int .i64 t209] 25 (0, 0)) := by rw [hwz]; exact (blk_far (blk_far (blk_far (blk_far (blk_far BK211.out NB211_232.out _) NB211_232.out _) NB211_232.out _) NB211_232.out _) NB211_232.out _)
                have Z225 : wz.heap[gb225]? = some (.cells #[.int .i64 t219, .int .i64 t220, .int .i64 t221, .int .i64 t222, .int .i64 t223] 25 (0, 0)) := by rw [hwz]; exact (blk_far (blk_far (blk_far (blk_far (blk_far BK225.out NB225_232.out _) NB225_232.out _) NB225_232.out _) NB225_232.out _) NB225_232.out _)
                have Z232 : wz.heap[gb232]? = some (.cells #[.int .i64 t226, .int .i64 t227, .int .i64 t228, .int .i64 t229, .int .i64 t230] 25 (0, 0)) := by rw [hwz]; exact (blk_put (blk_put (blk_put (blk_put (blk_put BK232.out 0 _ rfl) 1 _ rfl) 2 _ rfl) 3 _ rfl) 4 _ rfl)
                have ZB := Aside0.mk (show Below w.heap.size w wz by rw [hwz]; exact (below_set (below_set (below_set (below_set (below_set HB.out GE232.out) GE232.out) GE232.out) GE232.out) GE232.out))
                clear hwz
                have z178_0 : wz.cell? ⟨gb178, 0, none⟩ = some (.int .i64 a0_0) := (blk_cell Z178 0).trans rfl
                have z178_1 : wz.cell? ⟨gb178, 1, none⟩ = some (.int .i64 a0_1) := (blk_cell Z178 1).trans rfl
                have z178_2 : wz.cell? ⟨gb178, 2, none⟩ = some (.int .i64 a0_2) := (blk_cell Z178 2).trans rfl
                have z178_3 : wz.cell? ⟨gb178, 3, none⟩ = some (.int .i64 a0_3) := (blk_cell Z178 3).trans rfl
                have z178_4 : wz.cell? ⟨gb178, 4, none⟩ = some (.int .i64 a0_4) := (blk_cell Z178 4).trans rfl
                have z211_0 : wz.cell? ⟨gb211, 0, none⟩ = some (.int .i64 t205) := (blk_cell Z211 0).trans rfl
                have z211_1 : wz.cell? ⟨gb211, 1, none⟩ = some (.int .i64 t206) := (blk_cell Z211 1).trans rfl
                have z211_2 : wz.cell? ⟨gb211, 2, none⟩ = some (.int .i64 t207) := (blk_cell Z211 2).trans rfl
                have z211_3 : wz.cell? ⟨gb211, 3, none⟩ = some (.int .i64 t208) := (blk_cell Z211 3).trans rfl
                have z211_4 : wz.cell? ⟨gb211, 4, none⟩ = some (.int .i64 t209) := (blk_cell Z211 4).trans rfl
                have z225_0 : wz.cell? ⟨gb225, 0, none⟩ = some (.int .i64 t219) := (blk_cell Z225 0).trans rfl
                have z225_1 : wz.cell? ⟨gb225, 1, none⟩ = some (.int .i64 t220) := (blk_cell Z225 1).trans rfl
                have z225_2 : wz.cell? ⟨gb225, 2, none⟩ = some (.int .i64 t221) := (blk_cell Z225 2).trans rfl
                have z225_3 : wz.cell? ⟨gb225, 3, none⟩ = some (.int .i64 t222) := (blk_cell Z225 3).trans rfl
                have z225_4 : wz.cell? ⟨gb225, 4, none⟩ = some (.int .i64 t223) := (blk_cell Z225 4).trans rfl
                have z232_0 : wz.cell? ⟨gb232, 0, none⟩ = some (.int .i64 t226) := (blk_cell Z232 0).trans rfl
                have z232_1 : wz.cell? ⟨gb232, 1, none⟩ = some (.int .i64 t227) := (blk_cell Z232 1).trans rfl
                have z232_2 : wz.cell? ⟨gb232, 2, none⟩ = some (.int .i64 t228) := (blk_cell Z232 2).trans rfl
                have z232_3 : wz.cell? ⟨gb232, 3, none⟩ = some (.int .i64 t229) := (blk_cell Z232 3).trans rfl
                have z232_4 : wz.cell? ⟨gb232, 4, none⟩ = some (.int .i64 t230) := (blk_cell Z232 4).trans rfl
                go_wp2_with (first | (go_at_call 19; (with_reducible refine (place_RightArea.calls a0_0 a0_1 a0_2 a0_3 a0_4 t234 _ A274.out).mono ?_); rintro e wy ⟨rfl, hb⟩; have Y178 := blk_below Z178 hb; have y178_0 : wy.cell? ⟨gb178, 0, none⟩ = some (.int .i64 a0_0) := (blk_cell Y178 0).trans rfl; have y178_1 : wy.cell? ⟨gb178, 1, none⟩ = some (.int .i64 a0_1) := (blk_cell Y178 1).trans rfl; have y178_2 : wy.cell? ⟨gb178, 2, none⟩ = some (.int .i64 a0_2) := (blk_cell Y178 2).trans rfl; have y178_3 : wy.cell? ⟨gb178, 3, none⟩ = some (.int .i64 a0_3) := (blk_cell Y178 3).trans rfl; have y178_4 : wy.cell? ⟨gb178, 4, none⟩ = some (.int .i64 a0_4) := (blk_cell Y178 4).trans rfl; have Y232 := blk_below Z232 hb; have y232_0 : wy.cell? ⟨gb232, 0, none⟩ = some (.int .i64 t226) := (blk_cell Y232 0).trans rfl; have y232_1 : wy.cell? ⟨gb232, 1, none⟩ = some (.int .i64 t227) := (blk_cell Y232 1).trans rfl; have y232_2 : wy.cell? ⟨gb232, 2, none⟩ = some (.int .i64 t228) := (blk_cell Y232 2).trans rfl; have y232_3 : wy.cell? ⟨gb232, 3, none⟩ = some (.int .i64 t229) := (blk_cell Y232 3).trans rfl; have y232_4 : wy.cell? ⟨gb232, 4, none⟩ = some (.int .i64 t230) := (blk_cell Y232 4).trans rfl; replace ZB := Aside0.mk (below_step ZB.out hb); clear hb))
                go_ret
                exact ⟨by first | rfl | (simp [errW_none, errW_some] <;> rfl) | (simp [*, errW_none, errW_some] <;> rfl), ZB.out⟩
              ·
               rw [if_neg c275] at H
               have c275b0 : (t231 == t234) = false := by simpa using c275
               (try (have c275b1 : decide (t231 = t234) = false := by simpa using c275))
               (try (have c275b2 : (t231 == t234) = false := by simpa using c275))
               (try (have c275b3 : ¬ (t231 = t234) := by simpa using c275))
               clear c275
               exact Bool.noConfusion ((Option.some.inj H).trans hr_.out)
            ·
             rw [if_neg c190] at H
             have c190b0 : (x14_135 == x18_186) = false := by simpa using c190
             (try (have c190b1 : decide (x14_135 = x18_186) = false := by simpa using c190))
             (try (have c190b2 : (x14_135 == x18_186) = false := by simpa using c190))
             (try (have c190b3 : ¬ (x14_135 = x18_186) := by simpa using c190))
             clear c190
             exact Bool.noConfusion ((Option.some.inj H).trans hr_.out)
 ·
  replace c6 := Bool.eq_false_iff.mpr c6
  subst c6
  have H1 : (some false) = some r := by rw [if_neg (show ¬ (false = true) by decide)] at H; exact H
  clear H
  have H := H1
  clear H1
  exact Bool.noConfusion ((Option.some.inj H).trans hr_.out)

end Go.Proofs.YtijmipnafhljkaaDoor.P
