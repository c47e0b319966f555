import Derived.Test.YtejbbceidnaloaaGreatDoorL41
namespace Go.Proofs.YtejbbceidnaloaaGreatDoor.P
open Go.RowKit Go.Proofs.YtejbbceidnaloaaGreatDoorW.PrintWords Go.Proofs.YtejbbceidnaloaaGreatDoorW.PrintLast Go.Proofs.YtejbbceidnaloaaGreatDoorW.PrintMore
set_option linter.unusedVariables false
set_option linter.unusedSimpArgs false
section
attribute [local go_sem] max2_int min2_int max_two min_two max_three min_three max_four min_four
mutual
def whittlelaw5_TreeParts_g.j0 : Nat → List (S50) → Int → Option (Bool)
 | 0, _, _ => none
 | k + 1, x5, x8 => (tree_Kids.f k x5 x8).bind fun t107 => (if (t107.length : Int) > 0 then (if 0 < (t107.length : Int) then (whittlelaw5_TreeParts_g.j1 k x5 x8 t107 ((rd t107 0) != (wrap64 (x8 + 1)))) else (none)) else (whittlelaw5_TreeParts_g.j1 k x5 x8 t107 false))
def whittlelaw5_TreeParts_g.j1 : Nat → List (S50) → Int → List Int → Bool → Option (Bool)
 | 0, _, _, _, _ => none
 | k + 1, x5, x8, x9, x45 => if x45 = true then (some false) else (whittlelaw5_TreeParts_g.l0 k x5 x8 x9 0)
def whittlelaw5_TreeParts_g.l0 : Nat → List (S50) → Int → List Int → Int → Option (Bool)
 | 0, _, _, _, _ => none
 | k + 1, x5, x8, x9, x10 => if x10 < (x9.length : Int) then (if 0 ≤ x10 then (if (rd x9 x10) ≤ x8 then (some false) else (if (rd x9 x10) ≥ (x5.length : Int) then (some false) else (if x10 > 0 then (if 0 ≤ (wrap64 (x10 - 1)) then (if (wrap64 (x10 - 1)) < (x9.length : Int) then (if (rd x9 x10) ≤ (rd x9 (wrap64 (x10 - 1))) then (some false) else (whittlelaw5_TreeParts_g.l0 k x5 x8 x9 (wrap64 (x10 + 1)))) else (none)) else (none)) else (whittlelaw5_TreeParts_g.l0 k x5 x8 x9 (wrap64 (x10 + 1)))))) else (none)) else (whittlelaw5_TreeParts_g.l1 k x5 x9 0)
def whittlelaw5_TreeParts_g.l1 : Nat → List (S50) → List Int → Int → Option (Bool)
 | 0, _, _, _ => none
 | k + 1, x5, x9, x11 => if (wrap64 (x11 + 1)) < (x9.length : Int) then ((some (([] : List (S50)) : List (S50))).bind fun y115 => (if 0 ≤ x11 then (if x11 < (x9.length : Int) then (if 0 ≤ (wrap64 (x11 + 1)) then (if 0 ≤ (rd x9 x11) then (if (rd x9 x11) ≤ (rd x9 (wrap64 (x11 + 1))) then (if (rd x9 (wrap64 (x11 + 1))) ≤ (x5.length : Int) then ((some ((x5.take ((rd x9 (wrap64 (x11 + 1))) : Int).toNat).drop ((rd x9 x11) : Int).toNat : List (S50))).bind fun y120 => (if y115.length + y120.length < 799644820200 then ((tree_Check.f k (y115 ++ y120)).bind fun t127 => (if t127 = 0 then (whittlelaw5_TreeParts_g.l1 k x5 x9 (wrap64 (x11 + 1))) else (some false))) else (none))) else (none)) else (none)) else (none)) else (none)) else (none)) else (none))) else (some true)
end
def whittlelaw5_TreeParts_g.f (k : Nat) (a0 : ByteArray) (a1 : Int) : Option (Bool) := (able5_g.f).bind fun t101 => (if t101 = true then ((tree_Parse_g.f a0).bind fun bt102 => (if bt102.2.1 = 0 then (if (bt102.1.length : Int) = 0 then (none) else (if (Int.tmod a1 (bt102.1.length : Int)) < 0 then (whittlelaw5_TreeParts_g.j0 k bt102.1 (wrap64 ((Int.tmod a1 (bt102.1.length : Int)) + (bt102.1.length : Int)))) else (whittlelaw5_TreeParts_g.j0 k bt102.1 (Int.tmod a1 (bt102.1.length : Int))))) else (some true))) else (some false))
def whittlelaw5_TreeParts_g.T15 : Bool × List (List Nat × List Nat) := (true, [([], []), ([], []), ([0, 1], [0, 1]), ([2], [2]), ([], []), ([3, 4], [3, 4]), ([5], [5]), ([6], [6]), ([6], [6]), ([7, 8, 6], [6, 7, 8]), ([9, 6], [6, 9]), ([6], [6]), ([11, 6], [6, 11]), ([10, 12, 6], [6, 10, 12]), ([6, 13], [6, 13]), ([14, 6], [14]), ([15], [15]), ([16, 15], [15, 16]), ([17, 15, 15], [15, 17]), ([18], [18]), ([18], [18]), ([19, 20, 18], [18, 19, 20]), ([21, 18], [18, 21]), ([18], [18]), ([18], [18]), ([24, 18], [18, 24]), ([23, 25, 18], [18, 23, 25]), ([26, 18], [18, 26]), ([22, 27, 18], [18, 22, 27]), ([18, 28, 15], [15, 18, 28]), ([15, 29], [15, 29])])
def whittlelaw5_TreeParts_g.B15 : List Nat := [0, 0, 3, 7, 0, 31, 63, 127, 127, 511, 1023, 127, 2175, 8191, 16383, 32767, 65535, 131071, 262143, 524287, 524287, 2097151, 4194303, 524287, 524287, 17301503, 59244543, 126353407, 268435455, 536870911, 1073741823]
theorem whittlelaw5_TreeParts_g.tab15 : rtab .any (opsOf Tryz.f11 15) = whittlelaw5_TreeParts_g.T15 := by kernel_rfl
theorem whittlelaw5_TreeParts_g.bits15 : waitsOk whittlelaw5_TreeParts_g.T15.2 whittlelaw5_TreeParts_g.B15 = true := by kernel_rfl
def whittlelaw5_TreeParts_g.T20 : Bool × List (List Nat × List Nat) := (true, [([], []), ([], []), ([], []), ([], []), ([2, 3], [2, 3]), ([4], [4]), ([], []), ([], []), ([7], [7]), ([6, 8], [6, 8]), ([9], [9]), ([1, 5, 10], [1, 5, 10]), ([0, 11], [0, 11]), ([12, 12], [12]), ([13], [13])])
def whittlelaw5_TreeParts_g.B20 : List Nat := [0, 0, 0, 0, 12, 28, 0, 0, 128, 448, 960, 2046, 4095, 8191, 16383]
theorem whittlelaw5_TreeParts_g.tab20 : rtab .any (opsOf Tryz.f11 20) = whittlelaw5_TreeParts_g.T20 := by kernel_rfl
theorem whittlelaw5_TreeParts_g.bits20 : waitsOk whittlelaw5_TreeParts_g.T20.2 whittlelaw5_TreeParts_g.B20 = true := by kernel_rfl
set_option maxHeartbeats 8000000 in
set_option maxRecDepth 100000 in
theorem whittlelaw5_TreeParts_g.calls (k : Nat) (a0 : ByteArray) (a1 : Int) (r : Bool) (w : World) (hG : GL w) (hr_ : Aside0 (r = true)) (h : whittlelaw5_TreeParts_g.f k a0 a1 = some r) :
 Calls Tryz.prog 11 #[.string a0, .int .i64 a1] w fun e w' => e = .returned (.bool r) ∧ Below w.heap.size w w' := by
 have HB := Aside0.mk (Below.refl w.heap.size w)
 have H := h
 unfold whittlelaw5_TreeParts_g.f at H
 clear h
 replace H := Option.bind_eq_some_iff.mp H
 obtain ⟨t101, A30, H⟩ := H
 try dsimp only at H
 have A3 := Aside0.mk A30
 clear A30
 by_cases c4 : t101 = true
 ·subst c4
  rw [if_pos rfl] at H
  replace H := Option.bind_eq_some_iff.mp H
  obtain ⟨⟨t102, t103, t104⟩, A50, H⟩ := H
  try dsimp only at H
  have A5 := Aside0.mk A50
  clear A50
  by_cases c6 : t103 = 0
  ·rw [if_pos c6] at H
   obtain ⟨c6b0, c6b1⟩ := bqT c6
   clear c6
   by_cases c7 : (t102.length : Int) = 0
   ·rw [if_pos c7] at H
    exact absurd H (by simp)
   ·rw [if_neg c7] at H
    obtain ⟨c7b0, c7b1⟩ := bqF c7
    have c7b2 : ¬ (t102 = []) := fun h_ => c7 (by rw [h_]; rfl)
    have HC8 := Aside0.mk H
    clear H
    go_enter Tryz.func11, Tryz.ntmps11
    go_upto_if 27 with (first | ((with_reducible refine gate_callee (f := 23) rfl ?_); refine gL 12 Tryz.func23 #[] ?_; (with_reducible refine (able5_g.calls  true _ ?side1 A3.out).mono ?_); (case side1 => exact GL.below hG bE); rintro e w9 ⟨rfl, hb⟩; refine ⟨_, rfl, ?_⟩; replace HB := Aside0.mk (below_step bE hb); (try clear hb); (try clear hb2); (try clear hk); (try clear hi)) | ((with_reducible refine gate_callee (f := 21) rfl ?_); refine gL 16 Tryz.func21 #[.string a0] ?_; (with_reducible refine (tree_Parse_g.calls a0 t102 t103 t104 _ ?side1 A5.out).mono ?_); (case side1 => exact GL.below hG bE); rintro e w10 ⟨v105, rfl, ho0, hb⟩; refine ⟨_, rfl, ?_⟩; have HO106 := Aside0.mk (Kd.R_lower ho0 (below_size bE)); replace HB := Aside0.mk (below_step bE hb); (try clear hb); (try clear hb2); (try clear hk); (try clear hi); (try clear ho0); obtain ⟨Ao11, co11, eo11⟩ := Kd.R_slice HO106.out; subst eo11))
    (try simp only [Act.put, List.setIfInBounds_toArray, List.set_cons_zero, List.set_cons_succ])
    go_cut [8] (fun v8 wc => ∃ (kq : Nat) (x8_7 : Int), v8 = .int .i64 x8_7 ∧ Aside0 (whittlelaw5_TreeParts_g.j0 kq t102 x8_7 = some r) ∧ Aside0 (kq ≤ k) ∧ Aside0 (Kd.R k50 50 wc w.heap.size (fun _ => True) (.slice Ao11 t102.length co11) t102) ∧ Aside0 (Below w.heap.size w wc))
    case first =>
     have H := HC8.out
     clear HC8
     by_cases c12 : (Int.tmod a1 (t102.length : Int)) < 0
     ·rw [if_pos c12] at H
      have c12b0 : decide ((Int.tmod a1 (t102.length : Int)) < 0) = true := decide_eq_true c12
      clear c12
      (first | rw [c12b0] | (simp only [i64_w, i32_w]; rw [c12b0]) | skip)
      have H' := Aside0.mk H
      clear H
      go_wp2
      go_meet
      case rel => exact ⟨_, (wrap64 ((Int.tmod a1 (t102.length : Int)) + (t102.length : Int))), (by first | rfl | (simp; done) | (simp [*]; done)), H', ⟨by first | omega | exact Nat.le_refl _⟩, ⟨by (with_reducible repeat (first | apply Kd.R_alloc | apply Kd.R_drewN | apply Kd.R_drew)); exact HO106.out⟩, ⟨bE⟩⟩
     ·rw [if_neg c12] at H
      have c12b0 : decide ((Int.tmod a1 (t102.length : Int)) < 0) = false := decide_eq_false c12
      clear c12
      (first | rw [c12b0] | (simp only [i64_w, i32_w]; rw [c12b0]) | skip)
      have H' := Aside0.mk H
      clear H
      go_wp2
      go_meet
      case rel => exact ⟨_, (Int.tmod a1 (t102.length : Int)), (by first | rfl | (simp; done) | (simp [*]; done)), H', ⟨by first | omega | exact Nat.le_refl _⟩, ⟨by (with_reducible repeat (first | apply Kd.R_alloc | apply Kd.R_drewN | apply Kd.R_drew)); exact HO106.out⟩, ⟨bE⟩⟩
    case rest =>
     clear HC8
     try clear c1
     try clear c2
     try clear p2
     try clear c4
     try clear c6
     try clear c6b0
     try clear c6b1
     try clear p6
     try clear c7
     try clear c7b0
     try clear c7b1
     try clear c7b2
     try clear c11
     try clear c12
     try clear c12b0
     obtain ⟨kq, x8_7, rfl, HA, HJ7, HO_5, HB⟩ := hcut
     cases kq with
     | zero => exact absurd HA.out (by simp [whittlelaw5_TreeParts_g.j0])
     | succ kj7 =>
      have H := HA.out
      clear HA
      simp only [whittlelaw5_TreeParts_g.j0] at H
      replace H := Option.bind_eq_some_iff.mp H
      obtain ⟨t107, A130, H⟩ := H
      try dsimp only at H
      have A13 := Aside0.mk A130
      clear A130
      have HC14 := Aside0.mk H
      clear H
      go_upto_region 10 with (first | ((with_reducible refine gate_callee (f := 32) rfl ?_); refine gL 34 Tryz.func32 #[.slice Ao11 t102.length co11, .int .i64 x8_7] ?_; (with_reducible refine (tree_Kids.calls kj7 _ _ t102 x8_7 t107 _ ?side1 ?side2 A13.out).mono ?_); (case side1 => repeat (first | exact (Kd.R_reads' HO_5.out).2.2 | (with_reducible refine Kd.C_alloc ?_ _) | (with_reducible refine Kd.C_drewN ?_ _) | (with_reducible refine Kd.C_drew ?_))); (case side2 => exact (Kd.R_reads' HO_5.out).2.1); rintro e w15 ⟨v108, rfl, ho0, hb⟩; refine ⟨_, rfl, ?_⟩; have HO109 := Aside0.mk (Kd.R_lower ho0 (below_size bE)); replace HO_5 := Aside0.mk (Kd.R_below (by (with_reducible repeat (first | apply Kd.R_alloc | apply Kd.R_drewN | apply Kd.R_drew)); exact HO_5.out) hb); replace HB := Aside0.mk (below_step bE hb); (try clear hb); (try clear hb2); (try clear hk); (try clear hi); (try clear ho0)))
      (try simp only [Act.put, List.setIfInBounds_toArray, List.set_cons_zero, List.set_cons_succ])
      go_cut [45] (fun v45 wc => ∃ (kq : Nat) (x45_13 : Bool), v45 = .bool x45_13 ∧ Aside0 (whittlelaw5_TreeParts_g.j1 kq t102 x8_7 t107 x45_13 = some r) ∧ Aside0 (kq ≤ kj7) ∧ Aside0 (Kd.R k50 50 wc w.heap.size (fun _ => True) (.slice Ao11 t102.length co11) t102) ∧ Aside0 (Kd.R (Kd.int .i64) 3 wc w.heap.size (fun _ => True) v108 t107) ∧ Aside0 (Below w.heap.size w wc))
      case first =>
       have H := HC14.out
       clear HC14
       by_cases c16 : (t107.length : Int) > 0
       ·rw [if_pos c16] at H
        have c16b0 : decide (0 < (t107.length : Int)) = true := decide_eq_true c16
        have c16b1 : decide (0 < t107.length) = true := decide_eq_true (by omega)
        clear c16
        (first | rw [c16b0] | (simp only [i64_w, i32_w]; rw [c16b0]) | skip)
        by_cases c17 : 0 < (t107.length : Int)
        ·rw [if_pos c17] at H
         have c17b0 : decide (0 < (t107.length : Int)) = true := decide_eq_true c17
         have c17b1 : decide (0 < t107.length) = true := decide_eq_true (by omega)
         clear c17
         have H' := Aside0.mk H
         clear H
         obtain ⟨Ao18, co18, eo18⟩ := Kd.R_slice HO109.out
         subst eo18
         have p110 : 0 ≤ (0 : Int) := (by omega)
         have q110 : 0 < (t107.length : Int) := of_decide_eq_true (by first | (with_reducible assumption) | assumption)
         obtain ⟨ad110, e110, hx110_0⟩ := Kd.at_int (Kd.R_reads' HO109.out).2.2 0 p110 q110
         cases e110
         have qi110 : (0 < t107.length) = True := eq_true (by omega)
         (try rw [show ((0 : Int)).toNat = 0 from rfl] at hx110_0)
         (try rw [Addr.add_zero'] at hx110_0)
         replace p110 := eq_true p110
         replace q110 := eq_true q110
         go_wp2
         go_meet
         case rel => exact ⟨_, (((rd t107 0) != (wrap64 (x8_7 + 1)))), (by first | rfl | (simp; done) | (simp [*]; done)), H', ⟨by have := HJ7.out; first | omega | exact Nat.le_refl _⟩, ⟨by (with_reducible repeat (first | apply Kd.R_alloc | apply Kd.R_drewN | apply Kd.R_drew)); exact HO_5.out⟩, ⟨by (with_reducible repeat (first | apply Kd.R_alloc | apply Kd.R_drewN | apply Kd.R_drew)); exact HO109.out⟩, ⟨bE⟩⟩
        ·rw [if_neg c17] at H
         exact absurd H (by simp)
       ·rw [if_neg c16] at H
        have c16b0 : decide (0 < (t107.length : Int)) = false := decide_eq_false c16
        have c16b1 : decide (0 < t107.length) = false := decide_eq_false (by omega)
        clear c16
        (first | rw [c16b0] | (simp only [i64_w, i32_w]; rw [c16b0]) | skip)
        have H' := Aside0.mk H
        clear H
        obtain ⟨Ao19, co19, eo19⟩ := Kd.R_slice HO109.out
        subst eo19
        go_wp2
        go_meet
        case rel => exact ⟨_, (false), (by first | rfl | (simp; done) | (simp [*]; done)), H', ⟨by have := HJ7.out; first | omega | exact Nat.le_refl _⟩, ⟨by (with_reducible repeat (first | apply Kd.R_alloc | apply Kd.R_drewN | apply Kd.R_drew)); exact HO_5.out⟩, ⟨by (with_reducible repeat (first | apply Kd.R_alloc | apply Kd.R_drewN | apply Kd.R_drew)); exact HO109.out⟩, ⟨bE⟩⟩
      case rest =>
       clear HC14
       try clear c1
       try clear p1
       try clear q1
       try clear hx1
       try clear qi1
       try clear c2
       try clear p2
       try clear c3
       try clear c4
       try clear c6
       try clear c6b0
       try clear c6b1
       try clear p6
       try clear c7
       try clear c7b0
       try clear c7b1
       try clear c7b2
       try clear c11
       try clear p11
       try clear q11
       try clear hx11
       try clear qi11
       try clear c12
       try clear c12b0
       try clear c16
       try clear c16b0
       try clear c16b1
       try clear c17
       try clear c17b0
       try clear c17b1
       try clear hx110_0
       try clear p110
       try clear p2
       try clear p6
       try clear q110
       obtain ⟨kq, x45_13, rfl, HA, HJ13, HO_5, HO_9, HB⟩ := hcut
       cases kq with
       | zero => exact absurd HA.out (by simp [whittlelaw5_TreeParts_g.j1])
       | succ kj13 =>
        have H := HA.out
        clear HA
        simp only [whittlelaw5_TreeParts_g.j1] at H
        by_cases c20 : x45_13 = true
        ·subst c20
         rw [if_pos rfl] at H
         exact Bool.noConfusion ((Option.some.inj H).trans hr_.out)
        ·replace c20 := Bool.eq_false_iff.mpr c20
         subst c20
         rw [if_neg Bool.false_ne_true] at H
         have H' := Aside0.mk H
         clear H
         go_wp2
         go_loopg [10] kj13 (fun kq v10 w' => ∃ (x10_3 : Int), v10 = .int .i64 x10_3 ∧ Aside0 (whittlelaw5_TreeParts_g.l0 kq t102 x8_7 t107 x10_3 = some r) ∧ Aside0 (kq ≤ kj13) ∧ Aside0 (Kd.R k50 50 w' w.heap.size (fun _ => True) (.slice Ao11 t102.length co11) t102) ∧ Aside0 (Kd.R (Kd.int .i64) 3 w' w.heap.size (fun _ => True) v108 t107) ∧ Aside0 (Below w.heap.size w w'))
         case atStart => exact ⟨(0), (by first | rfl | (simp; done) | (simp [*]; done)), H', ⟨Nat.le_refl _⟩, ⟨by (with_reducible repeat (first | apply Kd.R_alloc | apply Kd.R_drewN | apply Kd.R_drew)); exact HO_5.out⟩, ⟨by (with_reducible repeat (first | apply Kd.R_alloc | apply Kd.R_drewN | apply Kd.R_drew)); exact HO_9.out⟩, ⟨bE⟩⟩
         case round =>
          clear H'
          try clear c1
          try clear p1
          try clear q1
          try clear hx1
          try clear qi1
          try clear c2
          try clear p2
          try clear c3
          try clear c4
          try clear c6
          try clear c6b0
          try clear c6b1
          try clear p6
          try clear c7
          try clear c7b0
          try clear c7b1
          try clear c7b2
          try clear c11
          try clear p11
          try clear q11
          try clear hx11
          try clear qi11
          try clear c12
          try clear c12b0
          try clear c16
          try clear c16b0
          try clear c16b1
          try clear c17
          try clear c17b0
          try clear c17b1
          try clear c20
          try clear hx110_0
          try clear p1
          try clear p11
          try clear p110
          try clear p2
          try clear p6
          try clear q1
          try clear q11
          try clear q110
          obtain ⟨x10_3, rfl, HA, HK3, HO_5, HO_9, HB⟩ := hrel
          cases gk with
          | zero => exact absurd HA.out (by simp [whittlelaw5_TreeParts_g.l0])
          | succ k3 =>
           have H := HA.out
           clear HA
           simp only [whittlelaw5_TreeParts_g.l0] at H
           by_cases c21 : x10_3 < (t107.length : Int)
           ·rw [if_pos c21] at H
            have c21b0 : decide (x10_3 < (t107.length : Int)) = true := decide_eq_true c21
            clear c21
            by_cases c22 : 0 ≤ x10_3
            ·rw [if_pos c22] at H
             have c22b0 : decide (0 ≤ x10_3) = true := decide_eq_true c22
             clear c22
             by_cases c23 : (rd t107 x10_3) ≤ x8_7
             ·rw [if_pos c23] at H
              have c23b0 : decide ((rd t107 x10_3) ≤ x8_7) = true := decide_eq_true c23
              clear c23
              exact Bool.noConfusion ((Option.some.inj H).trans hr_.out)
             ·rw [if_neg c23] at H
              have c23b0 : decide ((rd t107 x10_3) ≤ x8_7) = false := decide_eq_false c23
              clear c23
              by_cases c24 : (rd t107 x10_3) ≥ (t102.length : Int)
              ·rw [if_pos c24] at H
               have c24b0 : decide ((t102.length : Int) ≤ (rd t107 x10_3)) = true := decide_eq_true c24
               clear c24
               exact Bool.noConfusion ((Option.some.inj H).trans hr_.out)
              ·rw [if_neg c24] at H
               have c24b0 : decide ((t102.length : Int) ≤ (rd t107 x10_3)) = false := decide_eq_false c24
               clear c24
               by_cases c25 : x10_3 > 0
               ·rw [if_pos c25] at H
                have c25b0 : decide (0 < x10_3) = true := decide_eq_true c25
                clear c25
                obtain ⟨ji26, hji26⟩ : ∃ j_ : Int, (wrap64 (x10_3 - 1)) = j_ := ⟨_, rfl⟩
                replace H : (if 0 ≤ (ji26) then (if (ji26) < (t107.length : Int) then (if (rd t107 x10_3) ≤ (rd t107 (ji26)) then (some false) else (whittlelaw5_TreeParts_g.l0 k3 t102 x8_7 t107 (wrap64 (x10_3 + 1)))) else (none)) else (none)) = some r := by first | (rw [hji26] at H; exact H) | (simp only [hji26] at H ⊢; exact H)
                have hji26w : (IntKind.i64.wrap (x10_3 - 1)) = ji26 := (i64_w _).trans hji26
                by_cases c27 : 0 ≤ (ji26)
                ·rw [if_pos c27] at H
                 have c27b0 : decide (0 ≤ (ji26)) = true := decide_eq_true c27
                 clear c27
                 by_cases c28 : (ji26) < (t107.length : Int)
                 ·rw [if_pos c28] at H
                  have c28b0 : decide ((ji26) < (t107.length : Int)) = true := decide_eq_true c28
                  clear c28
                  by_cases c29 : (rd t107 x10_3) ≤ (rd t107 (ji26))
                  ·rw [if_pos c29] at H
                   have c29b0 : decide ((rd t107 x10_3) ≤ (rd t107 (ji26))) = true := decide_eq_true c29
                   clear c29
                   exact Bool.noConfusion ((Option.some.inj H).trans hr_.out)
                  ·rw [if_neg c29] at H
                   have c29b0 : decide ((rd t107 x10_3) ≤ (rd t107 (ji26))) = false := decide_eq_false c29
                   clear c29
                   have H' := Aside0.mk H
                   clear H
                   obtain ⟨Ao30, co30, eo30⟩ := Kd.R_slice HO_9.out
                   subst eo30
                   try go_wp2
                   have n0_ := Aside0.mk (Kd.R_drew HO_5.out)
                   have n1_ := Aside0.mk (Kd.R_drew HO_9.out)
                   have n2_ := Aside0.mk (below_drew1 HB.out)
                   clear HO_5
                   clear HO_9
                   clear HB
                   have HO_5 := n0_
                   have HO_9 := n1_
                   have HB := n2_
                   clear n0_ n1_ n2_
                   have p111 : 0 ≤ (x10_3 : Int) := of_decide_eq_true (by first | (with_reducible assumption) | assumption)
                   have q111 : x10_3 < (t107.length : Int) := of_decide_eq_true (by first | (with_reducible assumption) | assumption)
                   obtain ⟨ad111, e111, hx111_0⟩ := Kd.at_int (Kd.R_reads' HO_9.out).2.2 x10_3 p111 q111
                   cases e111
                   replace p111 := eq_true p111
                   replace q111 := eq_true q111
                   have p112 : 0 ≤ (x10_3 : Int) := of_decide_eq_true (by first | (with_reducible assumption) | assumption)
                   have q112 : x10_3 < (t107.length : Int) := of_decide_eq_true (by first | (with_reducible assumption) | assumption)
                   obtain ⟨ad112, e112, hx112_0⟩ := Kd.at_int (Kd.R_reads' HO_9.out).2.2 x10_3 p112 q112
                   obtain rfl : ad111 = ad112 := (by injection e112)
                   replace p112 := eq_true p112
                   replace q112 := eq_true q112
                   have p113 : 0 ≤ (x10_3 : Int) := of_decide_eq_true (by first | (with_reducible assumption) | assumption)
                   have q113 : x10_3 < (t107.length : Int) := of_decide_eq_true (by first | (with_reducible assumption) | assumption)
                   obtain ⟨ad113, e113, hx113_0⟩ := Kd.at_int (Kd.R_reads' HO_9.out).2.2 x10_3 p113 q113
                   obtain rfl : ad111 = ad113 := (by injection e113)
                   replace p113 := eq_true p113
                   replace q113 := eq_true q113
                   have p114 : 0 ≤ ((ji26) : Int) := of_decide_eq_true (by first | (with_reducible assumption) | assumption)
                   have q114 : (ji26) < (t107.length : Int) := of_decide_eq_true (by first | (with_reducible assumption) | assumption)
                   obtain ⟨ad114, e114, hx114_0⟩ := Kd.at_int (Kd.R_reads' HO_9.out).2.2 (ji26) p114 q114
                   obtain rfl : ad111 = ad114 := (by injection e114)
                   replace p114 := eq_true p114
                   replace q114 := eq_true q114
                   refine start_ (n := 31) (S := fun w' => w'.cell? (ad111.add (x10_3).toNat) = some (.int .i64 (rd t107 x10_3)) ∧ w'.cell? (ad111.add (x10_3).toNat) = some (.int .i64 (rd t107 x10_3)) ∧ w'.cell? (ad111.add (x10_3).toNat) = some (.int .i64 (rd t107 x10_3)) ∧ w'.cell? (ad111.add ((ji26)).toNat) = some (.int .i64 (rd t107 (ji26)))) (ds := []) #[false, false, false, false, false, false, false, false, false, false, false, false, false, false, false, false, false, false, false, false, false, false, false, false, false, false, false, false, false, false, false] (by kernel_rfl) rfl rfl ⟨hx111_0, hx112_0, hx113_0, hx114_0⟩ (fun hHeld => ?_); refine with_tabW whittlelaw5_TreeParts_g.tab15 whittlelaw5_TreeParts_g.bits15 (fun HT_ HW_ => ?_)
                   generalize wr.drew = w31 at HO_5 HO_9 HB hx111_0 hx112_0 hx113_0 hx114_0 hHeld ⊢
                   refine pP 0 52 ?_ (hc := any_of HT_.out (by kernel_rfl))
                   refine pP 1 53 ?_ (hc := any_of HT_.out (by kernel_rfl))
                   refine pP 2 54 ?_ (hc := any_of HT_.out (by kernel_rfl))
                   refine pP 4 56 ?_ (hc := any_of HT_.out (by kernel_rfl))
                   refine take_ (i := 3) (N := some 55) (v := ?_) (a' := ?_) #[true, true, true, true, true, false, false, false, false, false, false, false, false, false, false, false, false, false, false, false, false, false, false, false, false, false, false, false, false, false, false] rfl rfl (take_ofW HT_.out HW_.out (by kernel_rfl)) (fun _ _ _ h => h) (Or.inl ⟨by rfl, ?_⟩) hHeld ?_ ?_
                   rotate_left
                   ·rintro w' ⟨s0, s1, s2, s3⟩
                    go_simp
                    with_reducible rfl
                   rotate_left
                   ·simp only [Act.put, List.setIfInBounds_toArray, List.set_cons_zero, List.set_cons_succ, i64_w, i32_w]
                    rfl
                   refine pP 5 57 ?_ (hc := any_of HT_.out (by kernel_rfl))
                   refine pP 6 58 ?_ (hc := any_of HT_.out (by kernel_rfl))
                   refine pP 7 59 ?_ (hc := any_of HT_.out (by kernel_rfl))
                   refine pP 8 60 ?_ (hc := any_of HT_.out (by kernel_rfl))
                   refine pP 9 61 ?_ (hc := any_of HT_.out (by kernel_rfl))
                   refine pP 11 63 ?_ (hc := any_of HT_.out (by kernel_rfl))
                   refine pP 12 64 ?_ (hc := any_of HT_.out (by kernel_rfl))
                   refine take_ (i := 10) (N := some 62) (v := ?_) (a' := ?_) #[true, true, true, true, true, true, true, true, true, true, true, true, true, false, false, false, false, false, false, false, false, false, false, false, false, false, false, false, false, false, false] rfl rfl (take_ofW HT_.out HW_.out (by kernel_rfl)) (fun _ _ _ h => h) (Or.inl ⟨by rfl, ?_⟩) hHeld ?_ ?_
                   rotate_left
                   ·rintro w' ⟨s0, s1, s2, s3⟩
                    go_simp
                    with_reducible rfl
                   rotate_left
                   ·simp only [Act.put, List.setIfInBounds_toArray, List.set_cons_zero, List.set_cons_succ, i64_w, i32_w]
                    rfl
                   refine pP 13 65 ?_ (hc := any_of HT_.out (by kernel_rfl))
                   refine pP 14 66 ?_ (hc := any_of HT_.out (by kernel_rfl))
                   refine pP 15 67 ?_ (hc := any_of HT_.out (by kernel_rfl))
                   refine pP 16 68 ?_ (hc := any_of HT_.out (by kernel_rfl))
                   refine pP 17 69 ?_ (hc := any_of HT_.out (by kernel_rfl))
                   refine pP 18 70 ?_ (hc := any_of HT_.out (by kernel_rfl))
                   refine pP 19 71 ?_ (hc := any_of HT_.out (by kernel_rfl))
                   refine pP 20 72 ?_ (hc := any_of HT_.out (by kernel_rfl))
                   refine pP 21 73 ?_ (hc := any_of HT_.out (by kernel_rfl))
                   refine pP 23 75 ?_ (hc := any_of HT_.out (by kernel_rfl))
                   refine pP 24 76 ?_ (hc := any_of HT_.out (by kernel_rfl))
                   refine pP 25 77 ?_ (hc := any_of HT_.out (by kernel_rfl))
                   refine pP 26 78 ?_ (hc := any_of HT_.out (by kernel_rfl))
                   refine take_ (i := 22) (N := some 74) (v := ?_) (a' := ?_) #[true, true, true, true, true, true, true, true, true, true, true, true, true, true, true, true, true, true, true, true, true, true, true, true, true, true, true, false, false, false, false] rfl rfl (take_ofW HT_.out HW_.out (by kernel_rfl)) (fun _ _ _ h => h) (Or.inl ⟨by rfl, ?_⟩) hHeld ?_ ?_
                   rotate_left
                   ·rintro w' ⟨s0, s1, s2, s3⟩
                    go_simp
                    with_reducible rfl
                   rotate_left
                   ·simp only [Act.put, List.setIfInBounds_toArray, List.set_cons_zero, List.set_cons_succ, i64_w, i32_w]
                    rfl
                   refine take_ (i := 27) (N := some 79) (v := ?_) (a' := ?_) #[true, true, true, true, true, true, true, true, true, true, true, true, true, true, true, true, true, true, true, true, true, true, true, true, true, true, true, true, false, false, false] rfl rfl (take_ofW HT_.out HW_.out (by kernel_rfl)) (fun _ _ _ h => h) (Or.inl ⟨by rfl, ?_⟩) hHeld ?_ ?_
                   rotate_left
                   ·rintro w' ⟨s0, s1, s2, s3⟩
                    go_simp
                    with_reducible rfl
                   rotate_left
                   ·simp only [Act.put, List.setIfInBounds_toArray, List.set_cons_zero, List.set_cons_succ, i64_w, i32_w]
                    rfl
                   refine pP 28 80 ?_ (hc := any_of HT_.out (by kernel_rfl))
                   refine pP 29 81 ?_ (hc := any_of HT_.out (by kernel_rfl))
                   refine pP 30 82 ?_ (hc := any_of HT_.out (by kernel_rfl))
                   refine done_ (done_of HT_.out (by kernel_rfl)) ?_
                   try go_wp2
                   go_roundg k3
                   case measure => have := HJ7.out; have := HJ13.out; have := HK3.out; omega
                   case rel => exact ⟨(wrap64 (x10_3 + 1)), (by first | rfl | (simp; done) | (simp [*]; done)), H', ⟨by have := HJ7.out; have := HJ13.out; have := HK3.out; omega⟩, ⟨by (with_reducible repeat (first | apply Kd.R_alloc | apply Kd.R_drewN | apply Kd.R_drew)); exact HO_5.out⟩, ⟨by (with_reducible repeat (first | apply Kd.R_alloc | apply Kd.R_drewN | apply Kd.R_drew)); exact HO_9.out⟩, ⟨bE⟩⟩
                 ·rw [if_neg c28] at H
                  exact absurd H (by simp)
                ·rw [if_neg c27] at H
                 exact absurd H (by simp)
               ·rw [if_neg c25] at H
                have c25b0 : decide (0 < x10_3) = false := decide_eq_false c25
                clear c25
                have H' := Aside0.mk H
                clear H
                obtain ⟨Ao32, co32, eo32⟩ := Kd.R_slice HO_9.out
                subst eo32
                try go_wp2
                have n0_ := Aside0.mk (Kd.R_drew HO_5.out)
                have n1_ := Aside0.mk (Kd.R_drew HO_9.out)
                have n2_ := Aside0.mk (below_drew1 HB.out)
                clear HO_5
                clear HO_9
                clear HB
                have HO_5 := n0_
                have HO_9 := n1_
                have HB := n2_
                clear n0_ n1_ n2_
                have p111 : 0 ≤ (x10_3 : Int) := of_decide_eq_true (by first | (with_reducible assumption) | assumption)
                have q111 : x10_3 < (t107.length : Int) := of_decide_eq_true (by first | (with_reducible assumption) | assumption)
                obtain ⟨ad111, e111, hx111_0⟩ := Kd.at_int (Kd.R_reads' HO_9.out).2.2 x10_3 p111 q111
                cases e111
                replace p111 := eq_true p111
                replace q111 := eq_true q111
                have p112 : 0 ≤ (x10_3 : Int) := of_decide_eq_true (by first | (with_reducible assumption) | assumption)
                have q112 : x10_3 < (t107.length : Int) := of_decide_eq_true (by first | (with_reducible assumption) | assumption)
                obtain ⟨ad112, e112, hx112_0⟩ := Kd.at_int (Kd.R_reads' HO_9.out).2.2 x10_3 p112 q112
                obtain rfl : ad111 = ad112 := (by injection e112)
                replace p112 := eq_true p112
                replace q112 := eq_true q112
                refine start_ (n := 31) (S := fun w' => w'.cell? (ad111.add (x10_3).toNat) = some (.int .i64 (rd t107 x10_3)) ∧ w'.cell? (ad111.add (x10_3).toNat) = some (.int .i64 (rd t107 x10_3))) (ds := []) #[false, false, false, false, false, false, false, false, false, false, false, false, false, false, false, false, false, false, false, false, false, false, false, false, false, false, false, false, false, false, false] (by kernel_rfl) rfl rfl ⟨hx111_0, hx112_0⟩ (fun hHeld => ?_); refine with_tabW whittlelaw5_TreeParts_g.tab15 whittlelaw5_TreeParts_g.bits15 (fun HT_ HW_ => ?_)
                generalize wr.drew = w33 at HO_5 HO_9 HB hx111_0 hx112_0 hHeld ⊢
                refine pP 0 52 ?_ (hc := any_of HT_.out (by kernel_rfl))
                refine pP 1 53 ?_ (hc := any_of HT_.out (by kernel_rfl))
                refine pP 2 54 ?_ (hc := any_of HT_.out (by kernel_rfl))
                refine pP 4 56 ?_ (hc := any_of HT_.out (by kernel_rfl))
                refine take_ (i := 3) (N := some 55) (v := ?_) (a' := ?_) #[true, true, true, true, true, false, false, false, false, false, false, false, false, false, false, false, false, false, false, false, false, false, false, false, false, false, false, false, false, false, false] rfl rfl (take_ofW HT_.out HW_.out (by kernel_rfl)) (fun _ _ _ h => h) (Or.inl ⟨by rfl, ?_⟩) hHeld ?_ ?_
                rotate_left
                ·rintro w' ⟨s0, s1⟩
                 go_simp
                 with_reducible rfl
                rotate_left
                ·simp only [Act.put, List.setIfInBounds_toArray, List.set_cons_zero, List.set_cons_succ, i64_w, i32_w]
                 rfl
                refine pP 5 57 ?_ (hc := any_of HT_.out (by kernel_rfl))
                refine pP 6 58 ?_ (hc := any_of HT_.out (by kernel_rfl))
                refine pP 7 59 ?_ (hc := any_of HT_.out (by kernel_rfl))
                refine pP 8 60 ?_ (hc := any_of HT_.out (by kernel_rfl))
                refine pP 9 61 ?_ (hc := any_of HT_.out (by kernel_rfl))
                refine pP 11 63 ?_ (hc := any_of HT_.out (by kernel_rfl))
                refine pP 12 64 ?_ (hc := any_of HT_.out (by kernel_rfl))
                refine take_ (i := 10) (N := some 62) (v := ?_) (a' := ?_) #[true, true, true, true, true, true, true, true, true, true, true, true, true, false, false, false, false, false, false, false, false, false, false, false, false, false, false, false, false, false, false] rfl rfl (take_ofW HT_.out HW_.out (by kernel_rfl)) (fun _ _ _ h => h) (Or.inl ⟨by rfl, ?_⟩) hHeld ?_ ?_
                rotate_left
                ·rintro w' ⟨s0, s1⟩
                 go_simp
                 with_reducible rfl
                rotate_left
                ·simp only [Act.put, List.setIfInBounds_toArray, List.set_cons_zero, List.set_cons_succ, i64_w, i32_w]
                 rfl
                refine pP 13 65 ?_ (hc := any_of HT_.out (by kernel_rfl))
                refine pP 14 66 ?_ (hc := any_of HT_.out (by kernel_rfl))
                refine pP 15 67 ?_ (hc := any_of HT_.out (by kernel_rfl))
                refine pP 16 68 ?_ (hc := any_of HT_.out (by kernel_rfl))
                refine pP 17 69 ?_ (hc := any_of HT_.out (by kernel_rfl))
                refine pP 18 70 ?_ (hc := any_of HT_.out (by kernel_rfl))
                refine uP 19 71 ?_ (hc := any_of HT_.out (by kernel_rfl))
                refine uP 20 72 ?_ (hc := any_of HT_.out (by kernel_rfl))
                refine uP 21 73 ?_ (hc := any_of HT_.out (by kernel_rfl))
                refine uP 22 74 ?_ (hc := any_of HT_.out (by kernel_rfl))
                refine uP 23 75 ?_ (hc := any_of HT_.out (by kernel_rfl))
                refine uP 24 76 ?_ (hc := any_of HT_.out (by kernel_rfl))
                refine uP 25 77 ?_ (hc := any_of HT_.out (by kernel_rfl))
                refine uP 26 78 ?_ (hc := any_of HT_.out (by kernel_rfl))
                refine uP 27 79 ?_ (hc := any_of HT_.out (by kernel_rfl))
                refine uP 28 80 ?_ (hc := any_of HT_.out (by kernel_rfl))
                refine pP 29 81 ?_ (hc := any_of HT_.out (by kernel_rfl))
                refine pP 30 82 ?_ (hc := any_of HT_.out (by kernel_rfl))
                refine done_ (done_of HT_.out (by kernel_rfl)) ?_
                try go_wp2
                go_roundg k3
                case measure => have := HJ7.out; have := HJ13.out; have := HK3.out; omega
                case rel => exact ⟨(wrap64 (x10_3 + 1)), (by first | rfl | (simp; done) | (simp [*]; done)), H', ⟨by have := HJ7.out; have := HJ13.out; have := HK3.out; omega⟩, ⟨by (with_reducible repeat (first | apply Kd.R_alloc | apply Kd.R_drewN | apply Kd.R_drew)); exact HO_5.out⟩, ⟨by (with_reducible repeat (first | apply Kd.R_alloc | apply Kd.R_drewN | apply Kd.R_drew)); exact HO_9.out⟩, ⟨bE⟩⟩
            ·rw [if_neg c22] at H
             exact absurd H (by simp)
           ·rw [if_neg c21] at H
            have c21b0 : decide (x10_3 < (t107.length : Int)) = false := decide_eq_false c21
            clear c21
            have H' := Aside0.mk H
            clear H
            obtain ⟨Ao34, co34, eo34⟩ := Kd.R_slice HO_9.out
            subst eo34
            go_wp2
            go_loopg [11] k3 (fun kq v11 w' => ∃ (x11_4 : Int), v11 = .int .i64 x11_4 ∧ Aside0 (whittlelaw5_TreeParts_g.l1 kq t102 t107 x11_4 = some r) ∧ Aside0 (kq ≤ k3) ∧ Aside0 (Kd.R k50 50 w' w.heap.size (fun _ => True) (.slice Ao11 t102.length co11) t102) ∧ Aside0 (Kd.R (Kd.int .i64) 3 w' w.heap.size (fun _ => True) (.slice Ao34 t107.length co34) t107) ∧ Aside0 (Below w.heap.size w w'))
            case atStart => exact ⟨(0), (by first | rfl | (simp; done) | (simp [*]; done)), H', ⟨Nat.le_refl _⟩, ⟨by (with_reducible repeat (first | apply Kd.R_alloc | apply Kd.R_drewN | apply Kd.R_drew)); exact HO_5.out⟩, ⟨by (with_reducible repeat (first | apply Kd.R_alloc | apply Kd.R_drewN | apply Kd.R_drew)); exact HO_9.out⟩, ⟨bE⟩⟩
            case round =>
             clear H'
             try clear p1
             try clear q1
             try clear hx1
             try clear c2
             try clear p2
             try clear p6
             try clear p11
             try clear q11
             try clear hx11
             try clear c21
             try clear c21b0
             try clear c22
             try clear c22b0
             try clear c23
             try clear c23b0
             try clear c24
             try clear c24b0
             try clear c25
             try clear c25b0
             try clear c27
             try clear c27b0
             try clear c28
             try clear c28b0
             try clear c29
             try clear c29b0
             try clear hx111_0
             try clear hx112_0
             try clear hx113_0
             try clear hx114_0
             try clear p111
             try clear p112
             try clear p113
             try clear p114
             try clear q111
             try clear q112
             try clear q113
             try clear q114
             obtain ⟨x11_4, rfl, HA, HK4, HO_5, HO_9, HB⟩ := hrel
             cases gk with
             | zero => exact absurd HA.out (by simp [whittlelaw5_TreeParts_g.l1])
             | succ k4 =>
              have H := HA.out
              clear HA
              simp only [whittlelaw5_TreeParts_g.l1] at H
              by_cases c35 : (wrap64 (x11_4 + 1)) < (t107.length : Int)
              ·rw [if_pos c35] at H
               have c35b0 : decide ((wrap64 (x11_4 + 1)) < (t107.length : Int)) = true := decide_eq_true c35
               clear c35
               obtain ⟨y115, hy115⟩ : ∃ y_ : List (S50), y_ = (([] : List (S50))) := ⟨_, rfl⟩
               replace H : (if 0 ≤ x11_4 then (if x11_4 < (t107.length : Int) then (if 0 ≤ (wrap64 (x11_4 + 1)) then (if 0 ≤ (rd t107 x11_4) then (if (rd t107 x11_4) ≤ (rd t107 (wrap64 (x11_4 + 1))) then (if (rd t107 (wrap64 (x11_4 + 1))) ≤ (t102.length : Int) then ((some ((t102.take ((rd t107 (wrap64 (x11_4 + 1))) : Int).toNat).drop ((rd t107 x11_4) : Int).toNat : List (S50))).bind fun y120 => (if y115.length + y120.length < 799644820200 then ((tree_Check.f k4 (y115 ++ y120)).bind fun t127 => (if t127 = 0 then (whittlelaw5_TreeParts_g.l1 k4 t102 t107 (wrap64 (x11_4 + 1))) else (some false))) else (none))) else (none)) else (none)) else (none)) else (none)) else (none)) else (none)) = some r := by first | (rw [hy115]; with_reducible exact H) | (have H2_ := (Option.bind_some _ _).symm.trans H; rw [hy115]; with_reducible exact H2_) | (have H2_ := (Option.bind_some _ _).symm.trans H; with_reducible exact H2_) | with_reducible exact H | (rw [hy115]; exact H) | exact H
               have Ny115 := Aside0.mk hy115
               clear hy115
               by_cases c36 : 0 ≤ x11_4
               ·rw [if_pos c36] at H
                have c36b0 : decide (0 ≤ x11_4) = true := decide_eq_true c36
                clear c36
                by_cases c37 : x11_4 < (t107.length : Int)
                ·rw [if_pos c37] at H
                 have c37b0 : decide (x11_4 < (t107.length : Int)) = true := decide_eq_true c37
                 clear c37
                 obtain ⟨ji38, hji38⟩ : ∃ j_ : Int, (wrap64 (x11_4 + 1)) = j_ := ⟨_, rfl⟩
                 replace H : (if 0 ≤ (ji38) then (if 0 ≤ (rd t107 x11_4) then (if (rd t107 x11_4) ≤ (rd t107 (ji38)) then (if (rd t107 (ji38)) ≤ (t102.length : Int) then ((some ((t102.take ((rd t107 (ji38)) : Int).toNat).drop ((rd t107 x11_4) : Int).toNat : List (S50))).bind fun y120 => (if y115.length + y120.length < 799644820200 then ((tree_Check.f k4 (y115 ++ y120)).bind fun t127 => (if t127 = 0 then (whittlelaw5_TreeParts_g.l1 k4 t102 t107 ji38) else (some false))) else (none))) else (none)) else (none)) else (none)) else (none)) = some r := by first | (rw [hji38] at H; exact H) | (simp only [hji38] at H ⊢; exact H)
                 (try rw [hji38] at c35b0)
                 have hji38w : (IntKind.i64.wrap (x11_4 + 1)) = ji38 := (i64_w _).trans hji38
                 by_cases c39 : 0 ≤ (ji38)
                 ·rw [if_pos c39] at H
                  have c39b0 : decide (0 ≤ (ji38)) = true := decide_eq_true c39
                  clear c39
                  by_cases c40 : 0 ≤ (rd t107 x11_4)
                  ·rw [if_pos c40] at H
                   have c40b0 := eq_true c40
                   have c40b1 : decide (0 ≤ (rd t107 x11_4)) = true := decide_eq_true c40
                   clear c40
                   by_cases c41 : (rd t107 x11_4) ≤ (rd t107 (ji38))
                   ·rw [if_pos c41] at H
                    have c41b0 := eq_true c41
                    have c41b1 : decide ((rd t107 x11_4) ≤ (rd t107 (ji38))) = true := decide_eq_true c41
                    clear c41
                    by_cases c42 : (rd t107 (ji38)) ≤ (t102.length : Int)
                    ·rw [if_pos c42] at H
                     have c42b0 := eq_true c42
                     have c42b1 : decide ((rd t107 (ji38)) ≤ (t102.length : Int)) = true := decide_eq_true c42
                     clear c42
                     obtain ⟨y120, hy120⟩ : ∃ y_ : List (S50), y_ = ((t102.take ((rd t107 (ji38)) : Int).toNat).drop ((rd t107 x11_4) : Int).toNat) := ⟨_, rfl⟩
                     replace H : (if y115.length + y120.length < 799644820200 then ((tree_Check.f k4 (y115 ++ y120)).bind fun t127 => (if t127 = 0 then (whittlelaw5_TreeParts_g.l1 k4 t102 t107 ji38) else (some false))) else (none)) = some r := by first | (rw [hy120]; with_reducible exact H) | (have H2_ := (Option.bind_some _ _).symm.trans H; rw [hy120]; with_reducible exact H2_) | (have H2_ := (Option.bind_some _ _).symm.trans H; with_reducible exact H2_) | with_reducible exact H | (rw [hy120]; exact H) | exact H
                     have Ny120 := Aside0.mk hy120
                     clear hy120
                     by_cases c43 : y115.length + y120.length < 799644820200
                     ·rw [if_pos c43] at H
                      have LMc43 := Aside0.mk c43
                      clear c43
                      obtain ⟨y124, hy124⟩ : ∃ y_ : List (S50), y_ = (y115 ++ y120) := ⟨_, rfl⟩
                      replace H : ((tree_Check.f k4 y124).bind fun t127 => (if t127 = 0 then (whittlelaw5_TreeParts_g.l1 k4 t102 t107 ji38) else (some false))) = some r := by first | (rw [hy124]; with_reducible exact H) | (have H2_ := (Option.bind_some _ _).symm.trans H; rw [hy124]; with_reducible exact H2_) | (have H2_ := (Option.bind_some _ _).symm.trans H; with_reducible exact H2_) | with_reducible exact H | (rw [hy124]; exact H) | exact H
                      have Ny124 := Aside0.mk hy124
                      clear hy124
                      replace H := Option.bind_eq_some_iff.mp H
                      obtain ⟨t127, A440, H⟩ := H
                      try dsimp only at H
                      have A44 := Aside0.mk A440
                      clear A440
                      by_cases c45 : t127 = 0
                      ·rw [if_pos c45] at H
                       obtain ⟨c45b0, c45b1⟩ := bqT c45
                       clear c45
                       have H' := Aside0.mk H
                       clear H
                       try go_wp2
                       have n0_ := Aside0.mk (Kd.R_drew HO_5.out)
                       have n1_ := Aside0.mk (Kd.R_drew HO_9.out)
                       have n2_ := Aside0.mk (below_drew1 HB.out)
                       clear HO_5
                       clear HO_9
                       clear HB
                       have HO_5 := n0_
                       have HO_9 := n1_
                       have HB := n2_
                       clear n0_ n1_ n2_
                       have p118 : 0 ≤ (x11_4 : Int) := of_decide_eq_true (by first | (with_reducible assumption) | assumption)
                       have q118 : x11_4 < (t107.length : Int) := of_decide_eq_true (by first | (with_reducible assumption) | assumption)
                       obtain ⟨ad118, e118, hx118_0⟩ := Kd.at_int (Kd.R_reads' HO_9.out).2.2 x11_4 p118 q118
                       cases e118
                       replace p118 := eq_true p118
                       replace q118 := eq_true q118
                       have p119 : 0 ≤ ((ji38) : Int) := of_decide_eq_true (by first | (with_reducible assumption) | assumption)
                       have q119 : (ji38) < (t107.length : Int) := of_decide_eq_true (by first | (with_reducible assumption) | assumption)
                       obtain ⟨ad119, e119, hx119_0⟩ := Kd.at_int (Kd.R_reads' HO_9.out).2.2 (ji38) p119 q119
                       obtain rfl : ad118 = ad119 := (by injection e119)
                       replace p119 := eq_true p119
                       replace q119 := eq_true q119
                       have q47 : ((rd t107 (ji38)) : Int) ≤ ((t102.length : Int) : Int) := of_decide_eq_true (by first | (with_reducible assumption) | assumption)
                       obtain ⟨i047, hi047, _, hsz47, _⟩ := info_parts info50
                       have hroom47 : t102.length ≤ co11 := (Kd.R_reads' HO_5.out).2.1
                       have hC47 : Kd.C k50 _ Ao11 t102.length t102 := (Kd.R_reads' HO_5.out).2.2
                       have ql47 : ((rd t107 x11_4) : Int) ≤ ((rd t107 (ji38)) : Int) := of_decide_eq_true (by first | (with_reducible assumption) | assumption)
                       have q047 : (0 : Int) ≤ ((rd t107 x11_4) : Int) := of_decide_eq_true (by first | (with_reducible assumption) | assumption)
                       have hcut47 := cut_mid (P := Tryz.prog) 22 50 .i64 .i64 Tryz.underlying22 hi047 20 hsz47 Ao11 t102.length co11 (rd t107 x11_4) (rd t107 (ji38)) q047 ql47 q47 hroom47
                       have hr47 := Kd.C_mid (lo := ((rd t107 x11_4) : Int).toNat) (hi := ((rd t107 (ji38)) : Int).toNat) (c := co11) hC47 (by omega) (by omega) hroom47
                       obtain ⟨A47, hA47⟩ : ∃ A1, A1 = (if co11 = ((rd t107 x11_4) : Int).toNat then Ao11 else (Ao11 : Option Addr).map (·.add (((rd t107 x11_4) : Int).toNat * 20))) := ⟨_, rfl⟩
                       obtain ⟨c47, hc47⟩ : ∃ c1, c1 = co11 - ((rd t107 x11_4) : Int).toNat := ⟨_, rfl⟩
                       have hy47 : y120.length = ((rd t107 (ji38)) : Int).toNat - ((rd t107 x11_4) : Int).toNat := (by rw [Ny120.out, List.length_drop, List.length_take] <;> omega)
                       rw [show ((t102).take ((rd t107 (ji38)) : Int).toNat).drop ((rd t107 x11_4) : Int).toNat = y120 from Ny120.out.symm] at hr47
                       replace hr47 : Kd.C k50 _ A47 y120.length y120 := (by rw [hA47]; exact hr47)
                       rw [← hy47, ← hA47, ← hc47] at hcut47
                       have HR123 := Aside0.mk hr47
                       have HC123 := Aside0.mk (show y120.length ≤ c47 from by rw [hy47, hc47]; exact Nat.sub_le_sub_right (Nat.le_trans (by omega) hroom47) _)
                       clear hr47 hC47 hroom47 hi047 hsz47 hc47
                       have KY47 := Aside0.mk hy47
                       have KA47 := Aside0.mk hA47
                       clear hy47 hA47
                       have KL47 := Aside0.mk (show ((rd t107 (ji38)) : Int).toNat ≤ t102.length from by omega)
                       have KM47 := Aside0.mk (show ((rd t107 x11_4) : Int).toNat ≤ ((rd t107 (ji38)) : Int).toNat from by omega)
                       replace q47 := eq_true q47
                       refine start_ (n := 15) (S := fun w' => w'.cell? (ad118.add (x11_4).toNat) = some (.int .i64 (rd t107 x11_4)) ∧ w'.cell? (ad118.add ((ji38)).toNat) = some (.int .i64 (rd t107 (ji38)))) (ds := []) #[false, false, false, false, false, false, false, false, false, false, false, false, false, false, false] (by kernel_rfl) rfl rfl ⟨hx118_0, hx119_0⟩ (fun hHeld => ?_); refine with_tabW whittlelaw5_TreeParts_g.tab20 whittlelaw5_TreeParts_g.bits20 (fun HT_ HW_ => ?_)
                       generalize wr.drew = w46 at HO_5 HO_9 HB HR123 hx118_0 hx119_0 hHeld ⊢
                       refine pP 1 91 ?_ (hc := any_of HT_.out (by kernel_rfl))
                       refine pP 2 92 ?_ (hc := any_of HT_.out (by kernel_rfl))
                       refine pP 3 93 ?_ (hc := any_of HT_.out (by kernel_rfl))
                       refine pP 4 94 ?_ (hc := any_of HT_.out (by kernel_rfl))
                       refine pP 6 96 ?_ (hc := any_of HT_.out (by kernel_rfl))
                       refine pP 7 97 ?_ (hc := any_of HT_.out (by kernel_rfl))
                       refine pP 8 98 ?_ (hc := any_of HT_.out (by kernel_rfl))
                       refine pP 9 99 ?_ (hc := any_of HT_.out (by kernel_rfl))
                       refine take_ (i := 5) (N := some 95) (v := ?_) (a' := ?_) #[false, true, true, true, true, true, true, true, true, true, false, false, false, false, false] rfl rfl (take_ofW HT_.out HW_.out (by kernel_rfl)) (fun _ _ _ h => h) (Or.inl ⟨by rfl, ?_⟩) hHeld ?_ ?_
                       rotate_left
                       ·rintro w' ⟨s0, s1⟩
                        go_simp
                        with_reducible rfl
                       rotate_left
                       ·simp only [Act.put, List.setIfInBounds_toArray, List.set_cons_zero, List.set_cons_succ, i64_w, i32_w]
                        rfl
                       refine take_ (i := 10) (N := some 100) (v := ?_) (a' := ?_) #[false, true, true, true, true, true, true, true, true, true, true, false, false, false, false] rfl rfl (take_ofW HT_.out HW_.out (by kernel_rfl)) (fun _ _ _ h => h) (Or.inl ⟨by rfl, ?_⟩) hHeld ?_ ?_
                       rotate_left
                       ·rintro w' ⟨s0, s1⟩
                        go_simp
                        with_reducible rfl
                       rotate_left
                       ·simp only [Act.put, List.setIfInBounds_toArray, List.set_cons_zero, List.set_cons_succ, i64_w, i32_w]
                        rfl
                       refine pP 11 101 ?_ (hc := any_of HT_.out (by kernel_rfl))
                       refine one_ (i := 0) (N := some 90) #[true, true, true, true, true, true, true, true, true, true, true, true, false, false, false] rfl rfl (one_of HT_.out (by kernel_rfl)) (by decide) (fun K hK => ?_)
                       refine Kd.R_lit_step k50 _ 50 ?hg (N := 90) ?hd (xs := ([] : List (S50))) (inner := []) (ok := fun _ => True) (okp := fun _ => True) ?hr ?hp (fun _ hk => hk) trivial (Below.refl _ _) (Nat.le_refl _) (by simp) ?_; (case hd => rfl); (case hg => rfl); (case hr => go_simp <;> rfl); (case hp => exact (Reps.none _ _))
                       intro v116 w48 ho49 hb hg_ hnew_
                       have HS0_ := (hb.cell (World.block_lt_of_cell? _ _ (hHeld.1))).trans (hHeld.1)
                       have HS1_ := (hb.cell (World.block_lt_of_cell? _ _ (hHeld.2))).trans (hHeld.2)
                       clear hg_ hnew_
                       (first | rw [← Ny115.out] at ho49 | (simp only [Int.reduceToNat] at ho49; rw [← Ny115.out] at ho49))
                       have n0_ := Aside0.mk (Kd.R_elder' (by (with_reducible repeat (first | apply Kd.R_alloc | apply Kd.R_drewN | apply Kd.R_drew)); exact HO_5.out) (Kd.R_base ho49) hb)
                       have n1_ := Aside0.mk (Kd.R_below (by (with_reducible repeat (first | apply Kd.R_alloc | apply Kd.R_drewN | apply Kd.R_drew)); exact HO_9.out) hb)
                       have n2_ := Aside0.mk (Kd.R_lower (Kd.R_new' ho49 (Kd.R_lt (by (with_reducible repeat (first | apply Kd.R_alloc | apply Kd.R_drewN | apply Kd.R_drew)); exact HO_5.out))) (below_size bE))
                       have n3_ := Aside0.mk (Kd.C_below (by repeat (first | (with_reducible exact HR123.out) | (with_reducible refine Kd.C_alloc ?_ _) | (with_reducible refine Kd.C_drewN ?_ _) | (with_reducible refine Kd.C_drew ?_) | exact HR123.out)) hb)
                       have n4_ := Aside0.mk (below_step bE hb)
                       clear HO_5
                       clear HO_9
                       clear HR123
                       clear HB
                       have HO_5 := n0_
                       have HO_9 := n1_
                       have HO117 := n2_
                       have HR123 := n3_
                       have HB := n4_
                       clear n0_ n1_ n2_ n3_ n4_
                       clear hb ho49
                       refine hK.out _ _ ⟨HS0_, HS1_⟩ (fun hHeld => ?_)
                       clear hK K
                       refine norm_ (a' := ?_) ?_ ?_
                       rotate_left
                       ·show Act.put _ (some 90) _ = _
                        simp only [Act.put, List.setIfInBounds_toArray, List.set_cons_zero, List.set_cons_succ, i64_w, i32_w]
                        rfl
                       refine one_ (i := 12) (N := some 102) #[true, true, true, true, true, true, true, true, true, true, true, true, true, false, false] rfl rfl (one_of HT_.out (by kernel_rfl)) (by decide) (fun K hK => ?_)
                       refine Kd.R_append_rows_step k50 (w0 := w) w.heap.size (by rfl) (.tmp 90) (.tmp 101) 22 50 (.agg #[(.int .i64 0), (.int .i64 0), (.int .i64 0), (.int .i64 0), (.string ⟨#[]⟩), (.bool false), (.int .i64 0), (.int .i64 0), (.string ⟨#[]⟩), (.int .i64 0), (.string ⟨#[]⟩), (.int .i64 0), (.int .i64 0), (.bool false), (.bool false), (.string ⟨#[]⟩), (.int .i64 0), (.int .i64 0), (.bool false), (.bool false)]) 176 rfl Tryz.underlying22 info50 rfl (by decide) (by omega) v116 y115 y120 _ _ _ (fun k_ => some k_ ≠ (.slice Ao11 t102.length co11 : Value).ownBlock) (fun _ => False) rfl rfl ?aO ?aR (fun _ _ h => h) (fun _ h => h.elim) ?aF ?aB ?aS ?aL ?_
                       (case aR => repeat (first | exact (by repeat (first | (with_reducible exact HR123.out) | (with_reducible refine Kd.C_alloc ?_ _) | (with_reducible refine Kd.C_drewN ?_ _) | (with_reducible refine Kd.C_drew ?_) | exact HR123.out)) | (with_reducible refine Kd.C_alloc ?_ _) | (with_reducible refine Kd.C_drewN ?_ _) | (with_reducible refine Kd.C_drew ?_)))
                       (case aB => exact bE)
                       (case aF => exact (fun k_ hk => Kd.fresh' (Kd.R_lt (by (with_reducible repeat (first | apply Kd.R_alloc | apply Kd.R_drewN | apply Kd.R_drew)); exact HO_5.out)) k_ hk))
                       (case aO => exact (by (with_reducible repeat (first | apply Kd.R_alloc | apply Kd.R_drewN | apply Kd.R_drew)); exact Kd.R_mono HO117.out (fun _ hk => hk.2)))
                       (case aS => exact (below_size bE))
                       (case aL => have := LMc43.out; omega)
                       intro v125 w50 ho hb hg hat
                       rw [← Ny124.out] at ho
                       have n0_ := Aside0.mk (Kd.R_after (ok := (fun _ => True)) (by (with_reducible repeat (first | apply Kd.R_alloc | apply Kd.R_drewN | apply Kd.R_drew)); exact HO_5.out) hg hat)
                       have n1_ := Aside0.mk (Kd.R_over' (by (with_reducible repeat (first | apply Kd.R_alloc | apply Kd.R_drewN | apply Kd.R_drew)); exact HO_9.out) (Kd.R_typed (by (with_reducible repeat (first | apply Kd.R_alloc | apply Kd.R_drewN | apply Kd.R_drew)); exact HO117.out)) (by decide) hg)
                       have n2_ := Aside0.mk (hb)
                       have n3_ := Aside0.mk ((show Kd.C k50 w50 A47 y120.length y120 from by rw [Ny120.out, KA47.out]; exact Kd.C_mid (lo := ((rd t107 x11_4) : Int).toNat) (hi := ((rd t107 (ji38)) : Int).toNat) (c := co11) ((Kd.R_reads' (Kd.R_after (ok := (fun _ => True)) (by (with_reducible repeat (first | apply Kd.R_alloc | apply Kd.R_drewN | apply Kd.R_drew)); exact HO_5.out) hg hat)).2.2) KM47.out KL47.out ((Kd.R_reads' (Kd.R_after (ok := (fun _ => True)) (by (with_reducible repeat (first | apply Kd.R_alloc | apply Kd.R_drewN | apply Kd.R_drew)); exact HO_5.out) hg hat)).2.1)))
                       have n4_ := Aside0.mk (ho)
                       clear HO_5
                       clear HO_9
                       clear HB
                       clear HR123
                       clear HO117
                       have HO_5 := n0_
                       have HO_9 := n1_
                       have HB := n2_
                       have HR123 := n3_
                       have HO126 := n4_
                       clear n0_ n1_ n2_ n3_ n4_
                       clear ho hb hg hat
                       obtain ⟨Ao51, co51, eo51⟩ := Kd.R_slice HO126.out
                       (first | subst eo51 | (injection eo51 with f1_ f2_ f3_; have f4_ := f1_.symm; have f5_ := f3_.symm; clear f1_ f2_ f3_; subst f4_; subst f5_))
                       have HS0_ : w50.cell? (ad118.add (x11_4).toNat) = some (.int .i64 (rd t107 x11_4)) := by obtain ⟨ad', e', h'⟩ := Kd.at_int (Kd.R_reads' HO_9.out).2.2 x11_4 (of_eq_true p118) (of_eq_true q118); cases e'; exact h'
                       have HS1_ : w50.cell? (ad118.add ((ji38)).toNat) = some (.int .i64 (rd t107 (ji38))) := by obtain ⟨ad', e', h'⟩ := Kd.at_int (Kd.R_reads' HO_9.out).2.2 (ji38) (of_eq_true p119) (of_eq_true q119); cases e'; exact h'
                       refine hK.out _ _ ⟨HS0_, HS1_⟩ (fun hHeld => ?_)
                       clear hK K
                       refine norm_ (a' := ?_) ?_ ?_
                       rotate_left
                       ·show Act.put _ (some 102) _ = _
                        simp only [Act.put, List.setIfInBounds_toArray, List.set_cons_zero, List.set_cons_succ, i64_w, i32_w]
                        rfl
                       refine one_ (i := 13) (N := some 103) #[true, true, true, true, true, true, true, true, true, true, true, true, true, true, false] rfl rfl (one_of HT_.out (by kernel_rfl)) (by decide) (fun K hK => ?_)
                       refine goes_ Tryz.func28 (by kernel_rfl) rfl #[.slice Ao51 y124.length co51] (by rfl) rfl rfl (by (try simp only [List.map_toArray, List.map_cons, List.map_nil]); first | done | rfl | (simp only [List.length_drop, List.length_take]; rfl)) ?_
                       with_reducible refine (tree_Check.calls k4 _ _ y124 t127 _ ?side1 ?side2 A44.out).mono ?_
                       (case side1 => repeat (first | exact (Kd.R_reads' HO126.out).2.2 | (with_reducible refine Kd.C_alloc ?_ _) | (with_reducible refine Kd.C_drewN ?_ _) | (with_reducible refine Kd.C_drew ?_)))
                       (case side2 => exact (Kd.R_reads' HO126.out).2.1)
                       rintro e w52 ⟨rfl, hb⟩
                       have HS0_ := (hb.cell (World.block_lt_of_cell? _ _ (hHeld.1))).trans (hHeld.1)
                       have HS1_ := (hb.cell (World.block_lt_of_cell? _ _ (hHeld.2))).trans (hHeld.2)
                       refine ⟨_, rfl, ?_⟩
                       have n0_ := Aside0.mk (Kd.R_below (by (with_reducible repeat (first | apply Kd.R_alloc | apply Kd.R_drewN | apply Kd.R_drew)); exact HO_5.out) hb)
                       have n1_ := Aside0.mk (Kd.R_below (by (with_reducible repeat (first | apply Kd.R_alloc | apply Kd.R_drewN | apply Kd.R_drew)); exact HO_9.out) hb)
                       have n2_ := Aside0.mk (Kd.R_below (by (with_reducible repeat (first | apply Kd.R_alloc | apply Kd.R_drewN | apply Kd.R_drew)); exact HO126.out) hb)
                       have n3_ := Aside0.mk (Kd.C_below (by repeat (first | (with_reducible exact HR123.out) | (with_reducible refine Kd.C_alloc ?_ _) | (with_reducible refine Kd.C_drewN ?_ _) | (with_reducible refine Kd.C_drew ?_) | exact HR123.out)) hb)
                       have n4_ := Aside0.mk (below_step bE hb)
                       clear HO_5
                       clear HO_9
                       clear HO126
                       clear HR123
                       clear HB
                       have HO_5 := n0_
                       have HO_9 := n1_
                       have HO126 := n2_
                       have HR123 := n3_
                       have HB := n4_
                       clear n0_ n1_ n2_ n3_ n4_
                       (try clear hb)
                       (try clear hb2)
                       (try clear hk)
                       (try clear hi)
                       refine hK.out _ _ ⟨HS0_, HS1_⟩ (fun hHeld => ?_)
                       clear hK K
                       refine norm_ (a' := ?_) ?_ ?_
                       rotate_left
                       ·show Act.put _ (some 103) _ = _
                        simp only [Act.put, List.setIfInBounds_toArray, List.set_cons_zero, List.set_cons_succ, i64_w, i32_w]
                        rfl
                       refine pP 14 104 ?_ (hc := any_of HT_.out (by kernel_rfl))
                       refine done_ (done_of HT_.out (by kernel_rfl)) ?_
                       try go_wp2
                       go_roundg k4
                       case measure => have := HJ7.out; have := HJ13.out; have := HK3.out; have := HK4.out; omega
                       case rel => exact ⟨(ji38), (by first | rfl | (simp; done) | (simp only [← hji38] <;> (first | rfl | simp)) | (simp [*]; done)), H', ⟨by have := HJ7.out; have := HJ13.out; have := HK3.out; have := HK4.out; omega⟩, ⟨by (with_reducible repeat (first | apply Kd.R_alloc | apply Kd.R_drewN | apply Kd.R_drew)); exact Kd.R_mono HO_5.out (fun _ hk => trivial)⟩, ⟨by (with_reducible repeat (first | apply Kd.R_alloc | apply Kd.R_drewN | apply Kd.R_drew)); exact HO_9.out⟩, ⟨bE⟩⟩
                      ·rw [if_neg c45] at H
                       obtain ⟨c45b0, c45b1⟩ := bqF c45
                       exact Bool.noConfusion ((Option.some.inj H).trans hr_.out)
                     ·rw [if_neg c43] at H
                      exact absurd H (by simp)
                    ·rw [if_neg c42] at H
                     exact absurd H (by simp)
                   ·rw [if_neg c41] at H
                    exact absurd H (by simp)
                  ·rw [if_neg c40] at H
                   exact absurd H (by simp)
                 ·rw [if_neg c39] at H
                  exact absurd H (by simp)
                ·rw [if_neg c37] at H
                 exact absurd H (by simp)
               ·rw [if_neg c36] at H
                exact absurd H (by simp)
              ·rw [if_neg c35] at H
               have c35b0 : decide ((wrap64 (x11_4 + 1)) < (t107.length : Int)) = false := decide_eq_false c35
               clear c35
               obtain rfl := Option.some.inj H
               go_wp2
               go_ret
               exact ⟨eR, bE⟩
  ·rw [if_neg c6] at H
   obtain ⟨c6b0, c6b1⟩ := bqF c6
   obtain rfl := Option.some.inj H
   go_enter Tryz.func11, Tryz.ntmps11
   go_wp2_with (first | ((with_reducible refine gate_callee (f := 23) rfl ?_); refine gL 12 Tryz.func23 #[] ?_; (with_reducible refine (able5_g.calls  true _ ?side1 A3.out).mono ?_); (case side1 => exact GL.below hG bE); rintro e w53 ⟨rfl, hb⟩; refine ⟨_, rfl, ?_⟩; replace HB := Aside0.mk (below_step bE hb); (try clear hb); (try clear hb2); (try clear hk); (try clear hi)) | ((with_reducible refine gate_callee (f := 21) rfl ?_); refine gL 16 Tryz.func21 #[.string a0] ?_; (with_reducible refine (tree_Parse_g.calls a0 t102 t103 t104 _ ?side1 A5.out).mono ?_); (case side1 => exact GL.below hG bE); rintro e w54 ⟨v105, rfl, ho0, hb⟩; refine ⟨_, rfl, ?_⟩; have HO106 := Aside0.mk (Kd.R_lower ho0 (below_size bE)); replace HB := Aside0.mk (below_step bE hb); (try clear hb); (try clear hb2); (try clear hk); (try clear hi); (try clear ho0)))
   go_ret
   exact ⟨eR, bE⟩
 ·replace c4 := Bool.eq_false_iff.mpr c4
  subst c4
  rw [if_neg Bool.false_ne_true] at H
  exact Bool.noConfusion ((Option.some.inj H).trans hr_.out)
end
end Go.Proofs.YtejbbceidnaloaaGreatDoor.P
