import Derived.Test.YtejbbceidnaloaaGreatDoorJ36
set_option linter.unusedVariables false
set_option linter.unusedSimpArgs false
set_option maxRecDepth 100000
set_option maxHeartbeats 8000000
namespace Go.Proofs.YtejbbceidnaloaaGreatDoor.P
open Go.RowKit Go.Proofs.YtejbbceidnaloaaGreatDoorW.PrintWords Go.Proofs.YtejbbceidnaloaaGreatDoorW.PrintLast Go.Proofs.YtejbbceidnaloaaGreatDoorW.PrintMore
def Nbs.f (k : Nat) (l0 : List (S50)) (a1 : Int) : Option (List Int) := (Nap.f k l0).bind fun t101 => (if t101 = 0 then (if a1 < 0 then (some ([] : List Int)) else (if a1 ≥ (l0.length : Int) then (some ([] : List Int)) else ((Nak.f k l0 a1).bind fun t102 => (some t102)))) else (some ([] : List Int)))
theorem Nbs.calls (k : Nat) (A0 : Option Addr) (c0 : Nat) (l0 : List (S50)) (a1 : Int) (r : List Int) (w : World) (hr0 : Kd.C k50 w A0 l0.length l0) (hc0 : l0.length ≤ c0) (h : Nbs.f k l0 a1 = some r) :
 Calls Tryz.prog 34 #[.slice A0 l0.length c0, .int .i64 a1] w fun e w' => ∃ v0_ : Value, e = .returned (v0_) ∧ Kd.R (Kd.int .i64) 3 w' w.heap.size (fun _ => True) v0_ r ∧ Below w.heap.size w w' := by
 have HR0 := aM hr0
 have HC0 := aM hc0
 clear hr0 hc0
 have HB := aM (Below.refl w.heap.size w)
 have H := h
 unfold Nbs.f at H
 clear h
 replace H := Option.bind_eq_some_iff.mp H
 obtain ⟨t101, A30, H⟩ := H
 try dsimp only at H
 have A3 := aM A30
 clear A30
 by_cases c4 : t101 = 0
 ·rw [if_pos c4] at H
  obtain ⟨c4b0, c4b1⟩ := bqT c4
  clear c4
  by_cases c5 : a1 < 0
  ·rw [if_pos c5] at H
   have c5b0 : decide (a1 < 0) = true := decide_eq_true c5
   clear c5
   obtain rfl := Option.some.inj H
   go_enter Tryz.func34, Tryz.ntmps34
   go_wp2_with (first | ((with_reducible refine gC 29 rfl ?_); refine gL 6 Tryz.func29 #[.slice A0 l0.length c0] ?_; (with_reducible refine (Nap.calls k _ _ l0 t101 _ ?side1 ?side2 A3.out).mono ?_); (case side1 => repeat (first | exact HR0.out | (with_reducible refine Kd.C_alloc ?_ _) | (with_reducible refine Kd.C_drewN ?_ _) | (with_reducible refine Kd.C_drew ?_))); (case side2 => exact HC0.out); rintro e w6 ⟨rfl, hb⟩; refine ⟨_, rfl, ?_⟩; replace HB := aM (Nac bE hb); (try clear hb)))
   go_ret
   exact ⟨_, eR, by first | exact Kd.R_nil _ _ _ _ _ | exact Kd.N_nil _ _ _ _ _ | exact Kd.V_nil _ _ _ _ _ | exact Kd.Q_nil _ _ _ _ _ | exact Kd.S_nil _ _ _ _ _, bE⟩
  ·rw [if_neg c5] at H
   have c5b0 : decide (a1 < 0) = false := decide_eq_false c5
   clear c5
   by_cases c7 : a1 ≥ (l0.length : Int)
   ·rw [if_pos c7] at H
    have c7b0 : decide ((l0.length : Int) ≤ a1) = true := decide_eq_true c7
    clear c7
    obtain rfl := Option.some.inj H
    go_enter Tryz.func34, Tryz.ntmps34
    go_wp2_with (first | ((with_reducible refine gC 29 rfl ?_); refine gL 6 Tryz.func29 #[.slice A0 l0.length c0] ?_; (with_reducible refine (Nap.calls k _ _ l0 t101 _ ?side1 ?side2 A3.out).mono ?_); (case side1 => repeat (first | exact HR0.out | (with_reducible refine Kd.C_alloc ?_ _) | (with_reducible refine Kd.C_drewN ?_ _) | (with_reducible refine Kd.C_drew ?_))); (case side2 => exact HC0.out); rintro e w8 ⟨rfl, hb⟩; refine ⟨_, rfl, ?_⟩; replace HB := aM (Nac bE hb); (try clear hb)))
    go_ret
    exact ⟨_, eR, by first | exact Kd.R_nil _ _ _ _ _ | exact Kd.N_nil _ _ _ _ _ | exact Kd.V_nil _ _ _ _ _ | exact Kd.Q_nil _ _ _ _ _ | exact Kd.S_nil _ _ _ _ _, bE⟩
   ·rw [if_neg c7] at H
    have c7b0 : decide ((l0.length : Int) ≤ a1) = false := decide_eq_false c7
    clear c7
    replace H := Option.bind_eq_some_iff.mp H
    obtain ⟨t102, A90, H⟩ := H
    try dsimp only at H
    have A9 := aM A90
    clear A90
    obtain rfl := Option.some.inj H
    go_enter Tryz.func34, Tryz.ntmps34
    go_wp2_with (first | ((with_reducible refine gC 29 rfl ?_); refine gL 6 Tryz.func29 #[.slice A0 l0.length c0] ?_; (with_reducible refine (Nap.calls k _ _ l0 t101 _ ?side1 ?side2 A3.out).mono ?_); (case side1 => repeat (first | exact HR0.out | (with_reducible refine Kd.C_alloc ?_ _) | (with_reducible refine Kd.C_drewN ?_ _) | (with_reducible refine Kd.C_drew ?_))); (case side2 => exact HC0.out); rintro e w10 ⟨rfl, hb⟩; refine ⟨_, rfl, ?_⟩; replace HB := aM (Nac bE hb); (try clear hb)) | ((with_reducible refine gC 57 rfl ?_); refine gL 20 Tryz.func57 #[.slice A0 l0.length c0, .int .i64 a1] ?_; (with_reducible refine (Nak.calls k _ _ l0 a1 t102 _ ?side1 ?side2 A9.out).mono ?_); (case side1 => repeat (first | exact (Kd.C_below HR0.out HB.out) | (with_reducible refine Kd.C_alloc ?_ _) | (with_reducible refine Kd.C_drewN ?_ _) | (with_reducible refine Kd.C_drew ?_))); (case side2 => exact HC0.out); rintro e w11 ⟨v103, rfl, ho0, hb⟩; refine ⟨_, rfl, ?_⟩; have HO104 := aM (Kd.R_lower ho0 (Nbl bE)); replace HB := aM (Nac bE hb); (try clear hb); (try clear ho0)))
    go_ret
    exact ⟨_, eR, by (with_reducible repeat (first | apply Kd.R_alloc | apply Kd.R_drewN | apply Kd.R_drew)); exact HO104.out, bE⟩
 ·rw [if_neg c4] at H
  obtain ⟨c4b0, c4b1⟩ := bqF c4
  obtain rfl := Option.some.inj H
  go_enter Tryz.func34, Tryz.ntmps34
  go_wp2_with (first | ((with_reducible refine gC 29 rfl ?_); refine gL 6 Tryz.func29 #[.slice A0 l0.length c0] ?_; (with_reducible refine (Nap.calls k _ _ l0 t101 _ ?side1 ?side2 A3.out).mono ?_); (case side1 => repeat (first | exact HR0.out | (with_reducible refine Kd.C_alloc ?_ _) | (with_reducible refine Kd.C_drewN ?_ _) | (with_reducible refine Kd.C_drew ?_))); (case side2 => exact HC0.out); rintro e w12 ⟨rfl, hb⟩; refine ⟨_, rfl, ?_⟩; replace HB := aM (Nac bE hb); (try clear hb)))
  go_ret
  exact ⟨_, eR, by first | exact Kd.R_nil _ _ _ _ _ | exact Kd.N_nil _ _ _ _ _ | exact Kd.V_nil _ _ _ _ _ | exact Kd.Q_nil _ _ _ _ _ | exact Kd.S_nil _ _ _ _ _, bE⟩
mutual
def Nav.j0 : Nat → List (S50) → Int → Bool → Option (List Int)
 | 0, _, _, _ => none
 | k + 1, x0, x1, x19 => if x19 = true then (some ([] : List Int)) else (if 0 ≤ x1 then (if x1 < (x0.length : Int) then ((Ncq.f (Ncm x0 x1)).bind fun t103 => (Nav.l0 k x0 ([] : List Int) (wrap64 (x1 + 1)) t103 0)) else (none)) else (none))
def Nav.l0 : Nat → List (S50) → List Int → Int → Int → Int → Option (List Int)
 | 0, _, _, _, _, _ => none
 | k + 1, x0, x5, x6, x26, x27 => if x27 < x26 then (if x5.length < 17592186044416 then ((Nai.f k x0 x6).bind fun bt107 => (Nav.l0 k x0 (x5 ++ [x6]) bt107.1 x26 (wrap64 (x27 + 1)))) else (none)) else (some x5)
end
def Nav.f (k : Nat) (l0 : List (S50)) (a1 : Int) : Option (List Int) := (Na0.f k l0).bind fun t101 => (if t101 = 0 then (if a1 < 0 then (Nav.j0 k l0 a1 true) else (Nav.j0 k l0 a1 (decide (a1 ≥ (l0.length : Int))))) else (Nav.j0 k l0 a1 true))
theorem Nav.calls (k : Nat) (A0 : Option Addr) (c0 : Nat) (l0 : List (S50)) (a1 : Int) (r : List Int) (w : World) (hr0 : Kd.C k50 w A0 l0.length l0) (hc0 : l0.length ≤ c0) (h : Nav.f k l0 a1 = some r) :
 Calls Tryz.prog 32 #[.slice A0 l0.length c0, .int .i64 a1] w fun e w' => ∃ v0_ : Value, e = .returned (v0_) ∧ Kd.R (Kd.int .i64) 3 w' w.heap.size (fun _ => True) v0_ r ∧ Below w.heap.size w w' := by
 have hu50 := Tryz.underlying50
 have HR0 := aM hr0
 have HC0 := aM hc0
 clear hr0 hc0
 have HB := aM (Below.refl w.heap.size w)
 have H := h
 unfold Nav.f at H
 clear h
 have HC3 := aM H
 clear H
 go_enter Tryz.func32, Tryz.ntmps32
 go_upto_region 1 with (fail)
 go_cut [19] (fun v19 wc => ∃ (kq : Nat) (x19_2 : Bool), v19 = .bool x19_2 ∧ Naj (Nav.j0 kq l0 a1 x19_2 = some r) ∧ Naj (kq ≤ k) ∧ Naj (Below w.heap.size w wc))
 case first =>
  have H := HC3.out
  clear HC3
  replace H := Option.bind_eq_some_iff.mp H
  obtain ⟨t101, A40, H⟩ := H
  try dsimp only at H
  have A4 := aM A40
  clear A40
  by_cases c5 : t101 = 0
  ·rw [if_pos c5] at H
   obtain ⟨c5b0, c5b1⟩ := bqT c5
   clear c5
   (first | rw [c5b0] | (simp only [i64_w, i32_w]; rw [c5b0]) | skip)
   by_cases c6 : a1 < 0
   ·rw [if_pos c6] at H
    have c6b0 : decide (a1 < 0) = true := decide_eq_true c6
    clear c6
    have H' := aM H
    clear H
    go_wp2_with (first | ((with_reducible refine gC 28 rfl ?_); refine gL 8 Tryz.func28 #[.slice A0 l0.length c0] ?_; (with_reducible refine (Na0.calls k _ _ l0 t101 _ ?side1 ?side2 A4.out).mono ?_); (case side1 => repeat (first | exact (Kd.C_below HR0.out HB.out) | (with_reducible refine Kd.C_alloc ?_ _) | (with_reducible refine Kd.C_drewN ?_ _) | (with_reducible refine Kd.C_drew ?_))); (case side2 => exact HC0.out); rintro e w7 ⟨rfl, hb⟩; refine ⟨_, rfl, ?_⟩; replace HB := aM (Nac bE hb); (try clear hb)))
    go_meet
    case rel => exact ⟨_, (true), (by first | rfl | (simp; done) | (simp [*]; done)), H', ⟨by first | omega | exact Nat.le_refl _⟩, ⟨bE⟩⟩
   ·rw [if_neg c6] at H
    have c6b0 : decide (a1 < 0) = false := decide_eq_false c6
    clear c6
    have H' := aM H
    clear H
    go_wp2_with (first | ((with_reducible refine gC 28 rfl ?_); refine gL 8 Tryz.func28 #[.slice A0 l0.length c0] ?_; (with_reducible refine (Na0.calls k _ _ l0 t101 _ ?side1 ?side2 A4.out).mono ?_); (case side1 => repeat (first | exact (Kd.C_below HR0.out HB.out) | (with_reducible refine Kd.C_alloc ?_ _) | (with_reducible refine Kd.C_drewN ?_ _) | (with_reducible refine Kd.C_drew ?_))); (case side2 => exact HC0.out); rintro e w8 ⟨rfl, hb⟩; refine ⟨_, rfl, ?_⟩; replace HB := aM (Nac bE hb); (try clear hb)))
    go_meet
    case rel => exact ⟨_, (decide (a1 ≥ (l0.length : Int))), (by first | rfl | (simp; done) | (simp [*]; done)), H', ⟨by first | omega | exact Nat.le_refl _⟩, ⟨bE⟩⟩
  ·rw [if_neg c5] at H
   obtain ⟨c5b0, c5b1⟩ := bqF c5
   (first | rw [c5b0] | (simp only [i64_w, i32_w]; rw [c5b0]) | skip)
   have H' := aM H
   clear H
   go_wp2_with (first | ((with_reducible refine gC 28 rfl ?_); refine gL 8 Tryz.func28 #[.slice A0 l0.length c0] ?_; (with_reducible refine (Na0.calls k _ _ l0 t101 _ ?side1 ?side2 A4.out).mono ?_); (case side1 => repeat (first | exact (Kd.C_below HR0.out HB.out) | (with_reducible refine Kd.C_alloc ?_ _) | (with_reducible refine Kd.C_drewN ?_ _) | (with_reducible refine Kd.C_drew ?_))); (case side2 => exact HC0.out); rintro e w9 ⟨rfl, hb⟩; refine ⟨_, rfl, ?_⟩; replace HB := aM (Nac bE hb); (try clear hb)))
   go_meet
   case rel => exact ⟨_, (true), (by first | rfl | (simp; done) | (simp [*]; done)), H', ⟨by first | omega | exact Nat.le_refl _⟩, ⟨bE⟩⟩
 case rest =>
  clear HC3
  try clear c2
  try clear p2
  try clear c3
  try clear c5
  try clear c5b0
  try clear c5b1
  try clear c6
  try clear c6b0
  obtain ⟨kq, x19_2, rfl, HA, HJ2, HB⟩ := hcut
  cases kq with
  | zero => exact absurd HA.out (by simp [Nav.j0])
  | succ kj2 =>
   have H := HA.out
   clear HA
   simp only [Nav.j0] at H
   by_cases c10 : x19_2 = true
   ·subst c10
    rw [if_pos rfl] at H
    obtain rfl := Option.some.inj H
    go_wp2
    go_ret
    exact ⟨_, eR, by first | exact Kd.R_nil _ _ _ _ _ | exact Kd.N_nil _ _ _ _ _ | exact Kd.V_nil _ _ _ _ _ | exact Kd.Q_nil _ _ _ _ _ | exact Kd.S_nil _ _ _ _ _, bE⟩
   ·replace c10 := Bool.eq_false_iff.mpr c10
    subst c10
    rw [if_neg Bool.false_ne_true] at H
    by_cases c11 : 0 ≤ a1
    ·rw [if_pos c11] at H
     have c11b0 : decide (0 ≤ a1) = true := decide_eq_true c11
     clear c11
     by_cases c12 : a1 < (l0.length : Int)
     ·rw [if_pos c12] at H
      have c12b0 : decide (a1 < (l0.length : Int)) = true := decide_eq_true c12
      clear c12
      replace H := Option.bind_eq_some_iff.mp H
      obtain ⟨t103, A130, H⟩ := H
      try dsimp only at H
      have A13 := aM A130
      clear A130
      have H' := aM H
      clear H
      have p102 : 0 ≤ (a1 : Int) := of_decide_eq_true (by first | (with_reducible assumption) | assumption)
      have q102 : a1 < (l0.length : Int) := of_decide_eq_true (by first | (with_reducible assumption) | assumption)
      obtain ⟨ad102, e102⟩ := at_N50 HR0.out a1 p102 q102
      cases e102
      replace p102 := eq_true p102
      replace q102 := eq_true q102
      go_wp2_with (first | ((with_reducible refine gD 25 rfl ?_); refine Ncp rfl rfl (xs := l0) (n := l0.length) (A := some ad102) ?hc a1 (of_eq_true p102) (of_eq_true q102) rfl ?ha ?_; (case hc => first | exact HR0.out | exact Kd.C_below HR0.out HB.out); (case ha => rfl)) | ((with_reducible refine gC 56 rfl ?_); refine gL 26 Tryz.func56 #[v50 (Ncm l0 a1)] ?_; (with_reducible refine (Ncq.calls (Ncm l0 a1) t103 _ A13.out).mono ?_); rintro e w14 ⟨rfl, hb⟩; refine ⟨_, rfl, ?_⟩; replace HB := aM (Nac bE hb); (try clear hb)))
      go_loopg [5, 6, 27] kj2 (fun kq v5 v6 v27 w' => ∃ (x5_2 : List Int) (x6_2 : Int) (x27_2 : Int), v6 = .int .i64 x6_2 ∧ v27 = .int .i64 x27_2 ∧ Naj (Nav.l0 kq l0 x5_2 x6_2 t103 x27_2 = some r) ∧ Naj (kq ≤ kj2) ∧ Naj (Kd.R (Kd.int .i64) 3 w' w.heap.size (fun _ => True) v5 x5_2) ∧ Naj (Below w.heap.size w w'))
      case atStart => exact ⟨(([] : List Int)), (wrap64 (a1 + 1)), (0), (by first | rfl | (simp; done) | (simp [*]; done)), (by first | rfl | (simp; done) | (simp [*]; done)), H', ⟨Nat.le_refl _⟩, ⟨by first | exact Kd.R_nil _ _ _ _ _ | exact Kd.N_nil _ _ _ _ _ | exact Kd.V_nil _ _ _ _ _ | exact Kd.Q_nil _ _ _ _ _ | exact Kd.S_nil _ _ _ _ _⟩, ⟨bE⟩⟩
      case round =>
       clear H'
       try clear c1
       try clear p1
       try clear q1
       try clear hx1
       try clear c2
       try clear p2
       try clear c3
       try clear c5
       try clear c5b0
       try clear c5b1
       try clear c6
       try clear c6b0
       try clear p6
       try clear c10
       try clear p10
       try clear q10
       try clear hx10
       try clear c11
       try clear c11b0
       try clear c12
       try clear c12b0
       try clear hx102_0
       try clear hx102_1
       try clear hx102_10
       try clear hx102_11
       try clear hx102_12
       try clear hx102_13
       try clear hx102_14
       try clear hx102_15
       try clear hx102_16
       try clear hx102_17
       try clear hx102_18
       try clear hx102_19
       try clear hx102_2
       try clear hx102_3
       try clear hx102_4
       try clear hx102_5
       try clear hx102_6
       try clear hx102_7
       try clear hx102_8
       try clear hx102_9
       try clear p102
       try clear p2
       try clear q102
       obtain ⟨x5_2, x6_2, x27_2, rfl, rfl, HA, HK2, HO_5, HB⟩ := hrel
       cases gk with
       | zero => exact absurd HA.out (by simp [Nav.l0])
       | succ k2 =>
        have H := HA.out
        clear HA
        simp only [Nav.l0] at H
        by_cases c15 : x27_2 < t103
        ·rw [if_pos c15] at H
         have c15b0 : decide (x27_2 < t103) = true := decide_eq_true c15
         clear c15
         by_cases c16 : x5_2.length < 17592186044416
         ·rw [if_pos c16] at H
          have LMc16 := aM c16
          clear c16
          obtain ⟨y104, hy104⟩ : ∃ y_ : List Int, y_ = (x5_2 ++ [x6_2]) := ⟨_, rfl⟩
          replace H : ((Nai.f k2 l0 x6_2).bind fun bt107 => (Nav.l0 k2 l0 y104 bt107.1 t103 (wrap64 (x27_2 + 1)))) = some r := by first | (rw [hy104]; with_reducible exact H) | (have H2_ := (Option.bind_some _ _).symm.trans H; rw [hy104]; with_reducible exact H2_) | (have H2_ := (Option.bind_some _ _).symm.trans H; with_reducible exact H2_) | with_reducible exact H | (rw [hy104]; exact H) | exact H
          have Ny104 := aM hy104
          clear hy104
          replace H := Option.bind_eq_some_iff.mp H
          obtain ⟨⟨t107, t108⟩, A170, H⟩ := H
          try dsimp only at H
          have A17 := aM A170
          clear A170
          have H' := aM H
          clear H
          go_wp2_with (first | ((with_reducible refine gD 25 rfl ?_); refine Ncp rfl rfl (xs := l0) (n := l0.length) (A := some ad102) ?hc a1 (of_eq_true p102) (of_eq_true q102) rfl ?ha ?_; (case hc => first | exact HR0.out | exact Kd.C_below HR0.out HB.out); (case ha => rfl)) | ((with_reducible refine Nc5 (b := .append) (xs := #[.tmp 29, .tmp 31]) rfl ?_); (try (refine Nbh (by rfl) ?_; dsimp only)); at_builtin; refine Kd.R_append (Kd.int .i64) (w0 := w) w.heap.size rfl (.tmp 29) (.tmp 31) 37 3 (.int .i64 0) 8 rfl Tryz.underlying37 info3 rfl (by decide) (by omega) u5 x5_2 x6_2 [.int .i64 x6_2] (fun _ => True) (fun _ => False) rfl rfl ?aP (fun _ hk => hk.elim) ?aF ?aO ?aB ?aS ?aL ?_; (case aP => exact rfl); (case aB => exact bE); (case aF => exact (fun _ _ => trivial)); (case aO => exact (by (with_reducible repeat (first | apply Kd.R_alloc | apply Kd.R_drewN | apply Kd.R_drew)); exact HO_5.out)); (case aS => exact (Nbl bE)); (case aL => have := LMc16.out; omega); intro v105 w18 ho hb hg hat; rw [← Ny104.out] at ho; have n0_ := aM (hb); have n1_ := aM (ho); clear HB; clear HO_5; have HB := n0_; have HO106 := n1_; clear n0_ n1_; clear ho hb hg hat) | ((with_reducible refine gC 53 rfl ?_); refine gL 36 Tryz.func53 #[.slice (some ad102) l0.length c0, .int .i64 x6_2] ?_; (with_reducible refine (Nai.calls k2 _ _ l0 x6_2 t107 t108 _ ?side1 ?side2 A17.out).mono ?_); (case side1 => repeat (first | exact (Kd.C_below HR0.out HB.out) | (with_reducible refine Kd.C_alloc ?_ _) | (with_reducible refine Kd.C_drewN ?_ _) | (with_reducible refine Kd.C_drew ?_))); (case side2 => exact HC0.out); rintro e w19 ⟨rfl, hb⟩; refine ⟨_, rfl, ?_⟩; replace HO106 := aM (Kd.R_below (by (with_reducible repeat (first | apply Kd.R_alloc | apply Kd.R_drewN | apply Kd.R_drew)); exact HO106.out) hb); replace HB := aM (Nac bE hb); (try clear hb)))
          go_roundg k2
          case measure => have := HJ2.out; have := HK2.out; omega
          case rel => exact ⟨(y104), (t107), (wrap64 (x27_2 + 1)), (by first | rfl | (simp; done) | (simp [*]; done)), (by first | rfl | (simp; done) | (simp [*]; done)), H', ⟨by have := HJ2.out; have := HK2.out; omega⟩, ⟨by (with_reducible repeat (first | apply Kd.R_alloc | apply Kd.R_drewN | apply Kd.R_drew)); exact HO106.out⟩, ⟨bE⟩⟩
         ·rw [if_neg c16] at H
          exact absurd H (by simp)
        ·rw [if_neg c15] at H
         have c15b0 : decide (x27_2 < t103) = false := decide_eq_false c15
         clear c15
         obtain rfl := Option.some.inj H
         go_wp2
         go_ret
         exact ⟨_, eR, by (with_reducible repeat (first | apply Kd.R_alloc | apply Kd.R_drewN | apply Kd.R_drew)); exact HO_5.out, bE⟩
     ·rw [if_neg c12] at H
      exact absurd H (by simp)
    ·rw [if_neg c11] at H
     exact absurd H (by simp)
theorem Tre.sub {p : List S50} {d : Nat} (h : Tre p d) : ∀ i, i < p.length → ∃ (n : S50) (c : Nat) (ps q : List S50) (e : Nat), p.drop i = n :: (ps ++ q) ∧ Nau n = (c : Int) ∧ Frs c ps e ∧ e + 1 ≤ d := by
 induction h using Tre.rec (motive_2 := fun c p d _ => ∀ i, i < p.length → ∃ (n : S50) (c' : Nat) (ps q : List S50) (e : Nat), p.drop i = n :: (ps ++ q) ∧ Nau n = (c' : Int) ∧ Frs c' ps e ∧ e + 1 ≤ d) with
 | node n c p d h1 h2 ih =>
  intro i hi
  cases i with
  | zero => exact ⟨n, c, p, [], d, by simp, h1, h2, Nat.le_refl _⟩
  | succ i =>
   obtain ⟨n', c', ps, q, e, h3, h4, h5, h6⟩ := ih i (by simp only [List.length_cons] at hi; omega)
   exact ⟨n', c', ps, q, e, by rw [List.drop_succ_cons, h3], h4, h5, by omega⟩
 | nil => rename_i hi; simp at hi
 | cons p q c d e h1 h2 i1 i2 =>
  rename_i i hi
  by_cases hp : i < p.length
  ·obtain ⟨n', c', ps, r, e', h3, h4, h5, h6⟩ := i1 i hp
   refine ⟨n', c', ps, r ++ q, e', ?_, h4, h5, by omega⟩
   rw [List.drop_append_of_le_length (by omega), h3, List.cons_append, List.append_assoc]
  ·obtain ⟨n', c', ps, r, e', h3, h4, h5, h6⟩ := i2 (i - p.length) (by simp only [List.length_append] at hi; omega)
   refine ⟨n', c', ps, r, e', ?_, h4, h5, by omega⟩
   rw [show i = p.length + (i - p.length) by omega, ← List.drop_drop, List.drop_left]
   exact h3
inductive Ksl (l : List S50) (e : Nat) : Nat → List Int → Prop
 | nil (i : Nat) : Ksl l e i []
 | cons (i : Nat) (p : List S50) (d : Nat) (ks : List Int) : Tre p d → d ≤ e → (l.drop i).take p.length = p → i + p.length ≤ l.length → Ksl l e (i + p.length) ks → Ksl l e i ((i : Int) :: ks)
theorem kids_all (l : List S50) (hl : l.length ≤ 256) : ∀ (c : Nat) (p q : List S50) (e i K dn : Nat) (acc : List Int) (z : Int), Frs c p e → l.drop i = p ++ q → i ≤ l.length → 2 * p.length + 2 * c + 2 ≤ K → z = ((dn + c : Nat) : Int) → z ≤ 100 → acc.length = dn →
 ∃ ks, Nav.l0 K l acc (i : Int) z (dn : Int) = some (acc ++ ks) ∧ Ksl l e i ks ∧ ks.length = c := by
 intro c
 induction c with
 | zero =>
  intro p q e i K dn acc z h hd hi hK hz hz1 ha
  obtain ⟨K, rfl⟩ : ∃ K', K = K' + 1 := ⟨K - 1, by omega⟩
  refine ⟨[], ?_, .nil i, rfl⟩
  rw [Nav.l0, if_neg (by omega), List.append_nil]
 | succ c ih =>
  intro p q e i K dn acc z h hd hi hK hz hz1 ha
  obtain ⟨K, rfl⟩ : ∃ K', K = K' + 1 := ⟨K - 1, by omega⟩
  cases h with
  | cons p q2 c d e h1 h2 =>
   simp only [List.length_append] at hK
   have hlen := congrArg List.length hd
   simp only [List.length_drop, List.length_append] at hlen
   have hpos := h1.pos
   have ho := (over_all l (by omega) p.length).1 p (q2 ++ q) d i K h1 (Nat.le_refl _) (by rw [hd, List.append_assoc]) (by omega)
   have hd2 : l.drop (i + p.length) = q2 ++ q := by rw [← List.drop_drop, hd, List.append_assoc, List.drop_left]
   obtain ⟨ks, hk1, hk2, hk3⟩ := ih q2 q e (i + p.length) K (dn + 1) (acc ++ [(i : Int)]) z h2 hd2 (by omega) (by omega) (by omega) hz1 (by simp [ha])
   refine ⟨(i : Int) :: ks, ?_, .cons i p d ks h1 (Nat.le_max_left _ _) (by rw [hd, List.append_assoc, List.take_left]) (by omega) ?_, by simp [hk3]⟩
   ·rw [Nav.l0, if_pos (by omega), if_pos (by omega), ho]
    show Nav.l0 K l (acc ++ [(i : Int)]) ((i + p.length : Nat) : Int) z (wrap64 ((dn : Int) + 1)) = _
    rw [wr1 (by omega) (by omega), show ((dn : Int) + 1) = ((dn + 1 : Nat) : Int) by omega, hk1, List.append_assoc]
    rfl
   ·clear hk1
    have : ∀ {i ks}, Ksl l e i ks → Ksl l (max d e) i ks := by
     intro i ks h
     induction h with
     | nil i => exact .nil i
     | cons i p d' ks a b c dd _ ih => exact .cons i p d' ks a (Nat.le_trans b (Nat.le_max_right _ _)) c dd ih
    exact this hk2
theorem kids_f {l : List S50} {d : Nat} (h : Tre l d) (hd : d ≤ 32) (hl : l.length ≤ 256) {i : Nat} (hi : i < l.length) {K : Nat} (hK : 1000 ≤ K) :
 ∃ ks e, Nav.f K l (i : Int) = some ks ∧ Ksl l e (i + 1) ks ∧ e ≤ 32 ∧ ks.length ≤ 30 := by
 obtain ⟨n, c, ps, q, e, h1, h2, h3, h4⟩ := h.sub i hi
 obtain ⟨-, hn, hd2⟩ := getD_drop (q := []) h1
 have hp := parts_le n
 obtain ⟨K, rfl⟩ : ∃ K', K = K' + 1 := ⟨K - 1, by omega⟩
 have hlen := congrArg List.length h1
 simp only [List.length_drop, List.length_cons, List.length_append] at hlen
 obtain ⟨ks, k1, k2, k3⟩ := kids_all l hl c ps q e (i + 1) K 0 [] (Nau n) h3 hd2 (by omega) (by omega) (by omega) (by omega) rfl
 refine ⟨ks, e, ?_, k2, by omega, by omega⟩
 unfold Nav.f
 rw [check_tre h hl (by omega), if_pos hd]
 simp only [Option.bind_some, if_true]
 rw [if_neg (by omega), show decide ((i : Int) ≥ (l.length : Int)) = false from decide_eq_false (by omega), Nav.j0, if_neg (by decide), if_pos (by omega), if_pos (by omega), hn]
 show Nav.l0 K l [] (wrap64 ((i : Int) + 1)) (Nau n) 0 = _
 rw [wr1 (by omega) (by omega), show (i : Int) + 1 = ((i + 1 : Nat) : Int) by omega]
 exact k1
def Sz (l : List S50) : Prop := ∀ n ∈ l, n.f1.f2.size ≤ 9223372036854775807
theorem end_over {l : List S50} (hs : Sz l) (hl : l.length ≤ 100000000) : ∀ K : Nat,
 (∀ (i : Nat) (a b : Int), Nai.f K l (i : Int) = some (a, b) → Nah.f K l (i : Int) = some (if a < 0 then (0, 0, false) else (a, b, true))) ∧
 (∀ (i : Nat) (dp z t a b : Int), Nai.l0 K l (i : Int) dp z t = some (a, b) → Nah.l0 K l (i : Int) z dp t = some (if a < 0 then (0, 0, false) else (a, b, true))) := by
 intro K
 induction K with
 | zero => exact ⟨fun i a b h => (by rw [Nai.f] at h; cases h), fun i dp z t a b h => (by rw [Nai.l0] at h; cases h)⟩
 | succ K ih =>
  constructor
  ·intro i a b h
   rw [Nai.f] at h
   rw [Nah.f]
   by_cases h1 : (i : Int) ≥ (l.length : Int)
   ·rw [if_pos h1] at h ⊢
    cases h
    rfl
   rw [if_neg h1, if_pos (by omega), if_pos (by omega)] at h ⊢
   unfold Ncq.f at h
   unfold Nbd.f
   rw [if_pos (hs _ (rd_mem (by omega)))]
   simp only [Option.bind_some] at h ⊢
   by_cases hp : Nau (Ncm l (i : Int)) < 0
   ·rw [if_pos hp] at h
    cases h
    rw [if_neg (by simpa using hp)]
    rfl
   ·rw [if_neg hp] at h
    rw [if_pos (by simpa using hp), if_pos (by omega)]
    rw [wr1 (by omega) (by omega), show (i : Int) + 1 = ((i + 1 : Nat) : Int) by omega] at h ⊢
    exact ih.2 (i + 1) 0 _ 0 a b h
  ·intro i dp z t a b h
   rw [Nai.l0] at h
   rw [Nah.l0]
   by_cases h1 : t < z
   ·rw [if_pos h1] at h ⊢
    cases ho : Nai.f K l (i : Int) with
    | none => rw [ho] at h; cases h
    | some r =>
     obtain ⟨a1, b1⟩ := r
     rw [ho] at h
     rw [ih.1 i a1 b1 ho]
     simp only [Option.bind_some] at h ⊢
     by_cases hn : a1 < 0
     ·rw [if_pos hn] at h ⊢
      cases h
      rfl
     ·rw [if_neg hn] at h ⊢
      simp only [if_true]
      obtain ⟨j, rfl⟩ : ∃ j : Nat, a1 = (j : Int) := ⟨a1.toNat, by omega⟩
      exact ih.2 j _ _ _ a b h
   ·rw [if_neg h1] at h ⊢
    cases h
    rw [if_neg (by omega)]
theorem chk_K (l : List S50) : ∀ m : Nat, Na0.f (600 + m) l = some (chk l)
 | 0 => chk_f l
 | m + 1 => Na0.mono l (600 + m) _ (chk_K l m)
theorem ref5_check {l : List S50} (hs : Sz l) (m : Nat) : Nap.f (600 + m) l = some (chk l) := by
 have h := chk_K l m
 unfold Na0.f at h
 unfold Nap.f
 by_cases hl : (l.length : Int) > 256
 ·rw [if_pos hl] at h ⊢
  exact h
 rw [if_neg hl] at h ⊢
 cases ho : Nai.f (600 + m) l 0 with
 | none => rw [ho] at h; cases h
 | some r =>
  obtain ⟨a, b⟩ := r
  have he := (end_over hs (by omega) (600 + m)).1 0 a b ho
  rw [ho] at h
  rw [show (0 : Int) = ((0 : Nat) : Int) from rfl, he]
  simp only [Option.bind_some] at h ⊢
  obtain ⟨K, hK⟩ : ∃ K, 600 + m = K + 1 := ⟨599 + m, by omega⟩
  rw [hK]
  by_cases hn : a < 0
  ·rw [if_pos hn]
   rw [if_neg (by omega)] at h
   rw [if_neg (by decide), Nap.j0, if_pos rfl]
   exact h
  ·rw [if_neg hn]
   simp only [if_true]
   rw [Nap.j0]
   by_cases hq : a = (l.length : Int)
   ·rw [if_pos hq] at h
    rw [if_neg (by rw [hq]; simp)]
    exact h
   ·rw [if_neg hq] at h
    rw [if_pos (by simpa using hq)]
    exact h
theorem kids_starts {l : List S50} (hs : Sz l) (hl : l.length ≤ 100000000) : ∀ (K i : Nat) (acc : List Int) (z t : Int) (ks : List Int), Nav.l0 K l acc (i : Int) z t = some ks → Nak.l0 K l acc z (i : Int) t = some ks := by
 intro K
 induction K with
 | zero => intro i acc z t ks h; rw [Nav.l0] at h; cases h
 | succ K ih =>
  intro i acc z t ks h
  rw [Nav.l0] at h
  rw [Nak.l0]
  by_cases h1 : t < z
  ·rw [if_pos h1] at h ⊢
   by_cases h2 : acc.length < 17592186044416
   ·rw [if_pos h2] at h ⊢
    cases ho : Nai.f K l (i : Int) with
    | none => rw [ho] at h; cases h
    | some r =>
     obtain ⟨a1, b1⟩ := r
     rw [ho] at h
     rw [(end_over hs hl K).1 i a1 b1 ho]
     simp only [Option.bind_some] at h ⊢
     by_cases hn : a1 < 0
     ·rw [if_pos hn]
      cases K with
      | zero => rw [Nav.l0] at h; cases h
      | succ K =>
       rw [Nav.l0] at h
       rw [Nak.l0]
       by_cases h3 : wrap64 (t + 1) < z
       ·rw [if_pos h3] at h
        split at h
        ·have : Nai.f K l a1 = none := by
          cases K with
          | zero => rw [Nai.f]
          | succ K => rw [Nai.f, if_neg (by omega), if_neg (by omega)]
         rw [this] at h
         cases h
        ·cases h
       ·rw [if_neg h3] at h ⊢
        exact h
     ·rw [if_neg hn]
      obtain ⟨j, rfl⟩ : ∃ j : Nat, a1 = (j : Int) := ⟨a1.toNat, by omega⟩
      exact ih j _ _ _ ks h
   ·rw [if_neg h2] at h
    cases h
  ·rw [if_neg h1] at h ⊢
   exact h
theorem kids_eq {l : List S50} (hs : Sz l) (a : Int) (K m : Nat) (hK : K = 600 + m) (hm : 400 ≤ m) : ∃ ks, Nav.f K l a = some ks ∧ Nbs.f K l a = some ks ∧ ks.length ≤ 30 := by
 have hc : Na0.f K l = some (chk l) := by rw [hK]; exact chk_K l m
 have hr : Nap.f K l = some (chk l) := by rw [hK]; exact ref5_check hs m
 have hk1 : 1000 ≤ K := by omega
 clear hK hm
 by_cases hk : chk l = 0
 ·by_cases ha : a < 0
  ·refine ⟨[], ?_, ?_, by decide⟩
   ·unfold Nav.f
    rw [hc, Option.bind_some, if_pos hk, if_pos ha]
    obtain ⟨K, rfl⟩ : ∃ K', K = K' + 1 := ⟨K - 1, by omega⟩
    rw [Nav.j0, if_pos rfl]
   ·unfold Nbs.f
    rw [hr, Option.bind_some, if_pos hk, if_pos ha]
  by_cases ha2 : a ≥ (l.length : Int)
  ·refine ⟨[], ?_, ?_, by decide⟩
   ·unfold Nav.f
    rw [hc, Option.bind_some, if_pos hk, if_neg ha, decide_eq_true ha2]
    obtain ⟨K, rfl⟩ : ∃ K', K = K' + 1 := ⟨K - 1, by omega⟩
    rw [Nav.j0, if_pos rfl]
   ·unfold Nbs.f
    rw [hr, Option.bind_some, if_pos hk, if_neg ha, if_pos ha2]
  obtain ⟨i, rfl⟩ : ∃ i : Nat, a = (i : Int) := ⟨a.toNat, by omega⟩
  obtain ⟨d, hd, hd2, hl⟩ := check_back (l := l) (K := 600) (by rw [chk_f, hk])
  obtain ⟨ks, e, h1, -, -, h2⟩ := kids_f hd hd2 hl (i := i) (by omega) hk1
  refine ⟨ks, h1, ?_, h2⟩
  unfold Nav.f at h1
  unfold Nbs.f
  rw [hc, Option.bind_some, if_pos hk, if_neg ha, decide_eq_false ha2] at h1
  rw [hr, Option.bind_some, if_pos hk, if_neg ha, if_neg ha2]
  unfold Nak.f Nbd.f
  obtain ⟨K, rfl⟩ : ∃ K', K = K' + 1 := ⟨K - 1, by omega⟩
  rw [Nav.j0, if_neg (by decide), if_pos (by omega), if_pos (by omega)] at h1
  unfold Ncq.f at h1
  have hp := hd.good _ (rd_mem (l := l) (i := i) (by omega))
  rw [if_pos (by omega), if_pos (by omega), if_pos (hs _ (rd_mem (by omega)))]
  simp only [Option.bind_some] at h1 ⊢
  rw [if_pos hp]
  rw [wr1 (by omega) (by omega), show (i : Int) + 1 = ((i + 1 : Nat) : Int) by omega] at h1 ⊢
  have h3 := kids_starts hs (by omega) _ _ _ _ _ _ h1
  have h4 := Nak.mono_l K
  first
   | (rw [h4 _ _ _ _ _ _ h3]; done)
   | (rw [h4 _ _ _ _ _ _ h3]; rfl)
   | (rw [h4.1 _ _ _ _ _ _ h3]; rfl)
 ·refine ⟨[], ?_, ?_, by decide⟩
  ·unfold Nav.f
   rw [hc, Option.bind_some, if_neg hk]
   obtain ⟨K, rfl⟩ : ∃ K', K = K' + 1 := ⟨K - 1, by omega⟩
   rw [Nav.j0, if_pos rfl]
  ·unfold Nbs.f
   rw [hr, Option.bind_some, if_neg hk]
def Na3.l0 : Nat → List Int → List Int → Int → Option (Bool)
 | 0, _, _, _ => none
 | k + 1, x0, x1, x5 => if x5 < (x0.length : Int) then (if 0 ≤ x5 then (if x5 < (x1.length : Int) then (if (rd x0 x5) = (rd x1 x5) then (Na3.l0 k x0 x1 (wrap64 (x5 + 1))) else (some false)) else (none)) else (none)) else (some true)
def Na3.f (k : Nat) (l0 l1 : List Int) : Option (Bool) := if (l0.length : Int) = (l1.length : Int) then (Na3.l0 k l0 l1 0) else (some false)
theorem Na3.calls (k : Nat) (A0 : Option Addr) (c0 : Nat) (l0 : List Int) (A1 : Option Addr) (c1 : Nat) (l1 : List Int) (r : Bool) (w : World) (hr0 : Kd.C (Kd.int .i64) w A0 l0.length l0) (hc0 : l0.length ≤ c0) (hr1 : Kd.C (Kd.int .i64) w A1 l1.length l1) (hc1 : l1.length ≤ c1) (h : Na3.f k l0 l1 = some r) :
 Calls Tryz.prog 33 #[.slice A0 l0.length c0, .slice A1 l1.length c1] w fun e w' => e = .returned (.bool r) ∧ Na6 w w' := by
 have HR0 := aM hr0
 have HC0 := aM hc0
 clear hr0 hc0
 have HR1 := aM hr1
 have HC1 := aM hc1
 clear hr1 hc1
 have H := h
 unfold Na3.f at H
 clear h
 by_cases c3 : (l0.length : Int) = (l1.length : Int)
 ·rw [if_pos c3] at H
  obtain ⟨c3b0, c3b1⟩ := bqT c3
  have c3b2 : (l0.length == l1.length) = true := by first | simpa using c3 | (simp at c3 ⊢; omega)
  clear c3
  have H' := aM H
  clear H
  go_enter Tryz.func33, Tryz.ntmps33
  go_wp2
  repeat (go_quiet (fail); try go_wp2)
  go_loopg [5] k (fun kq v5 w' => ∃ (x5_1 : Int), v5 = .int .i64 x5_1 ∧ Naj (Na3.l0 kq l0 l1 x5_1 = some r) ∧ Naj (kq ≤ k) ∧ Na6 w w')
  case atStart => exact ⟨(0), (by first | rfl | (simp; done) | (simp [*]; done)), H', ⟨Nat.le_refl _⟩, dE⟩
  case round =>
   clear H'
   try clear c1
   try clear p2
   try clear c3
   try clear c3b0
   try clear c3b1
   try clear c3b2
   obtain ⟨x5_1, rfl, HA, HK1, ⟨m1, rfl⟩⟩ := hrel
   cases gk with
   | zero => exact absurd HA.out (by simp [Na3.l0])
   | succ k1 =>
    have H := HA.out
    clear HA
    simp only [Na3.l0] at H
    by_cases c4 : x5_1 < (l0.length : Int)
    ·rw [if_pos c4] at H
     have c4b0 : decide (x5_1 < (l0.length : Int)) = true := decide_eq_true c4
     clear c4
     by_cases c5 : 0 ≤ x5_1
     ·rw [if_pos c5] at H
      have c5b0 : decide (0 ≤ x5_1) = true := decide_eq_true c5
      clear c5
      by_cases c6 : x5_1 < (l1.length : Int)
      ·rw [if_pos c6] at H
       have c6b0 : decide (x5_1 < (l1.length : Int)) = true := decide_eq_true c6
       clear c6
       by_cases c7 : (rd l0 x5_1) = (rd l1 x5_1)
       ·rw [if_pos c7] at H
        obtain ⟨c7b0, c7b1⟩ := bqT c7
        clear c7
        have H' := aM H
        clear H
        have p101 : 0 ≤ (x5_1 : Int) := of_decide_eq_true (by first | (with_reducible assumption) | assumption)
        have q101 : x5_1 < (l0.length : Int) := of_decide_eq_true (by first | (with_reducible assumption) | assumption)
        obtain ⟨ad101, e101, hx101_0⟩ := Kd.at_int HR0.out x5_1 p101 q101
        cases e101
        replace p101 := eq_true p101
        replace q101 := eq_true q101
        have p102 : 0 ≤ (x5_1 : Int) := of_decide_eq_true (by first | (with_reducible assumption) | assumption)
        have q102 : x5_1 < (l1.length : Int) := of_decide_eq_true (by first | (with_reducible assumption) | assumption)
        obtain ⟨ad102, e102, hx102_0⟩ := Kd.at_int HR1.out x5_1 p102 q102
        cases e102
        replace p102 := eq_true p102
        replace q102 := eq_true q102
        go_wp2
        repeat (go_quiet (fail); try go_wp2)
        go_roundg k1
        case measure => have := HK1.out; omega
        case rel => exact ⟨(wrap64 (x5_1 + 1)), (by first | rfl | (simp; done) | (simp [*]; done)), H', ⟨by have := HK1.out; omega⟩, dE⟩
       ·rw [if_neg c7] at H
        obtain ⟨c7b0, c7b1⟩ := bqF c7
        obtain rfl := Option.some.inj H
        have p101 : 0 ≤ (x5_1 : Int) := of_decide_eq_true (by first | (with_reducible assumption) | assumption)
        have q101 : x5_1 < (l0.length : Int) := of_decide_eq_true (by first | (with_reducible assumption) | assumption)
        obtain ⟨ad101, e101, hx101_0⟩ := Kd.at_int HR0.out x5_1 p101 q101
        cases e101
        replace p101 := eq_true p101
        replace q101 := eq_true q101
        have p102 : 0 ≤ (x5_1 : Int) := of_decide_eq_true (by first | (with_reducible assumption) | assumption)
        have q102 : x5_1 < (l1.length : Int) := of_decide_eq_true (by first | (with_reducible assumption) | assumption)
        obtain ⟨ad102, e102, hx102_0⟩ := Kd.at_int HR1.out x5_1 p102 q102
        cases e102
        replace p102 := eq_true p102
        replace q102 := eq_true q102
        go_wp2
        repeat (go_quiet (fail); try go_wp2)
        go_ret
        exact ⟨eR, dE⟩
      ·rw [if_neg c6] at H
       exact absurd H (by simp)
     ·rw [if_neg c5] at H
      exact absurd H (by simp)
    ·rw [if_neg c4] at H
     have c4b0 : decide (x5_1 < (l0.length : Int)) = false := decide_eq_false c4
     clear c4
     obtain rfl := Option.some.inj H
     go_wp2
     repeat (go_quiet (fail); try go_wp2)
     go_ret
     exact ⟨eR, dE⟩
 ·rw [if_neg c3] at H
  obtain ⟨c3b0, c3b1⟩ := bqF c3
  have c3b2 : (l0.length == l1.length) = false := by first | simpa using c3 | (simp at c3 ⊢; omega)
  obtain rfl := Option.some.inj H
  go_enter Tryz.func33, Tryz.ntmps33
  go_wp2
  repeat (go_quiet (fail); try go_wp2)
  go_ret
  exact ⟨eR, dE⟩
end Go.Proofs.YtejbbceidnaloaaGreatDoor.P
