import Derived.Test.YtejbbceidnaloaaGreatDoorB20
set_option linter.unusedVariables false
set_option linter.unusedSimpArgs false
set_option maxRecDepth 100000
set_option maxHeartbeats 8000000
namespace Go.Proofs.YtejbbceidnaloaaGreatDoor.P
open Go.RowKit AW AL AM
mutual
def Na3.j0 : Nat → List (S50) → Int → Bool → Option (List Int)
 | 0, _, _, _ => none
 | k + 1, x0, x1, x19 => if x19 = true then (some ([] : List Int)) else (if 0 ≤ x1 then (if x1 < (x0.length : Int) then ((Ncn.f (Nda x0 x1)).bind fun t103 => (Na3.l0 k x0 ([] : List Int) (wrap64 (x1 + 1)) t103 0)) else (none)) else (none))
def Na3.l0 : Nat → List (S50) → List Int → Int → Int → Int → Option (List Int)
 | 0, _, _, _, _, _ => none
 | k + 1, x0, x5, x6, x26, x27 => if x27 < x26 then (if x5.length < 17592186044416 then ((Nao.f k x0 x6).bind fun bt107 => (Na3.l0 k x0 (x5 ++ [x6]) bt107.1 x26 (wrap64 (x27 + 1)))) else (none)) else (some x5)
end
def Na3.f (k : Nat) (l0 : List (S50)) (a1 : Int) : Option (List Int) := (Na2.f k l0).bind fun t101 => (if t101 = 0 then (if a1 < 0 then (Na3.j0 k l0 a1 true) else (Na3.j0 k l0 a1 (decide (a1 ≥ (l0.length : Int))))) else (Na3.j0 k l0 a1 true))
theorem Na3.calls (k : Nat) (A0 : Option Addr) (c0 : Nat) (l0 : List (S50)) (a1 : Int) (r : List Int) (w : World) (hr0 : Kd.C k50 w A0 l0.length l0) (hc0 : l0.length ≤ c0) (h : Na3.f k l0 a1 = some r) :
 Calls Tryz.prog 32 #[.slice A0 l0.length c0, .int .i64 a1] w fun e w' => ∃ v0_ : Value, e = .returned (v0_) ∧ Kd.R (Kd.int .i64) 3 w' w.heap.size (fun _ => True) v0_ r ∧ Below w.heap.size w w' := by
 have hu50 := Tryz.underlying50
 have HR0 := aM hr0
 have HC0 := aM hc0
 clear hr0 hc0
 have HB := aM (Below.refl w.heap.size w)
 have H := h
 unfold Na3.f at H
 clear h
 have HC3 := aM H
 clear H
 go_enter Tryz.func32, Tryz.ntmps32
 go_upto_region 1 with (fail)
 go_cut [19] (fun v19 wc => ∃ (kq : Nat) (x19_2 : Bool), v19 = .bool x19_2 ∧ Nai (Na3.j0 kq l0 a1 x19_2 = some r) ∧ Nai (kq ≤ k) ∧ Nai (Below w.heap.size w wc))
 case first =>
  have H := HC3.out
  clear HC3
  replace H := bS H
  obtain ⟨t101, A40, H⟩ := H
  try dsimp only at H
  have A4 := aM A40
  clear A40
  by_cases c5 : t101 = 0
  ·rw [if_pos c5] at H
   obtain ⟨c5b0, c5b1⟩ := bqT c5
   clear c5
   (first | rw [c5b0] | (simp only [i64_w, i32_w]; rw [c5b0]) | skip)
   by_cases c6 : a1 < 0
   ·rw [if_pos c6] at H
    have c6b0 : decide (a1 < 0) = true := decide_eq_true c6
    clear c6
    have H' := aM H
    clear H
    go_wp2_with (first | ((with_reducible refine gC 28 rfl ?_); refine gL 8 Tryz.func28 #[.slice A0 l0.length c0] ?_; (with_reducible refine (Na2.calls k _ _ l0 t101 _ ?side1 ?side2 A4.out).mono ?_); (case side1 => repeat (first | exact (Kd.C_below HR0.out HB.out) | (with_reducible refine Kd.C_alloc ?_ _) | (with_reducible refine Kd.C_drewN ?_ _) | (with_reducible refine Kd.C_drew ?_))); (case side2 => exact HC0.out); rintro e w7 ⟨rfl, hb⟩; refine ⟨_, rfl, ?_⟩; replace HB := aM (Nac bE hb); (try clear hb)))
    go_meet
    case rel => exact ⟨_, (true), (by first | rfl | (simp; done) | (simp [*]; done)), H', ⟨by first | omega | exact Nat.le_refl _⟩, ⟨bE⟩⟩
   ·rw [if_neg c6] at H
    have c6b0 : decide (a1 < 0) = false := decide_eq_false c6
    clear c6
    have H' := aM H
    clear H
    go_wp2_with (first | ((with_reducible refine gC 28 rfl ?_); refine gL 8 Tryz.func28 #[.slice A0 l0.length c0] ?_; (with_reducible refine (Na2.calls k _ _ l0 t101 _ ?side1 ?side2 A4.out).mono ?_); (case side1 => repeat (first | exact (Kd.C_below HR0.out HB.out) | (with_reducible refine Kd.C_alloc ?_ _) | (with_reducible refine Kd.C_drewN ?_ _) | (with_reducible refine Kd.C_drew ?_))); (case side2 => exact HC0.out); rintro e w8 ⟨rfl, hb⟩; refine ⟨_, rfl, ?_⟩; replace HB := aM (Nac bE hb); (try clear hb)))
    go_meet
    case rel => exact ⟨_, (decide (a1 ≥ (l0.length : Int))), (by first | rfl | (simp; done) | (simp [*]; done)), H', ⟨by first | omega | exact Nat.le_refl _⟩, ⟨bE⟩⟩
  ·rw [if_neg c5] at H
   obtain ⟨c5b0, c5b1⟩ := bqF c5
   (first | rw [c5b0] | (simp only [i64_w, i32_w]; rw [c5b0]) | skip)
   have H' := aM H
   clear H
   go_wp2_with (first | ((with_reducible refine gC 28 rfl ?_); refine gL 8 Tryz.func28 #[.slice A0 l0.length c0] ?_; (with_reducible refine (Na2.calls k _ _ l0 t101 _ ?side1 ?side2 A4.out).mono ?_); (case side1 => repeat (first | exact (Kd.C_below HR0.out HB.out) | (with_reducible refine Kd.C_alloc ?_ _) | (with_reducible refine Kd.C_drewN ?_ _) | (with_reducible refine Kd.C_drew ?_))); (case side2 => exact HC0.out); rintro e w9 ⟨rfl, hb⟩; refine ⟨_, rfl, ?_⟩; replace HB := aM (Nac bE hb); (try clear hb)))
   go_meet
   case rel => exact ⟨_, (true), (by first | rfl | (simp; done) | (simp [*]; done)), H', ⟨by first | omega | exact Nat.le_refl _⟩, ⟨bE⟩⟩
 case rest =>
  clear HC3
  try clear c2
  try clear p2
  try clear c3
  try clear c5
  try clear c5b0
  try clear c5b1
  try clear c6
  try clear c6b0
  obtain ⟨kq, x19_2, rfl, HA, HJ2, HB⟩ := hcut
  cases kq with
  | zero => exact absurd HA.out (by simp [Na3.j0])
  | succ kj2 =>
   have H := HA.out
   clear HA
   simp only [Na3.j0] at H
   by_cases c10 : x19_2 = true
   ·subst c10
    rw [if_pos rfl] at H
    obtain rfl := sI H
    go_wp2
    go_ret
    exact ⟨_, eR, by first | exact Kd.R_nil _ _ _ _ _ | exact Kd.N_nil _ _ _ _ _ | exact Kd.V_nil _ _ _ _ _ | exact Kd.Q_nil _ _ _ _ _ | exact Kd.S_nil _ _ _ _ _, bE⟩
   ·replace c10 := Bool.eq_false_iff.mpr c10
    subst c10
    rw [if_neg fT] at H
    by_cases c11 : 0 ≤ a1
    ·rw [if_pos c11] at H
     have c11b0 : decide (0 ≤ a1) = true := decide_eq_true c11
     clear c11
     by_cases c12 : a1 < (l0.length : Int)
     ·rw [if_pos c12] at H
      have c12b0 : decide (a1 < (l0.length : Int)) = true := decide_eq_true c12
      clear c12
      replace H := bS H
      obtain ⟨t103, A130, H⟩ := H
      try dsimp only at H
      have A13 := aM A130
      clear A130
      have H' := aM H
      clear H
      have p102 : 0 ≤ (a1 : Int) := of_decide_eq_true (by first | (with_reducible assumption) | assumption)
      have q102 : a1 < (l0.length : Int) := of_decide_eq_true (by first | (with_reducible assumption) | assumption)
      obtain ⟨ad102, e102⟩ := at_N50 HR0.out a1 p102 q102
      cases e102
      replace p102 := eq_true p102
      replace q102 := eq_true q102
      go_wp2_with (first | ((with_reducible refine gD 25 rfl ?_); refine Ndr rfl rfl (xs := l0) (n := l0.length) (A := some ad102) ?hc a1 (of_eq_true p102) (of_eq_true q102) rfl ?ha ?_; (case hc => first | exact HR0.out | exact Kd.C_below HR0.out HB.out); (case ha => rfl)) | ((with_reducible refine gC 56 rfl ?_); refine gL 26 Tryz.func56 #[v50 (Nda l0 a1)] ?_; (with_reducible refine (Ncn.calls (Nda l0 a1) t103 _ A13.out).mono ?_); rintro e w14 ⟨rfl, hb⟩; refine ⟨_, rfl, ?_⟩; replace HB := aM (Nac bE hb); (try clear hb)))
      go_loopg [5, 6, 27] kj2 (fun kq v5 v6 v27 w' => ∃ (x5_2 : List Int) (x6_2 : Int) (x27_2 : Int), v6 = .int .i64 x6_2 ∧ v27 = .int .i64 x27_2 ∧ Nai (Na3.l0 kq l0 x5_2 x6_2 t103 x27_2 = some r) ∧ Nai (kq ≤ kj2) ∧ Nai (Kd.R (Kd.int .i64) 3 w' w.heap.size (fun _ => True) v5 x5_2) ∧ Nai (Below w.heap.size w w'))
      case atStart => exact ⟨(([] : List Int)), (wrap64 (a1 + 1)), (0), (by first | rfl | (simp; done) | (simp [*]; done)), (by first | rfl | (simp; done) | (simp [*]; done)), H', ⟨Nat.le_refl _⟩, ⟨by first | exact Kd.R_nil _ _ _ _ _ | exact Kd.N_nil _ _ _ _ _ | exact Kd.V_nil _ _ _ _ _ | exact Kd.Q_nil _ _ _ _ _ | exact Kd.S_nil _ _ _ _ _⟩, ⟨bE⟩⟩
      case round =>
       clear H'
       try clear c1
       try clear p1
       try clear q1
       try clear hx1
       try clear c2
       try clear p2
       try clear c3
       try clear c5
       try clear c5b0
       try clear c5b1
       try clear c6
       try clear c6b0
       try clear p6
       try clear c10
       try clear p10
       try clear q10
       try clear hx10
       try clear c11
       try clear c11b0
       try clear c12
       try clear c12b0
       try clear hx102_0
       try clear hx102_1
       try clear hx102_10
       try clear hx102_11
       try clear hx102_12
       try clear hx102_13
       try clear hx102_14
       try clear hx102_15
       try clear hx102_16
       try clear hx102_17
       try clear hx102_18
       try clear hx102_19
       try clear hx102_2
       try clear hx102_3
       try clear hx102_4
       try clear hx102_5
       try clear hx102_6
       try clear hx102_7
       try clear hx102_8
       try clear hx102_9
       try clear p102
       try clear p2
       try clear q102
       obtain ⟨x5_2, x6_2, x27_2, rfl, rfl, HA, HK2, HO_5, HB⟩ := hrel
       cases gk with
       | zero => exact absurd HA.out (by simp [Na3.l0])
       | succ k2 =>
        have H := HA.out
        clear HA
        simp only [Na3.l0] at H
        by_cases c15 : x27_2 < t103
        ·rw [if_pos c15] at H
         have c15b0 : decide (x27_2 < t103) = true := decide_eq_true c15
         clear c15
         by_cases c16 : x5_2.length < 17592186044416
         ·rw [if_pos c16] at H
          have LMc16 := aM c16
          clear c16
          obtain ⟨y104, hy104⟩ : ∃ y_ : List Int, y_ = (x5_2 ++ [x6_2]) := ⟨_, rfl⟩
          replace H : ((Nao.f k2 l0 x6_2).bind fun bt107 => (Na3.l0 k2 l0 y104 bt107.1 t103 (wrap64 (x27_2 + 1)))) = some r := by first | (rw [hy104]; with_reducible exact H) | (have H2_ := (Option.bind_some _ _).symm.trans H; rw [hy104]; with_reducible exact H2_) | (have H2_ := (Option.bind_some _ _).symm.trans H; with_reducible exact H2_) | with_reducible exact H | (rw [hy104]; exact H) | exact H
          have Ny104 := aM hy104
          clear hy104
          replace H := bS H
          obtain ⟨⟨t107, t108⟩, A170, H⟩ := H
          try dsimp only at H
          have A17 := aM A170
          clear A170
          have H' := aM H
          clear H
          go_wp2_with (first | ((with_reducible refine gD 25 rfl ?_); refine Ndr rfl rfl (xs := l0) (n := l0.length) (A := some ad102) ?hc a1 (of_eq_true p102) (of_eq_true q102) rfl ?ha ?_; (case hc => first | exact HR0.out | exact Kd.C_below HR0.out HB.out); (case ha => rfl)) | ((with_reducible refine Nch (b := .append) (xs := #[.tmp 29, .tmp 31]) rfl ?_); (try (refine Nck (by rfl) ?_; dsimp only)); at_builtin; refine Kd.R_append (Kd.int .i64) (w0 := w) w.heap.size rfl (.tmp 29) (.tmp 31) 37 3 (.int .i64 0) 8 rfl Tryz.underlying37 info3 rfl (by decide) (by omega) u5 x5_2 x6_2 [.int .i64 x6_2] (fun _ => True) (fun _ => False) rfl rfl ?aP (fun _ hk => hk.elim) ?aF ?aO ?aB ?aS ?aL ?_; (case aP => exact rfl); (case aB => exact bE); (case aF => exact (fun _ _ => trivial)); (case aO => exact (by (with_reducible repeat (first | apply Kd.R_alloc | apply Kd.R_drewN | apply Kd.R_drew)); exact HO_5.out)); (case aS => exact (Nbc bE)); (case aL => have := LMc16.out; omega); intro v105 w18 ho hb hg hat; rw [← Ny104.out] at ho; have n0_ := aM (hb); have n1_ := aM (ho); clear HB; clear HO_5; have HB := n0_; have HO106 := n1_; clear n0_ n1_; clear ho hb hg hat) | ((with_reducible refine gC 53 rfl ?_); refine gL 36 Tryz.func53 #[.slice (some ad102) l0.length c0, .int .i64 x6_2] ?_; (with_reducible refine (Nao.calls k2 _ _ l0 x6_2 t107 t108 _ ?side1 ?side2 A17.out).mono ?_); (case side1 => repeat (first | exact (Kd.C_below HR0.out HB.out) | (with_reducible refine Kd.C_alloc ?_ _) | (with_reducible refine Kd.C_drewN ?_ _) | (with_reducible refine Kd.C_drew ?_))); (case side2 => exact HC0.out); rintro e w19 ⟨rfl, hb⟩; refine ⟨_, rfl, ?_⟩; replace HO106 := aM (Kd.R_below (by (with_reducible repeat (first | apply Kd.R_alloc | apply Kd.R_drewN | apply Kd.R_drew)); exact HO106.out) hb); replace HB := aM (Nac bE hb); (try clear hb)))
          go_roundg k2
          case measure => have := HJ2.out; have := HK2.out; omega
          case rel => exact ⟨(y104), (t107), (wrap64 (x27_2 + 1)), (by first | rfl | (simp; done) | (simp [*]; done)), (by first | rfl | (simp; done) | (simp [*]; done)), H', ⟨by have := HJ2.out; have := HK2.out; omega⟩, ⟨by (with_reducible repeat (first | apply Kd.R_alloc | apply Kd.R_drewN | apply Kd.R_drew)); exact HO106.out⟩, ⟨bE⟩⟩
         ·rw [if_neg c16] at H
          exact absurd H (by simp)
        ·rw [if_neg c15] at H
         have c15b0 : decide (x27_2 < t103) = false := decide_eq_false c15
         clear c15
         obtain rfl := sI H
         go_wp2
         go_ret
         exact ⟨_, eR, by (with_reducible repeat (first | apply Kd.R_alloc | apply Kd.R_drewN | apply Kd.R_drew)); exact HO_5.out, bE⟩
     ·rw [if_neg c12] at H
      exact absurd H (by simp)
    ·rw [if_neg c11] at H
     exact absurd H (by simp)
section
attribute [local go_sem] max2_int min2_int max_two min_two max_three min_three max_four min_four
mutual
def Nah.l0 : Nat → List (S50) → List Int → Int → Int → Option (Int)
 | 0, _, _, _, _ => none
 | k + 1, x0, x5, x6, x7 => if x7 < (x5.length : Int) then (if 0 ≤ x7 then ((Nah.f k x0 (rd x5 x7)).bind fun t105 => (Nah.l0 k x0 x5 (mx x6 t105) (wrap64 (x7 + 1)))) else (none)) else (some (wrap64 (x6 + 1)))
def Nah.f : Nat → List (S50) → Int → Option (Int)
 | 0, _, _ => none
 | k + 1, l0, a1 => (Na3.f k l0 a1).bind fun t101 => (Nah.l0 k l0 t101 0 0)
end
theorem Nah.calls (k : Nat) : ∀ (A0 : Option Addr) (c0 : Nat) (l0 : List (S50)) (a1 : Int) (r : Int) (w : World) (hr0 : Kd.C k50 w A0 l0.length l0) (hc0 : l0.length ≤ c0) (h : Nah.f k l0 a1 = some r),
 Calls Tryz.prog 35 #[.slice A0 l0.length c0, .int .i64 a1] w fun e w' => e = .returned (.int .i64 r) ∧ Below w.heap.size w w' := by
 induction k using Nat.strongRecOn with
 | _ k ih =>
 intro A0 c0 l0 a1 r w hr0 hc0 h
 cases k with
 | zero => exact absurd h (by simp [Nah.f])
 | succ k =>
 simp only [Nah.f] at h
 have HR0 := aM hr0
 have HC0 := aM hc0
 clear hr0 hc0
 have HB := aM (Below.refl w.heap.size w)
 have H : ((Na3.f k l0 a1).bind fun t101 => (Nah.l0 k l0 t101 0 0)) = some r := h
 clear h
 replace H := bS H
 obtain ⟨t101, A30, H⟩ := H
 try dsimp only at H
 have A3 := aM A30
 clear A30
 have H' := aM H
 clear H
 go_enter Tryz.func35, Tryz.ntmps35
 go_wp2_with (first | ((with_reducible refine gC 32 rfl ?_); refine gL 10 Tryz.func32 #[.slice A0 l0.length c0, .int .i64 a1] ?_; (with_reducible refine (Na3.calls k _ _ l0 a1 t101 _ ?side1 ?side2 A3.out).mono ?_); (case side1 => repeat (first | exact HR0.out | (with_reducible refine Kd.C_alloc ?_ _) | (with_reducible refine Kd.C_drewN ?_ _) | (with_reducible refine Kd.C_drew ?_))); (case side2 => exact HC0.out); rintro e w4 ⟨v102, rfl, ho0, hb⟩; refine ⟨_, rfl, ?_⟩; have HO103 := aM (Kd.R_lower ho0 (Nbc bE)); replace HB := aM (Nac bE hb); (try clear hb); (try clear ho0)))
 go_loopg [6, 7] k (fun kq v6 v7 w' => ∃ (x6_1 : Int) (x7_1 : Int), v6 = .int .i64 x6_1 ∧ v7 = .int .i64 x7_1 ∧ Nai (Nah.l0 kq l0 t101 x6_1 x7_1 = some r) ∧ Nai (kq ≤ k) ∧ Nai (Kd.R (Kd.int .i64) 3 w' w.heap.size (fun _ => True) v102 t101) ∧ Nai (Below w.heap.size w w'))
 case atStart => exact ⟨(0), (0), (by first | rfl | (simp; done) | (simp [*]; done)), (by first | rfl | (simp; done) | (simp [*]; done)), H', ⟨Nat.le_refl _⟩, ⟨by (with_reducible repeat (first | apply Kd.R_alloc | apply Kd.R_drewN | apply Kd.R_drew)); exact HO103.out⟩, ⟨bE⟩⟩
 case round =>
  clear H'
  try clear p2
  try clear c3
  obtain ⟨x6_1, x7_1, rfl, rfl, HA, HK1, HO_5, HB⟩ := hrel
  cases gk with
  | zero => exact absurd HA.out (by simp [Nah.l0])
  | succ k1 =>
   have H := HA.out
   clear HA
   simp only [Nah.l0] at H
   by_cases c5 : x7_1 < (t101.length : Int)
   ·rw [if_pos c5] at H
    have c5b0 : decide (x7_1 < (t101.length : Int)) = true := decide_eq_true c5
    clear c5
    by_cases c6 : 0 ≤ x7_1
    ·rw [if_pos c6] at H
     have c6b0 : decide (0 ≤ x7_1) = true := decide_eq_true c6
     clear c6
     replace H := bS H
     obtain ⟨t105, A70, H⟩ := H
     try dsimp only at H
     have A7 := aM A70
     clear A70
     obtain ⟨ji8, hji8⟩ : ∃ j_ : Int, (mx x6_1 t105) = j_ := ⟨_, rfl⟩
     replace H : (Nah.l0 k1 l0 t101 ji8 (wrap64 (x7_1 + 1))) = some r := by first | (rw [hji8] at H; exact H) | (simp only [hji8] at H ⊢; exact H)
     (try rw [hji8] at A7)
     have hji8_ : (if x6_1 < t105 then t105 else x6_1) = ji8 := hji8
     have H' := aM H
     clear H
     obtain ⟨Ao9, co9, eo9⟩ := Kd.R_slice HO_5.out
     subst eo9
     have p104 : 0 ≤ (x7_1 : Int) := of_decide_eq_true (by first | (with_reducible assumption) | assumption)
     have q104 : x7_1 < (t101.length : Int) := of_decide_eq_true (by first | (with_reducible assumption) | assumption)
     obtain ⟨ad104, e104, hx104_0⟩ := Kd.at_int (Kd.R_reads' HO_5.out).2.2 x7_1 p104 q104
     cases e104
     replace p104 := eq_true p104
     replace q104 := eq_true q104
     go_wp2_with (first | ((with_reducible refine gC 35 rfl ?_); refine gL 23 Tryz.func35 #[.slice A0 l0.length c0, .int .i64 (rd t101 x7_1)] ?_; (with_reducible refine (ih k1 (by have := HK1.out; omega) _ _ l0 (rd t101 x7_1) t105 _ ?side1 ?side2 A7.out).mono ?_); (case side1 => repeat (first | exact (Kd.C_below HR0.out HB.out) | (with_reducible refine Kd.C_alloc ?_ _) | (with_reducible refine Kd.C_drewN ?_ _) | (with_reducible refine Kd.C_drew ?_))); (case side2 => exact HC0.out); rintro e w10 ⟨rfl, hb⟩; refine ⟨_, rfl, ?_⟩; replace HO_5 := aM (Kd.R_below (by (with_reducible repeat (first | apply Kd.R_alloc | apply Kd.R_drewN | apply Kd.R_drew)); exact HO_5.out) hb); replace HB := aM (Nac bE hb); (try clear hb)))
     go_roundg k1
     case measure => have := HK1.out; omega
     case rel => exact ⟨(ji8), (wrap64 (x7_1 + 1)), (by first | rfl | (simp; done) | (simp only [← hji8] <;> (first | rfl | simp)) | (simp [*]; done)), (by first | rfl | (simp; done) | (simp [*]; done)), H', ⟨by have := HK1.out; omega⟩, ⟨by (with_reducible repeat (first | apply Kd.R_alloc | apply Kd.R_drewN | apply Kd.R_drew)); exact HO_5.out⟩, ⟨bE⟩⟩
    ·rw [if_neg c6] at H
     exact absurd H (by simp)
   ·rw [if_neg c5] at H
    have c5b0 : decide (x7_1 < (t101.length : Int)) = false := decide_eq_false c5
    clear c5
    obtain rfl := sI H
    obtain ⟨Ao11, co11, eo11⟩ := Kd.R_slice HO_5.out
    subst eo11
    go_wp2
    go_ret
    exact ⟨eR, bE⟩
end
mutual
inductive Tre : List S50 → Nat → Prop
 | node (n : S50) (c : Nat) (p : List S50) (d : Nat) : Nbi n = (c : Int) → Frs c p d → Tre (n :: p) (d + 1)
inductive Frs : Nat → List S50 → Nat → Prop
 | nil : Frs 0 [] 0
 | cons (p q : List S50) (c d e : Nat) : Tre p d → Frs c q e → Frs (c + 1) (p ++ q) (max d e)
end
theorem parts_le (x : S50) : Nbi x ≤ 30 := by
 unfold Nbi Ne1 partsV1 partsV2 partsV3 partsV4 partsV5 partsV6
 repeat' split
 all_goals omega
theorem Tre.pos {p : List S50} {d : Nat} (h : Tre p d) : 1 ≤ p.length ∧ 1 ≤ d ∧ d ≤ p.length := by
 induction h using Tre.rec (motive_2 := fun c p d _ => c ≤ p.length ∧ d ≤ p.length) with
 | node n c p d h1 h2 ih => simp only [List.length_cons]; omega
 | nil => exact ⟨Nat.le_refl _, Nat.le_refl _⟩
 | cons p q c d e h1 h2 i1 i2 => simp only [List.length_append]; omega
theorem mxN (a b : Nat) : mx (a : Int) (b : Int) = ((max a b : Nat) : Int) := by unfold mx; split <;> omega
theorem wr1 {i : Int} (h0 : 0 ≤ i) (h1 : i ≤ 1000000000000) : wrap64 (i + 1) = i + 1 := by unfold wrap64; omega
theorem getD_drop {l p q : List S50} {n : S50} {i : Nat} (h : l.drop i = n :: p) : i < l.length ∧ Nda l (i : Int) = n ∧ l.drop (i + 1) = p := by
 have hi : i < l.length := by
  refine Nat.lt_of_not_le fun hh => ?_
  rw [List.drop_eq_nil_of_le hh] at h
  cases h
 rw [List.drop_eq_getElem_cons hi] at h
 injection h with h1 h2
 refine ⟨hi, ?_, h2⟩
 unfold Nda
 simp [List.getD, hi, h1]
theorem over_all (l : List S50) (hl : l.length ≤ 100000000) : ∀ (m : Nat),
 (∀ (p q : List S50) (d i K : Nat), Tre p d → p.length ≤ m → l.drop i = p ++ q → 2 * p.length + 1 ≤ K → Nao.f K l (i : Int) = some (((i + p.length : Nat) : Int), (d : Int))) ∧
 (∀ (c : Nat) (p q : List S50) (e i K dn dp : Nat) (z : Int), Frs c p e → p.length ≤ m → l.drop i = p ++ q → i ≤ l.length → 2 * p.length + 2 ≤ K → z = ((dn + c : Nat) : Int) → z ≤ 100 → dp ≤ 100000000 → Nao.l0 K l (i : Int) (dp : Int) z (dn : Int) = some (((i + p.length : Nat) : Int), ((max dp e + 1 : Nat) : Int))) := by
 intro m
 induction m with
 | zero =>
  refine ⟨?_, ?_⟩
  ·intro p q d i K h hp
   have := h.pos
   omega
  ·intro c p q e i K dn dp z h hp hd hi hK hz hz1 hdp
   obtain ⟨K, rfl⟩ : ∃ K', K = K' + 1 := ⟨K - 1, by omega⟩
   cases h with
   | nil =>
    rw [Nao.l0, if_neg (by omega), wr1 (by omega) (by omega)]
    simp
   | cons p q c d e h1 h2 =>
    have := h1.pos
    simp only [List.length_append] at hp
    omega
 | succ m ih =>
  obtain ⟨ih1, ih2⟩ := ih
  have hf : ∀ (p q : List S50) (d i K : Nat), Tre p d → p.length ≤ m + 1 → l.drop i = p ++ q → 2 * p.length + 1 ≤ K → Nao.f K l (i : Int) = some (((i + p.length : Nat) : Int), (d : Int)) := by
   intro p q d i K h hp hd hK
   obtain ⟨K, rfl⟩ : ∃ K', K = K' + 1 := ⟨K - 1, by omega⟩
   cases h with
   | node n c p d h1 h2 =>
    obtain ⟨hi, hn, hd2⟩ := getD_drop (q := q) (l := l) (n := n) (p := p ++ q) (by rw [hd]; rfl)
    simp only [List.length_cons] at hp hK
    have hc := parts_le n
    rw [Nao.f, if_neg (by omega), if_pos (by omega), if_pos (by omega), hn]
    show (if Nbi n < 0 then some ((-1 : Int), (0 : Int)) else _) = _
    rw [if_neg (by omega), wr1 (by omega) (by omega)]
    have h3 := ih2 c p q d (i + 1) K 0 0 (Nbi n) h2 (by omega) hd2 (by omega) (by omega) (by omega) (by omega) (by omega)
    rw [show ((i : Int) + 1) = ((i + 1 : Nat) : Int) by omega]
    refine h3.trans ?_
    simp only [List.length_cons, Nat.zero_max]
    rw [show i + 1 + p.length = i + (p.length + 1) by omega]
  refine ⟨hf, ?_⟩
  intro c p q e i K dn dp z h hp hd hi hK hz hz1 hdp
  obtain ⟨K, rfl⟩ : ∃ K', K = K' + 1 := ⟨K - 1, by omega⟩
  cases h with
  | nil =>
   rw [Nao.l0, if_neg (by omega), wr1 (by omega) (by omega)]
   simp
  | cons p q2 c d e h1 h2 =>
   have hp1 := h1.pos
   simp only [List.length_append] at hp hK
   rw [Nao.l0, if_pos (by omega), hf p (q2 ++ q) d i K h1 (by omega) (by rw [hd, List.append_assoc]) (by omega)]
   show (if ((i + p.length : Nat) : Int) < 0 then some ((-1 : Int), (0 : Int)) else _) = _
   rw [if_neg (by omega), mxN, wr1 (by omega) (by omega)]
   have hd2 : l.drop (i + p.length) = q2 ++ q := by rw [← List.drop_drop, hd, List.append_assoc, List.drop_left]
   have hle : i + p.length ≤ l.length := by
    have := congrArg List.length hd
    simp only [List.length_drop, List.length_append] at this
    omega
   have h3 := ih2 c q2 q e (i + p.length) K (dn + 1) (max dp d) z h2 (by omega) hd2 hle (by omega) (by omega) hz1 (by omega)
   rw [show ((dn : Int) + 1) = ((dn + 1 : Nat) : Int) by omega]
   refine h3.trans ?_
   simp only [List.length_append]
   rw [show i + p.length + q2.length = i + (p.length + q2.length) by omega, Nat.max_assoc]
theorem over_back (l : List S50) (hl : l.length ≤ 100000000) : ∀ (K : Nat),
 (∀ (i : Nat) (e d : Int), Nao.f K l (i : Int) = some (e, d) → 0 ≤ e → ∃ (p q : List S50) (dd : Nat), l.drop i = p ++ q ∧ Tre p dd ∧ e = ((i + p.length : Nat) : Int) ∧ d = (dd : Int)) ∧
 (∀ (i dn c dp : Nat) (e d : Int), i ≤ l.length → dn + c ≤ 100 → dp ≤ 100000000 → Nao.l0 K l (i : Int) (dp : Int) ((dn + c : Nat) : Int) (dn : Int) = some (e, d) → 0 ≤ e → ∃ (p q : List S50) (dd : Nat), l.drop i = p ++ q ∧ Frs c p dd ∧ e = ((i + p.length : Nat) : Int) ∧ d = ((max dp dd + 1 : Nat) : Int)) := by
 intro K
 induction K with
 | zero =>
  refine ⟨?_, ?_⟩
  ·intro i e d h; rw [Nao.f] at h; cases h
  ·intro i dn c dp e d _ _ _ h; rw [Nao.l0] at h; cases h
 | succ K ih =>
  obtain ⟨ih1, ih2⟩ := ih
  refine ⟨?_, ?_⟩
  ·intro i e d h he
   rw [Nao.f] at h
   split at h
   ·cases h; omega
   rename_i hi
   rw [if_pos (by omega), if_pos (by omega)] at h
   have hil : i < l.length := by omega
   have hx := List.drop_eq_getElem_cons hil
   obtain ⟨-, hn, -⟩ := getD_drop (q := []) hx
   rw [hn] at h
   change (if Nbi l[i] < 0 then some ((-1 : Int), (0 : Int)) else _) = _ at h
   split at h
   ·cases h; omega
   rename_i hp
   have hle := parts_le l[i]
   obtain ⟨c, hc⟩ : ∃ c : Nat, Nbi l[i] = (c : Int) := ⟨(Nbi l[i]).toNat, by omega⟩
   rw [wr1 (by omega) (by omega), hc, show ((i : Int) + 1) = ((i + 1 : Nat) : Int) by omega, show (c : Int) = ((0 + c : Nat) : Int) by omega] at h
   obtain ⟨p, q, dd, h1, h2, h3, h4⟩ := ih2 (i + 1) 0 c 0 e d (by omega) (by omega) (by omega) h he
   refine ⟨l[i] :: p, q, dd + 1, ?_, .node _ c p dd hc h2, ?_, ?_⟩
   ·rw [hx, h1]; rfl
   ·rw [h3]; simp only [List.length_cons]; omega
   ·rw [h4]; omega
  ·intro i dn c dp e d hi hc hdp h he
   rw [Nao.l0] at h
   by_cases hlt : (dn : Int) < ((dn + c : Nat) : Int)
   ·rw [if_pos hlt] at h
    obtain ⟨⟨e1, d1⟩, ho, h⟩ := Option.bind_eq_some_iff.1 h
    change (if e1 < 0 then some ((-1 : Int), (0 : Int)) else _) = _ at h
    split at h
    ·cases h; omega
    rename_i he1
    obtain ⟨p, q, dd, h1, h2, h3, h4⟩ := ih1 i e1 d1 ho (by omega)
    have hpos := h2.pos
    have hlen := congrArg List.length h1
    simp only [List.length_drop, List.length_append] at hlen
    obtain ⟨c, rfl⟩ : ∃ c', c = c' + 1 := ⟨c - 1, by omega⟩
    rw [h3, h4, mxN, wr1 (by omega) (by omega), show ((dn : Int) + 1) = ((dn + 1 : Nat) : Int) by omega, show dn + (c + 1) = dn + 1 + c by omega] at h
    obtain ⟨p2, q2, dd2, g1, g2, g3, g4⟩ := ih2 (i + p.length) (dn + 1) c (max dp dd) e d (by omega) (by omega) (by omega) h he
    have hq : q = p2 ++ q2 := by rw [← g1, ← List.drop_drop, h1, List.drop_left]
    refine ⟨p ++ p2, q2, max dd dd2, ?_, .cons p p2 c dd dd2 h2 g2, ?_, ?_⟩
    ·rw [h1, hq, List.append_assoc]
    ·rw [g3]; simp only [List.length_append]; omega
    ·rw [g4, Nat.max_assoc]
   ·rw [if_neg hlt] at h
    obtain rfl : c = 0 := by omega
    cases h
    refine ⟨[], l.drop i, 0, rfl, .nil, by simp, ?_⟩
    rw [wr1 (by omega) (by omega)]; omega
theorem over_some (l : List S50) (hl : l.length ≤ 100000000) : ∀ (m : Nat),
 (∀ (i K : Nat), l.length - i ≤ m → 2 * m + 1 ≤ K → ∃ x, Nao.f K l (i : Int) = some x) ∧
 (∀ (i dn c dp K : Nat), i ≤ l.length → l.length - i ≤ m → dn + c ≤ 100 → dp ≤ 100000000 → 2 * m + 2 ≤ K → ∃ x, Nao.l0 K l (i : Int) (dp : Int) ((dn + c : Nat) : Int) (dn : Int) = some x) := by
 intro m
 induction m with
 | zero =>
  have hf : ∀ (i K : Nat), l.length - i ≤ 0 → 2 * 0 + 1 ≤ K → ∃ x, Nao.f K l (i : Int) = some x := by
   intro i K hi hK
   obtain ⟨K, rfl⟩ : ∃ K', K = K' + 1 := ⟨K - 1, by omega⟩
   exact ⟨_, by rw [Nao.f, if_pos (by omega)]⟩
  refine ⟨hf, ?_⟩
  intro i dn c dp K hil hi hc hdp hK
  obtain ⟨K, rfl⟩ : ∃ K', K = K' + 1 := ⟨K - 1, by omega⟩
  rw [Nao.l0]
  by_cases hlt : (dn : Int) < ((dn + c : Nat) : Int)
  ·obtain ⟨K, rfl⟩ : ∃ K', K = K' + 1 := ⟨K - 1, by omega⟩
   rw [if_pos hlt, Nao.f, if_pos (by omega)]
   exact ⟨_, rfl⟩
  ·rw [if_neg hlt]; exact ⟨_, rfl⟩
 | succ m ih =>
  obtain ⟨ih1, ih2⟩ := ih
  have hf : ∀ (i K : Nat), l.length - i ≤ m + 1 → 2 * (m + 1) + 1 ≤ K → ∃ x, Nao.f K l (i : Int) = some x := by
   intro i K hi hK
   obtain ⟨K, rfl⟩ : ∃ K', K = K' + 1 := ⟨K - 1, by omega⟩
   rw [Nao.f]
   by_cases hil : (l.length : Int) ≤ (i : Int)
   ·exact ⟨_, if_pos hil⟩
   rw [if_neg hil, if_pos (by omega), if_pos (by omega)]
   have hil : i < l.length := by omega
   obtain ⟨-, hn, -⟩ := getD_drop (q := []) (List.drop_eq_getElem_cons hil)
   rw [hn]
   show ∃ x, (if Nbi l[i] < 0 then some ((-1 : Int), (0 : Int)) else _) = some x
   split
   ·exact ⟨_, rfl⟩
   rename_i hp
   have hle := parts_le l[i]
   obtain ⟨c, hc⟩ : ∃ c : Nat, Nbi l[i] = (c : Int) := ⟨(Nbi l[i]).toNat, by omega⟩
   rw [wr1 (by omega) (by omega), hc, show ((i : Int) + 1) = ((i + 1 : Nat) : Int) by omega, show (c : Int) = ((0 + c : Nat) : Int) by omega]
   exact ih2 (i + 1) 0 c 0 K (by omega) (by omega) (by omega) (by omega) (by omega)
  refine ⟨hf, ?_⟩
  intro i dn c dp K hil hi hc hdp hK
  obtain ⟨K, rfl⟩ : ∃ K', K = K' + 1 := ⟨K - 1, by omega⟩
  rw [Nao.l0]
  by_cases hlt : (dn : Int) < ((dn + c : Nat) : Int)
  ·rw [if_pos hlt]
   obtain ⟨⟨e1, d1⟩, ho⟩ := hf i K (by omega) (by omega)
   rw [ho]
   show ∃ x, (if e1 < 0 then some ((-1 : Int), (0 : Int)) else _) = some x
   split
   ·exact ⟨_, rfl⟩
   rename_i he
   obtain ⟨p, q, dd, h1, h2, h3, h4⟩ := (over_back l hl K).1 i e1 d1 ho (by omega)
   have hpos := h2.pos
   have hlen := congrArg List.length h1
   simp only [List.length_drop, List.length_append] at hlen
   obtain ⟨c, rfl⟩ : ∃ c', c = c' + 1 := ⟨c - 1, by omega⟩
   rw [h3, h4, mxN, wr1 (by omega) (by omega), show ((dn : Int) + 1) = ((dn + 1 : Nat) : Int) by omega, show dn + (c + 1) = dn + 1 + c by omega]
   exact ih2 (i + p.length) (dn + 1) c (max dp dd) K (by omega) (by omega) (by omega) (by omega) (by omega)
  ·rw [if_neg hlt]; exact ⟨_, rfl⟩
end Go.Proofs.YtejbbceidnaloaaGreatDoor.P
