import Derived.Test.YtejbbceidnaloaaGreatDoorB8
set_option linter.unusedVariables false
set_option linter.unusedSimpArgs false
set_option maxRecDepth 100000
set_option maxHeartbeats 8000000
namespace Go.Proofs.YtejbbceidnaloaaGreatDoor.P
open Go.RowKit AW AL AM
mutual
def Nar.l0 : Nat → ByteArray → Int → Int → Option (Int × ByteArray × Bool)
 | 0, _, _, _ => none
 | k + 1, x0, x2, x5 => if x5 < (x0.size : Int) then (if 0 ≤ x5 then (if (bt x0 x5) ≥ 48 then (Nar.j1 k x0 x2 x5 (decide ((bt x0 x5) ≤ 57))) else (Nar.j1 k x0 x2 x5 false)) else (none)) else (Nar.j1 k x0 x2 x5 false)
def Nar.j1 : Nat → ByteArray → Int → Int → Bool → Option (Int × ByteArray × Bool)
 | 0, _, _, _, _ => none
 | k + 1, x0, x2, x5, x22 => if x22 = true then (if 0 ≤ x5 then (if x5 < (x0.size : Int) then (if x2 > ((1000000000000000000 - (((bt x0 x5) - 48) % 256)) / 10) then (some (0, (⟨#[]⟩ : ByteArray), false)) else (Nar.l0 k x0 (wrap64 ((wrap64 (10 * x2)) + (((bt x0 x5) - 48) % 256))) (wrap64 (x5 + 1)))) else (none)) else (none)) else (if 0 ≤ x5 then (if x5 ≤ (x0.size : Int) then (some (x2, x0.extract (x5 : Int).toNat x0.size, decide (x5 > 0))) else (none)) else (none))
end
def Nar.f (k : Nat) (a0 : ByteArray) : Option (Int × ByteArray × Bool) := Nar.l0 k a0 0 0
theorem Nar.calls (k : Nat) (a0 : ByteArray) (r1 : Int) (r2 : ByteArray) (r3 : Bool) (w : World) (h : Nar.f k a0 = some (r1, r2, r3)) :
 Calls Tryz.prog 207 #[.string a0] w fun e w' => e = .returned (.tuple #[.int .i64 r1, .string r2, .bool r3]) ∧ Na9 w w' := by
 have H := h
 unfold Nar.f at H
 clear h
 have H' := aM H
 clear H
 go_enter Tryz.func207, Tryz.ntmps207
 go_wp2
 repeat (go_quiet (fail); try go_wp2)
 go_loopg [2, 5] k (fun kq v2 v5 w' => ∃ (x2_1 : Int) (x5_1 : Int), v2 = .int .i64 x2_1 ∧ v5 = .int .i64 x5_1 ∧ Nai (Nar.l0 kq a0 x2_1 x5_1 = some (r1, r2, r3)) ∧ Nai (kq ≤ k) ∧ Na9 w w')
 case atStart => exact ⟨(0), (0), (by first | rfl | (simp; done) | (simp [*]; done)), (by first | rfl | (simp; done) | (simp [*]; done)), H', ⟨Nat.le_refl _⟩, dE⟩
 case round =>
  clear H'
  obtain ⟨x2_1, x5_1, rfl, rfl, HA, HK1, ⟨m1, rfl⟩⟩ := hrel
  cases gk with
  | zero => exact absurd HA.out (by simp [Nar.l0])
  | succ k1 =>
   have H := HA.out
   clear HA
   simp only [Nar.l0] at H
   have HC2 := aM H
   clear H
   go_upto_region 2 with (fail)
   repeat (go_quiet (fail); go_upto_region 2 with (fail))
   go_cut [22] (fun v22 wc => ∃ (kq : Nat) (x22_1 : Bool), v22 = .bool x22_1 ∧ Nai (Nar.j1 kq a0 x2_1 x5_1 x22_1 = some (r1, r2, r3)) ∧ Nai (kq ≤ k1) ∧ Na9 w wc)
   case first =>
    have H := HC2.out
    clear HC2
    by_cases c3 : x5_1 < (a0.size : Int)
    ·rw [if_pos c3] at H
     have c3b0 : decide (x5_1 < (a0.size : Int)) = true := decide_eq_true c3
     clear c3
     (first | rw [c3b0] | (simp only [i64_w, i32_w]; rw [c3b0]) | skip)
     by_cases c4 : 0 ≤ x5_1
     ·rw [if_pos c4] at H
      have c4b0 : decide (0 ≤ x5_1) = true := decide_eq_true c4
      clear c4
      by_cases c6 : (bt a0 x5_1) ≥ 48
      ·rw [if_pos c6] at H
       have c6b0 : decide (48 ≤ (bt a0 x5_1)) = true := decide_eq_true c6
       clear c6
       have H' := aM H
       clear H
       have p5 : 0 ≤ (x5_1 : Int) := of_decide_eq_true (by first | (with_reducible assumption) | assumption)
       have q5 : x5_1 < (a0.size : Int) := of_decide_eq_true (by first | (with_reducible assumption) | assumption)
       have hx5 := bt_at a0 x5_1
       replace p5 := eq_true p5
       replace q5 := eq_true q5
       have p7 : 0 ≤ (x5_1 : Int) := of_decide_eq_true (by first | (with_reducible assumption) | assumption)
       have q7 : x5_1 < (a0.size : Int) := of_decide_eq_true (by first | (with_reducible assumption) | assumption)
       have hx7 := bt_at a0 x5_1
       replace p7 := eq_true p7
       replace q7 := eq_true q7
       go_wp2
       repeat (go_quiet (fail); try go_wp2)
       go_meet
       case rel => exact ⟨_, (decide ((bt a0 x5_1) ≤ 57)), (by first | rfl | (simp; done) | (simp [*]; done)), H', ⟨by have := HK1.out; first | omega | exact Nat.le_refl _⟩, dE⟩
      ·rw [if_neg c6] at H
       have c6b0 : decide (48 ≤ (bt a0 x5_1)) = false := decide_eq_false c6
       clear c6
       have H' := aM H
       clear H
       have p5 : 0 ≤ (x5_1 : Int) := of_decide_eq_true (by first | (with_reducible assumption) | assumption)
       have q5 : x5_1 < (a0.size : Int) := of_decide_eq_true (by first | (with_reducible assumption) | assumption)
       have hx5 := bt_at a0 x5_1
       replace p5 := eq_true p5
       replace q5 := eq_true q5
       go_wp2
       repeat (go_quiet (fail); try go_wp2)
       go_meet
       case rel => exact ⟨_, (false), (by first | rfl | (simp; done) | (simp [*]; done)), H', ⟨by have := HK1.out; first | omega | exact Nat.le_refl _⟩, dE⟩
     ·rw [if_neg c4] at H
      exact absurd H (by simp)
    ·rw [if_neg c3] at H
     have c3b0 : decide (x5_1 < (a0.size : Int)) = false := decide_eq_false c3
     clear c3
     (first | rw [c3b0] | (simp only [i64_w, i32_w]; rw [c3b0]) | skip)
     have H' := aM H
     clear H
     go_wp2
     repeat (go_quiet (fail); try go_wp2)
     go_meet
     case rel => exact ⟨_, (false), (by first | rfl | (simp; done) | (simp [*]; done)), H', ⟨by have := HK1.out; first | omega | exact Nat.le_refl _⟩, dE⟩
   case rest =>
    clear HC2
    try clear c2
    try clear p2
    try clear c3
    try clear c3b0
    try clear c4
    try clear c4b0
    try clear p5
    try clear q5
    try clear hx5
    try clear c6
    try clear c6b0
    try clear p7
    try clear q7
    try clear hx7
    try clear p5
    try clear p7
    try clear q5
    try clear q7
    obtain ⟨kq, x22_1, rfl, HA, HJ1, ⟨mc1, rfl⟩⟩ := hcut
    cases kq with
    | zero => exact absurd HA.out (by simp [Nar.j1])
    | succ kj1 =>
     have H := HA.out
     clear HA
     simp only [Nar.j1] at H
     by_cases c8 : x22_1 = true
     ·subst c8
      rw [if_pos rfl] at H
      by_cases c9 : 0 ≤ x5_1
      ·rw [if_pos c9] at H
       have c9b0 : decide (0 ≤ x5_1) = true := decide_eq_true c9
       clear c9
       by_cases c10 : x5_1 < (a0.size : Int)
       ·rw [if_pos c10] at H
        have c10b0 : decide (x5_1 < (a0.size : Int)) = true := decide_eq_true c10
        clear c10
        by_cases c12 : x2_1 > ((1000000000000000000 - (((bt a0 x5_1) - 48) % 256)) / 10)
        ·rw [if_pos c12] at H
         have c12b0 : decide (((1000000000000000000 - (((bt a0 x5_1) - 48) % 256)) / 10) < x2_1) = true := decide_eq_true c12
         clear c12
         simp only [sJ, pJ] at H
         obtain ⟨rfl, rfl, rfl⟩ := H
         have p11 : 0 ≤ (x5_1 : Int) := of_decide_eq_true (by first | (with_reducible assumption) | assumption)
         have q11 : x5_1 < (a0.size : Int) := of_decide_eq_true (by first | (with_reducible assumption) | assumption)
         have hx11 := bt_at a0 x5_1
         replace p11 := eq_true p11
         replace q11 := eq_true q11
         go_wp2
         repeat (go_quiet (fail); try go_wp2)
         go_ret3
         exact ⟨eR, dE⟩
        ·rw [if_neg c12] at H
         have c12b0 : decide (((1000000000000000000 - (((bt a0 x5_1) - 48) % 256)) / 10) < x2_1) = false := decide_eq_false c12
         clear c12
         have H' := aM H
         clear H
         have p11 : 0 ≤ (x5_1 : Int) := of_decide_eq_true (by first | (with_reducible assumption) | assumption)
         have q11 : x5_1 < (a0.size : Int) := of_decide_eq_true (by first | (with_reducible assumption) | assumption)
         have hx11 := bt_at a0 x5_1
         replace p11 := eq_true p11
         replace q11 := eq_true q11
         go_wp2
         repeat (go_quiet (fail); try go_wp2)
         go_roundg kj1
         case measure => have := HK1.out; have := HJ1.out; omega
         case rel => exact ⟨(wrap64 ((wrap64 (10 * x2_1)) + (((bt a0 x5_1) - 48) % 256))), (wrap64 (x5_1 + 1)), (by first | rfl | (simp; done) | (simp [*]; done)), (by first | rfl | (simp; done) | (simp [*]; done)), H', ⟨by have := HK1.out; have := HJ1.out; omega⟩, dE⟩
       ·rw [if_neg c10] at H
        exact absurd H (by simp)
      ·rw [if_neg c9] at H
       exact absurd H (by simp)
     ·replace c8 := Bool.eq_false_iff.mpr c8
      subst c8
      rw [if_neg fT] at H
      by_cases c13 : 0 ≤ x5_1
      ·rw [if_pos c13] at H
       have c13b0 := eq_true c13
       have c13b1 : decide (0 ≤ x5_1) = true := decide_eq_true c13
       clear c13
       by_cases c14 : x5_1 ≤ (a0.size : Int)
       ·rw [if_pos c14] at H
        have c14b0 := eq_true c14
        have c14b1 : decide (x5_1 ≤ (a0.size : Int)) = true := decide_eq_true c14
        clear c14
        simp only [sJ, pJ] at H
        obtain ⟨rfl, rfl, rfl⟩ := H
        go_wp2
        repeat (go_quiet (fail); try go_wp2)
        go_ret3
        exact ⟨eR, dE⟩
       ·rw [if_neg c14] at H
        exact absurd H (by simp)
      ·rw [if_neg c13] at H
       exact absurd H (by simp)
def Nbw.l0 : Nat → Int → Int → Int → Option (Int)
 | 0, _, _, _ => none
 | k + 1, x3, x4, x5 => if x5 < x4 then (Nbw.l0 k (wrap64 (x3 * 10)) x4 (wrap64 (x5 + 1))) else (some x3)
def Nbw.f (k : Nat) (a0 : Int) : Option (Int) := Nbw.l0 k 1 a0 0
theorem Nbw.calls (k : Nat) (a0 r : Int) (w : World) (h : Nbw.f k a0 = some r) :
 Calls Tryz.prog 208 #[.int .i64 a0] w fun e w' => e = .returned (.int .i64 r) ∧ Na9 w w' := by
 have H := h
 unfold Nbw.f at H
 clear h
 have H' := aM H
 clear H
 go_enter Tryz.func208, Tryz.ntmps208
 go_wp2
 go_loopg [3, 5] k (fun kq v3 v5 w' => ∃ (x3_1 : Int) (x5_1 : Int), v3 = .int .i64 x3_1 ∧ v5 = .int .i64 x5_1 ∧ Nai (Nbw.l0 kq x3_1 a0 x5_1 = some r) ∧ Nai (kq ≤ k) ∧ Na9 w w')
 case atStart => exact ⟨(1), (0), (by first | rfl | (simp; done) | (simp [*]; done)), (by first | rfl | (simp; done) | (simp [*]; done)), H', ⟨Nat.le_refl _⟩, dE⟩
 case round =>
  clear H'
  obtain ⟨x3_1, x5_1, rfl, rfl, HA, HK1, ⟨m1, rfl⟩⟩ := hrel
  cases gk with
  | zero => exact absurd HA.out (by simp [Nbw.l0])
  | succ k1 =>
   have H := HA.out
   clear HA
   simp only [Nbw.l0] at H
   by_cases c2 : x5_1 < a0
   ·rw [if_pos c2] at H
    have c2b0 : decide (x5_1 < a0) = true := decide_eq_true c2
    clear c2
    have H' := aM H
    clear H
    go_wp2
    go_roundg k1
    case measure => have := HK1.out; omega
    case rel => exact ⟨(wrap64 (x3_1 * 10)), (wrap64 (x5_1 + 1)), (by first | rfl | (simp; done) | (simp [*]; done)), (by first | rfl | (simp; done) | (simp [*]; done)), H', ⟨by have := HK1.out; omega⟩, dE⟩
   ·rw [if_neg c2] at H
    have c2b0 : decide (x5_1 < a0) = false := decide_eq_false c2
    clear c2
    obtain rfl := sI H
    go_wp2
    go_ret
    exact ⟨eR, dE⟩
def Nbh.j0 : Nat → Int → Int → Int → Int → Bool → Option (Int × Int × Bool)
 | 0, _, _, _, _, _ => none
 | k + 1, x0, x1, x6, x7, x31 => if x31 = true then (some (0, 0, false)) else (if ((decide (x0 < 0)) != (decide (x1 < 0))) = true then (some (wrap64 (-(wrap64 (x6))), wrap64 (x7), true)) else (some (wrap64 (x6), wrap64 (x7), true)))
def Nbh.f (k : Nat) (a0 a1 : Int) : Option (Int × Int × Bool) := if a1 = 0 then (some (0, 0, false)) else ((Nbo.f a0).bind fun t102 => ((Nbo.f a1).bind fun t103 => ((Ncb.f k t102 t103).bind fun t104 => (if t104 = 0 then (none) else (if (IntKind.u64.wrap (Int.tdiv t102 t104)) > 1000000000000 then (Nbh.j0 k a0 a1 (IntKind.u64.wrap (Int.tdiv t102 t104)) (IntKind.u64.wrap (Int.tdiv t103 t104)) true) else (Nbh.j0 k a0 a1 (IntKind.u64.wrap (Int.tdiv t102 t104)) (IntKind.u64.wrap (Int.tdiv t103 t104)) (decide ((IntKind.u64.wrap (Int.tdiv t103 t104)) > 1000000))))))))
theorem Nbh.calls (k : Nat) (a0 a1 r1 r2 : Int) (r3 : Bool) (w : World) (h : Nbh.f k a0 a1 = some (r1, r2, r3)) :
 Calls Tryz.prog 209 #[.int .i64 a0, .int .i64 a1] w fun e w' => e = .returned (.tuple #[.agg #[.int .i64 r1, .int .i64 r2], .bool r3]) ∧ Below w.heap.size w w' := by
 have hu44 := Tryz.underlying44
 have HB := aM (Below.refl w.heap.size w)
 have H := h
 unfold Nbh.f at H
 clear h
 by_cases c3 : a1 = 0
 ·rw [if_pos c3] at H
  obtain ⟨c3b0, c3b1⟩ := bqT c3
  clear c3
  simp only [sJ, pJ] at H
  obtain ⟨rfl, rfl, rfl⟩ := H
  go_enter Tryz.func209, Tryz.ntmps209
  go_wp2_with (first | ((with_reducible refine gD 4 rfl ?_); refine bX 4 #[.int .i64 0, .int .i64 0] 44 ?_; intro gb101 hg w4 hbox hb; replace HB := bK w hbox hg hb; obtain ⟨BK101, GW101, HB⟩ := HB; have GE101 := GW101; clear hb hbox hg; obtain ⟨hcz5_0, hcz5_1, hfz5_0, hfz5_1⟩ := bc2 BK101.out))
  repeat (go_quiet (first | ((with_reducible refine gD 4 rfl ?_); refine bX 4 #[.int .i64 0, .int .i64 0] 44 ?_; intro gb101 hg w4 hbox hb; replace HB := bK w hbox hg hb; obtain ⟨BK101, GW101, HB⟩ := HB; have GE101 := GW101; clear hb hbox hg; obtain ⟨hcz5_0, hcz5_1, hfz5_0, hfz5_1⟩ := bc2 BK101.out)); try go_wp2_with (first | ((with_reducible refine gD 4 rfl ?_); refine bX 4 #[.int .i64 0, .int .i64 0] 44 ?_; intro gb101 hg w4 hbox hb; replace HB := bK w hbox hg hb; obtain ⟨BK101, GW101, HB⟩ := HB; have GE101 := GW101; clear hb hbox hg; obtain ⟨hcz5_0, hcz5_1, hfz5_0, hfz5_1⟩ := bc2 BK101.out)))
  refine bodyPost_ret (Nb2 rfl _ _ gb101 44 #[.int .i64 0, .int .i64 0] (0, 0) _ rfl (bP BK101.out) Tryz.underlying44 rfl (by kernel_rfl)) rfl ?_
  exact ⟨eR, bE⟩
 ·rw [if_neg c3] at H
  obtain ⟨c3b0, c3b1⟩ := bqF c3
  replace H := bS H
  obtain ⟨t102, A60, H⟩ := H
  try dsimp only at H
  have A6 := aM A60
  clear A60
  replace H := bS H
  obtain ⟨t103, A70, H⟩ := H
  try dsimp only at H
  have A7 := aM A70
  clear A70
  replace H := bS H
  obtain ⟨t104, A80, H⟩ := H
  try dsimp only at H
  have A8 := aM A80
  clear A80
  by_cases c9 : t104 = 0
  ·rw [if_pos c9] at H
   exact absurd H (by simp)
  ·rw [if_neg c9] at H
   obtain ⟨c9b0, c9b1⟩ := bqF c9
   have HC10 := aM H
   clear H
   go_enter Tryz.func209, Tryz.ntmps209
   go_upto_region 6 with (first | ((with_reducible refine gD 4 rfl ?_); refine bX 4 #[.int .i64 0, .int .i64 0] 44 ?_; intro gb101 hg w11 hbox hb; replace HB := bK w hbox hg hb; obtain ⟨BK101, GW101, HB⟩ := HB; have GE101 := GW101; clear hb hbox hg) | (go_at_call 167; (with_reducible refine (Nbo.calls a0 t102 _ A6.out).mono ?_); rintro e w' ⟨rfl, ⟨nd, rfl⟩⟩; (try first | exact ⟨rfl, _, World.drewN_drewN _ _ _⟩ | exact ⟨rfl, _, Eq.trans (World.drewN_drewN _ _ _) (congrArg (World.drewN _) (Nat.add_assoc _ _ _))⟩)) | (go_at_call 167; (with_reducible refine (Nbo.calls a1 t103 _ A7.out).mono ?_); rintro e w' ⟨rfl, ⟨nd, rfl⟩⟩; (try first | exact ⟨rfl, _, World.drewN_drewN _ _ _⟩ | exact ⟨rfl, _, Eq.trans (World.drewN_drewN _ _ _) (congrArg (World.drewN _) (Nat.add_assoc _ _ _))⟩)) | (go_at_call 166; (with_reducible refine (Ncb.calls k t102 t103 t104 _ A8.out).mono ?_); rintro e w' ⟨rfl, ⟨nd, rfl⟩⟩; (try first | exact ⟨rfl, _, World.drewN_drewN _ _ _⟩ | exact ⟨rfl, _, Eq.trans (World.drewN_drewN _ _ _) (congrArg (World.drewN _) (Nat.add_assoc _ _ _))⟩)))
   repeat (go_quiet (first | ((with_reducible refine gD 4 rfl ?_); refine bX 4 #[.int .i64 0, .int .i64 0] 44 ?_; intro gb101 hg w11 hbox hb; replace HB := bK w hbox hg hb; obtain ⟨BK101, GW101, HB⟩ := HB; have GE101 := GW101; clear hb hbox hg) | (go_at_call 167; (with_reducible refine (Nbo.calls a0 t102 _ A6.out).mono ?_); rintro e w' ⟨rfl, ⟨nd, rfl⟩⟩; (try first | exact ⟨rfl, _, World.drewN_drewN _ _ _⟩ | exact ⟨rfl, _, Eq.trans (World.drewN_drewN _ _ _) (congrArg (World.drewN _) (Nat.add_assoc _ _ _))⟩)) | (go_at_call 167; (with_reducible refine (Nbo.calls a1 t103 _ A7.out).mono ?_); rintro e w' ⟨rfl, ⟨nd, rfl⟩⟩; (try first | exact ⟨rfl, _, World.drewN_drewN _ _ _⟩ | exact ⟨rfl, _, Eq.trans (World.drewN_drewN _ _ _) (congrArg (World.drewN _) (Nat.add_assoc _ _ _))⟩)) | (go_at_call 166; (with_reducible refine (Ncb.calls k t102 t103 t104 _ A8.out).mono ?_); rintro e w' ⟨rfl, ⟨nd, rfl⟩⟩; (try first | exact ⟨rfl, _, World.drewN_drewN _ _ _⟩ | exact ⟨rfl, _, Eq.trans (World.drewN_drewN _ _ _) (congrArg (World.drewN _) (Nat.add_assoc _ _ _))⟩))); go_upto_region 6 with (first | ((with_reducible refine gD 4 rfl ?_); refine bX 4 #[.int .i64 0, .int .i64 0] 44 ?_; intro gb101 hg w11 hbox hb; replace HB := bK w hbox hg hb; obtain ⟨BK101, GW101, HB⟩ := HB; have GE101 := GW101; clear hb hbox hg) | (go_at_call 167; (with_reducible refine (Nbo.calls a0 t102 _ A6.out).mono ?_); rintro e w' ⟨rfl, ⟨nd, rfl⟩⟩; (try first | exact ⟨rfl, _, World.drewN_drewN _ _ _⟩ | exact ⟨rfl, _, Eq.trans (World.drewN_drewN _ _ _) (congrArg (World.drewN _) (Nat.add_assoc _ _ _))⟩)) | (go_at_call 167; (with_reducible refine (Nbo.calls a1 t103 _ A7.out).mono ?_); rintro e w' ⟨rfl, ⟨nd, rfl⟩⟩; (try first | exact ⟨rfl, _, World.drewN_drewN _ _ _⟩ | exact ⟨rfl, _, Eq.trans (World.drewN_drewN _ _ _) (congrArg (World.drewN _) (Nat.add_assoc _ _ _))⟩)) | (go_at_call 166; (with_reducible refine (Ncb.calls k t102 t103 t104 _ A8.out).mono ?_); rintro e w' ⟨rfl, ⟨nd, rfl⟩⟩; (try first | exact ⟨rfl, _, World.drewN_drewN _ _ _⟩ | exact ⟨rfl, _, Eq.trans (World.drewN_drewN _ _ _) (congrArg (World.drewN _) (Nat.add_assoc _ _ _))⟩))))
   (try simp only [Act.put, List.setIfInBounds_toArray, List.set_cons_zero, List.set_cons_succ])
   go_cut [31] (fun v31 wc => ∃ (kq : Nat) (x31_9 : Bool), v31 = .bool x31_9 ∧ Nai (Nbh.j0 kq a0 a1 (IntKind.u64.wrap (Int.tdiv t102 t104)) (IntKind.u64.wrap (Int.tdiv t103 t104)) x31_9 = some (r1, r2, r3)) ∧ Nai (kq ≤ k) ∧ Nai (wc.heap[gb101]? = some (.cells #[.int .i64 0, .int .i64 0] 44 (0, 0))) ∧ Nai (Below w.heap.size w wc))
   case first =>
    have H := HC10.out
    clear HC10
    by_cases c12 : (IntKind.u64.wrap (Int.tdiv t102 t104)) > 1000000000000
    ·rw [if_pos c12] at H
     have c12b0 : decide (1000000000000 < (IntKind.u64.wrap (Int.tdiv t102 t104))) = true := decide_eq_true c12
     clear c12
     (first | rw [c12b0] | (simp only [i64_w, i32_w]; rw [c12b0]) | skip)
     have H' := aM H
     clear H
     go_wp2
     repeat (go_quiet (fail); try go_wp2)
     go_meet
     case rel => exact ⟨_, (true), (by first | rfl | (simp; done) | (simp [*]; done)), H', ⟨by first | omega | exact Nat.le_refl _⟩, ⟨BK101.out⟩, ⟨bE⟩⟩
    ·rw [if_neg c12] at H
     have c12b0 : decide (1000000000000 < (IntKind.u64.wrap (Int.tdiv t102 t104))) = false := decide_eq_false c12
     clear c12
     (first | rw [c12b0] | (simp only [i64_w, i32_w]; rw [c12b0]) | skip)
     have H' := aM H
     clear H
     go_wp2
     repeat (go_quiet (fail); try go_wp2)
     go_meet
     case rel => exact ⟨_, (decide ((IntKind.u64.wrap (Int.tdiv t103 t104)) > 1000000)), (by first | rfl | (simp; done) | (simp [*]; done)), H', ⟨by first | omega | exact Nat.le_refl _⟩, ⟨BK101.out⟩, ⟨bE⟩⟩
   case rest =>
    clear HC10
    try clear c1
    try clear c2
    try clear p2
    try clear c3
    try clear c3b0
    try clear c3b1
    try clear c9
    try clear c9b0
    try clear c9b1
    try clear c12
    try clear c12b0
    try clear hcz5_0
    try clear hcz5_1
    try clear hfz5_0
    try clear hfz5_1
    obtain ⟨kq, x31_9, rfl, HA, HJ9, BK101, HB⟩ := hcut
    cases kq with
    | zero => exact absurd HA.out (by simp [Nbh.j0])
    | succ kj9 =>
     have H := HA.out
     clear HA
     simp only [Nbh.j0] at H
     by_cases c13 : x31_9 = true
     ·subst c13
      rw [if_pos rfl] at H
      simp only [sJ, pJ] at H
      obtain ⟨rfl, rfl, rfl⟩ := H
      have hcz14_0 : wc.cell? ⟨gb101, 0, none⟩ = some (.int .i64 0) := (Naa BK101.out 0).trans rfl
      have hcz14_1 : wc.cell? ⟨gb101, 1, none⟩ = some (.int .i64 0) := (Naa BK101.out 1).trans rfl
      have hfz14_0 := Naf BK101.out 0
      have hfz14_1 := Naf BK101.out 1
      go_wp2
      repeat (go_quiet (fail); try go_wp2)
      refine bodyPost_ret (Nb2 rfl _ _ gb101 44 #[.int .i64 0, .int .i64 0] (0, 0) _ rfl (bP BK101.out) Tryz.underlying44 rfl (by kernel_rfl)) rfl ?_
      exact ⟨eR, bE⟩
     ·replace c13 := Bool.eq_false_iff.mpr c13
      subst c13
      rw [if_neg fT] at H
      by_cases c15 : ((decide (a0 < 0)) != (decide (a1 < 0))) = true
      ·rw [if_pos c15] at H
       have c15b0 : ((decide (a0 < 0)) != (decide (a1 < 0))) = true := c15
       (try (have c15b1 : decide ((decide (a0 < 0)) = (decide (a1 < 0))) = false := by simpa using c15))
       (try (have c15b2 : ((decide (a0 < 0)) == (decide (a1 < 0))) = false := by simpa using c15))
       (try (have c15b3 : ¬ ((decide (a0 < 0)) = (decide (a1 < 0))) := by simpa using c15))
       clear c15
       simp only [sJ, pJ] at H
       obtain ⟨rfl, rfl, rfl⟩ := H
       go_wp2_with (first | ((with_reducible refine gD 9 rfl ?_); refine bX 9 #[.int .i64 0, .int .i64 0] 44 ?_; intro gb105 hg w16 hbox hb; have BK105 := aM (hbox); have GW105 := aM ((by rw [hg]; exact (Nbc bE) : w.heap.size ≤ gb105)); have GE105 := GW105; have NB101_105 := aM ((by rw [hg]; exact Nat.ne_of_lt (Nbe (g := gb101) (o := .cells #[.int .i64 0, .int .i64 0] 44 (0, 0)) (bd BK101.out)) : gb101 ≠ gb105)); have NB105_101 := aM ((by rw [hg]; exact Nat.ne_of_gt (Nbe (g := gb101) (o := .cells #[.int .i64 0, .int .i64 0] 44 (0, 0)) (bd BK101.out)) : gb105 ≠ gb101)); replace BK101 := aM (Nad (g := gb101) (o := .cells #[.int .i64 0, .int .i64 0] 44 (0, 0)) (bd BK101.out) hb); replace HB := aM (Nac bE hb); clear hb hbox hg; have hnb17 := NB105_101.out; have hnc17 := NB101_105.out; obtain ⟨hcz18_0, hcz18_1, hfz18_0, hfz18_1⟩ := bc2 BK105.out; obtain ⟨hcz19_0, hcz19_1, hfz19_0, hfz19_1⟩ := bc2 BK101.out))
       repeat (go_quiet (first | ((with_reducible refine gD 9 rfl ?_); refine bX 9 #[.int .i64 0, .int .i64 0] 44 ?_; intro gb105 hg w16 hbox hb; have BK105 := aM (hbox); have GW105 := aM ((by rw [hg]; exact (Nbc bE) : w.heap.size ≤ gb105)); have GE105 := GW105; have NB101_105 := aM ((by rw [hg]; exact Nat.ne_of_lt (Nbe (g := gb101) (o := .cells #[.int .i64 0, .int .i64 0] 44 (0, 0)) (bd BK101.out)) : gb101 ≠ gb105)); have NB105_101 := aM ((by rw [hg]; exact Nat.ne_of_gt (Nbe (g := gb101) (o := .cells #[.int .i64 0, .int .i64 0] 44 (0, 0)) (bd BK101.out)) : gb105 ≠ gb101)); replace BK101 := aM (Nad (g := gb101) (o := .cells #[.int .i64 0, .int .i64 0] 44 (0, 0)) (bd BK101.out) hb); replace HB := aM (Nac bE hb); clear hb hbox hg; have hnb17 := NB105_101.out; have hnc17 := NB101_105.out; obtain ⟨hcz18_0, hcz18_1, hfz18_0, hfz18_1⟩ := bc2 BK105.out; obtain ⟨hcz19_0, hcz19_1, hfz19_0, hfz19_1⟩ := bc2 BK101.out)); try go_wp2_with (first | ((with_reducible refine gD 9 rfl ?_); refine bX 9 #[.int .i64 0, .int .i64 0] 44 ?_; intro gb105 hg w16 hbox hb; have BK105 := aM (hbox); have GW105 := aM ((by rw [hg]; exact (Nbc bE) : w.heap.size ≤ gb105)); have GE105 := GW105; have NB101_105 := aM ((by rw [hg]; exact Nat.ne_of_lt (Nbe (g := gb101) (o := .cells #[.int .i64 0, .int .i64 0] 44 (0, 0)) (bd BK101.out)) : gb101 ≠ gb105)); have NB105_101 := aM ((by rw [hg]; exact Nat.ne_of_gt (Nbe (g := gb101) (o := .cells #[.int .i64 0, .int .i64 0] 44 (0, 0)) (bd BK101.out)) : gb105 ≠ gb101)); replace BK101 := aM (Nad (g := gb101) (o := .cells #[.int .i64 0, .int .i64 0] 44 (0, 0)) (bd BK101.out) hb); replace HB := aM (Nac bE hb); clear hb hbox hg; have hnb17 := NB105_101.out; have hnc17 := NB101_105.out; obtain ⟨hcz18_0, hcz18_1, hfz18_0, hfz18_1⟩ := bc2 BK105.out; obtain ⟨hcz19_0, hcz19_1, hfz19_0, hfz19_1⟩ := bc2 BK101.out)))
       refine bodyPost_ret (Nb2 rfl _ _ gb101 44 #[.int .i64 (wrap64 (-(wrap64 ((IntKind.u64.wrap (Int.tdiv t102 t104)))))), .int .i64 (wrap64 ((IntKind.u64.wrap (Int.tdiv t103 t104))))] (0, 0) _ rfl (by (with_reducible repeat first | apply Nam | apply Nag | apply Nap); refine Ncy (cs := #[.int .i64 (wrap64 (-(wrap64 ((IntKind.u64.wrap (Int.tdiv t102 t104)))))), .int .i64 0]) ?_ 1 _ rfl; (with_reducible repeat first | apply Nam | apply Nag | apply Nap); refine Ncy (cs := #[.int .i64 0, .int .i64 0]) ?_ 0 _ rfl; (with_reducible repeat first | apply Nam | apply Nag | apply Nap); refine Nbk ?_ NB101_105.out _; (with_reducible repeat first | apply Nam | apply Nag | apply Nap); refine Nbk ?_ NB101_105.out _; (with_reducible repeat first | apply Nam | apply Nag | apply Nap); refine Nbk ?_ NB101_105.out _; (with_reducible repeat first | apply Nam | apply Nag | apply Nap); exact BK101.out) Tryz.underlying44 rfl (by kernel_rfl)) rfl ?_
       exact ⟨eR, bE⟩
      ·rw [if_neg c15] at H
       have c15b0 : ((decide (a0 < 0)) != (decide (a1 < 0))) = false := by simpa using c15
       (try (have c15b1 : decide ((decide (a0 < 0)) = (decide (a1 < 0))) = true := by simpa using c15))
       (try (have c15b2 : ((decide (a0 < 0)) == (decide (a1 < 0))) = true := by simpa using c15))
       clear c15
       simp only [sJ, pJ] at H
       obtain ⟨rfl, rfl, rfl⟩ := H
       go_wp2_with (first | ((with_reducible refine gD 9 rfl ?_); refine bX 9 #[.int .i64 0, .int .i64 0] 44 ?_; intro gb105 hg w20 hbox hb; have BK105 := aM (hbox); have GW105 := aM ((by rw [hg]; exact (Nbc bE) : w.heap.size ≤ gb105)); have GE105 := GW105; have NB101_105 := aM ((by rw [hg]; exact Nat.ne_of_lt (Nbe (g := gb101) (o := .cells #[.int .i64 0, .int .i64 0] 44 (0, 0)) (bd BK101.out)) : gb101 ≠ gb105)); have NB105_101 := aM ((by rw [hg]; exact Nat.ne_of_gt (Nbe (g := gb101) (o := .cells #[.int .i64 0, .int .i64 0] 44 (0, 0)) (bd BK101.out)) : gb105 ≠ gb101)); replace BK101 := aM (Nad (g := gb101) (o := .cells #[.int .i64 0, .int .i64 0] 44 (0, 0)) (bd BK101.out) hb); replace HB := aM (Nac bE hb); clear hb hbox hg; have hnb21 := NB105_101.out; have hnc21 := NB101_105.out; obtain ⟨hcz22_0, hcz22_1, hfz22_0, hfz22_1⟩ := bc2 BK105.out; obtain ⟨hcz23_0, hcz23_1, hfz23_0, hfz23_1⟩ := bc2 BK101.out))
       repeat (go_quiet (first | ((with_reducible refine gD 9 rfl ?_); refine bX 9 #[.int .i64 0, .int .i64 0] 44 ?_; intro gb105 hg w20 hbox hb; have BK105 := aM (hbox); have GW105 := aM ((by rw [hg]; exact (Nbc bE) : w.heap.size ≤ gb105)); have GE105 := GW105; have NB101_105 := aM ((by rw [hg]; exact Nat.ne_of_lt (Nbe (g := gb101) (o := .cells #[.int .i64 0, .int .i64 0] 44 (0, 0)) (bd BK101.out)) : gb101 ≠ gb105)); have NB105_101 := aM ((by rw [hg]; exact Nat.ne_of_gt (Nbe (g := gb101) (o := .cells #[.int .i64 0, .int .i64 0] 44 (0, 0)) (bd BK101.out)) : gb105 ≠ gb101)); replace BK101 := aM (Nad (g := gb101) (o := .cells #[.int .i64 0, .int .i64 0] 44 (0, 0)) (bd BK101.out) hb); replace HB := aM (Nac bE hb); clear hb hbox hg; have hnb21 := NB105_101.out; have hnc21 := NB101_105.out; obtain ⟨hcz22_0, hcz22_1, hfz22_0, hfz22_1⟩ := bc2 BK105.out; obtain ⟨hcz23_0, hcz23_1, hfz23_0, hfz23_1⟩ := bc2 BK101.out)); try go_wp2_with (first | ((with_reducible refine gD 9 rfl ?_); refine bX 9 #[.int .i64 0, .int .i64 0] 44 ?_; intro gb105 hg w20 hbox hb; have BK105 := aM (hbox); have GW105 := aM ((by rw [hg]; exact (Nbc bE) : w.heap.size ≤ gb105)); have GE105 := GW105; have NB101_105 := aM ((by rw [hg]; exact Nat.ne_of_lt (Nbe (g := gb101) (o := .cells #[.int .i64 0, .int .i64 0] 44 (0, 0)) (bd BK101.out)) : gb101 ≠ gb105)); have NB105_101 := aM ((by rw [hg]; exact Nat.ne_of_gt (Nbe (g := gb101) (o := .cells #[.int .i64 0, .int .i64 0] 44 (0, 0)) (bd BK101.out)) : gb105 ≠ gb101)); replace BK101 := aM (Nad (g := gb101) (o := .cells #[.int .i64 0, .int .i64 0] 44 (0, 0)) (bd BK101.out) hb); replace HB := aM (Nac bE hb); clear hb hbox hg; have hnb21 := NB105_101.out; have hnc21 := NB101_105.out; obtain ⟨hcz22_0, hcz22_1, hfz22_0, hfz22_1⟩ := bc2 BK105.out; obtain ⟨hcz23_0, hcz23_1, hfz23_0, hfz23_1⟩ := bc2 BK101.out)))
       refine bodyPost_ret (Nb2 rfl _ _ gb101 44 #[.int .i64 (wrap64 ((IntKind.u64.wrap (Int.tdiv t102 t104)))), .int .i64 (wrap64 ((IntKind.u64.wrap (Int.tdiv t103 t104))))] (0, 0) _ rfl (by (with_reducible repeat first | apply Nam | apply Nag | apply Nap); refine Ncy (cs := #[.int .i64 (wrap64 ((IntKind.u64.wrap (Int.tdiv t102 t104)))), .int .i64 0]) ?_ 1 _ rfl; (with_reducible repeat first | apply Nam | apply Nag | apply Nap); refine Ncy (cs := #[.int .i64 0, .int .i64 0]) ?_ 0 _ rfl; (with_reducible repeat first | apply Nam | apply Nag | apply Nap); refine Nbk ?_ NB101_105.out _; (with_reducible repeat first | apply Nam | apply Nag | apply Nap); refine Nbk ?_ NB101_105.out _; (with_reducible repeat first | apply Nam | apply Nag | apply Nap); exact BK101.out) Tryz.underlying44 rfl (by kernel_rfl)) rfl ?_
       exact ⟨eR, bE⟩
end Go.Proofs.YtejbbceidnaloaaGreatDoor.P
