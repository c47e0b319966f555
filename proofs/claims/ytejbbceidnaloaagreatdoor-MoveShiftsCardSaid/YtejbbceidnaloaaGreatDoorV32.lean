import Derived.Test.YtejbbceidnaloaaGreatDoorV31
set_option linter.unusedVariables false
set_option linter.unusedSimpArgs false
set_option maxRecDepth 100000
set_option maxHeartbeats 8000000
namespace Go.Proofs.YtejbbceidnaloaaGreatDoor.P
open Go.RowKit AW AL AM
def Na4.j0 : Nat → Int → Int → Bool → Int → Int → Int → Option (Int × Int × Int × Bool)
 | 0, _, _, _, _, _, _ => none
 | k + 1, x1, x2, x26, x102000, x102001, x102002 => if x26 = true then (some (0, 0, 0, false)) else ((Na0.f x102000 (wrap64 (x102001 + x1)) (wrap64 (x102002 + x2))).bind fun t104 => (if t104 = true then (some (x102000, wrap64 (x102001 + x1), wrap64 (x102002 + x2), true)) else (some (0, 0, 0, false))))
def Na4.f (k : Nat) (a0_0 a0_1 a0_2 a1 a2 : Int) : Option (Int × Int × Int × Bool) := (Na0.f a0_0 a0_1 a0_2).bind fun t103 => (if t103 = true then (if a1 < (-65536) then (Na4.j0 k a1 a2 true a0_0 a0_1 a0_2) else (if a1 > 65536 then (Na4.j0 k a1 a2 true a0_0 a0_1 a0_2) else (if a2 < (-256) then (Na4.j0 k a1 a2 true a0_0 a0_1 a0_2) else (Na4.j0 k a1 a2 (decide (a2 > 256)) a0_0 a0_1 a0_2)))) else (Na4.j0 k a1 a2 true a0_0 a0_1 a0_2))
theorem Na4.calls (k : Nat) (a0_0 a0_1 a0_2 a1 a2 r1 r2 r3 : Int) (r4 : Bool) (w : World) (h : Na4.f k a0_0 a0_1 a0_2 a1 a2 = some (r1, r2, r3, r4)) :
 Calls Tryz.prog 99 #[.agg #[.int .i64 a0_0, .int .i64 a0_1, .int .i64 a0_2], .int .i64 a1, .int .i64 a2] w fun e w' => e = .returned (.tuple #[.agg #[.int .i64 r1, .int .i64 r2, .int .i64 r3], .bool r4]) ∧ Below w.heap.size w w' := by
 have hu64 := Tryz.underlying64
 have HB := aM (Below.refl w.heap.size w)
 have H := h
 unfold Na4.f at H
 clear h
 have HC4 := aM H
 clear H
 go_enter Tryz.func99, Tryz.ntmps99
 go_upto_region 1 with (first | ((with_reducible refine gD 3 rfl ?_); refine bX 3 #[.int .i64 a0_0, .int .i64 a0_1, .int .i64 a0_2] 64 ?_; intro gb101 hg w5 hbox hb; replace HB := bK w hbox hg hb; obtain ⟨BK101, GW101, HB⟩ := HB; have GE101 := GW101; clear hb hbox hg) | ((with_reducible refine gD 6 rfl ?_); refine bX 6 #[.int .i64 0, .int .i64 0, .int .i64 0] 64 ?_; intro gb102 hg w6 hbox hb; have BK102 := aM (hbox); have GW102 := aM ((by rw [hg]; exact (Na8 bE) : w.heap.size ≤ gb102)); have GE102 := GW102; have NB101_102 := aM ((by rw [hg]; exact Nat.ne_of_lt (Nbh BK101.out) : gb101 ≠ gb102)); have NB102_101 := aM ((by rw [hg]; exact Nat.ne_of_gt (Nbh BK101.out) : gb102 ≠ gb101)); replace BK101 := aM (Nac BK101.out hb); replace HB := aM (Nab bE hb); clear hb hbox hg))
 (try simp only [Act.put, List.setIfInBounds_toArray, List.set_cons_zero, List.set_cons_succ])
 go_cut [26] (fun v26 wc => ∃ (kq : Nat) (x26_3 : Bool), v26 = .bool x26_3 ∧ Nah (Na4.j0 kq a1 a2 x26_3 a0_0 a0_1 a0_2 = some (r1, r2, r3, r4)) ∧ Nah (kq ≤ k) ∧ Nah (wc.heap[gb101]? = some (.cells #[.int .i64 a0_0, .int .i64 a0_1, .int .i64 a0_2] 64 (0, 0))) ∧ Nah (wc.heap[gb102]? = some (.cells #[.int .i64 0, .int .i64 0, .int .i64 0] 64 (0, 0))) ∧ Nah (Below w.heap.size w wc))
 case first =>
  have H := HC4.out
  clear HC4
  replace H := bS H
  obtain ⟨t103, A70, H⟩ := H
  try dsimp only at H
  have A7 := aM A70
  clear A70
  by_cases c8 : t103 = true
  ·subst c8
   rw [if_pos rfl] at H
   by_cases c9 : a1 < (-65536)
   ·rw [if_pos c9] at H
    have c9b0 : decide (a1 < (-65536)) = true := decide_eq_true c9
    clear c9
    (first | rw [c9b0] | (simp only [i64_w, i32_w]; rw [c9b0]) | skip)
    have H' := aM H
    clear H
    have hnb10 := NB101_102.out
    have hnc10 := NB102_101.out
    have hcz11_0 : w6.cell? ⟨gb101, 0, none⟩ = some (.int .i64 a0_0) := (Naa BK101.out 0).trans rfl
    have hcz11_1 : w6.cell? ⟨gb101, 1, none⟩ = some (.int .i64 a0_1) := (Naa BK101.out 1).trans rfl
    have hcz11_2 : w6.cell? ⟨gb101, 2, none⟩ = some (.int .i64 a0_2) := (Naa BK101.out 2).trans rfl
    have hfz11_0 := Nae BK101.out 0
    have hfz11_1 := Nae BK101.out 1
    have hfz11_2 := Nae BK101.out 2
    go_wp2_with (first | ((with_reducible refine gC 65 rfl ?_); refine gL 9 Tryz.func65 #[.agg #[.int .i64 a0_0, .int .i64 a0_1, .int .i64 a0_2]] ?_; (with_reducible refine (Na0.calls a0_0 a0_1 a0_2 true _ A7.out).mono ?_); rintro e w12 ⟨rfl, hb⟩; refine ⟨_, rfl, ?_⟩; replace BK101 := aM (Nac BK101.out hb); replace BK102 := aM (Nac BK102.out hb); replace HB := aM (Nab bE hb); (try clear hb)))
    go_meet
    case rel => exact ⟨_, (true), (by first | rfl | (simp; done) | (simp [*]; done)), H', ⟨by first | omega | exact Nat.le_refl _⟩, ⟨BK101.out⟩, ⟨BK102.out⟩, ⟨bE⟩⟩
   ·rw [if_neg c9] at H
    have c9b0 : decide (a1 < (-65536)) = false := decide_eq_false c9
    clear c9
    (first | rw [c9b0] | (simp only [i64_w, i32_w]; rw [c9b0]) | skip)
    by_cases c13 : a1 > 65536
    ·rw [if_pos c13] at H
     have c13b0 : decide (65536 < a1) = true := decide_eq_true c13
     clear c13
     have H' := aM H
     clear H
     have hnb14 := NB101_102.out
     have hnc14 := NB102_101.out
     have hcz15_0 : w6.cell? ⟨gb101, 0, none⟩ = some (.int .i64 a0_0) := (Naa BK101.out 0).trans rfl
     have hcz15_1 : w6.cell? ⟨gb101, 1, none⟩ = some (.int .i64 a0_1) := (Naa BK101.out 1).trans rfl
     have hcz15_2 : w6.cell? ⟨gb101, 2, none⟩ = some (.int .i64 a0_2) := (Naa BK101.out 2).trans rfl
     have hfz15_0 := Nae BK101.out 0
     have hfz15_1 := Nae BK101.out 1
     have hfz15_2 := Nae BK101.out 2
     go_wp2_with (first | ((with_reducible refine gC 65 rfl ?_); refine gL 9 Tryz.func65 #[.agg #[.int .i64 a0_0, .int .i64 a0_1, .int .i64 a0_2]] ?_; (with_reducible refine (Na0.calls a0_0 a0_1 a0_2 true _ A7.out).mono ?_); rintro e w16 ⟨rfl, hb⟩; refine ⟨_, rfl, ?_⟩; replace BK101 := aM (Nac BK101.out hb); replace BK102 := aM (Nac BK102.out hb); replace HB := aM (Nab bE hb); (try clear hb)))
     go_meet
     case rel => exact ⟨_, (true), (by first | rfl | (simp; done) | (simp [*]; done)), H', ⟨by first | omega | exact Nat.le_refl _⟩, ⟨BK101.out⟩, ⟨BK102.out⟩, ⟨bE⟩⟩
    ·rw [if_neg c13] at H
     have c13b0 : decide (65536 < a1) = false := decide_eq_false c13
     clear c13
     by_cases c17 : a2 < (-256)
     ·rw [if_pos c17] at H
      have c17b0 : decide (a2 < (-256)) = true := decide_eq_true c17
      clear c17
      have H' := aM H
      clear H
      have hnb18 := NB101_102.out
      have hnc18 := NB102_101.out
      have hcz19_0 : w6.cell? ⟨gb101, 0, none⟩ = some (.int .i64 a0_0) := (Naa BK101.out 0).trans rfl
      have hcz19_1 : w6.cell? ⟨gb101, 1, none⟩ = some (.int .i64 a0_1) := (Naa BK101.out 1).trans rfl
      have hcz19_2 : w6.cell? ⟨gb101, 2, none⟩ = some (.int .i64 a0_2) := (Naa BK101.out 2).trans rfl
      have hfz19_0 := Nae BK101.out 0
      have hfz19_1 := Nae BK101.out 1
      have hfz19_2 := Nae BK101.out 2
      go_wp2_with (first | ((with_reducible refine gC 65 rfl ?_); refine gL 9 Tryz.func65 #[.agg #[.int .i64 a0_0, .int .i64 a0_1, .int .i64 a0_2]] ?_; (with_reducible refine (Na0.calls a0_0 a0_1 a0_2 true _ A7.out).mono ?_); rintro e w20 ⟨rfl, hb⟩; refine ⟨_, rfl, ?_⟩; replace BK101 := aM (Nac BK101.out hb); replace BK102 := aM (Nac BK102.out hb); replace HB := aM (Nab bE hb); (try clear hb)))
      go_meet
      case rel => exact ⟨_, (true), (by first | rfl | (simp; done) | (simp [*]; done)), H', ⟨by first | omega | exact Nat.le_refl _⟩, ⟨BK101.out⟩, ⟨BK102.out⟩, ⟨bE⟩⟩
     ·rw [if_neg c17] at H
      have c17b0 : decide (a2 < (-256)) = false := decide_eq_false c17
      clear c17
      have H' := aM H
      clear H
      have hnb21 := NB101_102.out
      have hnc21 := NB102_101.out
      have hcz22_0 : w6.cell? ⟨gb101, 0, none⟩ = some (.int .i64 a0_0) := (Naa BK101.out 0).trans rfl
      have hcz22_1 : w6.cell? ⟨gb101, 1, none⟩ = some (.int .i64 a0_1) := (Naa BK101.out 1).trans rfl
      have hcz22_2 : w6.cell? ⟨gb101, 2, none⟩ = some (.int .i64 a0_2) := (Naa BK101.out 2).trans rfl
      have hfz22_0 := Nae BK101.out 0
      have hfz22_1 := Nae BK101.out 1
      have hfz22_2 := Nae BK101.out 2
      go_wp2_with (first | ((with_reducible refine gC 65 rfl ?_); refine gL 9 Tryz.func65 #[.agg #[.int .i64 a0_0, .int .i64 a0_1, .int .i64 a0_2]] ?_; (with_reducible refine (Na0.calls a0_0 a0_1 a0_2 true _ A7.out).mono ?_); rintro e w23 ⟨rfl, hb⟩; refine ⟨_, rfl, ?_⟩; replace BK101 := aM (Nac BK101.out hb); replace BK102 := aM (Nac BK102.out hb); replace HB := aM (Nab bE hb); (try clear hb)))
      go_meet
      case rel => exact ⟨_, (decide (a2 > 256)), (by first | rfl | (simp; done) | (simp [*]; done)), H', ⟨by first | omega | exact Nat.le_refl _⟩, ⟨BK101.out⟩, ⟨BK102.out⟩, ⟨bE⟩⟩
  ·replace c8 := Bool.eq_false_iff.mpr c8
   subst c8
   rw [if_neg fT] at H
   have H' := aM H
   clear H
   have hnb24 := NB101_102.out
   have hnc24 := NB102_101.out
   have hcz25_0 : w6.cell? ⟨gb101, 0, none⟩ = some (.int .i64 a0_0) := (Naa BK101.out 0).trans rfl
   have hcz25_1 : w6.cell? ⟨gb101, 1, none⟩ = some (.int .i64 a0_1) := (Naa BK101.out 1).trans rfl
   have hcz25_2 : w6.cell? ⟨gb101, 2, none⟩ = some (.int .i64 a0_2) := (Naa BK101.out 2).trans rfl
   have hfz25_0 := Nae BK101.out 0
   have hfz25_1 := Nae BK101.out 1
   have hfz25_2 := Nae BK101.out 2
   go_wp2_with (first | ((with_reducible refine gC 65 rfl ?_); refine gL 9 Tryz.func65 #[.agg #[.int .i64 a0_0, .int .i64 a0_1, .int .i64 a0_2]] ?_; (with_reducible refine (Na0.calls a0_0 a0_1 a0_2 false _ A7.out).mono ?_); rintro e w26 ⟨rfl, hb⟩; refine ⟨_, rfl, ?_⟩; replace BK101 := aM (Nac BK101.out hb); replace BK102 := aM (Nac BK102.out hb); replace HB := aM (Nab bE hb); (try clear hb)))
   go_meet
   case rel => exact ⟨_, (true), (by first | rfl | (simp; done) | (simp [*]; done)), H', ⟨by first | omega | exact Nat.le_refl _⟩, ⟨BK101.out⟩, ⟨BK102.out⟩, ⟨bE⟩⟩
 case rest =>
  clear HC4
  try clear c1
  try clear c2
  try clear p2
  try clear c6
  try clear c8
  try clear c9
  try clear c9b0
  try clear c10
  try clear c13
  try clear c13b0
  try clear c14
  try clear c17
  try clear c17b0
  try clear c18
  try clear c21
  try clear c24
  try clear hcz11_0
  try clear hcz11_1
  try clear hcz11_2
  try clear hcz15_0
  try clear hcz15_1
  try clear hcz15_2
  try clear hcz19_0
  try clear hcz19_1
  try clear hcz19_2
  try clear hcz22_0
  try clear hcz22_1
  try clear hcz22_2
  try clear hcz25_0
  try clear hcz25_1
  try clear hcz25_2
  try clear hfz11_0
  try clear hfz11_1
  try clear hfz11_2
  try clear hfz15_0
  try clear hfz15_1
  try clear hfz15_2
  try clear hfz19_0
  try clear hfz19_1
  try clear hfz19_2
  try clear hfz22_0
  try clear hfz22_1
  try clear hfz22_2
  try clear hfz25_0
  try clear hfz25_1
  try clear hfz25_2
  obtain ⟨kq, x26_3, rfl, HA, HJ3, BK101, BK102, HB⟩ := hcut
  cases kq with
  | zero => exact absurd HA.out (by simp [Na4.j0])
  | succ kj3 =>
   have H := HA.out
   clear HA
   simp only [Na4.j0] at H
   by_cases c27 : x26_3 = true
   ·subst c27
    rw [if_pos rfl] at H
    simp only [sJ, pJ] at H
    obtain ⟨rfl, rfl, rfl, rfl⟩ := H
    have hnb28 := NB102_101.out
    have hnc28 := NB101_102.out
    have hcz29_0 : wc.cell? ⟨gb102, 0, none⟩ = some (.int .i64 0) := (Naa BK102.out 0).trans rfl
    have hcz29_1 : wc.cell? ⟨gb102, 1, none⟩ = some (.int .i64 0) := (Naa BK102.out 1).trans rfl
    have hcz29_2 : wc.cell? ⟨gb102, 2, none⟩ = some (.int .i64 0) := (Naa BK102.out 2).trans rfl
    have hfz29_0 := Nae BK102.out 0
    have hfz29_1 := Nae BK102.out 1
    have hfz29_2 := Nae BK102.out 2
    go_wp2
    refine bodyPost_ret (Nbt rfl _ _ gb102 64 #[.int .i64 0, .int .i64 0, .int .i64 0] (0, 0) _ rfl (bP BK102.out) Tryz.underlying64 rfl (by kernel_rfl)) rfl ?_
    exact ⟨eR, bE⟩
   ·replace c27 := Bool.eq_false_iff.mpr c27
    subst c27
    rw [if_neg fT] at H
    replace H := bS H
    obtain ⟨t104, A300, H⟩ := H
    try dsimp only at H
    have A30 := aM A300
    clear A300
    by_cases c31 : t104 = true
    ·subst c31
     rw [if_pos rfl] at H
     simp only [sJ, pJ] at H
     obtain ⟨rfl, rfl, rfl, rfl⟩ := H
     have hnb32 := NB101_102.out
     have hnc32 := NB102_101.out
     have hcz33_0 : wc.cell? ⟨gb101, 0, none⟩ = some (.int .i64 a0_0) := (Naa BK101.out 0).trans rfl
     have hcz33_1 : wc.cell? ⟨gb101, 1, none⟩ = some (.int .i64 a0_1) := (Naa BK101.out 1).trans rfl
     have hcz33_2 : wc.cell? ⟨gb101, 2, none⟩ = some (.int .i64 a0_2) := (Naa BK101.out 2).trans rfl
     have hfz33_0 := Nae BK101.out 0
     have hfz33_1 := Nae BK101.out 1
     have hfz33_2 := Nae BK101.out 2
     go_wp2_with (first | ((with_reducible refine gC 65 rfl ?_); refine gL 39 Tryz.func65 #[.agg #[.int .i64 a0_0, .int .i64 (wrap64 (a0_1 + a1)), .int .i64 (wrap64 (a0_2 + a2))]] ?_; (with_reducible refine (Na0.calls a0_0 (wrap64 (a0_1 + a1)) (wrap64 (a0_2 + a2)) true _ A30.out).mono ?_); rintro e w34 ⟨rfl, hb⟩; refine ⟨_, rfl, ?_⟩; replace BK101 := aM (Nac (g := gb101) (o := .cells #[.int .i64 a0_0, .int .i64 (wrap64 (a0_1 + a1)), .int .i64 (wrap64 (a0_2 + a2))] 64 (0, 0)) (bP BK101.out) hb); replace BK102 := aM (Nac (g := gb102) (o := .cells #[.int .i64 0, .int .i64 0, .int .i64 0] 64 (0, 0)) (by (repeat refine Nbr ?_ NB102_101.out _); exact BK102.out) hb); replace HB := aM (Nab bE hb); (try clear hb); obtain ⟨hcz35_0, hcz35_1, hcz35_2, hfz35_0, hfz35_1, hfz35_2⟩ := bc3 BK101.out; obtain ⟨hcz36_0, hcz36_1, hcz36_2, hfz36_0, hfz36_1, hfz36_2⟩ := bc3 BK102.out))
     refine bodyPost_ret (Nbt rfl _ _ gb102 64 #[.int .i64 a0_0, .int .i64 (wrap64 (a0_1 + a1)), .int .i64 (wrap64 (a0_2 + a2))] (0, 0) _ rfl (bP BK102.out) Tryz.underlying64 rfl (by kernel_rfl)) rfl ?_
     exact ⟨eR, bE⟩
    ·replace c31 := Bool.eq_false_iff.mpr c31
     subst c31
     rw [if_neg fT] at H
     simp only [sJ, pJ] at H
     obtain ⟨rfl, rfl, rfl, rfl⟩ := H
     have hnb37 := NB101_102.out
     have hnc37 := NB102_101.out
     have hcz38_0 : wc.cell? ⟨gb101, 0, none⟩ = some (.int .i64 a0_0) := (Naa BK101.out 0).trans rfl
     have hcz38_1 : wc.cell? ⟨gb101, 1, none⟩ = some (.int .i64 a0_1) := (Naa BK101.out 1).trans rfl
     have hcz38_2 : wc.cell? ⟨gb101, 2, none⟩ = some (.int .i64 a0_2) := (Naa BK101.out 2).trans rfl
     have hfz38_0 := Nae BK101.out 0
     have hfz38_1 := Nae BK101.out 1
     have hfz38_2 := Nae BK101.out 2
     go_wp2_with (first | ((with_reducible refine gC 65 rfl ?_); refine gL 39 Tryz.func65 #[.agg #[.int .i64 a0_0, .int .i64 (wrap64 (a0_1 + a1)), .int .i64 (wrap64 (a0_2 + a2))]] ?_; (with_reducible refine (Na0.calls a0_0 (wrap64 (a0_1 + a1)) (wrap64 (a0_2 + a2)) false _ A30.out).mono ?_); rintro e w39 ⟨rfl, hb⟩; refine ⟨_, rfl, ?_⟩; replace BK101 := aM (Nac (g := gb101) (o := .cells #[.int .i64 a0_0, .int .i64 (wrap64 (a0_1 + a1)), .int .i64 (wrap64 (a0_2 + a2))] 64 (0, 0)) (bP BK101.out) hb); replace BK102 := aM (Nac (g := gb102) (o := .cells #[.int .i64 0, .int .i64 0, .int .i64 0] 64 (0, 0)) (by (repeat refine Nbr ?_ NB102_101.out _); exact BK102.out) hb); replace HB := aM (Nab bE hb); (try clear hb); obtain ⟨hcz40_0, hcz40_1, hcz40_2, hfz40_0, hfz40_1, hfz40_2⟩ := bc3 BK102.out))
     refine bodyPost_ret (Nbt rfl _ _ gb102 64 #[.int .i64 0, .int .i64 0, .int .i64 0] (0, 0) _ rfl (bP BK102.out) Tryz.underlying64 rfl (by kernel_rfl)) rfl ?_
     exact ⟨eR, bE⟩
theorem right_some (a b c : Int) : ∃ t, Na0.f a b c = some t := by
  unfold Na0.f Ncq.f Ndn.f Ncz.f
  repeat' (first | exact ⟨_, rfl⟩ | split | simp only [Option.bind_some])
theorem sh_some (a b x y : Int) : ∃ t0 t1 t2 t3, Na4.f 100 0 a b x y = some (t0, t1, t2, t3) := by
  have hj : ∀ z, ∃ t0 t1 t2 t3, Na4.j0 100 x y z 0 a b = some (t0, t1, t2, t3) := by
    intro z
    rw [Na4.j0]
    split
    · exact ⟨_, _, _, _, rfl⟩
    · obtain ⟨t, ht⟩ := right_some 0 (wrap64 (a + x)) (wrap64 (b + y))
      rw [ht, Option.bind_some]
      split <;> exact ⟨_, _, _, _, rfl⟩
  obtain ⟨t, ht⟩ := right_some 0 a b
  unfold Na4.f
  rw [ht, Option.bind_some]
  repeat' split
  all_goals exact hj _
def mvR (rows cols : Int) (r : S48) : S48 × Bool := match Na4.f 100 0 r.f1 r.f2 (if r.f3 = true then 0 else rows) (if r.f4 = true then 0 else cols) with
  | some (_, a, b, ok) => (⟨r.f0, a, b, r.f3, r.f4⟩, ok)
  | none => (r, false)
theorem mv_go (s : ByteArray) (a b rows cols t0 t1 t2 : Int) (p q t3 : Bool) (w : World) (h : Na4.f 100 0 a b (if p = true then 0 else rows) (if q = true then 0 else cols) = some (t0, t1, t2, t3)) :
    Calls Tryz.prog 61 #[.agg #[.string s, .int .i64 a, .int .i64 b, .bool p, .bool q], .int .i64 rows, .int .i64 cols] w fun e w' => e = .returned (.tuple #[.agg #[.string s, .int .i64 t1, .int .i64 t2, .bool p, .bool q], .bool t3]) ∧ Below w.heap.size w w' := by
  have HS := lh (fun w => Na4.calls 100 0 a b _ _ t0 t1 t2 t3 w h)
  have hu48 := Tryz.underlying48
  clear h
  go_enter Tryz.func61, Tryz.ntmps61
  go_upto_region 1 with (first
    | ((with_reducible refine gD 3 rfl ?_); refine bX 3 #[.string s, .int .i64 a, .int .i64 b, .bool p, .bool q] 48 ?_; intro g3 hg_ w1 hb_ hl_; have B1 := lh hl_; have G3 := lh (show w.heap.size ≤ g3 from hg_ ▸ Nat.le_refl _); have J1 := lh hb_; clear hb_ hl_ hg_)
    | ((with_reducible refine gD 6 rfl ?_); refine bX 6 #[.string ⟨#[]⟩, .int .i64 0, .int .i64 0, .bool false, .bool false] 48 ?_; intro g6 hg_ w2 hb_ hl_; have B2 := lh (Nab B1.out hl_); have G6 := lh (show w.heap.size ≤ g6 from hg_ ▸ B1.out.size); have J2 := lh (Nac J1.out hl_); have NE := lh (show g6 ≠ g3 by have := Nbh J1.out; omega); have K2 := lh hb_; clear hb_ hl_ hg_ B1 J1))
  have f3 : w2.cell? ⟨g3, 3, none⟩ = some (.bool p) := (Naa J2.out 3).trans rfl
  have f4 : w2.cell? ⟨g3, 4, none⟩ = some (.bool q) := (Naa J2.out 4).trans rfl
  have f1 : w2.cell? ⟨g3, 1, none⟩ = some (.int .i64 a) := (Naa J2.out 1).trans rfl
  have f2 : w2.cell? ⟨g3, 2, none⟩ = some (.int .i64 b) := (Naa J2.out 2).trans rfl
  cases p <;> cases q
  all_goals
    simp only [if_true, Bool.false_eq_true, if_false] at HS
    go_upto_region 6 with (first
      | (go_at_call 99; (with_reducible refine (HS.out _).mono ?_); rintro en w3 ⟨rfl, hb⟩; have B3 := lh (Nab B2.out hb); have J3 := lh (Nac J2.out hb); have K3 := lh (Nac K2.out hb); clear hb B2 J2 K2)
      | ((with_reducible refine gD 8 rfl ?_); refine bX 8 #[.int .i64 0, .int .i64 0, .int .i64 0] 64 ?_; intro g8 hg_ w4 hb_ hl_; have B4 := lh (Nab B3.out hl_); have G8 := lh (show w.heap.size ≤ g8 from hg_ ▸ B3.out.size); have J4 := lh (Nac J3.out hl_); have K4 := lh (Nac K3.out hl_); have NJ := lh (show g3 ≠ g8 by have := Nbh J3.out; omega); have NK := lh (show g6 ≠ g8 by have := Nbh K3.out; omega); have I4 := lh hb_; clear hb_ hl_ hg_ B3 J3 K3)
      | ((with_reducible refine gate_ (.store 64 (.tmp 8) (.tmp 23)) rfl ?_); refine sE I4.out 64 (.tmp 8) (.tmp 23) 0 (.agg #[.int .i64 t0, .int .i64 t1, .int .i64 t2]) #[.int .i64 t0, .int .i64 t1, .int .i64 t2] ?_; intro w5 hb_ hp_; have B5 := lh (hp_.below w G8.out B4.out); have J5 := lh (hp_.blk J4.out NJ.out); have K5 := lh (hp_.blk K4.out NK.out); have I5 := lh hb_; clear hb_ hp_ B4 J4 K4 I4))
    refine sP (n := 8) (S := fun w' => w'.cell? ⟨g8, 1, none⟩ = some (.int .i64 t1) ∧ w'.cell? ⟨g8, 2, none⟩ = some (.int .i64 t2)) (ds := [7]) ⟨(Naa (Nag I5.out) 1).trans rfl, (Naa (Nag I5.out) 2).trans rfl⟩ (fun hHeld => ?_)
    refine pP 0 25 ?_
    refine pP 2 27 ?_
    refine tP 1 26 hHeld ?_
    refine pP 4 29 ?_
    refine tP 3 28 hHeld ?_
    refine oP 5 none fun K hK => ?_
    refine store_skip (g := g3) (o' := 1) (e := 48) (t := 3) (p := .tmp 29) (x := .tmp 26) (u := .int .i64 t1) (seg := [.int .i64 t1]) (by rfl) rfl rfl rfl rfl rfl (by kernel_rfl) (Nag J5.out) (by simp) (by rfl) rfl (fun w6 hb_ hp_ => ?_)
    have B6 := lh (hp_.below w G3.out B5.out.drew)
    have K6 := lh (hp_.blk (Nag K5.out) NE.out)
    have J6 := lh hb_
    refine hK.out _ _ ⟨(Naa (hp_.blk (Nag I5.out) NJ.out.symm) 1).trans rfl, (Naa (hp_.blk (Nag I5.out) NJ.out.symm) 2).trans rfl⟩ (fun hHeld => ?_)
    clear hK K hb_ hp_ B5 J5 K5 I5
    refine pP 6 30 ?_
    refine lP 7 none fun K hK => ?_
    refine store_skip (g := g3) (o' := 2) (e := 48) (t := 3) (p := .tmp 30) (x := .tmp 28) (u := .int .i64 t2) (seg := [.int .i64 t2]) (by rfl) rfl rfl rfl rfl rfl (by kernel_rfl) J6.out (by simp [Ndz]) (by rfl) rfl (fun w7 hb_ hp_ => ?_)
    have B7 := lh (hp_.below w G3.out B6.out)
    have K7 := lh (hp_.blk K6.out NE.out)
    have J7 := lh hb_
    refine hK.out _ _ ?_
    clear hK K hb_ hp_ B6 J6 K6 hHeld
    refine done_ (by kernel_rfl) ?_
    simp only [Exit.then, Ndz, List.setIfInBounds_toArray, List.set_cons_zero, List.set_cons_succ] at J7 ⊢
    go_wp2_with (first
      | ((with_reducible refine gD 31 rfl ?_); refine lA J7.out 48 (.tmp 3) hu48 ?_)
      | ((with_reducible refine gate_ (.store 48 (.tmp 6) (.tmp 31)) rfl ?_); first
          | refine sE K7.out 48 (.tmp 6) (.tmp 31) 0 (.agg #[.string s, .int .i64 t1, .int .i64 t2, .bool true, .bool true]) #[.string s, .int .i64 t1, .int .i64 t2, .bool true, .bool true] ?_
          | refine sE K7.out 48 (.tmp 6) (.tmp 31) 0 (.agg #[.string s, .int .i64 t1, .int .i64 t2, .bool true, .bool false]) #[.string s, .int .i64 t1, .int .i64 t2, .bool true, .bool false] ?_
          | refine sE K7.out 48 (.tmp 6) (.tmp 31) 0 (.agg #[.string s, .int .i64 t1, .int .i64 t2, .bool false, .bool true]) #[.string s, .int .i64 t1, .int .i64 t2, .bool false, .bool true] ?_
          | refine sE K7.out 48 (.tmp 6) (.tmp 31) 0 (.agg #[.string s, .int .i64 t1, .int .i64 t2, .bool false, .bool false]) #[.string s, .int .i64 t1, .int .i64 t2, .bool false, .bool false] ?_
         intro w8 hb_ hp_; have B8 := lh (hp_.below w G6.out B7.out); have K8 := lh hb_; clear hb_ hp_ B7 K7 J7))
    refine bodyPost_ret (Nbt rfl _ _ g6 48 _ (0, 0) _ rfl K8.out Tryz.underlying48 rfl (by kernel_rfl)) rfl ?_
    exact ⟨rfl, B8.out⟩
theorem mv_calls (rows cols : Int) (r : S48) (w : World) : Calls Tryz.prog 61 #[.agg #[.string r.f0, .int .i64 r.f1, .int .i64 r.f2, .bool r.f3, .bool r.f4], .int .i64 rows, .int .i64 cols] w fun e w' => e = .returned (.tuple #[.agg #[.string (mvR rows cols r).1.f0, .int .i64 (mvR rows cols r).1.f1, .int .i64 (mvR rows cols r).1.f2, .bool (mvR rows cols r).1.f3, .bool (mvR rows cols r).1.f4], .bool (mvR rows cols r).2]) ∧ Below w.heap.size w w' := by
  obtain ⟨t0, t1, t2, t3, h⟩ := sh_some r.f1 r.f2 (if r.f3 = true then 0 else rows) (if r.f4 = true then 0 else cols)
  have := mv_go r.f0 r.f1 r.f2 rows cols t0 t1 t2 r.f3 r.f4 t3 w h
  unfold mvR
  rw [h]
  exact this
theorem txt_open (nm : ByteArray) : txt [(3, nm), mk [40]] = (nm ++ (⟨#[40]⟩ : ByteArray)).data.toList := by
 simp [Ncj, tk5, tk3, Nd9, mk, mB]
theorem call_one {w0 : World} {lv : Value} {L : Lf} {l : List S50} {k : Nat} (ih : ∀ j, j < k → Prints w0 lv L l j) (hl : l.length ≤ 100000) : PrintsC w0 lv L l k := by
 intro n w g bs a T q hnm har hal h ht hlen
 obtain ⟨k0, ⟨vk, ⟨vn, vd⟩, vt, vb, ve⟩, op, nm, ar, ⟨s5, r5, c5, p5, q5⟩, ⟨s6, r6, c6, p6, q6⟩⟩ := n
 show Calls Tryz.prog 77 #[.pointer (some ⟨g, 0, none⟩), .agg #[.int .i64 k0, .int .i64 vk, .int .i64 vn, .int .i64 vd, .string vt, .bool vb, .int .i64 ve, .int .i64 op, .string nm, .int .i64 ar, .string s5, .int .i64 r5, .int .i64 c5, .bool p5, .bool q5, .string s6, .int .i64 r6, .int .i64 c6, .bool p6, .bool q6]] w (fun e w' => e = .returned (.tuple #[]) ∧ Wrote w0.heap.size w g (bs ++ txt ((3, nm) :: mk [40] :: (T ++ [mk [41]]))) lv ((l.length : Int) - q.length) w')
 replace hnm : nm.size ≤ 100000 := hnm
 replace har : ar ≤ 100000 := har
 replace ht : atkF L k true ar (l.drop a) = some (T, q) := ht
 replace hlen : (bs ++ txt ((3, nm) :: mk [40] :: (T ++ [mk [41]]))).length ≤ 1000000000 := hlen
 have HIH := lh ih
 have HT := lh ht
 have HAR := lh har
 have HLL := lh hl
 have HPB := lh h.bel
 have HLT := lh h.pr.lt
 have HB := lh h.bel.size
 have HP := lh (show Wrote w0.heap.size w g bs lv (a : Int) w from ⟨h.pr, Below.refl _ _, Far.refl _ _⟩)
 have hU0 : txt ((3, nm) :: mk [40] :: (T ++ [mk [41]])) = txt [(3, nm), mk [40]] ++ txt T ++ [41] := by
  rw [show (3, nm) :: mk [40] :: (T ++ [mk [41]]) = [(3, nm), mk [40]] ++ T ++ [mk [41]] by simp, Nca, Nca]; rfl
 have HU0 := lh hU0
 have HLEN := lh (show (bs ++ txt [(3, nm), mk [40]] ++ txt T).length + 1 ≤ 1000000000 by rw [hU0] at hlen; simp only [List.length_append, List.length_cons, List.length_nil] at hlen ⊢; omega)
 have HLS := lh (show bs.length + (nm ++ (⟨#[40]⟩ : ByteArray)).size ≤ 140737488355328 by have h2 := HLEN.out; rw [txt_open] at h2; simp only [List.length_append, Array.length_toList] at h2; have h3 : (nm ++ (⟨#[40]⟩ : ByteArray)).data.size = (nm ++ (⟨#[40]⟩ : ByteArray)).size := rfl; omega)
 have c1 : nm.size + 1 ≤ 9223372036854775807 := by omega
 have c1f : (9223372036854775807 < nm.size + 1) = False := eq_false (Nat.not_lt.2 c1)
 clear h ih ht hlen hU0 hnm har hl
 have hu50 := Tryz.underlying50
 go_enter Tryz.func77, Tryz.ntmps77
 go_upto_region 1 with ((with_reducible refine gD 3 rfl ?_); refine bX 3 #[.int .i64 k0, .int .i64 vk, .int .i64 vn, .int .i64 vd, .string vt, .bool vb, .int .i64 ve, .int .i64 op, .string nm, .int .i64 ar, .string s5, .int .i64 r5, .int .i64 c5, .bool p5, .bool q5, .string s6, .int .i64 r6, .int .i64 c6, .bool p6, .bool q6] 50 ?_; intro g3 hg_ w1 hb_ hl_; have NE := lh (show g3 ≠ g by have := HLT.out; omega); have HP1 := lh (HP.out.step HB.out hl_); have J := lh hb_; clear hb_ hl_ hg_ HP)
 have e8 : w1.cell? ⟨g3, 8, none⟩ = some (.string nm) := (Naa J.out 8).trans rfl
 have HSZ := lh (show w0.heap.size ≤ w1.drew.heap.size from Nat.le_trans HB.out HP1.out.bel.size)
 refine sP (n := 7) (S := fun w' => w'.cell? ⟨g3, 8, none⟩ = some (.string nm)) (ds := []) (e8) (fun hHeld => ?_)
 refine pP 0 5 ?_
 refine pP 1 6 ?_
 refine pP 2 7 ?_
 refine pP 3 8 ?_
 refine tP 4 9 hHeld ?_
 refine pP 5 10 ?_
 refine oP 6 (some 11) fun K hK => ?_
 refine gP 59 Tryz.func59 #[.pointer (some ⟨g, 0, none⟩), .string (nm ++ (⟨#[40]⟩ : ByteArray))] ?_
 with_reducible refine (Nbb HP1.out.pr.drew (nm ++ (⟨#[40]⟩ : ByteArray)) HLS.out HSZ.out).mono ?_
 rintro en w2 ⟨rfl, hw⟩
 refine ⟨_, rfl, ?_⟩
 have HP2 := lh (HP1.out.drewn.trans hw)
 have J2 := lh (hw.far _ _ _ _ NE.out (by decide) (Nag J.out))
 clear hw
 refine hK.out _ _ ((Naa J2.out 8).trans rfl) (fun hHeld => ?_)
 clear hK K
 refine nP 11 ?_
 refine done_ (by kernel_rfl) ?_
 clear hHeld c1 c1f HSZ HLS e8 HP1 J
 have e9 : w2.cell? ⟨g3, 9, none⟩ = some (.int .i64 ar) := (Naa J2.out 9).trans rfl
 go_wp2_with (fail)
 clear e9
 have HST := lh (show (bs ++ txt [(3, nm), mk [40]]) ++ txt [] = bs ++ (nm ++ (⟨#[40]⟩ : ByteArray)).data.toList by rw [txt_open, Nd9, List.append_nil])
 generalize ((nm ++ (⟨#[40]⟩ : ByteArray)).size : Int) = sz
 go_loopg [14] k (fun jq v14 w' => ∃ (i b : Nat) (dn U : List Tk), v14 = .int .i64 i ∧ Hid (atkF L jq (decide (i = 0)) (ar - i) (l.drop b) = some (U, q)) ∧ Hid (dn ++ U = T) ∧ Hid (jq ≤ k) ∧ Hid (Wrote w0.heap.size w g ((bs ++ txt [(3, nm), mk [40]]) ++ txt dn) lv (b : Int) w') ∧ Hid (b ≤ l.length))
 case atStart => exact ⟨0, a, [], T, rfl, lh (by have h := HT.out; rw [show ar - ((0 : Nat) : Int) = ar by omega]; exact h), lh rfl, lh (Nat.le_refl _), lh (by rw [HST.out]; exact HP2.out), lh hal⟩
 case round =>
  clear HP2 HST J2 hHeld
  obtain ⟨i, b, dn, U, rfl, HR, HU, HK, HW, HI⟩ := hrel
  obtain ⟨j, hj⟩ : ∃ j, gk = j + 1 := by
   rcases gk with _ | j
   ·have h := HR.out; rw [atkF] at h; cases h
   ·exact ⟨j, rfl⟩
  subst hj
  have hr := HR.out
  rw [atkF] at hr
  by_cases hm : ar - (i : Int) ≤ 0
  ·rw [if_pos hm] at hr
   obtain ⟨rfl, rfl⟩ := Prod.mk.inj (sI hr)
   have b15 : decide ((i : Int) < ar) = false := decide_eq_false (by omega)
   have HL9 := lh (show ((bs ++ txt [(3, nm), mk [40]]) ++ txt dn).length + 1 ≤ 140737488355328 by have h := HLEN.out; have h2 := HU.out; rw [List.append_nil] at h2; rw [h2]; omega)
   have HDR := lh (show (l.length : Int) - (l.drop b).length = b by have := HI.out; rw [List.length_drop]; omega)
   clear hr hm HR
   go_upto_region 9 with (fail)
   go_wp2_with (go_at_call 58; (with_reducible refine (Nc5 HW.out.pr 41 (n := 41) rfl HL9.out (Nat.le_trans HB.out HW.out.bel.size)).mono ?_); rintro en w3 ⟨rfl, hw⟩; have HW3 := lh (HW.out.trans hw); clear hw)
   go_end0
   refine ⟨rfl, ?_⟩
   have h := HW3.out
   have h2 := HU.out
   rw [List.append_nil] at h2
   rw [HU0.out, HDR.out, ← h2, ← List.append_assoc, ← List.append_assoc]
   exact h
  ·rw [if_neg hm] at hr
   obtain ⟨⟨V1, q1⟩, hV1, hE1⟩ := Option.bind_eq_some_iff.1 hr
   obtain ⟨⟨V2, q2⟩, hV2, hE2⟩ := Option.map_eq_some_iff.1 hE1
   obtain ⟨rfl, rfl⟩ := Prod.mk.inj hE2
   have b15 : decide ((i : Int) < ar) = true := decide_eq_true (by omega)
   obtain ⟨p1, -, hp1⟩ := (tk_suf L j).1 _ _ _ _ hV1
   obtain ⟨hq1, hq2, hq3⟩ := drop_suf hp1
   have HQ2 := lh hq2
   have HV1 := lh hV1
   have HV2 := lh (show atkF L j false (ar - ((i + 1 : Nat) : Int)) (l.drop (l.length - q1.length)) = some (V2, q2) by rw [hq3, show ar - ((i + 1 : Nat) : Int) = ar - i - 1 by omega]; exact hV2)
   have hw1 : wrap64 ((i : Int) + 1) = (i : Int) + 1 := by have := HAR.out; unfold wrap64; omega
   have HJ := lh (HIH.out j (by have := HK.out; omega))
   clear hr hE1 hE2 hV1 hV2 hp1 hq1 hq2 hq3 hm HR
   by_cases hi : i = 0
   ·have hd : decide (i = 0) = true := decide_eq_true hi
    have b18 : decide (0 < i) = false := decide_eq_false (by omega)
    have HDD := lh (show dn ++ (V1 ++ V2) = T by have h2 := HU.out; rw [hd, if_pos rfl] at h2; exact h2)
    have HL9 := lh (show ((bs ++ txt [(3, nm), mk [40]]) ++ txt dn ++ txt V1).length ≤ 1000000000 by have h := HLEN.out; rw [← HDD.out] at h; simp only [Nca, List.length_append] at h ⊢; omega)
    clear hd hi HU
    go_wp2_with (fail)
    refine (HJ.out 1 _ g _ b V1 q1 ⟨HW.out.pr, HPB.out.trans HW.out.bel⟩ HV1.out HL9.out).mono ?_
    rintro en w4 ⟨rfl, hw⟩
    have HW4 := lh (HW.out.trans hw)
    clear hw
    go_wp2
    go_roundg j
    case measure => omega
    case rel => exact ⟨i + 1, l.length - q1.length, dn ++ V1, V2, by first | rw [hw1]; rfl | rfl, lh (by have h := HV2.out; rw [show decide (i + 1 = 0) = false from decide_eq_false (by omega)]; exact h), lh (by rw [← HDD.out, List.append_assoc]), lh (by have := HK.out; omega), lh (by rw [HQ2.out, Nca, ← List.append_assoc]; exact HW4.out), lh (by omega)⟩
   ·have hd : decide (i = 0) = false := decide_eq_false hi
    have b18 : decide (0 < i) = true := decide_eq_true (by omega)
    have HL9 := lh (show ((bs ++ txt [(3, nm), mk [40]]) ++ txt dn ++ [44] ++ txt V1).length ≤ 1000000000 by have h := HLEN.out; have h2 := HU.out; rw [← h2, hd, if_neg (by simp)] at h; simp only [Nca, Ncj, tk5, tk3, mk, mB, List.length_append, List.length_cons, List.length_nil] at h ⊢; omega)
    have HDD := lh (show dn ++ (mk [44] :: V1 ++ V2) = T by have h2 := HU.out; rw [hd, if_neg (by simp)] at h2; exact h2)
    have HTX := lh (show txt (dn ++ mk [44] :: V1) = txt dn ++ [44] ++ txt V1 by rw [Nca, Ncj]; simp [mk, mB, tk5])
    have HI0 := lh hi
    clear hd hi HU
    go_wp2_with ((go_at_call 58; (with_reducible refine (Nc5 HW.out.pr 44 (n := 44) rfl (by have h := HL9.out; simp only [List.length_append, List.length_cons, List.length_nil] at h ⊢; omega) (Nat.le_trans HB.out HW.out.bel.size)).mono ?_); rintro en w3 ⟨rfl, hw⟩; have HW3 := lh (HW.out.trans hw); clear hw))
    refine (HJ.out 1 _ g _ b V1 q1 ⟨HW3.out.pr, HPB.out.trans HW3.out.bel⟩ HV1.out HL9.out).mono ?_
    rintro en w4 ⟨rfl, hw⟩
    have HW4 := lh (HW3.out.trans hw)
    clear hw
    go_wp2
    go_roundg j
    case measure => omega
    case rel => exact ⟨i + 1, l.length - q1.length, dn ++ mk [44] :: V1, V2, by first | rw [hw1]; rfl | rfl, lh (by have h := HV2.out; rw [show decide (i + 1 = 0) = false from decide_eq_false (by omega)]; exact h), lh (by rw [← HDD.out]; simp), lh (by have := HK.out; omega), lh (by rw [HQ2.out, HTX.out, ← List.append_assoc, ← List.append_assoc]; exact HW4.out), lh (by omega)⟩
section
set_option maxHeartbeats 2000000
structure NodeW (n : S50) : Prop where
 op : n.f0 = 5 → Nei n.f2 = Nct n.f2
 nm : n.f3.size ≤ 100000
 ar : n.f4 ≤ 100000
 kd : n.f0 ≠ 1 → n.f0 ≠ 2 → n.f0 ≠ 3 → n.f0 ≠ 6 → n.f0 ≠ 5 → n.f0 = 4
theorem prints_all {w0 : World} {A : Option Addr} {c : Nat} {l : List S50} {L : Lf} (hC : Kd.C k50 w0 A l.length l) (hl : l.length ≤ 100000) (lf : ∀ n ∈ l, LeafW w0 (.slice A l.length c) L n) (nw : ∀ n ∈ l, NodeW n) : ∀ k, Prints w0 (.slice A l.length c) L l k := by
 intro k
 induction k using Nat.strongRecOn with
 | _ k ih =>
  cases k with
  | zero => intro least w g bs a T q hp ht hlen; rw [tkF] at ht; cases ht
  | succ k =>
   intro least w g bs a T q hp ht hlen
   have hal : a < l.length := by
    refine Nat.lt_of_not_le fun h => ?_
    rw [List.drop_eq_nil_of_le h, tkF] at ht
    cases ht
   have hx := List.drop_eq_getElem_cons hal
   obtain ⟨ad, cs, rfl, hcl, hK, hcell⟩ := Kd.C_get (Kd.C_below hC hp.bel) z50 (a : Int) (by omega) (by omega)
   rw [show l.getD ((a : Int)).toNat z50 = l[a] by simp [List.getD, hal]] at hK
   have hm : l[a] ∈ l := List.getElem_mem hal
   have h1 := lf _ hm
   have h2 := nw _ hm
   obtain rfl := Nek hK
   rw [hx] at ht
   generalize l[a] = x at *
   obtain ⟨k0, ⟨vk, ⟨vn, vd⟩, vt, vb, ve⟩, op, nm, ar, ⟨s5, r5, c5, p5, q5⟩, ⟨s6, r6, c6, p6, q6⟩⟩ := x
   exact node_one hp hal hl (ih k (Nat.lt_succ_self k)) (call_one (fun j hj => ih j (by omega)) hl) h1 h2.op h2.nm h2.ar h2.kd (fun j v hv => by rw [add_add]; exact hcell j v hv) ht hlen
theorem print_err {k : Nat} {A : Option Addr} {c : Nat} {l : List S50} {w : World} (hC : Kd.C k50 w A l.length l) (hc : l.length ≤ c) {e : Int} (hcc : Na7.f k l = some e) (he : e ≠ 0) :
 Calls Tryz.prog 26 #[.slice A l.length c] w fun en w' => en = .returned (.tuple #[.string ⟨#[]⟩, .int .i64 e]) ∧ Below w.heap.size w w' := by
 have HC := lh (Na7.calls k A c l e w hC hc hcc)
 have b2 : (e != 0) = true := bne_iff_ne.mpr he
 clear hC hcc hc he
 go_enter Tryz.func26, Tryz.ntmps26
 go_wp2_with (go_at_call 28; (with_reducible refine (HC.out).mono ?_); rintro en w1 ⟨rfl, hb⟩; have HB := lh hb; clear hb)
 go_ret2
 exact ⟨rfl, HB.out⟩
theorem print_ok {k k2 : Nat} {A : Option Addr} {c : Nat} {l : List S50} {w : World} (hG : GL w) (hC : Kd.C k50 w A l.length l) (hc : l.length ≤ c) (hl : l.length ≤ 100000) (hcc : Na7.f k l = some 0) {L : Lf} {T : List Tk}
 (lf : ∀ w0, GL w0 → ∀ n ∈ l, LeafW w0 (.slice A l.length c) L n) (nw : ∀ n ∈ l, NodeW n) (ht : tkF L k2 1 l = some (T, [])) (hlen : (txt T).length ≤ 1000000000) (hne : txt T ≠ []) :
 Calls Tryz.prog 26 #[.slice A l.length c] w fun en w' => en = .returned (.tuple #[.string ⟨(txt T).toArray⟩, .int .i64 0]) ∧ Below w.heap.size w w' := by
 have HC := lh (Na7.calls k A c l 0 w hC hc hcc)
 have HK := lh hC
 have HG := lh hG
 have HLF := lh lf
 have HNW := lh nw
 have HT := lh ht
 have HLEN := lh hlen
 have HL := lh hl
 have HNE := lh hne
 clear hC hcc hc hG lf nw ht hlen hl hne
 go_enter Tryz.func26, Tryz.ntmps26
 go_upto_region 5 with (first
  | (go_at_call 28; (with_reducible refine (HC.out).mono ?_); rintro en w1 ⟨rfl, hb⟩; have HB := lh hb; clear hb)
  | ((with_reducible refine gD 13 rfl ?_); refine bX 13 #[.pointer none, .slice none 0 0, .slice A l.length c, .int .i64 0] 87 ?_; intro g hg_ w2 hb_ hl_; have ZG := lh (show w1.heap.size ≤ g from hg_ ▸ Nat.le_refl _); have HB2 := lh hl_; have J := lh hb_; clear hb_ hl_ hg_))
 have HPR := lh (show Pr w1 (.slice A l.length c) w2 g [] ((0 : Nat) : Int) from ⟨⟨ZG.out, .pointer none, .slice none 0 0, .inl rfl, J.out, own_nil _ _ _ _, by simp [Value.ownBlock]⟩, HB2.out⟩)
 have HN := lh (prints_all (Kd.C_below HK.out HB.out) HL.out (HLF.out w1 (HG.out.below HB.out)) HNW.out k2 1 w2 g [] 0 T [] HPR.out (by rw [List.drop_zero]; exact HT.out) (by rw [List.nil_append]; exact HLEN.out))
 go_upto_region 6 with (go_at_call 50; (with_reducible refine (HN.out).mono ?_); rintro en w3 ⟨rfl, hw⟩; have HW := lh hw; clear hw)
 have HS := lh (string_some (l := txt T) (by have h := HW.out.pr; rw [List.nil_append] at h; exact h) HNE.out)
 have HBB := lh (Nab HB.out (HB2.out.trans (HW.out.bel.mono (by omega))))
 go_wp2_with (go_at_call 51; (with_reducible refine (HS.out).mono ?_); rintro en w4 ⟨rfl, hb⟩; have HB4 := lh hb; clear hb)
 go_ret2
 refine ⟨rfl, ?_⟩
 exact HBB.out.trans (HB4.out.mono (by have := HB.out.size; omega))
end
end Go.Proofs.YtejbbceidnaloaaGreatDoor.P
