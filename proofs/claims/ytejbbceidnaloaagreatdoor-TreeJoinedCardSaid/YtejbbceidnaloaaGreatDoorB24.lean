import Derived.Test.YtejbbceidnaloaaGreatDoorB15
set_option linter.unusedVariables false
set_option linter.unusedSimpArgs false
set_option maxRecDepth 100000
set_option maxHeartbeats 8000000
namespace Go.Proofs.YtejbbceidnaloaaGreatDoor.P
open Go.RowKit AW AL AM
def Nci.f  : Option (Int × Int × Int × ByteArray × Bool × Int) := some (0, 0, 0, (⟨#[]⟩ : ByteArray), false, 0)
theorem Nci.calls  (r1 : Int) (r2 : Int) (r3 : Int) (r4 : ByteArray) (r5 : Bool) (r6 : Int) (w : World) (h : Nci.f  = some (r1, r2, r3, r4, r5, r6)) :
 Calls Tryz.prog 185 #[] w fun e w' => e = .returned (.agg #[.int .i64 r1, .int .i64 r2, .int .i64 r3, .string r4, .bool r5, .int .i64 r6]) ∧ Below w.heap.size w w' := by
 have hu46 := Tryz.underlying46
 have HB := aM (Below.refl w.heap.size w)
 have H := h
 unfold Nci.f at H
 clear h
 simp only [sJ, pJ] at H
 obtain ⟨rfl, rfl, rfl, rfl, rfl, rfl⟩ := H
 go_enter Tryz.func185, Tryz.ntmps185
 go_wp2_with (first | ((with_reducible refine gD 0 rfl ?_); refine bX 0 #[.int .i64 0, .int .i64 0, .int .i64 0, .string ⟨#[]⟩, .bool false, .int .i64 0] 46 ?_; intro gb101 hg w1 hbox hb; replace HB := bK w hbox hg hb; obtain ⟨BK101, GW101, HB⟩ := HB; have GE101 := GW101; clear hb hbox hg; obtain ⟨hcz2_0, hcz2_1, hcz2_2, hcz2_3, hcz2_4, hcz2_5, hfz2_0, hfz2_1, hfz2_2, hfz2_3, hfz2_4, hfz2_5⟩ := bc6 BK101.out))
 refine bodyPost_ret (results_cell_row rfl _ _ gb101 46 #[.int .i64 0, .int .i64 0, .int .i64 0, .string ⟨#[]⟩, .bool false, .int .i64 0] (0, 0) _ rfl (bP BK101.out) Tryz.underlying46 rfl (by kernel_rfl)) rfl ?_
 exact ⟨eR, bE⟩
def Neb.f (k : Nat) (a0_0 a0_1 : Int) : Option (Int × Int) := (Na8.f k a0_0 a0_1).bind fun t103 => (if t103 = true then (some (a0_0, a0_1)) else (some (0, 1)))
theorem Neb.calls (k : Nat) (a0_0 a0_1 r1 r2 : Int) (w : World) (h : Neb.f k a0_0 a0_1 = some (r1, r2)) :
 Calls Tryz.prog 212 #[.agg #[.int .i64 a0_0, .int .i64 a0_1]] w fun e w' => e = .returned (.agg #[.int .i64 r1, .int .i64 r2]) ∧ Below w.heap.size w w' := by
 have hu44 := Tryz.underlying44
 have HB := aM (Below.refl w.heap.size w)
 have H := h
 unfold Neb.f at H
 clear h
 replace H := bS H
 obtain ⟨t103, A20, H⟩ := H
 try dsimp only at H
 have A2 := aM A20
 clear A20
 by_cases c3 : t103 = true
 ·subst c3
  rw [if_pos rfl] at H
  simp only [sJ, pJ] at H
  obtain ⟨rfl, rfl⟩ := H
  go_enter Tryz.func212, Tryz.ntmps212
  go_wp2_with (first | ((with_reducible refine gD 1 rfl ?_); refine bX 1 #[.int .i64 a0_0, .int .i64 a0_1] 44 ?_; intro gb101 hg w4 hbox hb; replace HB := bK w hbox hg hb; obtain ⟨BK101, GW101, HB⟩ := HB; have GE101 := GW101; clear hb hbox hg) | ((with_reducible refine gD 2 rfl ?_); refine bX 2 #[.int .i64 0, .int .i64 0] 44 ?_; intro gb102 hg w5 hbox hb; have BK102 := aM (hbox); have GW102 := aM ((by rw [hg]; exact (Nbc bE) : w.heap.size ≤ gb102)); have GE102 := GW102; have NB101_102 := aM ((by rw [hg]; exact Nat.ne_of_lt (Nbe BK101.out) : gb101 ≠ gb102)); have NB102_101 := aM ((by rw [hg]; exact Nat.ne_of_gt (Nbe BK101.out) : gb102 ≠ gb101)); replace BK101 := aM (Nad BK101.out hb); replace HB := aM (Nac bE hb); clear hb hbox hg; have hnb6 := NB101_102.out; have hnc6 := NB102_101.out; obtain ⟨hcz7_0, hcz7_1, hfz7_0, hfz7_1⟩ := bc2 BK101.out) | ((with_reducible refine gC 133 rfl ?_); refine gL 4 Tryz.func133 #[.agg #[.int .i64 a0_0, .int .i64 a0_1]] ?_; (with_reducible refine (Na8.calls k a0_0 a0_1 true _ A2.out).mono ?_); rintro e w8 ⟨rfl, hb⟩; refine ⟨_, rfl, ?_⟩; replace BK101 := aM (Nad BK101.out hb); replace BK102 := aM (Nad BK102.out hb); replace HB := aM (Nac bE hb); (try clear hb); obtain ⟨hcz9_0, hcz9_1, hfz9_0, hfz9_1⟩ := bc2 BK101.out; obtain ⟨hcz10_0, hcz10_1, hfz10_0, hfz10_1⟩ := bc2 BK102.out))
  refine bodyPost_ret (results_cell_row rfl _ _ gb102 44 #[.int .i64 a0_0, .int .i64 a0_1] (0, 0) _ rfl (bP BK102.out) Tryz.underlying44 rfl (by kernel_rfl)) rfl ?_
  exact ⟨eR, bE⟩
 ·replace c3 := Bool.eq_false_iff.mpr c3
  subst c3
  rw [if_neg fT] at H
  simp only [sJ, pJ] at H
  obtain ⟨rfl, rfl⟩ := H
  go_enter Tryz.func212, Tryz.ntmps212
  go_wp2_with (first | ((with_reducible refine gD 1 rfl ?_); refine bX 1 #[.int .i64 a0_0, .int .i64 a0_1] 44 ?_; intro gb101 hg w11 hbox hb; replace HB := bK w hbox hg hb; obtain ⟨BK101, GW101, HB⟩ := HB; have GE101 := GW101; clear hb hbox hg) | ((with_reducible refine gD 2 rfl ?_); refine bX 2 #[.int .i64 0, .int .i64 0] 44 ?_; intro gb102 hg w12 hbox hb; have BK102 := aM (hbox); have GW102 := aM ((by rw [hg]; exact (Nbc bE) : w.heap.size ≤ gb102)); have GE102 := GW102; have NB101_102 := aM ((by rw [hg]; exact Nat.ne_of_lt (Nbe BK101.out) : gb101 ≠ gb102)); have NB102_101 := aM ((by rw [hg]; exact Nat.ne_of_gt (Nbe BK101.out) : gb102 ≠ gb101)); replace BK101 := aM (Nad BK101.out hb); replace HB := aM (Nac bE hb); clear hb hbox hg; have hnb13 := NB101_102.out; have hnc13 := NB102_101.out; obtain ⟨hcz14_0, hcz14_1, hfz14_0, hfz14_1⟩ := bc2 BK101.out) | ((with_reducible refine gC 133 rfl ?_); refine gL 4 Tryz.func133 #[.agg #[.int .i64 a0_0, .int .i64 a0_1]] ?_; (with_reducible refine (Na8.calls k a0_0 a0_1 false _ A2.out).mono ?_); rintro e w15 ⟨rfl, hb⟩; refine ⟨_, rfl, ?_⟩; replace BK101 := aM (Nad BK101.out hb); replace BK102 := aM (Nad BK102.out hb); replace HB := aM (Nac bE hb); (try clear hb); obtain ⟨hcz16_0, hcz16_1, hfz16_0, hfz16_1⟩ := bc2 BK102.out))
  refine bodyPost_ret (results_cell_row rfl _ _ gb102 44 #[.int .i64 0, .int .i64 1] (0, 0) _ rfl (bP BK102.out) Tryz.underlying44 rfl (by kernel_rfl)) rfl ?_
  exact ⟨eR, bE⟩
def Naq.j0 : Nat → Int → ByteArray → Int → Int → Option (ByteArray)
 | 0, _, _, _, _ => none
 | k + 1, x3, x4, x102000, x102001 => if x102001 = 0 then (none) else (if ((1000000 : Int) % x102001) = 0 then ((Nau.f (wrap64 (Int.tdiv x3 x102001))).bind fun t107 => (if x4.size + t107.size ≤ 9223372036854775807 then (if x102001 = 1 then (some (x4 ++ t107)) else ((Nau.f (wrap64 (1000000 + (wrap64 ((Int.tmod x3 x102001) * (wrap64 ((1000000 : Int) / x102001))))))).bind fun t108 => (if (x4 ++ t107).size + 1 ≤ 9223372036854775807 then (if 1 ≤ (t108.size : Int) then ((Nbt.f (t108.extract 1 t108.size) (⟨#[48]⟩ : ByteArray)).bind fun t109 => (if ((x4 ++ t107) ++ (⟨#[46]⟩ : ByteArray)).size + t109.size ≤ 9223372036854775807 then (some (((x4 ++ t107) ++ (⟨#[46]⟩ : ByteArray)) ++ t109)) else (none))) else (none)) else (none)))) else (none))) else ((Nau.f x3).bind fun t105 => (if x4.size + t105.size ≤ 9223372036854775807 then (if (x4 ++ t105).size + 1 ≤ 9223372036854775807 then ((Nau.f x102001).bind fun t106 => (if ((x4 ++ t105) ++ (⟨#[47]⟩ : ByteArray)).size + t106.size ≤ 9223372036854775807 then (some (((x4 ++ t105) ++ (⟨#[47]⟩ : ByteArray)) ++ t106)) else (none))) else (none)) else (none))))
def Naq.f (k : Nat) (a0_0 a0_1 : Int) : Option (ByteArray) := (Neb.f k a0_0 a0_1).bind fun bt102 => ((Nbo.f bt102.1).bind fun t104 => (if bt102.1 < 0 then (Naq.j0 k (wrap64 (t104)) (⟨#[45]⟩ : ByteArray) bt102.1 bt102.2) else (Naq.j0 k (wrap64 (t104)) (⟨#[]⟩ : ByteArray) bt102.1 bt102.2)))
def Naq.T6 : Bool × List (List Nat × List Nat) := (true, [([], []), ([], []), ([1], [1]), ([0, 2], [0, 2]), ([3], [3]), ([], []), ([5], [5]), ([6, 2], [6]), ([4, 7], [4, 7]), ([8, 7, 0, 1, 2, 3, 4, 5, 6, 7, 8], [8])])
def Naq.B6 : List Nat := [0, 0, 2, 7, 15, 0, 32, 102, 255, 511]
theorem Naq.tab6 : rtab .any (opsOf Tryz.f188 6) = Naq.T6 := by kernel_rfl
theorem Naq.bits6 : Ne3 Naq.T6.2 Naq.B6 = true := by kernel_rfl
def Naq.T10 : Bool × List (List Nat × List Nat) := (true, [([], []), ([], []), ([1], [1]), ([0, 2], [0, 2]), ([], []), ([4], [4]), ([5], [5]), ([3, 6], [3, 6]), ([7], [7]), ([8], [8]), ([9, 9, 0, 1, 2, 3, 4, 5, 6, 7, 8, 9], [9])])
def Naq.B10 : List Nat := [0, 0, 2, 7, 0, 16, 48, 127, 255, 511, 1023]
theorem Naq.tab10 : rtab .any (opsOf Tryz.f188 10) = Naq.T10 := by kernel_rfl
theorem Naq.bits10 : Ne3 Naq.T10.2 Naq.B10 = true := by kernel_rfl
theorem Naq.calls (k : Nat) (a0_0 a0_1 : Int) (r : ByteArray) (w : World) (hG : GL w) (h : Naq.f k a0_0 a0_1 = some r) :
 Calls Tryz.prog 188 #[.agg #[.int .i64 a0_0, .int .i64 a0_1]] w fun e w' => e = .returned (.string r) ∧ Below w.heap.size w w' := by
 have hu44 := Tryz.underlying44
 have HB := aM (Below.refl w.heap.size w)
 have H := h
 unfold Naq.f at H
 clear h
 replace H := bS H
 obtain ⟨⟨t102, t103⟩, A20, H⟩ := H
 try dsimp only at H
 have A2 := aM A20
 clear A20
 replace H := bS H
 obtain ⟨t104, A30, H⟩ := H
 try dsimp only at H
 have A3 := aM A30
 clear A30
 have HC4 := aM H
 clear H
 go_enter Tryz.func188, Tryz.ntmps188
 go_upto_if 14 with (first | ((with_reducible refine gD 1 rfl ?_); refine bX 1 #[.int .i64 a0_0, .int .i64 a0_1] 44 ?_; intro gb101 hg w5 hbox hb; replace HB := bK w hbox hg hb; obtain ⟨BK101, GW101, HB⟩ := HB; have GE101 := GW101; clear hb hbox hg; obtain ⟨hcz6_0, hcz6_1, hfz6_0, hfz6_1⟩ := bc2 BK101.out) | ((with_reducible refine gC 212 rfl ?_); refine gL 7 Tryz.func212 #[.agg #[.int .i64 a0_0, .int .i64 a0_1]] ?_; (with_reducible refine (Neb.calls k a0_0 a0_1 t102 t103 _ A2.out).mono ?_); rintro e w7 ⟨rfl, hb⟩; refine ⟨_, rfl, ?_⟩; replace BK101 := aM (Nad (g := gb101) (o := .cells #[.int .i64 a0_0, .int .i64 a0_1] 44 (0, 0)) (bd BK101.out) hb); replace HB := aM (Nac bE hb); (try clear hb); obtain ⟨hcz8_0, hcz8_1, hfz8_0, hfz8_1⟩ := bc2 BK101.out) | ((with_reducible refine gC 167 rfl ?_); refine gL 10 Tryz.func167 #[.int .i64 t102] ?_; (with_reducible refine (Nbo.calls t102 t104 _ A3.out).mono ?_); rintro e w' ⟨rfl, ⟨nd, rfl⟩⟩; refine ⟨_, rfl, ?_⟩))
 (try simp only [Act.put, List.setIfInBounds_toArray, List.set_cons_zero, List.set_cons_succ])
 go_cut [4] (fun v4 wc => ∃ (kq : Nat) (x4_3 : ByteArray), v4 = .string x4_3 ∧ Nai (Naq.j0 kq (wrap64 (t104)) x4_3 t102 t103 = some r) ∧ Nai (kq ≤ k) ∧ Nai (wc.heap[gb101]? = some (.cells #[.int .i64 t102, .int .i64 t103] 44 (0, 0))) ∧ Nai (Below w.heap.size w wc))
 case first =>
  have H := HC4.out
  clear HC4
  by_cases c9 : t102 < 0
  ·rw [if_pos c9] at H
   have c9b0 : decide (t102 < 0) = true := decide_eq_true c9
   clear c9
   (first | rw [c9b0] | (simp only [i64_w, i32_w]; rw [c9b0]) | skip)
   have H' := aM H
   clear H
   go_wp2
   go_meet
   case rel => exact ⟨_, ((⟨#[45]⟩ : ByteArray)), (by first | rfl | (simp; done) | (simp [*]; done)), H', ⟨by first | omega | exact Nat.le_refl _⟩, ⟨bP BK101.out⟩, ⟨bE⟩⟩
  ·rw [if_neg c9] at H
   have c9b0 : decide (t102 < 0) = false := decide_eq_false c9
   clear c9
   (first | rw [c9b0] | (simp only [i64_w, i32_w]; rw [c9b0]) | skip)
   have H' := aM H
   clear H
   go_wp2
   go_meet
   case rel => exact ⟨_, ((⟨#[]⟩ : ByteArray)), (by first | rfl | (simp; done) | (simp [*]; done)), H', ⟨by first | omega | exact Nat.le_refl _⟩, ⟨bP BK101.out⟩, ⟨bE⟩⟩
 case rest =>
  clear HC4
  try clear c1
  try clear c2
  try clear p2
  try clear p6
  try clear c9
  try clear c9b0
  try clear hcz6_0
  try clear hcz6_1
  try clear hcz8_0
  try clear hcz8_1
  try clear hfz6_0
  try clear hfz6_1
  try clear hfz8_0
  try clear hfz8_1
  obtain ⟨kq, x4_3, rfl, HA, HJ3, BK101, HB⟩ := hcut
  cases kq with
  | zero => exact absurd HA.out (by simp [Naq.j0])
  | succ kj3 =>
   have H := HA.out
   clear HA
   simp only [Naq.j0] at H
   by_cases c10 : t103 = 0
   ·rw [if_pos c10] at H
    exact absurd H (by simp)
   ·rw [if_neg c10] at H
    obtain ⟨c10b0, c10b1⟩ := bqF c10
    by_cases c11 : ((1000000 : Int) % t103) = 0
    ·rw [if_pos c11] at H
     obtain ⟨c11b0, c11b1⟩ := bqT c11
     clear c11
     replace H := bS H
     obtain ⟨t107, A120, H⟩ := H
     try dsimp only at H
     have A12 := aM A120
     clear A120
     by_cases c13 : x4_3.size + t107.size ≤ 9223372036854775807
     ·rw [if_pos c13] at H
      have c13b0 := eq_true c13
      have c13b1 : decide (x4_3.size + t107.size ≤ 9223372036854775807) = true := decide_eq_true c13
      try have c13b2 : (9223372036854775807 < x4_3.size + t107.size) = False := eq_false (Nat.not_lt.2 c13)
      by_cases c14 : t103 = 1
      ·rw [if_pos c14] at H
       obtain ⟨c14b0, c14b1⟩ := bqT c14
       clear c14
       obtain rfl := sI H
       have hcz15_0 : wc.cell? ⟨gb101, 0, none⟩ = some (.int .i64 t102) := (Naa BK101.out 0).trans rfl
       have hcz15_1 : wc.cell? ⟨gb101, 1, none⟩ = some (.int .i64 t103) := (Naa BK101.out 1).trans rfl
       have hfz15_0 := Naf BK101.out 0
       have hfz15_1 := Naf BK101.out 1
       go_wp2_with (first | ((with_reducible refine gC 150 rfl ?_); refine gL 33 Tryz.func150 #[.int .i64 (wrap64 (Int.tdiv (wrap64 (t104)) t103))] ?_; (with_reducible refine (Nau.calls (wrap64 (Int.tdiv (wrap64 (t104)) t103)) t107 _ ?side1 A12.out).mono ?_); (case side1 => exact GL.below hG bE); rintro e w16 ⟨rfl, hb⟩; refine ⟨_, rfl, ?_⟩; replace BK101 := aM (Nad (g := gb101) (o := .cells #[.int .i64 t102, .int .i64 t103] 44 (0, 0)) (bd BK101.out) hb); replace HB := aM (Nac bE hb); (try clear hb); obtain ⟨hcz17_0, hcz17_1, hfz17_0, hfz17_1⟩ := bc2 BK101.out))
       go_ret
       exact ⟨eR, bE⟩
      ·rw [if_neg c14] at H
       obtain ⟨c14b0, c14b1⟩ := bqF c14
       replace H := bS H
       obtain ⟨t108, A180, H⟩ := H
       try dsimp only at H
       have A18 := aM A180
       clear A180
       by_cases c19 : (x4_3 ++ t107).size + 1 ≤ 9223372036854775807
       ·rw [if_pos c19] at H
        have c19b0 := eq_true c19
        have c19s : (9223372036854775807 < x4_3.size + t107.size + 1) = False := by have hh := c19; (try simp only [ByteArray.size_append] at hh); exact eq_false (Nat.not_lt.2 hh)
        have c19b1 : decide ((x4_3 ++ t107).size + 1 ≤ 9223372036854775807) = true := decide_eq_true c19
        try have c19b2 : (9223372036854775807 < (x4_3 ++ t107).size + 1) = False := eq_false (Nat.not_lt.2 c19)
        by_cases c20 : 1 ≤ (t108.size : Int)
        ·rw [if_pos c20] at H
         have c20b0 := eq_true c20
         have c20b1 : decide (1 ≤ (t108.size : Int)) = true := decide_eq_true c20
         clear c20
         replace H := bS H
         obtain ⟨t109, A210, H⟩ := H
         try dsimp only at H
         have A21 := aM A210
         clear A210
         by_cases c22 : ((x4_3 ++ t107) ++ (⟨#[46]⟩ : ByteArray)).size + t109.size ≤ 9223372036854775807
         ·rw [if_pos c22] at H
          have c22b0 := eq_true c22
          have c22s : (9223372036854775807 < x4_3.size + t107.size + 1 + t109.size) = False := by have hh := c22; (try simp only [ByteArray.size_append] at hh); exact eq_false (Nat.not_lt.2 hh)
          have c22b1 : decide (((x4_3 ++ t107) ++ (⟨#[46]⟩ : ByteArray)).size + t109.size ≤ 9223372036854775807) = true := decide_eq_true c22
          try have c22b2 : (9223372036854775807 < ((x4_3 ++ t107) ++ (⟨#[46]⟩ : ByteArray)).size + t109.size) = False := eq_false (Nat.not_lt.2 c22)
          obtain rfl := sI H
          have hcz23_0 : wc.cell? ⟨gb101, 0, none⟩ = some (.int .i64 t102) := (Naa BK101.out 0).trans rfl
          have hcz23_1 : wc.cell? ⟨gb101, 1, none⟩ = some (.int .i64 t103) := (Naa BK101.out 1).trans rfl
          have hfz23_0 := Naf BK101.out 0
          have hfz23_1 := Naf BK101.out 1
          try go_wp2_with (first | ((with_reducible refine gC 150 rfl ?_); refine gL 33 Tryz.func150 #[.int .i64 (wrap64 (Int.tdiv (wrap64 (t104)) t103))] ?_; (with_reducible refine (Nau.calls (wrap64 (Int.tdiv (wrap64 (t104)) t103)) t107 _ ?side1 A12.out).mono ?_); (case side1 => exact GL.below hG bE); rintro e w24 ⟨rfl, hb⟩; refine ⟨_, rfl, ?_⟩; replace BK101 := aM (Nad (g := gb101) (o := .cells #[.int .i64 t102, .int .i64 t103] 44 (0, 0)) (bd BK101.out) hb); replace HB := aM (Nac bE hb); (try clear hb); obtain ⟨hcz25_0, hcz25_1, hfz25_0, hfz25_1⟩ := bc2 BK101.out))
          have n0_ := aM (Nag BK101.out)
          have n1_ := aM (Nbp HB.out)
          clear BK101
          clear HB
          have BK101 := n0_
          have HB := n1_
          clear n0_ n1_
          refine sP (n := 11) (S := fun w' => w'.cell? ⟨gb101, 0, none⟩ = some (.int .i64 t102) ∧ w'.cell? ⟨gb101, 1, none⟩ = some (.int .i64 t103)) (ds := []) ⟨(Naa BK101.out 0).trans rfl, (Naa BK101.out 1).trans rfl⟩ (fun hHeld => ?_); refine with_tabW Naq.tab10 Naq.bits10 (fun HT_ HW_ => ?_)
          generalize w24.drew = w26 at BK101 HB hHeld ⊢
          refine pP 0 39 ?_ (hc := Nc8 HT_.out (by kernel_rfl))
          refine pP 1 40 ?_ (hc := Nc8 HT_.out (by kernel_rfl))
          refine pP 4 43 ?_ (hc := Nc8 HT_.out (by kernel_rfl))
          refine tP 2 41 hHeld ?_ (hc := take_ofW HT_.out HW_.out (by kernel_rfl))
          refine pP 3 42 ?_ (hc := Nc8 HT_.out (by kernel_rfl))
          refine tP 5 44 hHeld ?_ (hc := take_ofW HT_.out HW_.out (by kernel_rfl))
          refine pP 6 45 ?_ (hc := Nc8 HT_.out (by kernel_rfl))
          refine pP 7 46 ?_ (hc := Nc8 HT_.out (by kernel_rfl))
          refine pP 8 47 ?_ (hc := Nc8 HT_.out (by kernel_rfl))
          refine oP 9 (some 48) (fun K hK => ?_) (hc := one_of HT_.out (by kernel_rfl))
          refine goes_ Tryz.func150 (by kernel_rfl) rfl #[.int .i64 (wrap64 (1000000 + (wrap64 ((Int.tmod (wrap64 (t104)) t103) * (wrap64 ((1000000 : Int) / t103))))))] (by rfl) rfl rfl (by (try simp only [List.map_toArray, List.map_cons, List.map_nil]); first | done | rfl | (simp [Act.eval, Int.tdiv_eq_ediv_of_nonneg (show (0:Int) ≤ 1000000 by decide)]; done)) ?_
          with_reducible refine (Nau.calls (wrap64 (1000000 + (wrap64 ((Int.tmod (wrap64 (t104)) t103) * (wrap64 ((1000000 : Int) / t103)))))) t108 _ ?side1 A18.out).mono ?_
          (case side1 => exact GL.below hG bE)
          rintro e w27 ⟨rfl, hb⟩
          refine ⟨_, rfl, ?_⟩
          have n0_ := aM (Nad (g := gb101) (o := .cells #[.int .i64 t102, .int .i64 t103] 44 (0, 0)) (bd BK101.out) hb)
          have n1_ := aM (Nac bE hb)
          clear BK101
          clear HB
          have BK101 := n0_
          have HB := n1_
          clear n0_ n1_
          (try clear hb)
          refine hK.out _ _ ⟨(Naa BK101.out 0).trans rfl, (Naa BK101.out 1).trans rfl⟩ (fun hHeld => ?_)
          clear hK K
          refine nP 48 ?_
          refine pP 10 5 ?_ (hc := Nc8 HT_.out (by kernel_rfl))
          refine done_ (done_of HT_.out (by kernel_rfl)) ?_
          try go_wp2_with (first | ((with_reducible refine gC 213 rfl ?_); refine gL 53 Tryz.func213 #[.string (t108.extract 1 t108.size), .string (⟨#[48]⟩ : ByteArray)] ?_; (with_reducible refine (Nbt.calls (t108.extract 1 t108.size) (⟨#[48]⟩ : ByteArray) t109 _ A21.out).mono ?_); rintro e w' ⟨rfl, ⟨nd, rfl⟩⟩; refine ⟨_, rfl, ?_⟩))
          go_ret
          exact ⟨eR, bE⟩
         ·rw [if_neg c22] at H
          exact absurd H (by simp)
        ·rw [if_neg c20] at H
         exact absurd H (by simp)
       ·rw [if_neg c19] at H
        exact absurd H (by simp)
     ·rw [if_neg c13] at H
      exact absurd H (by simp)
    ·rw [if_neg c11] at H
     obtain ⟨c11b0, c11b1⟩ := bqF c11
     replace H := bS H
     obtain ⟨t105, A280, H⟩ := H
     try dsimp only at H
     have A28 := aM A280
     clear A280
     by_cases c29 : x4_3.size + t105.size ≤ 9223372036854775807
     ·rw [if_pos c29] at H
      have c29b0 := eq_true c29
      have c29b1 : decide (x4_3.size + t105.size ≤ 9223372036854775807) = true := decide_eq_true c29
      try have c29b2 : (9223372036854775807 < x4_3.size + t105.size) = False := eq_false (Nat.not_lt.2 c29)
      by_cases c30 : (x4_3 ++ t105).size + 1 ≤ 9223372036854775807
      ·rw [if_pos c30] at H
       have c30b0 := eq_true c30
       have c30s : (9223372036854775807 < x4_3.size + t105.size + 1) = False := by have hh := c30; (try simp only [ByteArray.size_append] at hh); exact eq_false (Nat.not_lt.2 hh)
       have c30b1 : decide ((x4_3 ++ t105).size + 1 ≤ 9223372036854775807) = true := decide_eq_true c30
       try have c30b2 : (9223372036854775807 < (x4_3 ++ t105).size + 1) = False := eq_false (Nat.not_lt.2 c30)
       replace H := bS H
       obtain ⟨t106, A310, H⟩ := H
       try dsimp only at H
       have A31 := aM A310
       clear A310
       by_cases c32 : ((x4_3 ++ t105) ++ (⟨#[47]⟩ : ByteArray)).size + t106.size ≤ 9223372036854775807
       ·rw [if_pos c32] at H
        have c32b0 := eq_true c32
        have c32s : (9223372036854775807 < x4_3.size + t105.size + 1 + t106.size) = False := by have hh := c32; (try simp only [ByteArray.size_append] at hh); exact eq_false (Nat.not_lt.2 hh)
        have c32b1 : decide (((x4_3 ++ t105) ++ (⟨#[47]⟩ : ByteArray)).size + t106.size ≤ 9223372036854775807) = true := decide_eq_true c32
        try have c32b2 : (9223372036854775807 < ((x4_3 ++ t105) ++ (⟨#[47]⟩ : ByteArray)).size + t106.size) = False := eq_false (Nat.not_lt.2 c32)
        obtain rfl := sI H
        have hcz33_0 : wc.cell? ⟨gb101, 0, none⟩ = some (.int .i64 t102) := (Naa BK101.out 0).trans rfl
        have hcz33_1 : wc.cell? ⟨gb101, 1, none⟩ = some (.int .i64 t103) := (Naa BK101.out 1).trans rfl
        have hfz33_0 := Naf BK101.out 0
        have hfz33_1 := Naf BK101.out 1
        try go_wp2
        have n0_ := aM (Nag BK101.out)
        have n1_ := aM (Nbp HB.out)
        clear BK101
        clear HB
        have BK101 := n0_
        have HB := n1_
        clear n0_ n1_
        refine sP (n := 10) (S := fun w' => w'.cell? ⟨gb101, 0, none⟩ = some (.int .i64 t102) ∧ w'.cell? ⟨gb101, 1, none⟩ = some (.int .i64 t103)) (ds := []) ⟨(Naa BK101.out 0).trans rfl, (Naa BK101.out 1).trans rfl⟩ (fun hHeld => ?_); refine with_tabW Naq.tab6 Naq.bits6 (fun HT_ HW_ => ?_)
        generalize wc.drew = w34 at BK101 HB hHeld ⊢
        refine pP 0 19 ?_ (hc := Nc8 HT_.out (by kernel_rfl))
        refine pP 1 20 ?_ (hc := Nc8 HT_.out (by kernel_rfl))
        refine pP 5 24 ?_ (hc := Nc8 HT_.out (by kernel_rfl))
        refine tP 6 25 hHeld ?_ (hc := take_ofW HT_.out HW_.out (by kernel_rfl))
        refine oP 2 (some 21) (fun K hK => ?_) (hc := one_of HT_.out (by kernel_rfl))
        refine gP 150 Tryz.func150 #[.int .i64 (wrap64 (t104))] ?_
        with_reducible refine (Nau.calls (wrap64 (t104)) t105 _ ?side1 A28.out).mono ?_
        (case side1 => exact GL.below hG bE)
        rintro e w35 ⟨rfl, hb⟩
        refine ⟨_, rfl, ?_⟩
        have n0_ := aM (Nad (g := gb101) (o := .cells #[.int .i64 t102, .int .i64 t103] 44 (0, 0)) (bd BK101.out) hb)
        have n1_ := aM (Nac bE hb)
        clear BK101
        clear HB
        have BK101 := n0_
        have HB := n1_
        clear n0_ n1_
        (try clear hb)
        refine hK.out _ _ ⟨(Naa BK101.out 0).trans rfl, (Naa BK101.out 1).trans rfl⟩ (fun hHeld => ?_)
        clear hK K
        refine nP 21 ?_
        refine pP 3 22 ?_ (hc := Nc8 HT_.out (by kernel_rfl))
        refine pP 4 23 ?_ (hc := Nc8 HT_.out (by kernel_rfl))
        refine oP 7 (some 26) (fun K hK => ?_) (hc := one_of HT_.out (by kernel_rfl))
        refine gP 150 Tryz.func150 #[.int .i64 t103] ?_
        with_reducible refine (Nau.calls t103 t106 _ ?side1 A31.out).mono ?_
        (case side1 => exact GL.below hG bE)
        rintro e w36 ⟨rfl, hb⟩
        refine ⟨_, rfl, ?_⟩
        have n0_ := aM (Nad (g := gb101) (o := .cells #[.int .i64 t102, .int .i64 t103] 44 (0, 0)) (bd BK101.out) hb)
        have n1_ := aM (Nac bE hb)
        clear BK101
        clear HB
        have BK101 := n0_
        have HB := n1_
        clear n0_ n1_
        (try clear hb)
        refine hK.out _ _ ⟨(Naa BK101.out 0).trans rfl, (Naa BK101.out 1).trans rfl⟩ (fun hHeld => ?_)
        clear hK K
        refine nP 26 ?_
        refine pP 8 27 ?_ (hc := Nc8 HT_.out (by kernel_rfl))
        refine pP 9 2 ?_ (hc := Nc8 HT_.out (by kernel_rfl))
        refine done_ (done_of HT_.out (by kernel_rfl)) ?_
        try go_wp2
        go_ret
        exact ⟨eR, bE⟩
       ·rw [if_neg c32] at H
        exact absurd H (by simp)
      ·rw [if_neg c30] at H
       exact absurd H (by simp)
     ·rw [if_neg c29] at H
      exact absurd H (by simp)
end Go.Proofs.YtejbbceidnaloaaGreatDoor.P
