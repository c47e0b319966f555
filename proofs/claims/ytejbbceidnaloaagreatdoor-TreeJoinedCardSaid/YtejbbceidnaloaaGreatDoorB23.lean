import Derived.Test.YtejbbceidnaloaaGreatDoorB15
import Derived.Test.YtejbbceidnaloaaGreatDoorB22
set_option linter.unusedVariables false
set_option linter.unusedSimpArgs false
set_option maxRecDepth 100000
set_option maxHeartbeats 8000000
namespace Go.Proofs.YtejbbceidnaloaaGreatDoor.P
open Go.RowKit AW AL AM
mutual
def Na7.j0 : Nat → Bool → Int → ByteArray → Int → Bool → Option (Int × Int × Bool)
 | 0, _, _, _, _, _ => none
 | k + 1, x4, x5, x6, x9, x44 => if x44 = true then (some (0, 0, false)) else (if 0 < (x6.size : Int) then (if (bt x6 0) = 47 then (if x4 = true then ((Nbh.f k (wrap64 (-x5)) x9).bind fun bt116 => (some (bt116.1, bt116.2.1, bt116.2.2))) else ((Nbh.f k x5 x9).bind fun bt119 => (some (bt119.1, bt119.2.1, bt119.2.2)))) else (if (bt x6 0) = 46 then (if (x6.size : Int) > 7 then (Na7.j1 k x4 x5 x6 x9 true) else (Na7.j1 k x4 x5 x6 x9 (decide (x5 > 1000000000000)))) else (Na7.j1 k x4 x5 x6 x9 true))) else (none))
def Na7.j1 : Nat → Bool → Int → ByteArray → Int → Bool → Option (Int × Int × Bool)
 | 0, _, _, _, _, _ => none
 | k + 1, x4, x5, x6, x9, x57 => if x57 = true then (some (0, 0, false)) else ((Nbw.f k (wrap64 ((x6.size : Int) - 1))).bind fun t122 => (if x4 = true then ((Nbh.f k (wrap64 (-(wrap64 ((wrap64 (x5 * t122)) + x9)))) t122).bind fun bt123 => (some (bt123.1, bt123.2.1, bt123.2.2))) else ((Nbh.f k (wrap64 ((wrap64 (x5 * t122)) + x9)) t122).bind fun bt126 => (some (bt126.1, bt126.2.1, bt126.2.2)))))
end
def Na7.f (k : Nat) (a0 : ByteArray) : Option (Int × Int × Bool) := (strings_CutPrefix.f a0 (⟨#[45]⟩ : ByteArray)).bind fun bt102 => ((Nar.f k bt102.1).bind fun bt104 => (if bt104.2.2 = true then (if bt104.2.1.toList = ([] : List UInt8) then (if bt102.2 = true then ((Nbh.f k (wrap64 (-bt104.1)) 1).bind fun bt107 => (some (bt107.1, bt107.2.1, bt107.2.2))) else ((Nbh.f k bt104.1 1).bind fun bt110 => (some (bt110.1, bt110.2.1, bt110.2.2)))) else (if 1 ≤ (bt104.2.1.size : Int) then ((Nar.f k (bt104.2.1.extract 1 bt104.2.1.size)).bind fun bt113 => (if bt113.2.2 = true then (Na7.j0 k bt102.2 bt104.1 bt104.2.1 bt113.1 (bt113.2.1.toList != ([] : List UInt8))) else (Na7.j0 k bt102.2 bt104.1 bt104.2.1 bt113.1 true))) else (none))) else (some (0, 0, false))))
theorem Na7.calls (k : Nat) (a0 : ByteArray) (r1 r2 : Int) (r3 : Bool) (w : World) (h : Na7.f k a0 = some (r1, r2, r3)) :
 Calls Tryz.prog 179 #[.string a0] w fun e w' => e = .returned (.tuple #[.agg #[.int .i64 r1, .int .i64 r2], .bool r3]) ∧ Below w.heap.size w w' := by
 have hu44 := Tryz.underlying44
 have HB := aM (Below.refl w.heap.size w)
 have H := h
 unfold Na7.f at H
 clear h
 replace H := bS H
 obtain ⟨⟨t102, t103⟩, A20, H⟩ := H
 try dsimp only at H
 have A2 := aM A20
 clear A20
 replace H := bS H
 obtain ⟨⟨t104, t105, t106⟩, A30, H⟩ := H
 try dsimp only at H
 have A3 := aM A30
 clear A30
 by_cases c4 : t106 = true
 ·subst c4
  rw [if_pos rfl] at H
  by_cases c5 : t105.toList = ([] : List UInt8)
  ·rw [if_pos c5] at H
   obtain ⟨c5b0, c5b1⟩ := bqT c5
   clear c5
   by_cases c6 : t103 = true
   ·subst c6
    rw [if_pos rfl] at H
    replace H := bS H
    obtain ⟨⟨t107, t108, t109⟩, A70, H⟩ := H
    try dsimp only at H
    have A7 := aM A70
    clear A70
    simp only [sJ, pJ] at H
    obtain ⟨rfl, rfl, rfl⟩ := H
    go_enter Tryz.func179, Tryz.ntmps179
    go_wp2_with (first | ((with_reducible refine gD 2 rfl ?_); (try (refine Nck (by rfl) ?_; dsimp only)); refine bX 2 #[.int .i64 0, .int .i64 0] 44 ?_; intro gb101 hg w8 hbox hb; replace HB := bK w hbox hg hb; obtain ⟨BK101, GW101, HB⟩ := HB; have GE101 := GW101; clear hb hbox hg) | ((with_reducible refine gC 64 rfl ?_); refine gL 14 Tryz.func64 #[.string a0, .string (⟨#[45]⟩ : ByteArray)] ?_; (with_reducible refine (strings_CutPrefix.calls a0 (⟨#[45]⟩ : ByteArray) t102 true _ A2.out).mono ?_); rintro e w' ⟨rfl, ⟨nd, rfl⟩⟩; refine ⟨_, rfl, ?_⟩; (try (rw [Ncd w8]; generalize hq_ : World.drewN w8 _ = w8; have n0_ : Nai (w8.heap[gb101]? = some (.cells #[.int .i64 0, .int .i64 0] 44 (0, 0))) := ⟨by rw [← hq_]; exact (bd BK101.out)⟩; have n1_ : Nai (Below w.heap.size w w8) := ⟨by rw [← hq_]; exact bE⟩; clear BK101 HB hq_; have BK101 := n0_; have HB := n1_; clear n0_ n1_))) | ((with_reducible refine gC 207 rfl ?_); refine gL 19 Tryz.func207 #[.string t102] ?_; (with_reducible refine (Nar.calls k t102 t104 t105 true _ A3.out).mono ?_); rintro e w' ⟨rfl, ⟨nd, rfl⟩⟩; refine ⟨_, rfl, ?_⟩; (try (rw [Ncd w8]; generalize hq_ : World.drewN w8 _ = w8; have n0_ : Nai (w8.heap[gb101]? = some (.cells #[.int .i64 0, .int .i64 0] 44 (0, 0))) := ⟨by rw [← hq_]; exact (bd BK101.out)⟩; have n1_ : Nai (Below w.heap.size w w8) := ⟨by rw [← hq_]; exact bE⟩; clear BK101 HB hq_; have BK101 := n0_; have HB := n1_; clear n0_ n1_))) | ((with_reducible refine gC 209 rfl ?_); refine gL 76 Tryz.func209 #[.int .i64 (wrap64 (-t104)), .int .i64 1] ?_; (with_reducible refine (Nbh.calls k (wrap64 (-t104)) 1 t107 t108 t109 _ A7.out).mono ?_); rintro e w9 ⟨rfl, hb⟩; refine ⟨_, rfl, ?_⟩; replace BK101 := aM (Nad (g := gb101) (o := .cells #[.int .i64 0, .int .i64 0] 44 (0, 0)) (bd BK101.out) hb); replace HB := aM (Nac bE hb); (try clear hb); obtain ⟨hcz10_0, hcz10_1, hfz10_0, hfz10_1⟩ := bc2 BK101.out))
    refine bodyPost_ret (Nb2 rfl _ _ gb101 44 #[.int .i64 t107, .int .i64 t108] (0, 0) _ rfl (bP BK101.out) Tryz.underlying44 rfl (by kernel_rfl)) rfl ?_
    exact ⟨eR, bE⟩
   ·replace c6 := Bool.eq_false_iff.mpr c6
    subst c6
    rw [if_neg fT] at H
    replace H := bS H
    obtain ⟨⟨t110, t111, t112⟩, A110, H⟩ := H
    try dsimp only at H
    have A11 := aM A110
    clear A110
    simp only [sJ, pJ] at H
    obtain ⟨rfl, rfl, rfl⟩ := H
    go_enter Tryz.func179, Tryz.ntmps179
    go_wp2_with (first | ((with_reducible refine gD 2 rfl ?_); (try (refine Nck (by rfl) ?_; dsimp only)); refine bX 2 #[.int .i64 0, .int .i64 0] 44 ?_; intro gb101 hg w12 hbox hb; replace HB := bK w hbox hg hb; obtain ⟨BK101, GW101, HB⟩ := HB; have GE101 := GW101; clear hb hbox hg) | ((with_reducible refine gC 64 rfl ?_); refine gL 14 Tryz.func64 #[.string a0, .string (⟨#[45]⟩ : ByteArray)] ?_; (with_reducible refine (strings_CutPrefix.calls a0 (⟨#[45]⟩ : ByteArray) t102 false _ A2.out).mono ?_); rintro e w' ⟨rfl, ⟨nd, rfl⟩⟩; refine ⟨_, rfl, ?_⟩; (try (rw [Ncd w12]; generalize hq_ : World.drewN w12 _ = w12; have n0_ : Nai (w12.heap[gb101]? = some (.cells #[.int .i64 0, .int .i64 0] 44 (0, 0))) := ⟨by rw [← hq_]; exact (bd BK101.out)⟩; have n1_ : Nai (Below w.heap.size w w12) := ⟨by rw [← hq_]; exact bE⟩; clear BK101 HB hq_; have BK101 := n0_; have HB := n1_; clear n0_ n1_))) | ((with_reducible refine gC 207 rfl ?_); refine gL 19 Tryz.func207 #[.string t102] ?_; (with_reducible refine (Nar.calls k t102 t104 t105 true _ A3.out).mono ?_); rintro e w' ⟨rfl, ⟨nd, rfl⟩⟩; refine ⟨_, rfl, ?_⟩; (try (rw [Ncd w12]; generalize hq_ : World.drewN w12 _ = w12; have n0_ : Nai (w12.heap[gb101]? = some (.cells #[.int .i64 0, .int .i64 0] 44 (0, 0))) := ⟨by rw [← hq_]; exact (bd BK101.out)⟩; have n1_ : Nai (Below w.heap.size w w12) := ⟨by rw [← hq_]; exact bE⟩; clear BK101 HB hq_; have BK101 := n0_; have HB := n1_; clear n0_ n1_))) | ((with_reducible refine gC 209 rfl ?_); refine gL 76 Tryz.func209 #[.int .i64 t104, .int .i64 1] ?_; (with_reducible refine (Nbh.calls k t104 1 t110 t111 t112 _ A11.out).mono ?_); rintro e w13 ⟨rfl, hb⟩; refine ⟨_, rfl, ?_⟩; replace BK101 := aM (Nad (g := gb101) (o := .cells #[.int .i64 0, .int .i64 0] 44 (0, 0)) (bd BK101.out) hb); replace HB := aM (Nac bE hb); (try clear hb); obtain ⟨hcz14_0, hcz14_1, hfz14_0, hfz14_1⟩ := bc2 BK101.out))
    refine bodyPost_ret (Nb2 rfl _ _ gb101 44 #[.int .i64 t110, .int .i64 t111] (0, 0) _ rfl (bP BK101.out) Tryz.underlying44 rfl (by kernel_rfl)) rfl ?_
    exact ⟨eR, bE⟩
  ·rw [if_neg c5] at H
   obtain ⟨c5b0, c5b1⟩ := bqF c5
   by_cases c15 : 1 ≤ (t105.size : Int)
   ·rw [if_pos c15] at H
    have c15b0 := eq_true c15
    have c15b1 : decide (1 ≤ (t105.size : Int)) = true := decide_eq_true c15
    clear c15
    replace H := bS H
    obtain ⟨⟨t113, t114, t115⟩, A160, H⟩ := H
    try dsimp only at H
    have A16 := aM A160
    clear A160
    have HC17 := aM H
    clear H
    go_enter Tryz.func179, Tryz.ntmps179
    go_upto_region 10 with (first | ((with_reducible refine gD 2 rfl ?_); (try (refine Nck (by rfl) ?_; dsimp only)); refine bX 2 #[.int .i64 0, .int .i64 0] 44 ?_; intro gb101 hg w18 hbox hb; replace HB := bK w hbox hg hb; obtain ⟨BK101, GW101, HB⟩ := HB; have GE101 := GW101; clear hb hbox hg) | ((with_reducible refine gC 64 rfl ?_); refine gL 14 Tryz.func64 #[.string a0, .string (⟨#[45]⟩ : ByteArray)] ?_; (with_reducible refine (strings_CutPrefix.calls a0 (⟨#[45]⟩ : ByteArray) t102 t103 _ A2.out).mono ?_); rintro e w' ⟨rfl, ⟨nd, rfl⟩⟩; refine ⟨_, rfl, ?_⟩) | ((with_reducible refine gC 207 rfl ?_); refine gL 19 Tryz.func207 #[.string t102] ?_; (with_reducible refine (Nar.calls k t102 t104 t105 true _ A3.out).mono ?_); rintro e w' ⟨rfl, ⟨nd, rfl⟩⟩; refine ⟨_, rfl, ?_⟩) | ((with_reducible refine gC 207 rfl ?_); refine gL 31 Tryz.func207 #[.string (t105.extract 1 t105.size)] ?_; (with_reducible refine (Nar.calls k (t105.extract 1 t105.size) t113 t114 t115 _ A16.out).mono ?_); rintro e w' ⟨rfl, ⟨nd, rfl⟩⟩; refine ⟨_, rfl, ?_⟩))
    (try simp only [Act.put, List.setIfInBounds_toArray, List.set_cons_zero, List.set_cons_succ])
    go_cut [44] (fun v44 wc => ∃ (kq : Nat) (x44_16 : Bool), v44 = .bool x44_16 ∧ Nai (Na7.j0 kq t103 t104 t105 t113 x44_16 = some (r1, r2, r3)) ∧ Nai (kq ≤ k) ∧ Nai (wc.heap[gb101]? = some (.cells #[.int .i64 0, .int .i64 0] 44 (0, 0))) ∧ Nai (Below w.heap.size w wc))
    case first =>
     have H := HC17.out
     clear HC17
     by_cases c19 : t115 = true
     ·subst c19
      rw [if_pos rfl] at H
      have H' := aM H
      clear H
      go_wp2
      go_meet
      case rel => exact ⟨_, ((t114.toList != ([] : List UInt8))), (by first | rfl | (simp; done) | (simp [*]; done) | (cases isEmpty0_ : t114.toList <;> simp [isEmpty0_])), H', ⟨by first | omega | exact Nat.le_refl _⟩, ⟨BK101.out⟩, ⟨bE⟩⟩
     ·replace c19 := Bool.eq_false_iff.mpr c19
      subst c19
      rw [if_neg fT] at H
      have H' := aM H
      clear H
      go_wp2
      go_meet
      case rel => exact ⟨_, (true), (by first | rfl | (simp; done) | (simp [*]; done)), H', ⟨by first | omega | exact Nat.le_refl _⟩, ⟨BK101.out⟩, ⟨bE⟩⟩
    case rest =>
     clear HC17
     try clear c1
     try clear c2
     try clear p2
     try clear c4
     try clear c5
     try clear c5b0
     try clear c5b1
     try clear c6
     try clear p6
     try clear c15
     try clear c15b0
     try clear c15b1
     try clear c17
     try clear c19
     try clear hcz10_0
     try clear hcz10_1
     try clear hcz14_0
     try clear hcz14_1
     try clear hfz10_0
     try clear hfz10_1
     try clear hfz14_0
     try clear hfz14_1
     obtain ⟨kq, x44_16, rfl, HA, HJ16, BK101, HB⟩ := hcut
     cases kq with
     | zero => exact absurd HA.out (by simp [Na7.j0])
     | succ kj16 =>
      have H := HA.out
      clear HA
      simp only [Na7.j0] at H
      by_cases c20 : x44_16 = true
      ·subst c20
       rw [if_pos rfl] at H
       simp only [sJ, pJ] at H
       obtain ⟨rfl, rfl, rfl⟩ := H
       have hcz21_0 : wc.cell? ⟨gb101, 0, none⟩ = some (.int .i64 0) := (Naa BK101.out 0).trans rfl
       have hcz21_1 : wc.cell? ⟨gb101, 1, none⟩ = some (.int .i64 0) := (Naa BK101.out 1).trans rfl
       have hfz21_0 := Naf BK101.out 0
       have hfz21_1 := Naf BK101.out 1
       go_wp2
       refine bodyPost_ret (Nb2 rfl _ _ gb101 44 #[.int .i64 0, .int .i64 0] (0, 0) _ rfl (bP BK101.out) Tryz.underlying44 rfl (by kernel_rfl)) rfl ?_
       exact ⟨eR, bE⟩
      ·replace c20 := Bool.eq_false_iff.mpr c20
       subst c20
       rw [if_neg fT] at H
       by_cases c22 : 0 < (t105.size : Int)
       ·rw [if_pos c22] at H
        have c22b0 : decide (0 < (t105.size : Int)) = true := decide_eq_true c22
        have c22b1 : decide (0 < t105.size) = true := decide_eq_true (by omega)
        clear c22
        by_cases c24 : (bt t105 0) = 47
        ·rw [if_pos c24] at H
         obtain ⟨c24b0, c24b1⟩ := bqT c24
         clear c24
         by_cases c25 : t103 = true
         ·subst c25
          rw [if_pos rfl] at H
          replace H := bS H
          obtain ⟨⟨t116, t117, t118⟩, A260, H⟩ := H
          try dsimp only at H
          have A26 := aM A260
          clear A260
          simp only [sJ, pJ] at H
          obtain ⟨rfl, rfl, rfl⟩ := H
          have p23 : 0 ≤ (0 : Int) := (by omega)
          have q23 : 0 < t105.size := (by have : (0 : Int) < (t105.size : Int) := of_decide_eq_true (by first | (with_reducible assumption) | assumption); omega)
          have hx23 : ∀ h : 0 < t105.size, ((t105[0]'h).toNat : Int) = bt t105 0 := bt_at t105 0
          clear p23
          have qi23 : (0 < (t105.size : Int)) = True := eq_true (of_decide_eq_true (by first | (with_reducible assumption) | assumption))
          replace q23 := eq_true q23
          go_wp2_with (first | ((with_reducible refine gC 209 rfl ?_); refine gL 76 Tryz.func209 #[.int .i64 (wrap64 (-t104)), .int .i64 t113] ?_; (with_reducible refine (Nbh.calls kj16 (wrap64 (-t104)) t113 t116 t117 t118 _ A26.out).mono ?_); rintro e w27 ⟨rfl, hb⟩; refine ⟨_, rfl, ?_⟩; replace BK101 := aM (Nad (g := gb101) (o := .cells #[.int .i64 0, .int .i64 0] 44 (0, 0)) (bd BK101.out) hb); replace HB := aM (Nac bE hb); (try clear hb); obtain ⟨hcz28_0, hcz28_1, hfz28_0, hfz28_1⟩ := bc2 BK101.out))
          refine bodyPost_ret (Nb2 rfl _ _ gb101 44 #[.int .i64 t116, .int .i64 t117] (0, 0) _ rfl (bP BK101.out) Tryz.underlying44 rfl (by kernel_rfl)) rfl ?_
          exact ⟨eR, bE⟩
         ·replace c25 := Bool.eq_false_iff.mpr c25
          subst c25
          rw [if_neg fT] at H
          replace H := bS H
          obtain ⟨⟨t119, t120, t121⟩, A290, H⟩ := H
          try dsimp only at H
          have A29 := aM A290
          clear A290
          simp only [sJ, pJ] at H
          obtain ⟨rfl, rfl, rfl⟩ := H
          have p23 : 0 ≤ (0 : Int) := (by omega)
          have q23 : 0 < t105.size := (by have : (0 : Int) < (t105.size : Int) := of_decide_eq_true (by first | (with_reducible assumption) | assumption); omega)
          have hx23 : ∀ h : 0 < t105.size, ((t105[0]'h).toNat : Int) = bt t105 0 := bt_at t105 0
          clear p23
          have qi23 : (0 < (t105.size : Int)) = True := eq_true (of_decide_eq_true (by first | (with_reducible assumption) | assumption))
          replace q23 := eq_true q23
          go_wp2_with (first | ((with_reducible refine gC 209 rfl ?_); refine gL 76 Tryz.func209 #[.int .i64 t104, .int .i64 t113] ?_; (with_reducible refine (Nbh.calls kj16 t104 t113 t119 t120 t121 _ A29.out).mono ?_); rintro e w30 ⟨rfl, hb⟩; refine ⟨_, rfl, ?_⟩; replace BK101 := aM (Nad (g := gb101) (o := .cells #[.int .i64 0, .int .i64 0] 44 (0, 0)) (bd BK101.out) hb); replace HB := aM (Nac bE hb); (try clear hb); obtain ⟨hcz31_0, hcz31_1, hfz31_0, hfz31_1⟩ := bc2 BK101.out))
          refine bodyPost_ret (Nb2 rfl _ _ gb101 44 #[.int .i64 t119, .int .i64 t120] (0, 0) _ rfl (bP BK101.out) Tryz.underlying44 rfl (by kernel_rfl)) rfl ?_
          exact ⟨eR, bE⟩
        ·rw [if_neg c24] at H
         obtain ⟨c24b0, c24b1⟩ := bqF c24
         have HC32 := aM H
         clear H
         have p23 : 0 ≤ (0 : Int) := (by omega)
         have q23 : 0 < t105.size := (by have : (0 : Int) < (t105.size : Int) := of_decide_eq_true (by first | (with_reducible assumption) | assumption); omega)
         have hx23 : ∀ h : 0 < t105.size, ((t105[0]'h).toNat : Int) = bt t105 0 := bt_at t105 0
         clear p23
         have qi23 : (0 < (t105.size : Int)) = True := eq_true (of_decide_eq_true (by first | (with_reducible assumption) | assumption))
         replace q23 := eq_true q23
         go_upto_region 14 with (fail)
         go_cut [57] (fun v57 wc => ∃ (kq : Nat) (x57_31 : Bool), v57 = .bool x57_31 ∧ Nai (Na7.j1 kq t103 t104 t105 t113 x57_31 = some (r1, r2, r3)) ∧ Nai (kq ≤ kj16) ∧ Nai (wc.heap[gb101]? = some (.cells #[.int .i64 0, .int .i64 0] 44 (0, 0))) ∧ Nai (Below w.heap.size w wc))
         case first =>
          have H := HC32.out
          clear HC32
          by_cases c34 : (bt t105 0) = 46
          ·rw [if_pos c34] at H
           obtain ⟨c34b0, c34b1⟩ := bqT c34
           clear c34
           (first | rw [c34b0] | (simp only [i64_w, i32_w]; rw [c34b0]) | skip)
           by_cases c35 : (t105.size : Int) > 7
           ·rw [if_pos c35] at H
            have c35b0 : decide (7 < (t105.size : Int)) = true := decide_eq_true c35
            have c35b1 : decide (7 < t105.size) = true := decide_eq_true (by omega)
            clear c35
            have H' := aM H
            clear H
            have p33 : 0 ≤ (0 : Int) := (by omega)
            have q33 : 0 < t105.size := (by have : (0 : Int) < (t105.size : Int) := of_decide_eq_true (by first | (with_reducible assumption) | assumption); omega)
            have hx33 : ∀ h : 0 < t105.size, ((t105[0]'h).toNat : Int) = bt t105 0 := bt_at t105 0
            clear p33
            have qi33 : (0 < (t105.size : Int)) = True := eq_true (of_decide_eq_true (by first | (with_reducible assumption) | assumption))
            replace q33 := eq_true q33
            go_wp2
            go_meet
            case rel => exact ⟨_, (true), (by first | rfl | (simp; done) | (simp [*]; done)), H', ⟨by have := HJ16.out; first | omega | exact Nat.le_refl _⟩, ⟨BK101.out⟩, ⟨bE⟩⟩
           ·rw [if_neg c35] at H
            have c35b0 : decide (7 < (t105.size : Int)) = false := decide_eq_false c35
            have c35b1 : decide (7 < t105.size) = false := decide_eq_false (by omega)
            clear c35
            have H' := aM H
            clear H
            have p33 : 0 ≤ (0 : Int) := (by omega)
            have q33 : 0 < t105.size := (by have : (0 : Int) < (t105.size : Int) := of_decide_eq_true (by first | (with_reducible assumption) | assumption); omega)
            have hx33 : ∀ h : 0 < t105.size, ((t105[0]'h).toNat : Int) = bt t105 0 := bt_at t105 0
            clear p33
            have qi33 : (0 < (t105.size : Int)) = True := eq_true (of_decide_eq_true (by first | (with_reducible assumption) | assumption))
            replace q33 := eq_true q33
            go_wp2
            go_meet
            case rel => exact ⟨_, (decide (t104 > 1000000000000)), (by first | rfl | (simp; done) | (simp [*]; done)), H', ⟨by have := HJ16.out; first | omega | exact Nat.le_refl _⟩, ⟨BK101.out⟩, ⟨bE⟩⟩
          ·rw [if_neg c34] at H
           obtain ⟨c34b0, c34b1⟩ := bqF c34
           (first | rw [c34b0] | (simp only [i64_w, i32_w]; rw [c34b0]) | skip)
           have H' := aM H
           clear H
           have p33 : 0 ≤ (0 : Int) := (by omega)
           have q33 : 0 < t105.size := (by have : (0 : Int) < (t105.size : Int) := of_decide_eq_true (by first | (with_reducible assumption) | assumption); omega)
           have hx33 : ∀ h : 0 < t105.size, ((t105[0]'h).toNat : Int) = bt t105 0 := bt_at t105 0
           clear p33
           have qi33 : (0 < (t105.size : Int)) = True := eq_true (of_decide_eq_true (by first | (with_reducible assumption) | assumption))
           replace q33 := eq_true q33
           go_wp2
           go_meet
           case rel => exact ⟨_, (true), (by first | rfl | (simp; done) | (simp [*]; done)), H', ⟨by have := HJ16.out; first | omega | exact Nat.le_refl _⟩, ⟨BK101.out⟩, ⟨bE⟩⟩
         case rest =>
          clear HC32
          try clear c1
          try clear c2
          try clear p2
          try clear q2
          try clear hx2
          try clear qi2
          try clear c3
          try clear p3
          try clear q3
          try clear hx3
          try clear qi3
          try clear c4
          try clear c5
          try clear c5b0
          try clear c5b1
          try clear c6
          try clear p6
          try clear c15
          try clear c15b0
          try clear c15b1
          try clear c17
          try clear c19
          try clear c20
          try clear c22
          try clear c22b0
          try clear c22b1
          try clear p23
          try clear q23
          try clear hx23
          try clear qi23
          try clear c24
          try clear c24b0
          try clear c24b1
          try clear c25
          try clear p33
          try clear q33
          try clear hx33
          try clear qi33
          try clear c34
          try clear c34b0
          try clear c34b1
          try clear c35
          try clear c35b0
          try clear c35b1
          try clear hcz10_0
          try clear hcz10_1
          try clear hcz14_0
          try clear hcz14_1
          try clear hcz21_0
          try clear hcz21_1
          try clear hcz28_0
          try clear hcz28_1
          try clear hcz31_0
          try clear hcz31_1
          try clear hfz10_0
          try clear hfz10_1
          try clear hfz14_0
          try clear hfz14_1
          try clear hfz21_0
          try clear hfz21_1
          try clear hfz28_0
          try clear hfz28_1
          try clear hfz31_0
          try clear hfz31_1
          try clear p2
          try clear p23
          try clear p33
          try clear p6
          try clear q23
          try clear q33
          obtain ⟨kq, x57_31, rfl, HA, HJ31, BK101, HB⟩ := hcut
          cases kq with
          | zero => exact absurd HA.out (by simp [Na7.j1])
          | succ kj31 =>
           have H := HA.out
           clear HA
           simp only [Na7.j1] at H
           by_cases c36 : x57_31 = true
           ·subst c36
            rw [if_pos rfl] at H
            simp only [sJ, pJ] at H
            obtain ⟨rfl, rfl, rfl⟩ := H
            have hcz37_0 : wc.cell? ⟨gb101, 0, none⟩ = some (.int .i64 0) := (Naa BK101.out 0).trans rfl
            have hcz37_1 : wc.cell? ⟨gb101, 1, none⟩ = some (.int .i64 0) := (Naa BK101.out 1).trans rfl
            have hfz37_0 := Naf BK101.out 0
            have hfz37_1 := Naf BK101.out 1
            go_wp2
            refine bodyPost_ret (Nb2 rfl _ _ gb101 44 #[.int .i64 0, .int .i64 0] (0, 0) _ rfl (bP BK101.out) Tryz.underlying44 rfl (by kernel_rfl)) rfl ?_
            exact ⟨eR, bE⟩
           ·replace c36 := Bool.eq_false_iff.mpr c36
            subst c36
            rw [if_neg fT] at H
            replace H := bS H
            obtain ⟨t122, A380, H⟩ := H
            try dsimp only at H
            have A38 := aM A380
            clear A380
            by_cases c39 : t103 = true
            ·subst c39
             rw [if_pos rfl] at H
             replace H := bS H
             obtain ⟨⟨t123, t124, t125⟩, A400, H⟩ := H
             try dsimp only at H
             have A40 := aM A400
             clear A400
             simp only [sJ, pJ] at H
             obtain ⟨rfl, rfl, rfl⟩ := H
             go_wp2_with (first | ((with_reducible refine gC 208 rfl ?_); refine gL 38 Tryz.func208 #[.int .i64 (wrap64 ((t105.size : Int) - 1))] ?_; (with_reducible refine (Nbw.calls kj31 (wrap64 ((t105.size : Int) - 1)) t122 _ A38.out).mono ?_); rintro e w' ⟨rfl, ⟨nd, rfl⟩⟩; refine ⟨_, rfl, ?_⟩; (try (rw [Ncd wc]; generalize hq_ : World.drewN wc _ = wc; have n0_ : Nai (wc.heap[gb101]? = some (.cells #[.int .i64 0, .int .i64 0] 44 (0, 0))) := ⟨by rw [← hq_]; exact (bd BK101.out)⟩; have n1_ : Nai (Below w.heap.size w wc) := ⟨by rw [← hq_]; exact bE⟩; clear BK101 HB hq_; have BK101 := n0_; have HB := n1_; clear n0_ n1_))) | ((with_reducible refine gC 209 rfl ?_); refine gL 76 Tryz.func209 #[.int .i64 (wrap64 (-(wrap64 ((wrap64 (t104 * t122)) + t113)))), .int .i64 t122] ?_; (with_reducible refine (Nbh.calls kj31 (wrap64 (-(wrap64 ((wrap64 (t104 * t122)) + t113)))) t122 t123 t124 t125 _ A40.out).mono ?_); rintro e w41 ⟨rfl, hb⟩; refine ⟨_, rfl, ?_⟩; replace BK101 := aM (Nad (g := gb101) (o := .cells #[.int .i64 0, .int .i64 0] 44 (0, 0)) (bd BK101.out) hb); replace HB := aM (Nac bE hb); (try clear hb); obtain ⟨hcz42_0, hcz42_1, hfz42_0, hfz42_1⟩ := bc2 BK101.out))
             refine bodyPost_ret (Nb2 rfl _ _ gb101 44 #[.int .i64 t123, .int .i64 t124] (0, 0) _ rfl (bP BK101.out) Tryz.underlying44 rfl (by kernel_rfl)) rfl ?_
             exact ⟨eR, bE⟩
            ·replace c39 := Bool.eq_false_iff.mpr c39
             subst c39
             rw [if_neg fT] at H
             replace H := bS H
             obtain ⟨⟨t126, t127, t128⟩, A430, H⟩ := H
             try dsimp only at H
             have A43 := aM A430
             clear A430
             simp only [sJ, pJ] at H
             obtain ⟨rfl, rfl, rfl⟩ := H
             go_wp2_with (first | ((with_reducible refine gC 208 rfl ?_); refine gL 38 Tryz.func208 #[.int .i64 (wrap64 ((t105.size : Int) - 1))] ?_; (with_reducible refine (Nbw.calls kj31 (wrap64 ((t105.size : Int) - 1)) t122 _ A38.out).mono ?_); rintro e w' ⟨rfl, ⟨nd, rfl⟩⟩; refine ⟨_, rfl, ?_⟩; (try (rw [Ncd wc]; generalize hq_ : World.drewN wc _ = wc; have n0_ : Nai (wc.heap[gb101]? = some (.cells #[.int .i64 0, .int .i64 0] 44 (0, 0))) := ⟨by rw [← hq_]; exact (bd BK101.out)⟩; have n1_ : Nai (Below w.heap.size w wc) := ⟨by rw [← hq_]; exact bE⟩; clear BK101 HB hq_; have BK101 := n0_; have HB := n1_; clear n0_ n1_))) | ((with_reducible refine gC 209 rfl ?_); refine gL 76 Tryz.func209 #[.int .i64 (wrap64 ((wrap64 (t104 * t122)) + t113)), .int .i64 t122] ?_; (with_reducible refine (Nbh.calls kj31 (wrap64 ((wrap64 (t104 * t122)) + t113)) t122 t126 t127 t128 _ A43.out).mono ?_); rintro e w44 ⟨rfl, hb⟩; refine ⟨_, rfl, ?_⟩; replace BK101 := aM (Nad (g := gb101) (o := .cells #[.int .i64 0, .int .i64 0] 44 (0, 0)) (bd BK101.out) hb); replace HB := aM (Nac bE hb); (try clear hb); obtain ⟨hcz45_0, hcz45_1, hfz45_0, hfz45_1⟩ := bc2 BK101.out))
             refine bodyPost_ret (Nb2 rfl _ _ gb101 44 #[.int .i64 t126, .int .i64 t127] (0, 0) _ rfl (bP BK101.out) Tryz.underlying44 rfl (by kernel_rfl)) rfl ?_
             exact ⟨eR, bE⟩
       ·rw [if_neg c22] at H
        exact absurd H (by simp)
   ·rw [if_neg c15] at H
    exact absurd H (by simp)
 ·replace c4 := Bool.eq_false_iff.mpr c4
  subst c4
  rw [if_neg fT] at H
  simp only [sJ, pJ] at H
  obtain ⟨rfl, rfl, rfl⟩ := H
  go_enter Tryz.func179, Tryz.ntmps179
  go_wp2_with (first | ((with_reducible refine gD 2 rfl ?_); (try (refine Nck (by rfl) ?_; dsimp only)); refine bX 2 #[.int .i64 0, .int .i64 0] 44 ?_; intro gb101 hg w46 hbox hb; replace HB := bK w hbox hg hb; obtain ⟨BK101, GW101, HB⟩ := HB; have GE101 := GW101; clear hb hbox hg) | ((with_reducible refine gC 64 rfl ?_); refine gL 14 Tryz.func64 #[.string a0, .string (⟨#[45]⟩ : ByteArray)] ?_; (with_reducible refine (strings_CutPrefix.calls a0 (⟨#[45]⟩ : ByteArray) t102 t103 _ A2.out).mono ?_); rintro e w' ⟨rfl, ⟨nd, rfl⟩⟩; refine ⟨_, rfl, ?_⟩; (try (rw [Ncd w46]; generalize hq_ : World.drewN w46 _ = w46; have n0_ : Nai (w46.heap[gb101]? = some (.cells #[.int .i64 0, .int .i64 0] 44 (0, 0))) := ⟨by rw [← hq_]; exact (bd BK101.out)⟩; have n1_ : Nai (Below w.heap.size w w46) := ⟨by rw [← hq_]; exact bE⟩; clear BK101 HB hq_; have BK101 := n0_; have HB := n1_; clear n0_ n1_))) | ((with_reducible refine gC 207 rfl ?_); refine gL 19 Tryz.func207 #[.string t102] ?_; (with_reducible refine (Nar.calls k t102 t104 t105 false _ A3.out).mono ?_); rintro e w' ⟨rfl, ⟨nd, rfl⟩⟩; refine ⟨_, rfl, ?_⟩; (try (rw [Ncd w46]; generalize hq_ : World.drewN w46 _ = w46; have n0_ : Nai (w46.heap[gb101]? = some (.cells #[.int .i64 0, .int .i64 0] 44 (0, 0))) := ⟨by rw [← hq_]; exact (bd BK101.out)⟩; have n1_ : Nai (Below w.heap.size w w46) := ⟨by rw [← hq_]; exact bE⟩; clear BK101 HB hq_; have BK101 := n0_; have HB := n1_; clear n0_ n1_)); obtain ⟨hcz47_0, hcz47_1, hfz47_0, hfz47_1⟩ := bc2 BK101.out))
  refine bodyPost_ret (Nb2 rfl _ _ gb101 44 #[.int .i64 0, .int .i64 0] (0, 0) _ rfl (bP BK101.out) Tryz.underlying44 rfl (by kernel_rfl)) rfl ?_
  exact ⟨eR, bE⟩
def Nde.f (a0 : Bool) : Option (ByteArray) := if a0 = true then (some (⟨#[84, 82, 85, 69]⟩ : ByteArray)) else (some (⟨#[70, 65, 76, 83, 69]⟩ : ByteArray))
theorem Nde.calls (a0 : Bool) (r : ByteArray) (w : World) (h : Nde.f a0 = some r) :
 Calls Tryz.prog 186 #[.bool a0] w fun e w' => e = .returned (.string r) ∧ Na9 w w' := by
 have H := h
 unfold Nde.f at H
 clear h
 by_cases c2 : a0 = true
 ·subst c2
  rw [if_pos rfl] at H
  obtain rfl := sI H
  go_enter Tryz.func186, Tryz.ntmps186
  go_wp2
  go_ret
  exact ⟨eR, dE⟩
 ·replace c2 := Bool.eq_false_iff.mpr c2
  subst c2
  rw [if_neg fT] at H
  obtain rfl := sI H
  go_enter Tryz.func186, Tryz.ntmps186
  go_wp2
  go_ret
  exact ⟨eR, dE⟩
def Nb4.f (a0 : Int) : Option (Int × Int × Int × ByteArray × Bool × Int) := if a0 < 1 then (some (4, 0, 0, (⟨#[]⟩ : ByteArray), false, 2)) else (if a0 > 8 then (some (4, 0, 0, (⟨#[]⟩ : ByteArray), false, 2)) else (some (4, 0, 0, (⟨#[]⟩ : ByteArray), false, a0)))
theorem Nb4.calls (a0 r1 r2 r3 : Int) (r4 : ByteArray) (r5 : Bool) (r6 : Int) (w : World) (h : Nb4.f a0 = some (r1, r2, r3, r4, r5, r6)) :
 Calls Tryz.prog 62 #[.int .i64 a0] w fun e w' => e = .returned (.agg #[.int .i64 r1, .int .i64 r2, .int .i64 r3, .string r4, .bool r5, .int .i64 r6]) ∧ Below w.heap.size w w' := by
 have hu46 := Tryz.underlying46
 have HB := aM (Below.refl w.heap.size w)
 have H := h
 unfold Nb4.f at H
 clear h
 by_cases c2 : a0 < 1
 ·rw [if_pos c2] at H
  have c2b0 : decide (a0 < 1) = true := decide_eq_true c2
  clear c2
  simp only [sJ, pJ] at H
  obtain ⟨rfl, rfl, rfl, rfl, rfl, rfl⟩ := H
  go_enter Tryz.func62, Tryz.ntmps62
  go_wp2_with (first | ((with_reducible refine gD 2 rfl ?_); refine bX 2 #[.int .i64 0, .int .i64 0, .int .i64 0, .string ⟨#[]⟩, .bool false, .int .i64 0] 46 ?_; intro gb101 hg w3 hbox hb; replace HB := bK w hbox hg hb; obtain ⟨BK101, GW101, HB⟩ := HB; have GE101 := GW101; clear hb hbox hg; obtain ⟨hcz4_0, hcz4_1, hcz4_2, hcz4_3, hcz4_4, hcz4_5, hfz4_0, hfz4_1, hfz4_2, hfz4_3, hfz4_4, hfz4_5⟩ := bc6 BK101.out))
  refine bodyPost_ret (results_cell_row rfl _ _ gb101 46 #[.int .i64 4, .int .i64 0, .int .i64 0, .string ⟨#[]⟩, .bool false, .int .i64 2] (0, 0) _ rfl (bP BK101.out) Tryz.underlying46 rfl (by kernel_rfl)) rfl ?_
  exact ⟨eR, bE⟩
 ·rw [if_neg c2] at H
  have c2b0 : decide (a0 < 1) = false := decide_eq_false c2
  clear c2
  by_cases c5 : a0 > 8
  ·rw [if_pos c5] at H
   have c5b0 : decide (8 < a0) = true := decide_eq_true c5
   clear c5
   simp only [sJ, pJ] at H
   obtain ⟨rfl, rfl, rfl, rfl, rfl, rfl⟩ := H
   go_enter Tryz.func62, Tryz.ntmps62
   go_wp2_with (first | ((with_reducible refine gD 2 rfl ?_); refine bX 2 #[.int .i64 0, .int .i64 0, .int .i64 0, .string ⟨#[]⟩, .bool false, .int .i64 0] 46 ?_; intro gb101 hg w6 hbox hb; replace HB := bK w hbox hg hb; obtain ⟨BK101, GW101, HB⟩ := HB; have GE101 := GW101; clear hb hbox hg; obtain ⟨hcz7_0, hcz7_1, hcz7_2, hcz7_3, hcz7_4, hcz7_5, hfz7_0, hfz7_1, hfz7_2, hfz7_3, hfz7_4, hfz7_5⟩ := bc6 BK101.out))
   refine bodyPost_ret (results_cell_row rfl _ _ gb101 46 #[.int .i64 4, .int .i64 0, .int .i64 0, .string ⟨#[]⟩, .bool false, .int .i64 2] (0, 0) _ rfl (bP BK101.out) Tryz.underlying46 rfl (by kernel_rfl)) rfl ?_
   exact ⟨eR, bE⟩
  ·rw [if_neg c5] at H
   have c5b0 : decide (8 < a0) = false := decide_eq_false c5
   clear c5
   simp only [sJ, pJ] at H
   obtain ⟨rfl, rfl, rfl, rfl, rfl, rfl⟩ := H
   go_enter Tryz.func62, Tryz.ntmps62
   go_wp2_with (first | ((with_reducible refine gD 2 rfl ?_); refine bX 2 #[.int .i64 0, .int .i64 0, .int .i64 0, .string ⟨#[]⟩, .bool false, .int .i64 0] 46 ?_; intro gb101 hg w8 hbox hb; replace HB := bK w hbox hg hb; obtain ⟨BK101, GW101, HB⟩ := HB; have GE101 := GW101; clear hb hbox hg; obtain ⟨hcz9_0, hcz9_1, hcz9_2, hcz9_3, hcz9_4, hcz9_5, hfz9_0, hfz9_1, hfz9_2, hfz9_3, hfz9_4, hfz9_5⟩ := bc6 BK101.out))
   refine bodyPost_ret (results_cell_row rfl _ _ gb101 46 #[.int .i64 4, .int .i64 0, .int .i64 0, .string ⟨#[]⟩, .bool false, .int .i64 a0] (0, 0) _ rfl (bP BK101.out) Tryz.underlying46 rfl (by kernel_rfl)) rfl ?_
   exact ⟨eR, bE⟩
def namesV : Value := .agg #[.string ⟨#[35, 68, 73, 86, 47, 48, 33]⟩, .string ⟨#[35, 86, 65, 76, 85, 69, 33]⟩, .string ⟨#[35, 82, 69, 70, 33]⟩, .string ⟨#[35, 78, 85, 77, 33]⟩, .string ⟨#[35, 78, 47, 65]⟩, .string ⟨#[35, 67, 73, 82, 67, 76, 69, 33]⟩, .string ⟨#[35, 76, 79, 78, 71, 33]⟩, .string ⟨#[35, 65, 82, 71, 33]⟩]
theorem Ncv {w : World} (hG : GL w) (j : Nat) (hj : j < 8) : w.cell? ⟨2, j, none⟩ = some (.string (Nbx.getD j ByteArray.empty)) := by
 obtain ⟨ad, e, h⟩ := Kd.at_string hG.nms (j : Int) (by omega) (show (j : Int) < Nbx.length from by show (j : Int) < 8; omega)
 cases e
 rw [Int.toNat_natCast, add_plain] at h
 exact h
def Nbg.f (k : Nat) (a0_0 a0_1 a0_2 : Int) (a0_3 : ByteArray) (a0_4 : Bool) (a0_5 : Int) : Option (Int × Int × Int × ByteArray × Bool × Int) := (Nb3.f k a0_0 a0_1 a0_2 a0_3 a0_4 a0_5).bind fun t103 => (if t103 = true then (some (a0_0, a0_1, a0_2, a0_3, a0_4, a0_5)) else ((Nb4.f 2).bind fun bt104 => (some (bt104.1, bt104.2.1, bt104.2.2.1, bt104.2.2.2.1, bt104.2.2.2.2.1, bt104.2.2.2.2.2))))
theorem Nbg.calls (k : Nat) (a0_0 a0_1 a0_2 : Int) (a0_3 : ByteArray) (a0_4 : Bool) (a0_5 r1 r2 r3 : Int) (r4 : ByteArray) (r5 : Bool) (r6 : Int) (w : World) (h : Nbg.f k a0_0 a0_1 a0_2 a0_3 a0_4 a0_5 = some (r1, r2, r3, r4, r5, r6)) :
 Calls Tryz.prog 146 #[.agg #[.int .i64 a0_0, .int .i64 a0_1, .int .i64 a0_2, .string a0_3, .bool a0_4, .int .i64 a0_5]] w fun e w' => e = .returned (.agg #[.int .i64 r1, .int .i64 r2, .int .i64 r3, .string r4, .bool r5, .int .i64 r6]) ∧ Below w.heap.size w w' := by
 have hu46 := Tryz.underlying46
 have HB := aM (Below.refl w.heap.size w)
 have H := h
 unfold Nbg.f at H
 clear h
 replace H := bS H
 obtain ⟨t103, A20, H⟩ := H
 try dsimp only at H
 have A2 := aM A20
 clear A20
 by_cases c3 : t103 = true
 ·subst c3
  rw [if_pos rfl] at H
  simp only [sJ, pJ] at H
  obtain ⟨rfl, rfl, rfl, rfl, rfl, rfl⟩ := H
  go_enter Tryz.func146, Tryz.ntmps146
  go_wp2_with (first | ((with_reducible refine gD 1 rfl ?_); refine bX 1 #[.int .i64 a0_0, .int .i64 a0_1, .int .i64 a0_2, .string a0_3, .bool a0_4, .int .i64 a0_5] 46 ?_; intro gb101 hg w4 hbox hb; replace HB := bK w hbox hg hb; obtain ⟨BK101, GW101, HB⟩ := HB; have GE101 := GW101; clear hb hbox hg) | ((with_reducible refine gD 2 rfl ?_); refine bX 2 #[.int .i64 0, .int .i64 0, .int .i64 0, .string ⟨#[]⟩, .bool false, .int .i64 0] 46 ?_; intro gb102 hg w5 hbox hb; have BK102 := aM (hbox); have GW102 := aM ((by rw [hg]; exact (Nbc bE) : w.heap.size ≤ gb102)); have GE102 := GW102; have NB101_102 := aM ((by rw [hg]; exact Nat.ne_of_lt (Nbe BK101.out) : gb101 ≠ gb102)); have NB102_101 := aM ((by rw [hg]; exact Nat.ne_of_gt (Nbe BK101.out) : gb102 ≠ gb101)); replace BK101 := aM (Nad BK101.out hb); replace HB := aM (Nac bE hb); clear hb hbox hg; have hnb6 := NB101_102.out; have hnc6 := NB102_101.out; obtain ⟨hcz7_0, hcz7_1, hcz7_2, hcz7_3, hcz7_4, hcz7_5, hfz7_0, hfz7_1, hfz7_2, hfz7_3, hfz7_4, hfz7_5⟩ := bc6 BK101.out) | ((with_reducible refine gC 93 rfl ?_); refine gL 4 Tryz.func93 #[.agg #[.int .i64 a0_0, .int .i64 a0_1, .int .i64 a0_2, .string a0_3, .bool a0_4, .int .i64 a0_5]] ?_; (with_reducible refine (Nb3.calls k a0_0 a0_1 a0_2 a0_3 a0_4 a0_5 true _ A2.out).mono ?_); rintro e w8 ⟨rfl, hb⟩; refine ⟨_, rfl, ?_⟩; replace BK101 := aM (Nad BK101.out hb); replace BK102 := aM (Nad (g := gb102) (o := .cells #[.int .i64 0, .int .i64 0, .int .i64 0, .string ⟨#[]⟩, .bool false, .int .i64 0] 46 (0, 0)) BK102.out hb); replace HB := aM (Nac bE hb); (try clear hb); obtain ⟨hcz9_0, hcz9_1, hcz9_2, hcz9_3, hcz9_4, hcz9_5, hfz9_0, hfz9_1, hfz9_2, hfz9_3, hfz9_4, hfz9_5⟩ := bc6 BK101.out; obtain ⟨hcz10_0, hcz10_1, hcz10_2, hcz10_3, hcz10_4, hcz10_5, hfz10_0, hfz10_1, hfz10_2, hfz10_3, hfz10_4, hfz10_5⟩ := bc6 BK102.out))
  refine bodyPost_ret (results_cell_row rfl _ _ gb102 46 #[.int .i64 a0_0, .int .i64 a0_1, .int .i64 a0_2, .string a0_3, .bool a0_4, .int .i64 a0_5] (0, 0) _ rfl (bP BK102.out) Tryz.underlying46 rfl (by kernel_rfl)) rfl ?_
  exact ⟨eR, bE⟩
 ·replace c3 := Bool.eq_false_iff.mpr c3
  subst c3
  rw [if_neg fT] at H
  replace H := bS H
  obtain ⟨⟨t104, t105, t106, t107, t108, t109⟩, A110, H⟩ := H
  try dsimp only at H
  have A11 := aM A110
  clear A110
  simp only [sJ, pJ] at H
  obtain ⟨rfl, rfl, rfl, rfl, rfl, rfl⟩ := H
  go_enter Tryz.func146, Tryz.ntmps146
  go_wp2_with (first | ((with_reducible refine gD 1 rfl ?_); refine bX 1 #[.int .i64 a0_0, .int .i64 a0_1, .int .i64 a0_2, .string a0_3, .bool a0_4, .int .i64 a0_5] 46 ?_; intro gb101 hg w12 hbox hb; replace HB := bK w hbox hg hb; obtain ⟨BK101, GW101, HB⟩ := HB; have GE101 := GW101; clear hb hbox hg) | ((with_reducible refine gD 2 rfl ?_); refine bX 2 #[.int .i64 0, .int .i64 0, .int .i64 0, .string ⟨#[]⟩, .bool false, .int .i64 0] 46 ?_; intro gb102 hg w13 hbox hb; have BK102 := aM (hbox); have GW102 := aM ((by rw [hg]; exact (Nbc bE) : w.heap.size ≤ gb102)); have GE102 := GW102; have NB101_102 := aM ((by rw [hg]; exact Nat.ne_of_lt (Nbe BK101.out) : gb101 ≠ gb102)); have NB102_101 := aM ((by rw [hg]; exact Nat.ne_of_gt (Nbe BK101.out) : gb102 ≠ gb101)); replace BK101 := aM (Nad BK101.out hb); replace HB := aM (Nac bE hb); clear hb hbox hg; have hnb14 := NB101_102.out; have hnc14 := NB102_101.out; obtain ⟨hcz15_0, hcz15_1, hcz15_2, hcz15_3, hcz15_4, hcz15_5, hfz15_0, hfz15_1, hfz15_2, hfz15_3, hfz15_4, hfz15_5⟩ := bc6 BK101.out) | ((with_reducible refine gC 93 rfl ?_); refine gL 4 Tryz.func93 #[.agg #[.int .i64 a0_0, .int .i64 a0_1, .int .i64 a0_2, .string a0_3, .bool a0_4, .int .i64 a0_5]] ?_; (with_reducible refine (Nb3.calls k a0_0 a0_1 a0_2 a0_3 a0_4 a0_5 false _ A2.out).mono ?_); rintro e w16 ⟨rfl, hb⟩; refine ⟨_, rfl, ?_⟩; replace BK101 := aM (Nad BK101.out hb); replace BK102 := aM (Nad (g := gb102) (o := .cells #[.int .i64 0, .int .i64 0, .int .i64 0, .string ⟨#[]⟩, .bool false, .int .i64 0] 46 (0, 0)) BK102.out hb); replace HB := aM (Nac bE hb); (try clear hb)) | ((with_reducible refine gC 62 rfl ?_); refine gL 6 Tryz.func62 #[.int .i64 2] ?_; (with_reducible refine (Nb4.calls 2 t104 t105 t106 t107 t108 t109 _ A11.out).mono ?_); rintro e w17 ⟨rfl, hb⟩; refine ⟨_, rfl, ?_⟩; replace BK101 := aM (Nad BK101.out hb); replace BK102 := aM (Nad (g := gb102) (o := .cells #[.int .i64 0, .int .i64 0, .int .i64 0, .string ⟨#[]⟩, .bool false, .int .i64 0] 46 (0, 0)) BK102.out hb); replace HB := aM (Nac bE hb); (try clear hb); obtain ⟨hcz18_0, hcz18_1, hcz18_2, hcz18_3, hcz18_4, hcz18_5, hfz18_0, hfz18_1, hfz18_2, hfz18_3, hfz18_4, hfz18_5⟩ := bc6 BK102.out))
  refine bodyPost_ret (results_cell_row rfl _ _ gb102 46 #[.int .i64 t104, .int .i64 t105, .int .i64 t106, .string t107, .bool t108, .int .i64 t109] (0, 0) _ rfl (bP BK102.out) Tryz.underlying46 rfl (by kernel_rfl)) rfl ?_
  exact ⟨eR, bE⟩
end Go.Proofs.YtejbbceidnaloaaGreatDoor.P
