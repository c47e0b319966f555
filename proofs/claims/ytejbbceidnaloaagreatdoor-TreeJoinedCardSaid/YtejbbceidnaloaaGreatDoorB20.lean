import Derived.Test.YtejbbceidnaloaaGreatDoorB19
import Derived.Lib.Builder
import Derived.Lib.UnsafeStr
import Derived.Shelf.Strings.BuilderX
set_option linter.unusedVariables false
set_option linter.unusedSimpArgs false
set_option maxRecDepth 100000
set_option maxHeartbeats 8000000
namespace Go.Proofs.YtejbbceidnaloaaGreatDoor.P
open Go.RowKit AW AL AM
section
attribute [local go_sem] max2_int min2_int max_two min_two max_three min_three max_four min_four
mutual
def Nao.l0 : Nat → List (S50) → Int → Int → Int → Int → Option (Int × Int)
 | 0, _, _, _, _, _ => none
 | k + 1, x0, x4, x5, x22, x23 => if x23 < x22 then ((Nao.f k x0 x4).bind fun bt103 => (if bt103.1 < 0 then (some ((-1), 0)) else (Nao.l0 k x0 bt103.1 (mx x5 bt103.2) x22 (wrap64 (x23 + 1))))) else (some (x4, wrap64 (x5 + 1)))
def Nao.f : Nat → List (S50) → Int → Option (Int × Int)
 | 0, _, _ => none
 | k + 1, l0, a1 => if a1 ≥ (l0.length : Int) then (some ((-1), 0)) else (if 0 ≤ a1 then (if a1 < (l0.length : Int) then ((Ncn.f (Nda l0 a1)).bind fun t102 => (if t102 < 0 then (some ((-1), 0)) else (Nao.l0 k l0 (wrap64 (a1 + 1)) 0 t102 0))) else (none)) else (none))
end
theorem Nao.calls (k : Nat) : ∀ (A0 : Option Addr) (c0 : Nat) (l0 : List (S50)) (a1 : Int) (r1 : Int) (r2 : Int) (w : World) (hr0 : Kd.C k50 w A0 l0.length l0) (hc0 : l0.length ≤ c0) (h : Nao.f k l0 a1 = some (r1, r2)),
 Calls Tryz.prog 53 #[.slice A0 l0.length c0, .int .i64 a1] w fun e w' => e = .returned (.tuple #[.int .i64 r1, .int .i64 r2]) ∧ Below w.heap.size w w' := by
 induction k using Nat.strongRecOn with
 | _ k ih =>
 intro A0 c0 l0 a1 r1 r2 w hr0 hc0 h
 cases k with
 | zero => exact absurd h (by simp [Nao.f])
 | succ k =>
 simp only [Nao.f] at h
 have hu50 := Tryz.underlying50
 have HR0 := aM hr0
 have HC0 := aM hc0
 clear hr0 hc0
 have HB := aM (Below.refl w.heap.size w)
 have H : (if a1 ≥ (l0.length : Int) then (some ((-1), 0)) else (if 0 ≤ a1 then (if a1 < (l0.length : Int) then ((Ncn.f (Nda l0 a1)).bind fun t102 => (if t102 < 0 then (some ((-1), 0)) else (Nao.l0 k l0 (wrap64 (a1 + 1)) 0 t102 0))) else (none)) else (none))) = some (r1, r2) := h
 clear h
 by_cases c3 : a1 ≥ (l0.length : Int)
 ·rw [if_pos c3] at H
  have c3b0 : decide ((l0.length : Int) ≤ a1) = true := decide_eq_true c3
  clear c3
  simp only [sJ, pJ] at H
  obtain ⟨rfl, rfl⟩ := H
  go_enter Tryz.func53, Tryz.ntmps53
  go_wp2
  go_ret2
  exact ⟨eR, bE⟩
 ·rw [if_neg c3] at H
  have c3b0 : decide ((l0.length : Int) ≤ a1) = false := decide_eq_false c3
  clear c3
  by_cases c4 : 0 ≤ a1
  ·rw [if_pos c4] at H
   have c4b0 : decide (0 ≤ a1) = true := decide_eq_true c4
   clear c4
   by_cases c5 : a1 < (l0.length : Int)
   ·rw [if_pos c5] at H
    have c5b0 : decide (a1 < (l0.length : Int)) = true := decide_eq_true c5
    clear c5
    replace H := bS H
    obtain ⟨t102, A60, H⟩ := H
    try dsimp only at H
    have A6 := aM A60
    clear A60
    by_cases c7 : t102 < 0
    ·rw [if_pos c7] at H
     have c7b0 : decide (t102 < 0) = true := decide_eq_true c7
     clear c7
     simp only [sJ, pJ] at H
     obtain ⟨rfl, rfl⟩ := H
     have p101 : 0 ≤ (a1 : Int) := of_decide_eq_true (by first | (with_reducible assumption) | assumption)
     have q101 : a1 < (l0.length : Int) := of_decide_eq_true (by first | (with_reducible assumption) | assumption)
     obtain ⟨ad101, e101⟩ := at_N50 HR0.out a1 p101 q101
     cases e101
     replace p101 := eq_true p101
     replace q101 := eq_true q101
     go_enter Tryz.func53, Tryz.ntmps53
     go_wp2_with (first | ((with_reducible refine gD 16 rfl ?_); refine Ndr rfl rfl (xs := l0) (n := l0.length) (A := some ad101) ?hc a1 (of_eq_true p101) (of_eq_true q101) rfl ?ha ?_; (case hc => first | exact HR0.out | exact Kd.C_below HR0.out HB.out); (case ha => rfl)) | ((with_reducible refine gC 56 rfl ?_); refine gL 17 Tryz.func56 #[v50 (Nda l0 a1)] ?_; (with_reducible refine (Ncn.calls (Nda l0 a1) t102 _ A6.out).mono ?_); rintro e w8 ⟨rfl, hb⟩; refine ⟨_, rfl, ?_⟩; replace HB := aM (Nac bE hb); (try clear hb)))
     go_ret2
     exact ⟨eR, bE⟩
    ·rw [if_neg c7] at H
     have c7b0 : decide (t102 < 0) = false := decide_eq_false c7
     clear c7
     have H' := aM H
     clear H
     have p101 : 0 ≤ (a1 : Int) := of_decide_eq_true (by first | (with_reducible assumption) | assumption)
     have q101 : a1 < (l0.length : Int) := of_decide_eq_true (by first | (with_reducible assumption) | assumption)
     obtain ⟨ad101, e101⟩ := at_N50 HR0.out a1 p101 q101
     cases e101
     replace p101 := eq_true p101
     replace q101 := eq_true q101
     go_enter Tryz.func53, Tryz.ntmps53
     go_wp2_with (first | ((with_reducible refine gD 16 rfl ?_); refine Ndr rfl rfl (xs := l0) (n := l0.length) (A := some ad101) ?hc a1 (of_eq_true p101) (of_eq_true q101) rfl ?ha ?_; (case hc => first | exact HR0.out | exact Kd.C_below HR0.out HB.out); (case ha => rfl)) | ((with_reducible refine gC 56 rfl ?_); refine gL 17 Tryz.func56 #[v50 (Nda l0 a1)] ?_; (with_reducible refine (Ncn.calls (Nda l0 a1) t102 _ A6.out).mono ?_); rintro e w9 ⟨rfl, hb⟩; refine ⟨_, rfl, ?_⟩; replace HB := aM (Nac bE hb); (try clear hb)))
     go_loopg [4, 5, 23] k (fun kq v4 v5 v23 w' => ∃ (x4_1 : Int) (x5_1 : Int) (x23_1 : Int), v4 = .int .i64 x4_1 ∧ v5 = .int .i64 x5_1 ∧ v23 = .int .i64 x23_1 ∧ Nai (Nao.l0 kq l0 x4_1 x5_1 t102 x23_1 = some (r1, r2)) ∧ Nai (kq ≤ k) ∧ Nai (Below w.heap.size w w'))
     case atStart => exact ⟨(wrap64 (a1 + 1)), (0), (0), (by first | rfl | (simp; done) | (simp [*]; done)), (by first | rfl | (simp; done) | (simp [*]; done)), (by first | rfl | (simp; done) | (simp [*]; done)), H', ⟨Nat.le_refl _⟩, ⟨bE⟩⟩
     case round =>
      clear H'
      try clear p1
      try clear q1
      try clear hx1
      try clear p2
      try clear c3
      try clear c3b0
      try clear c4
      try clear c4b0
      try clear c5
      try clear c5b0
      try clear p6
      try clear c7
      try clear c7b0
      try clear hx101_0
      try clear hx101_1
      try clear hx101_10
      try clear hx101_11
      try clear hx101_12
      try clear hx101_13
      try clear hx101_14
      try clear hx101_15
      try clear hx101_16
      try clear hx101_17
      try clear hx101_18
      try clear hx101_19
      try clear hx101_2
      try clear hx101_3
      try clear hx101_4
      try clear hx101_5
      try clear hx101_6
      try clear hx101_7
      try clear hx101_8
      try clear hx101_9
      try clear p101
      try clear q101
      obtain ⟨x4_1, x5_1, x23_1, rfl, rfl, rfl, HA, HK1, HB⟩ := hrel
      cases gk with
      | zero => exact absurd HA.out (by simp [Nao.l0])
      | succ k1 =>
       have H := HA.out
       clear HA
       simp only [Nao.l0] at H
       by_cases c10 : x23_1 < t102
       ·rw [if_pos c10] at H
        have c10b0 : decide (x23_1 < t102) = true := decide_eq_true c10
        clear c10
        replace H := bS H
        obtain ⟨⟨t103, t104⟩, A110, H⟩ := H
        try dsimp only at H
        have A11 := aM A110
        clear A110
        by_cases c12 : t103 < 0
        ·rw [if_pos c12] at H
         have c12b0 : decide (t103 < 0) = true := decide_eq_true c12
         clear c12
         simp only [sJ, pJ] at H
         obtain ⟨rfl, rfl⟩ := H
         go_wp2_with (first | ((with_reducible refine gD 16 rfl ?_); refine Ndr rfl rfl (xs := l0) (n := l0.length) (A := some ad101) ?hc a1 (of_eq_true p101) (of_eq_true q101) rfl ?ha ?_; (case hc => first | exact HR0.out | exact Kd.C_below HR0.out HB.out); (case ha => rfl)) | ((with_reducible refine gC 53 rfl ?_); refine gL 28 Tryz.func53 #[.slice (some ad101) l0.length c0, .int .i64 x4_1] ?_; (with_reducible refine (ih k1 (by have := HK1.out; omega) _ _ l0 x4_1 t103 t104 _ ?side1 ?side2 A11.out).mono ?_); (case side1 => repeat (first | exact (Kd.C_below HR0.out HB.out) | (with_reducible refine Kd.C_alloc ?_ _) | (with_reducible refine Kd.C_drewN ?_ _) | (with_reducible refine Kd.C_drew ?_))); (case side2 => exact HC0.out); rintro e w13 ⟨rfl, hb⟩; refine ⟨_, rfl, ?_⟩; replace HB := aM (Nac bE hb); (try clear hb)))
         go_ret2
         exact ⟨eR, bE⟩
        ·rw [if_neg c12] at H
         have c12b0 : decide (t103 < 0) = false := decide_eq_false c12
         clear c12
         obtain ⟨ji14, hji14⟩ : ∃ j_ : Int, (mx x5_1 t104) = j_ := ⟨_, rfl⟩
         replace H : (Nao.l0 k1 l0 t103 ji14 t102 (wrap64 (x23_1 + 1))) = some (r1, r2) := by first | (rw [hji14] at H; exact H) | (simp only [hji14] at H ⊢; exact H)
         (try rw [hji14] at A11)
         have hji14_ : (if x5_1 < t104 then t104 else x5_1) = ji14 := hji14
         have H' := aM H
         clear H
         go_wp2_with (first | ((with_reducible refine gD 16 rfl ?_); refine Ndr rfl rfl (xs := l0) (n := l0.length) (A := some ad101) ?hc a1 (of_eq_true p101) (of_eq_true q101) rfl ?ha ?_; (case hc => first | exact HR0.out | exact Kd.C_below HR0.out HB.out); (case ha => rfl)) | ((with_reducible refine gC 53 rfl ?_); refine gL 28 Tryz.func53 #[.slice (some ad101) l0.length c0, .int .i64 x4_1] ?_; (with_reducible refine (ih k1 (by have := HK1.out; omega) _ _ l0 x4_1 t103 t104 _ ?side1 ?side2 A11.out).mono ?_); (case side1 => repeat (first | exact (Kd.C_below HR0.out HB.out) | (with_reducible refine Kd.C_alloc ?_ _) | (with_reducible refine Kd.C_drewN ?_ _) | (with_reducible refine Kd.C_drew ?_))); (case side2 => exact HC0.out); rintro e w15 ⟨rfl, hb⟩; refine ⟨_, rfl, ?_⟩; replace HB := aM (Nac bE hb); (try clear hb)))
         go_roundg k1
         case measure => have := HK1.out; omega
         case rel => exact ⟨(t103), (ji14), (wrap64 (x23_1 + 1)), (by first | rfl | (simp; done) | (simp [*]; done)), (by first | rfl | (simp; done) | (simp only [← hji14] <;> (first | rfl | simp)) | (simp [*]; done)), (by first | rfl | (simp; done) | (simp [*]; done)), H', ⟨by have := HK1.out; omega⟩, ⟨bE⟩⟩
       ·rw [if_neg c10] at H
        have c10b0 : decide (x23_1 < t102) = false := decide_eq_false c10
        clear c10
        simp only [sJ, pJ] at H
        obtain ⟨rfl, rfl⟩ := H
        go_wp2
        go_ret2
        exact ⟨eR, bE⟩
   ·rw [if_neg c5] at H
    exact absurd H (by simp)
  ·rw [if_neg c4] at H
   exact absurd H (by simp)
end
def Na2.f (k : Nat) (l0 : List (S50)) : Option (Int) := if (l0.length : Int) > 256 then (some 52) else ((Nao.f k l0 0).bind fun bt101 => (if bt101.1 = (l0.length : Int) then (if bt101.2 > 32 then (some 51) else (some 0)) else (some 53)))
theorem Na2.calls (k : Nat) (A0 : Option Addr) (c0 : Nat) (l0 : List (S50)) (r : Int) (w : World) (hr0 : Kd.C k50 w A0 l0.length l0) (hc0 : l0.length ≤ c0) (h : Na2.f k l0 = some r) :
 Calls Tryz.prog 28 #[.slice A0 l0.length c0] w fun e w' => e = .returned (.int .i64 r) ∧ Below w.heap.size w w' := by
 have HR0 := aM hr0
 have HC0 := aM hc0
 clear hr0 hc0
 have HB := aM (Below.refl w.heap.size w)
 have H := h
 unfold Na2.f at H
 clear h
 by_cases c2 : (l0.length : Int) > 256
 ·rw [if_pos c2] at H
  have c2b0 : decide (256 < (l0.length : Int)) = true := decide_eq_true c2
  have c2b1 : decide (256 < l0.length) = true := decide_eq_true (by omega)
  clear c2
  obtain rfl := sI H
  go_enter Tryz.func28, Tryz.ntmps28
  go_wp2
  go_ret
  exact ⟨eR, bE⟩
 ·rw [if_neg c2] at H
  have c2b0 : decide (256 < (l0.length : Int)) = false := decide_eq_false c2
  have c2b1 : decide (256 < l0.length) = false := decide_eq_false (by omega)
  clear c2
  replace H := bS H
  obtain ⟨⟨t101, t102⟩, A30, H⟩ := H
  try dsimp only at H
  have A3 := aM A30
  clear A30
  by_cases c4 : t101 = (l0.length : Int)
  ·rw [if_pos c4] at H
   obtain ⟨c4b0, c4b1⟩ := bqT c4
   clear c4
   by_cases c5 : t102 > 32
   ·rw [if_pos c5] at H
    have c5b0 : decide (32 < t102) = true := decide_eq_true c5
    clear c5
    obtain rfl := sI H
    go_enter Tryz.func28, Tryz.ntmps28
    go_wp2_with (first | ((with_reducible refine gC 53 rfl ?_); refine gL 10 Tryz.func53 #[.slice A0 l0.length c0, .int .i64 0] ?_; (with_reducible refine (Nao.calls k _ _ l0 0 t101 t102 _ ?side1 ?side2 A3.out).mono ?_); (case side1 => repeat (first | exact HR0.out | (with_reducible refine Kd.C_alloc ?_ _) | (with_reducible refine Kd.C_drewN ?_ _) | (with_reducible refine Kd.C_drew ?_))); (case side2 => exact HC0.out); rintro e w6 ⟨rfl, hb⟩; refine ⟨_, rfl, ?_⟩; replace HB := aM (Nac bE hb); (try clear hb)))
    go_ret
    exact ⟨eR, bE⟩
   ·rw [if_neg c5] at H
    have c5b0 : decide (32 < t102) = false := decide_eq_false c5
    clear c5
    obtain rfl := sI H
    go_enter Tryz.func28, Tryz.ntmps28
    go_wp2_with (first | ((with_reducible refine gC 53 rfl ?_); refine gL 10 Tryz.func53 #[.slice A0 l0.length c0, .int .i64 0] ?_; (with_reducible refine (Nao.calls k _ _ l0 0 t101 t102 _ ?side1 ?side2 A3.out).mono ?_); (case side1 => repeat (first | exact HR0.out | (with_reducible refine Kd.C_alloc ?_ _) | (with_reducible refine Kd.C_drewN ?_ _) | (with_reducible refine Kd.C_drew ?_))); (case side2 => exact HC0.out); rintro e w7 ⟨rfl, hb⟩; refine ⟨_, rfl, ?_⟩; replace HB := aM (Nac bE hb); (try clear hb)))
    go_ret
    exact ⟨eR, bE⟩
  ·rw [if_neg c4] at H
   obtain ⟨c4b0, c4b1⟩ := bqF c4
   obtain rfl := sI H
   go_enter Tryz.func28, Tryz.ntmps28
   go_wp2_with (first | ((with_reducible refine gC 53 rfl ?_); refine gL 10 Tryz.func53 #[.slice A0 l0.length c0, .int .i64 0] ?_; (with_reducible refine (Nao.calls k _ _ l0 0 t101 t102 _ ?side1 ?side2 A3.out).mono ?_); (case side1 => repeat (first | exact HR0.out | (with_reducible refine Kd.C_alloc ?_ _) | (with_reducible refine Kd.C_drewN ?_ _) | (with_reducible refine Kd.C_drew ?_))); (case side2 => exact HC0.out); rintro e w8 ⟨rfl, hb⟩; refine ⟨_, rfl, ?_⟩; replace HB := aM (Nac bE hb); (try clear hb)))
   go_ret
   exact ⟨eR, bE⟩
theorem parse_scan {k : Nat} {s : ByteArray} {w : World} (hG : GL w) {ts : List S39} {c a : Int} (hs : Nbd.f k s = some (ts, c, a)) (hc : c ≠ 0) :
 Calls Tryz.prog 21 #[.string s] w fun en w' => en = .returned (.tuple #[.slice none 0 0, .int .i64 c, .int .i64 a]) ∧ Below w.heap.size w w' := by
 have HS := lh (Nbd.calls k s ts c a w hG hs)
 have bc : (c != 0) = true := bne_iff_ne.mpr hc
 have HC := lh hc
 clear hs hc
 go_enter Tryz.func21, Tryz.ntmps21
 go_wp2_with (go_at_call 31; (with_reducible refine (HS.out).mono ?_); rintro en w1 ⟨v0, rfl, hr, hb⟩; have HB := lh hb; clear hr hb)
 go_ret3
 exact ⟨rfl, HB.out⟩
def ParseIs (x : Except (Int × Int) (List S50)) (cc : Int) (w : World) (en : Ending) (w' : World) : Prop :=
 (match x with
 | .ok l => if cc = 0 then ∃ v, en = .returned (.tuple #[v, .int .i64 0, .int .i64 0]) ∧ Kd.R k50 50 w' w.heap.size (fun _ => True) v l else en = .returned (.tuple #[.slice none 0 0, .int .i64 cc, .int .i64 0])
 | .error (c, p) => en = .returned (.tuple #[.slice none 0 0, .int .i64 c, .int .i64 p])) ∧ Below w.heap.size w w'
theorem parse_good {O : Ops} {k k2 : Nat} {s : ByteArray} {w : World} (hG : GL w) (hz : s.size ≤ 1000000) {ts : List S39} {a : Int} (hs : Nbd.f k s = some (ts, 0, a)) (pe : PEnv O ts) (hcell : ∀ i, O.cell (tokA ts i).f1 = cellO (tokA ts i).f1) (hts : ts.length ≤ 100000)
 {x} (hx : Ndi O ts s.size k = some x) (he : ∀ c p, x = .error (c, p) → c ≠ 0) {cc : Int} (hcc : ∀ l, x = .ok l → Na2.f k2 l = some cc) :
 Calls Tryz.prog 21 #[.string s] w (ParseIs x cc w) := by
 have HS := lh (Nbd.calls k s ts 0 a w hG hs)
 have HX := lh hx
 have HE := lh he
 have HCC := lh hcc
 have HGL := lh hG
 have hu74 := Tryz.underlying74
 clear hs hx he hcc hG
 go_enter Tryz.func21, Tryz.ntmps21
 go_upto_region 4 with (go_at_call 31; (with_reducible refine (HS.out).mono ?_); rintro en w1 ⟨v0, rfl, hr, hb⟩; have HB1 := lh hb; have HR1 := lh hr; clear hr hb)
 obtain ⟨A, c, rfl, hle, hC⟩ := Kd.R_reads HR1.out
 have HGL1 := lh (HGL.out.below HB1.out)
 have HI := lh (IsS72.new w1 w1 A c ts 0 (s.size : Int) (Below.refl _ _) hC)
 have HA := lh (Nae (Below.refl w1.heap.size w1) (.cells #[.slice A ts.length c, .int .i64 0, .int .i64 (s.size : Int)] 72))
 clear hle hC
 go_upto_region 5 with (fail)
 obtain ⟨g, hg⟩ : ∃ x_ : Nat, x_ = w1.heap.size := ⟨_, rfl⟩
 obtain ⟨w2, hw_⟩ : ∃ x_ : World, x_ = w1.alloc (.cells #[.slice A ts.length c, .int .i64 0, .int .i64 (s.size : Int)] 72) := ⟨_, rfl⟩
 have HI2 := lh (show IsS72 w1 w2 g ts 0 (s.size : Int) by rw [hw_, hg]; exact HI.out)
 have HA2 := lh (show Below w1.heap.size w1 w2 by rw [hw_]; exact HA.out)
 clear HI HA
 rw [← hw_, ← hg]
 clear hw_ hg
 have HPR := lh (parsed_any (parts_all HGL1.out pe hcell hts k) hts HI2.out HA2.out HX.out)
 cases x with
 | error p =>
  obtain ⟨c2, p⟩ := p
  have hc2 := HE.out c2 p rfl
  have b1 : (c2 == 0) = false := beq_eq_false_iff_ne.mpr hc2
  have b2 : (c2 != 0) = true := bne_iff_ne.mpr hc2
  have HC2 := lh hc2
  clear hc2 HE HCC
  go_upto_region 6 with (first
   | (go_at_call 46; (with_reducible refine (HPR.out).mono ?_); rintro en w3 ⟨he_, hbel⟩; obtain rfl : en = .returned (.tuple #[.slice none 0 0, .agg #[.int .i64 c2, .int .i64 p]]) := he_; have HB3 := lh (Nac HB1.out hbel); clear hbel)
   | ((with_reducible refine gD 10 rfl ?_); refine bX 10 #[.int .i64 0, .int .i64 0] 74 ?_; intro g10 hg_ w4 hb_ hl_; have ZG := lh (show w3.heap.size ≤ g10 from hg_ ▸ Nat.le_refl _); have BL4 := lh hl_; have J4 := lh hb_; clear hb_ hl_ hg_)
   | ((with_reducible refine gate_ (.store 74 (.tmp 10) (.tmp 30)) rfl ?_); refine sE J4.out 74 (.tmp 10) (.tmp 30) 0 (.agg #[.int .i64 c2, .int .i64 p]) #[.int .i64 c2, .int .i64 p] ?_; intro w5 hb_ hp_; have J5 := lh hb_; have BL5 := lh (hp_.below w3 ZG.out BL4.out); clear J4 BL4; clear hb_ hp_))
  have e0 : w5.cell? ⟨g10, 0, none⟩ = some (.int .i64 c2) := (Naa J5.out 0).trans rfl
  have e1 : w5.cell? ⟨g10, 1, none⟩ = some (.int .i64 p) := (Naa J5.out 1).trans rfl
  have HB5 := lh (Nac HB3.out BL5.out)
  go_wp2
  go_quiet (fail)
  go_wp2
  go_ret3
  exact ⟨rfl, Nas HB5.out _⟩
 | ok l =>
  have HCK := lh (HCC.out l rfl)
  clear HCC HE
  go_upto_region 6 with (first
   | (go_at_call 46; (with_reducible refine (HPR.out).mono ?_); rintro en w3 ⟨he_, hbel⟩; obtain ⟨v3, he2_, hr⟩ : (∃ v, en = .returned (.tuple #[v, .agg #[.int .i64 0, .int .i64 0]]) ∧ Kd.R k50 50 w3 w2.heap.size (fun _ => True) v l) := he_; subst he2_; have HB3 := lh (Nac HB1.out hbel); have HR3 := lh (Kd.R_lower hr (show w.heap.size ≤ w2.heap.size by have := HB1.out.size; have := HA2.out.size; omega)); obtain ⟨A3, c3, rfl, hle3, -⟩ := Kd.R_reads hr; have HL3 := lh hle3; clear hbel hr hle3)
   | ((with_reducible refine gD 10 rfl ?_); refine bX 10 #[.int .i64 0, .int .i64 0] 74 ?_; intro g10 hg_ w4 hb_ hl_; have ZG := lh (show w3.heap.size ≤ g10 from hg_ ▸ Nat.le_refl _); have BL4 := lh hl_; have J4 := lh hb_; clear hb_ hl_ hg_)
   | ((with_reducible refine gate_ (.store 74 (.tmp 10) (.tmp 30)) rfl ?_); refine sE J4.out 74 (.tmp 10) (.tmp 30) 0 (.agg #[.int .i64 0, .int .i64 0]) #[.int .i64 0, .int .i64 0] ?_; intro w5 hb_ hp_; have J5 := lh hb_; have BL5 := lh (hp_.below w3 ZG.out BL4.out); clear J4 BL4; clear hb_ hp_))
  have e0 : w5.cell? ⟨g10, 0, none⟩ = some (.int .i64 0) := (Naa J5.out 0).trans rfl
  have HB5 := lh (Nac HB3.out BL5.out)
  have HR5 := lh (Kd.R_below HR3.out BL5.out)
  have HCH := lh (Na2.calls k2 A3 c3 l cc w5 (Kd.R_reads' HR5.out).2.2 HL3.out HCK.out)
  go_upto_region 8 with (first
   | (go_at_call 28; (with_reducible refine (HCH.out).mono ?_); rintro en w6 ⟨rfl, hb_⟩; have J6 := lh (Nad J5.out hb_); have BL6 := lh (Nac BL5.out hb_); have HR6 := lh (Kd.R_below HR5.out hb_); clear hb_ e0)
   | ((with_reducible refine gate_ (.store 23 (.tmp 36) (.tmp 35)) rfl ?_); refine sE J6.out 23 (.tmp 36) (.tmp 35) 0 (.int .i64 cc) #[.int .i64 cc, .int .i64 0] ?_; intro w7 hb_ hp_; have J7 := lh hb_; have BL7 := lh (hp_.below w3 ZG.out BL6.out); clear J6; clear hb_ hp_))
  have e0 : w7.cell? ⟨g10, 0, none⟩ = some (.int .i64 cc) := (Naa J7.out 0).trans rfl
  have e1 : w7.cell? ⟨g10, 1, none⟩ = some (.int .i64 0) := (Naa J7.out 1).trans rfl
  have HB7 := lh (Nac HB3.out BL7.out)
  have HR7 := lh (Kd.R_below HR3.out BL7.out)
  by_cases hcc : cc = 0
  ·have b2 : (cc != 0) = false := bne_eq_false_iff_eq.mpr hcc
   have HC0 := lh hcc
   clear hcc
   go_wp2
   go_ret3
   exact ⟨by show (if cc = 0 then _ else _); rw [if_pos HC0.out]; exact ⟨_, rfl, HR7.out⟩, HB7.out⟩
  ·have b2 : (cc != 0) = true := bne_iff_ne.mpr hcc
   have HC0 := lh hcc
   clear hcc
   go_wp2
   go_quiet (fail)
   go_wp2
   go_ret3
   exact ⟨by show (if cc = 0 then _ else _); rw [if_neg HC0.out]; rfl, Nas HB7.out _⟩
section
set_option maxHeartbeats 2000000
def Far (g : Nat) (w w' : World) : Prop := ∀ i cs T fr, i ≠ g → T ≠ 5 → w.heap[i]? = some (.cells cs T fr) → w'.heap[i]? = some (.cells cs T fr)
theorem Far.refl (g : Nat) (w : World) : Far g w w := fun _ _ _ _ _ _ h => h
theorem Far.trans {g : Nat} {w w1 w2 : World} (a : Far g w w1) (b : Far g w1 w2) : Far g w w2 := fun i cs T fr hi hT h => b i cs T fr hi hT (a i cs T fr hi hT h)
theorem Far.below {g : Nat} {w w' : World} (h : Below w.heap.size w w') : Far g w w' := fun i cs T fr _ _ hh => by
 have hlt : i < w.heap.size := (Array.getElem?_eq_some_iff.1 hh).1
 exact Nad hh h
theorem Far.setCell (g : Nat) (w : World) (j : Nat) (v : Value) : Far g w (w.setCell ⟨g, j, none⟩ v) := fun i cs T fr hi _ h => by
 rw [Below.heap_setCell _ _ _ _ (fun e => hi (by simp [e]))]
 exact h
theorem Far.grown {g B : Nat} {w w' : World} {v : Value} {n : Nat} {xs : List Value} (hown : w.ownsRow B 5 1 v n xs) (hg : w.grownBy w' v.ownBlock) : Far g w w' := fun i cs T fr _ hT h => by
 rw [hg.block i (Array.getElem?_eq_some_iff.1 h).1 (fun e => Lib.ownBlock_ne hown h hT e.symm)]
 exact h
theorem Far.drew {g : Nat} {w w' : World} (h : Far g w w') : Far g w w'.drew := h
def IsPr (B : Nat) (w : World) (g : Nat) (bs : List UInt8) (lv : Value) (a : Int) : Prop :=
 B ≤ g ∧ ∃ p v, (p = .pointer none ∨ p = .pointer (some ⟨g, 0, none⟩)) ∧ w.heap[g]? = some (.cells #[p, v, lv, .int .i64 a] 87 (0, 0)) ∧ w.ownsRow B 5 1 v bs.length (Lib.byteCells bs) ∧ v.ownBlock ≠ some g
theorem size_builder : (Tryz.prog.info? 85).map (·.size) = some 2 := by kernel_rfl
theorem lies_builder : liesAt Tryz.prog Tryz.prog.depth 87 (4 / Tryz.prog.cellsOf 87) 0 85 1 = true := by kernel_rfl
theorem info_byte : (Tryz.prog.info? 5).map (fun i => (i.zero, i.size, i.bytes)) = some (some (.int .u8 0), 1, 1) := by kernel_rfl
theorem run_neq_own {w : World} (a : Addr) : (binOp .neq 82 (.pointer (some a)) (.pointer (some a))).run Tryz.prog w = .ok (.bool false) w := by
 obtain ⟨j, hj, _⟩ := Option.map_eq_some_iff.1 size_builder
 exact Lib.run_neq_ptr_same w a Tryz.underlying82 hj
theorem check_used (g : Nat) (w : World) (h0 : w.cell? ⟨g, 0, none⟩ = some (.pointer (some ⟨g, 0, none⟩))) :
 Calls Tryz.prog 97 #[.pointer (some ⟨g, 0, none⟩)] w fun e w' => e = .returned (.tuple #[]) ∧ w' = w := by
 go_enter Tryz.func97, Tryz.ntmps97
 go_wp2
 rw [run_neq_own]
 go_wp2
 go_end0
 exact ⟨rfl, rfl⟩
theorem check_fresh (g : Nat) (w : World) (h0 : w.cell? ⟨g, 0, none⟩ = some (.pointer none)) (hsh : w.shape? g = some (87, 4)) (hfz : w.frozen? ⟨g, 0, none⟩ = false) :
 Calls Tryz.prog 97 #[.pointer (some ⟨g, 0, none⟩)] w fun e w' => e = .returned (.tuple #[]) ∧ w' = w.setCell ⟨g, 0, none⟩ (.pointer (some ⟨g, 0, none⟩)) := by
 obtain ⟨j, hj, hjs⟩ := Option.map_eq_some_iff.1 size_builder
 go_enter Tryz.func97, Tryz.ntmps97
 go_wp2
 rw [Lib.run_to_unsafe w ⟨g, 0, none⟩ Tryz.underlying82 Tryz.underlying162 hj (by rw [hjs]; decide) hsh (Nat.zero_lt_succ 3)]
 simp only [Result.andThen]
 rw [Oper.upon_value]
 go_wp2
 rw [run_callFunc_extern Tryz.func137 (by kernel_rfl) (by kernel_rfl) (by kernel_rfl) (e := Extern.AbiNoEscape.same) (by kernel_rfl)]
 rw [Lib.run_noEscape]
 simp only [Result.andThen]
 rw [Oper.upon_value]
 go_wp2
 rw [Lib.run_from_unsafe w ⟨g, 0, none⟩ Tryz.underlying162 Tryz.underlying82 hj hsh lies_builder]
 simp only [Result.andThen]
 rw [Oper.upon_value]
 go_wp2
 go_end0
 exact ⟨rfl, rfl⟩
structure Wrote (B : Nat) (w : World) (g : Nat) (bs : List UInt8) (lv : Value) (a : Int) (w' : World) : Prop where
 pr : IsPr B w' g bs lv a
 bel : Below B w w'
 far : Far g w w'
theorem Wrote.trans {B g : Nat} {w w1 w2 : World} {b1 b2 : List UInt8} {l1 l2 : Value} {a1 a2 : Int} (h : Wrote B w g b1 l1 a1 w1) (h2 : Wrote B w1 g b2 l2 a2 w2) : Wrote B w g b2 l2 a2 w2 :=
 ⟨h2.pr, h.bel.trans h2.bel, h.far.trans h2.far⟩
theorem IsPr.lt {B g : Nat} {w : World} {bs : List UInt8} {lv : Value} {a : Int} (h : IsPr B w g bs lv a) : g < w.heap.size := by
 obtain ⟨_, p, v, _, hb, _⟩ := h
 exact (Array.getElem?_eq_some_iff.1 hb).1
theorem checked {B g : Nat} {w : World} {bs : List UInt8} {lv : Value} {a : Int} (h : IsPr B w g bs lv a) :
 Calls Tryz.prog 97 #[.pointer (some ⟨g, 0, none⟩)] w fun e w' => e = .returned (.tuple #[]) ∧ Wrote B w g bs lv a w' := by
 obtain ⟨hB, p, v, hp, hb, hown, hne⟩ := h
 rcases hp with rfl | rfl
 ·refine (check_fresh g w ((Naa hb 0).trans rfl) (by simp [World.shape?, hb]) (Naf hb 0)).mono ?_
  rintro e w' ⟨rfl, rfl⟩
  refine ⟨rfl, ⟨hB, _, v, .inr rfl, ?_, ?_, hne⟩, (Below.refl B w).setCell (p := ⟨g, 0, none⟩) hB _, Far.setCell g w 0 _⟩
  ·simp [World.setCell, Array.getElem?_modify, hb]
  ·exact hown.kept (row := some g) ⟨rfl, rfl, rfl, by simp [World.setCell], fun k _ hk => Below.heap_setCell _ _ _ _ (fun e => hk (by simp [e]))⟩ (Or.inr hne)
 ·refine (check_used g w ((Naa hb 0).trans rfl)).mono ?_
  rintro e w' ⟨rfl, rfl⟩
  exact ⟨rfl, ⟨hB, _, v, .inr rfl, hb, hown, hne⟩, Below.refl B _, Far.refl g _⟩
theorem put_buf {B g : Nat} {w : World} {p v v' : Value} {bs' : List UInt8} {lv : Value} {a : Int} (hB : B ≤ g) (hp : p = .pointer none ∨ p = .pointer (some ⟨g, 0, none⟩)) (hb : w.heap[g]? = some (.cells #[p, v, lv, .int .i64 a] 87 (0, 0))) (hown : w.ownsRow B 5 1 v' bs'.length (Lib.byteCells bs')) :
 IsPr B (w.setCell ⟨g, 1, none⟩ v') g bs' lv a := by
 have hne := Lib.ownBlock_ne hown hb (by decide)
 refine ⟨hB, p, v', hp, ?_, ?_, hne⟩
 ·simp [World.setCell, Array.getElem?_modify, hb]
 ·exact hown.kept (row := some g) ⟨rfl, rfl, rfl, by simp [World.setCell], fun k _ hk => Below.heap_setCell _ _ _ _ (fun e => hk (by simp [e]))⟩ (Or.inr hne)
theorem write_byte {B g : Nat} {w : World} {bs : List UInt8} {lv : Value} {a : Int} (h : IsPr B w g bs lv a) (c : UInt8) (hlen : bs.length + 1 ≤ 140737488355328) (hBw : B ≤ w.heap.size) :
 Calls Tryz.prog 58 #[.pointer (some ⟨g, 0, none⟩), .int .u8 c.toNat] w fun e w' => e = .returned .nilIface ∧ Wrote B w g (bs ++ [c]) lv a w' := by
 obtain ⟨i0, hi, hz0, hz1, hz2⟩ := info_parts info_byte
 go_enter Tryz.func58, Tryz.ntmps58
 go_wp2_with (go_at_call 97; refine (checked h).mono ?_)
 rintro e w1 ⟨rfl, ⟨hB, p, v, hp, hbk, hown, hne⟩, hb1, hf1⟩
 have c1 : w1.cell? ⟨g, 1, none⟩ = some v := (Naa hbk 1).trans rfl
 go_wp2_with (at_builtin; refine wpList_append_own _ rfl _ _ 83 rfl B 5 i0 (.int .u8 0) 1 1 Tryz.underlying83 hi hz0 hz1 hz2 rfl (by decide) _ _ _ rfl (hown.alloc _) ⟨w1.heap.size, 0, none⟩ 1 1 [.int .u8 c.toNat] rfl rfl ?c1 ?c2 ?c3 ?c4 ?c5 ?_)
 case c1 =>
  intro j u hj
  match j, hj with
  | 0, hj => simp at hj; subst hj; simp [Addr.add]
 case c2 => intro u hu; simp at hu; subst hu; rfl
 case c3 => unfold maxLen; omega
 case c4 => omega
 case c5 => have := hb1.size; simp; omega
 intro v' w2 hown' hgrow _
 have hlt : g < w1.heap.size := (Array.getElem?_eq_some_iff.1 hbk).1
 have hb2 : w2.heap[g]? = some (.cells #[p, v, lv, .int .i64 a] 87 (0, 0)) := by
  rw [hgrow.block g (by simp; omega) (fun e => hne e.symm), Lib.alloc_old w1 _ g hlt]
  exact hbk
 have d1 : w2.cell? ⟨g, 1, none⟩ = some v := (Naa hb2 1).trans rfl
 have f1 : w2.frozen? ⟨g, 1, none⟩ = false := Naf hb2 1
 obtain ⟨ao, n', cap, rfl⟩ : ∃ ao n' cap, v' = .slice ao n' cap := by
  rcases hown'.2 with ⟨hv, _⟩ | ⟨g, cap, cur, hv, _⟩
  ·exact ⟨_, _, _, hv⟩
  ·exact ⟨_, _, _, hv⟩
 go_wp2
 go_ret
 refine ⟨rfl, ?_, ?_, ?_⟩
 ·exact put_buf hB hp hb2 (bs' := bs ++ [c]) (by simpa [Lib.byteCells] using hown')
 ·exact ((hb1.alloc (by have := hb1.size; omega) _).grown hgrow (by have := hb1.size; simp; omega) (fun k hk => (hown.lt k hk).1)).setCell (p := ⟨g, 1, none⟩) hB _
 ·exact ((hf1.trans (Far.below (Nae (Below.refl _ _) _))).trans (Far.grown (hown.alloc _) hgrow)).trans (Far.setCell g _ 1 _)
theorem Na4 {B g : Nat} {w : World} {bs : List UInt8} {lv : Value} {a : Int} (h : IsPr B w g bs lv a) (s : ByteArray) (hlen : bs.length + s.size ≤ 140737488355328) (hBw : B ≤ w.heap.size) :
 Calls Tryz.prog 59 #[.pointer (some ⟨g, 0, none⟩), .string s] w fun e w' => e = .returned (.tuple #[.int .i64 s.size, .nilIface]) ∧ Wrote B w g (bs ++ s.data.toList) lv a w' := by
 obtain ⟨i0, hi, hz0, hz1, hz2⟩ := info_parts info_byte
 go_enter Tryz.func59, Tryz.ntmps59
 go_wp2_with (go_at_call 97; refine (checked h).mono ?_)
 rintro e w1 ⟨rfl, ⟨hB, p, v, hp, hbk, hown, hne⟩, hb1, hf1⟩
 have c1 : w1.cell? ⟨g, 1, none⟩ = some v := (Naa hbk 1).trans rfl
 go_wp2_with (at_builtin; refine Lib.wpList_append_own_string _ rfl _ _ 83 9 rfl B 5 i0 Tryz.underlying83 Tryz.underlying9 hi hz0 hz1 hz2 _ _ _ rfl hown s rfl ?c3 ?c4 ?c5 ?_)
 case c3 => unfold maxLen; omega
 case c4 => omega
 case c5 => have := hb1.size; omega
 intro v' w2 hown' hgrow _
 have hlt : g < w1.heap.size := (Array.getElem?_eq_some_iff.1 hbk).1
 have hb2 : w2.heap[g]? = some (.cells #[p, v, lv, .int .i64 a] 87 (0, 0)) := by
  rw [hgrow.block g hlt (fun e => hne e.symm)]
  exact hbk
 have d1 : w2.cell? ⟨g, 1, none⟩ = some v := (Naa hb2 1).trans rfl
 have f1 : w2.frozen? ⟨g, 1, none⟩ = false := Naf hb2 1
 obtain ⟨ao, n', cap, rfl⟩ : ∃ ao n' cap, v' = .slice ao n' cap := by
  rcases hown'.2 with ⟨hv, _⟩ | ⟨g, cap, cur, hv, _⟩
  ·exact ⟨_, _, _, hv⟩
  ·exact ⟨_, _, _, hv⟩
 go_wp2
 go_ret2
 have hsl : s.data.toList.length = s.size := Array.length_toList
 refine ⟨rfl, ?_, ?_, ?_⟩
 ·refine put_buf hB hp hb2 (bs' := bs ++ s.data.toList) ?_
  rw [List.length_append, hsl]
  have : Lib.byteCells (bs ++ s.data.toList) = Lib.byteCells bs ++ Lib.strCells s := by
   simp [Lib.byteCells, Lib.strCells]
  rw [this]; exact hown'
 ·exact (hb1.grown hgrow (by have := hb1.size; omega) (fun k hk => (hown.lt k hk).1)).setCell (p := ⟨g, 1, none⟩) hB _
 ·exact (hf1.trans (Far.grown hown hgrow)).trans (Far.setCell g _ 1 _)
theorem string_some {B g : Nat} {w : World} {l : List UInt8} {lv : Value} {a : Int} (h : IsPr B w g l lv a) (h0 : l ≠ []) :
 Calls Tryz.prog 51 #[.pointer (some ⟨g, 0, none⟩)] w fun e w' => e = .returned (.string ⟨l.toArray⟩) ∧ Below B w w' := by
 obtain ⟨hB, p, v, hp, hbk, hown, hne⟩ := h
 have hl0 : l.length ≠ 0 := by simpa using h0
 obtain ⟨q, cap, cur, rfl, hbg, hg, hnc, hcm, hcs, htake⟩ : ∃ q cap cur, v = .slice (some ⟨q, 0, none⟩) l.length cap ∧ B ≤ q ∧ w.heap[q]? = some (.cells cur 5 (0, 0)) ∧ l.length ≤ cap ∧ cap ≤ maxLen ∧ cur.size = cap * 1 ∧ cur.toList.take (l.length * 1) = Lib.byteCells l := by
  rcases hown.2 with ⟨_, hz⟩ | ⟨q, cap, cur, hv, r⟩
  ·exact absurd hz hl0
  ·exact ⟨q, cap, cur, hv, r⟩
 have c1 : w.drew.cell? ⟨g, 1, none⟩ = some (.slice (some ⟨q, 0, none⟩) l.length cap) := by
  have : w.drew.heap[g]? = some (.cells #[p, .slice (some ⟨q, 0, none⟩) l.length cap, lv, .int .i64 a] 87 (0, 0)) := hbk
  rw [Lib.cell_of_heap this]; rfl
 have hSD : (Builtin.unsafeSliceData_ #[83] 120 #[.slice (some ⟨q, 0, none⟩) l.length cap]).run Tryz.prog w.drew = .ok (.pointer (some ⟨q, 0, none⟩)) w.drew :=
  Lib.run_unsafeSliceData_row _ _ _ _ _ _ (by omega)
 have hUS : (Builtin.unsafeString_ #[120, 3] 9 #[.pointer (some ⟨q, 0, none⟩), .int .i64 l.length]).run Tryz.prog w.drew = .ok (.string ⟨l.toArray⟩) (w.drew.freeze ⟨q, 0, none⟩ l.length) := by
  refine Lib.run_unsafeString_row w.drew 120 3 9 5 Tryz.underlying120 (by kernel_rfl) q cur.size (by have hg' : w.drew.heap[q]? = some (.cells cur 5 (0, 0)) := hg; simp [World.shape?, hg']) l h0 (by omega) (by unfold maxLen at hcm; omega) ?_
  intro j x hx
  have := hown.cells (g := q) rfl j (.int .u8 x.toNat) (by simp [Lib.byteCells, hx])
  exact this
 go_enter Tryz.func51, Tryz.ntmps51
 go_wp2
 go_region
 all_goals (go_wp2; go_ret; exact ⟨rfl, Lib.below_freeze (Below.drew (Below.refl B w)) (p := ⟨q, 0, none⟩) hbg _⟩)
end
theorem write_byte_d {B g : Nat} {w : World} {bs : List UInt8} {lv : Value} {a : Int} (h : IsPr B w g bs lv a) (c : UInt8) (u : FrameMode) (hlen : bs.length + 1 ≤ 140737488355328) (hBw : B ≤ w.heap.size) :
 CallsD Tryz.prog 58 #[.pointer (some ⟨g, 0, none⟩), .int .u8 c.toNat] u w fun e u' w' => u' = u ∧ e = .returned .nilIface ∧ Wrote B w g (bs ++ [c]) lv a w' := by
 obtain ⟨i0, hi, hz0, hz1, hz2⟩ := info_parts info_byte
 go_enter_d Tryz.func58, Tryz.ntmps58
 go_wp2_with (go_at_call 97; refine (checked h).mono ?_)
 rintro e w1 ⟨rfl, ⟨hB, p, v, hp, hbk, hown, hne⟩, hb1, hf1⟩
 have c1 : w1.cell? ⟨g, 1, none⟩ = some v := (Naa hbk 1).trans rfl
 go_wp2_with (at_builtin; refine wpList_append_own _ rfl _ _ 83 rfl B 5 i0 (.int .u8 0) 1 1 Tryz.underlying83 hi hz0 hz1 hz2 rfl (by decide) _ _ _ rfl (hown.alloc _) ⟨w1.heap.size, 0, none⟩ 1 1 [.int .u8 c.toNat] rfl rfl ?c1 ?c2 ?c3 ?c4 ?c5 ?_)
 case c1 =>
  intro j u hj
  match j, hj with
  | 0, hj => simp at hj; subst hj; simp [Addr.add]
 case c2 => intro u hu; simp at hu; subst hu; rfl
 case c3 => unfold maxLen; omega
 case c4 => omega
 case c5 => have := hb1.size; simp; omega
 intro v' w2 hown' hgrow _
 have hlt : g < w1.heap.size := (Array.getElem?_eq_some_iff.1 hbk).1
 have hb2 : w2.heap[g]? = some (.cells #[p, v, lv, .int .i64 a] 87 (0, 0)) := by
  rw [hgrow.block g (by simp; omega) (fun e => hne e.symm), Lib.alloc_old w1 _ g hlt]
  exact hbk
 have d1 : w2.cell? ⟨g, 1, none⟩ = some v := (Naa hb2 1).trans rfl
 have f1 : w2.frozen? ⟨g, 1, none⟩ = false := Naf hb2 1
 obtain ⟨ao, n', cap, rfl⟩ : ∃ ao n' cap, v' = .slice ao n' cap := by
  rcases hown'.2 with ⟨hv, _⟩ | ⟨g, cap, cur, hv, _⟩
  ·exact ⟨_, _, _, hv⟩
  ·exact ⟨_, _, _, hv⟩
 go_wp2
 go_ret
 refine ⟨rfl, ?_, ?_, ?_⟩
 ·exact put_buf hB hp hb2 (bs' := bs ++ [c]) (by simpa [Lib.byteCells] using hown')
 ·exact ((hb1.alloc (by have := hb1.size; omega) _).grown hgrow (by have := hb1.size; simp; omega) (fun k hk => (hown.lt k hk).1)).setCell (p := ⟨g, 1, none⟩) hB _
 ·exact ((hf1.trans (Far.below (Nae (Below.refl _ _) _))).trans (Far.grown (hown.alloc _) hgrow)).trans (Far.setCell g _ 1 _)
end Go.Proofs.YtejbbceidnaloaaGreatDoor.P
