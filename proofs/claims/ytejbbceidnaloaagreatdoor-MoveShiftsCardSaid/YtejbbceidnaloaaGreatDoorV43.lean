import Derived.Test.YtejbbceidnaloaaGreatDoorV42
set_option linter.unusedVariables false
set_option linter.unusedSimpArgs false
set_option maxRecDepth 100000
set_option maxHeartbeats 8000000
namespace Go.Proofs.YtejbbceidnaloaaGreatDoor.P
open Go.RowKit AW AL AM
theorem parts_val {v : S46} (h : litB v = true) : Naq (nVal v) = 0 := by
 unfold litB at h
 rw [Bool.and_eq_true] at h
 unfold Naq Nd4
 rw [if_pos (show (nVal v).f0 = 1 from rfl)]
 unfold partsV1
 split
 ·split
  ·rfl
  ·rename_i h2; exact absurd ⟨h.1, of_decide_eq_true h.2⟩ h2
 ·rename_i h1; exact absurd (by kernel_rfl) h1
theorem parts_un {o : Int} (h1 : 1 ≤ o) (h2 : o ≤ 3) : Naq (nUn o) = 1 := by
 unfold Naq Nd4
 rw [if_neg (by show ¬ (4 : Int) = 1; decide), if_neg (by show ¬ (4 : Int) = 2; decide), if_neg (by show ¬ (4 : Int) = 3; decide), if_pos (show (nUn o).f0 = 4 from rfl)]
 unfold partsV4
 split
 ·split
  ·rfl
  ·rename_i h3; exact absurd ⟨h1, h2⟩ h3
 ·rename_i h3; exact absurd (by kernel_rfl) h3
theorem parts_bin {o : Int} (h : binO o) : Naq (nBin o) = 2 := by
 unfold Naq Nd4
 rw [if_neg (by show ¬ (5 : Int) = 1; decide), if_neg (by show ¬ (5 : Int) = 2; decide), if_neg (by show ¬ (5 : Int) = 3; decide), if_neg (by show ¬ (5 : Int) = 4; decide), if_pos (show (nBin o).f0 = 5 from rfl)]
 unfold partsV5
 split
 ·split
  ·rfl
  ·rename_i h3; exact absurd h h3
 ·rename_i h3; exact absurd (by kernel_rfl) h3
theorem parts_call {m : ByteArray} {c : Int} (h : fnB m = true) (h1 : 0 ≤ c) (h2 : c ≤ 30) : Naq (nCall m c) = c := by
 unfold Naq Nd4
 rw [if_neg (by show ¬ (6 : Int) = 1; decide), if_neg (by show ¬ (6 : Int) = 2; decide), if_neg (by show ¬ (6 : Int) = 3; decide), if_neg (by show ¬ (6 : Int) = 4; decide), if_neg (by show ¬ (6 : Int) = 5; decide), if_pos (show (nCall m c).f0 = 6 from rfl)]
 unfold partsV6
 split
 ·split
  ·rfl
  ·rename_i h3; exact absurd ⟨h, h1, h2⟩ h3
 ·rename_i h3; exact absurd (by kernel_rfl) h3
theorem shape1 {x : S50} (h : 0 ≤ Naq x) (k : x.f0 = 1) : x = nVal x.f1 ∧ litB x.f1 = true ∧ Naq x = 0 := by
 have hg := Nec x h
 generalize hz : Naq x = z at hg ⊢
 cases hg <;> first | (cases k; done) | exact ⟨rfl, by assumption, rfl⟩
theorem shape2 {x : S50} (h : 0 ≤ Naq x) (k : x.f0 = 2) : x = nCell x.f5 ∧ refR x.f5 = true ∧ Naq x = 0 := by
 have hg := Nec x h
 generalize hz : Naq x = z at hg ⊢
 cases hg <;> first | (cases k; done) | exact ⟨rfl, by assumption, rfl⟩
theorem shape3 {x : S50} (h : 0 ≤ Naq x) (k : x.f0 = 3) : x = nArea x.f5 x.f6 ∧ refR x.f5 = true ∧ refR x.f6 = true ∧ x.f6.f0 = eB ∧ Naq x = 0 := by
 have hg := Nec x h
 generalize hz : Naq x = z at hg ⊢
 cases hg <;> first | (cases k; done) | exact ⟨rfl, by assumption, by assumption, by assumption, rfl⟩
theorem shape4 {x : S50} (h : 0 ≤ Naq x) (k : x.f0 = 4) : x = nUn x.f2 ∧ 1 ≤ x.f2 ∧ x.f2 ≤ 3 ∧ Naq x = 1 := by
 have hg := Nec x h
 generalize hz : Naq x = z at hg ⊢
 cases hg <;> first | (cases k; done) | exact ⟨rfl, by assumption, by assumption, rfl⟩
theorem shape5 {x : S50} (h : 0 ≤ Naq x) (k : x.f0 = 5) : x = nBin x.f2 ∧ binO x.f2 ∧ Naq x = 2 := by
 have hg := Nec x h
 generalize hz : Naq x = z at hg ⊢
 cases hg <;> first | (cases k; done) | exact ⟨rfl, by assumption, rfl⟩
theorem shape6 {x : S50} (h : 0 ≤ Naq x) (k : x.f0 = 6) : x = nCall x.f3 x.f4 ∧ fnB x.f3 = true ∧ 0 ≤ x.f4 ∧ x.f4 ≤ 30 ∧ Naq x = x.f4 := by
 have hg := Nec x h
 generalize hz : Naq x = z at hg ⊢
 cases hg <;> first | (cases k; done) | exact ⟨rfl, by assumption, by assumption, by assumption, rfl⟩
theorem shape0 {x : S50} (h : 0 ≤ Naq x) : 1 ≤ x.f0 ∧ x.f0 ≤ 6 := by
 have hg := Nec x h
 generalize hz : Naq x = z at hg
 cases hg
 ·exact ⟨by show (1 : Int) ≤ 1; decide, by show (1 : Int) ≤ 6; decide⟩
 ·exact ⟨by show (1 : Int) ≤ 2; decide, by show (2 : Int) ≤ 6; decide⟩
 ·exact ⟨by show (1 : Int) ≤ 3; decide, by show (3 : Int) ≤ 6; decide⟩
 ·exact ⟨by show (1 : Int) ≤ 4; decide, by show (4 : Int) ≤ 6; decide⟩
 ·exact ⟨by show (1 : Int) ≤ 5; decide, by show (5 : Int) ≤ 6; decide⟩
 ·exact ⟨by show (1 : Int) ≤ 6; decide, by show (6 : Int) ≤ 6; decide⟩
def rk (x : S50) : Int := if x.f0 = 4 then 1 else if x.f0 = 5 then 2 else if x.f0 = 6 then x.f4 else 0
theorem eqS_no {x y : S50} (h : ¬ x = y) : eqS x y = false := by
 cases hb : eqS x y with
 | true => exact absurd (Nb7.1 hb) h
 | false => rfl
theorem node84 (x : S50) (hs : x.f1.f2.size ≤ 9223372036854775807) (w : World) : ND x w (if 0 ≤ Naq x then Naq x else rk x) (decide (0 ≤ Naq x)) := by
 by_cases k1 : x.f0 = 1
 ·by_cases hg : 0 ≤ Naq x
  ·obtain ⟨he, h5, hp⟩ := shape1 hg k1
   rw [if_pos hg, decide_eq_true hg, hp]
   exact nd1b x w k1 (Nb7.2 he) (x.f1.f2.size + 1000003) true (by rw [← h5]; exact literal_f x.f1 hs _ (by omega) (by omega))
  ·rw [if_neg hg, decide_eq_false hg, show rk x = 0 by unfold rk; rw [k1]; rfl]
   by_cases he : x = nVal x.f1
   ·have h5 : litB x.f1 = false := by
     cases hb : litB x.f1 with
     | true => exact absurd (by rw [he, parts_val hb]; decide) hg
     | false => rfl
    exact nd1b x w k1 (Nb7.2 he) (x.f1.f2.size + 1000003) false (by rw [← h5]; exact literal_f x.f1 hs _ (by omega) (by omega))
   ·exact nd1a x w k1 (eqS_no he)
 by_cases k2 : x.f0 = 2
 ·by_cases hg : 0 ≤ Naq x
  ·obtain ⟨he, h5, hp⟩ := shape2 hg k2
   rw [if_pos hg, decide_eq_true hg, hp]
   exact nd2b x w k2 (Nb7.2 he) true (by rw [← h5]; exact ref5_f x.f5.f0 x.f5.f1 x.f5.f2 x.f5.f3 x.f5.f4 20 (by omega))
  ·rw [if_neg hg, decide_eq_false hg, show rk x = 0 by unfold rk; rw [k2]; rfl]
   by_cases he : x = nCell x.f5
   ·have h5 : refR x.f5 = false := by
     cases hb : refR x.f5 with
     | true => exact absurd (by rw [he, parts_cell hb]; decide) hg
     | false => rfl
    exact nd2b x w k2 (Nb7.2 he) false (by rw [← h5]; exact ref5_f x.f5.f0 x.f5.f1 x.f5.f2 x.f5.f3 x.f5.f4 20 (by omega))
   ·exact nd2a x w k2 (eqS_no he)
 by_cases k3 : x.f0 = 3
 ·by_cases hg : 0 ≤ Naq x
  ·obtain ⟨he, h5, h6, h7, hp⟩ := shape3 hg k3
   rw [if_pos hg, decide_eq_true hg, hp]
   have := nd3d x w k3 (Nb7.2 he) (by rw [← h5]; exact ref5_f x.f5.f0 x.f5.f1 x.f5.f2 x.f5.f3 x.f5.f4 20 (by omega)) (by rw [← h6]; exact ref5_f x.f6.f0 x.f6.f1 x.f6.f2 x.f6.f3 x.f6.f4 20 (by omega))
   rw [show x.f6.f0.toList.isEmpty = true by rw [h7]; kernel_rfl] at this
   exact this
  ·rw [if_neg hg, decide_eq_false hg, show rk x = 0 by unfold rk; rw [k3]; rfl]
   by_cases he : x = nArea x.f5 x.f6
   ·cases h5 : refR x.f5 with
    | false => exact nd3b x w k3 (Nb7.2 he) (by rw [← h5]; exact ref5_f x.f5.f0 x.f5.f1 x.f5.f2 x.f5.f3 x.f5.f4 20 (by omega))
    | true =>
     cases h6 : refR x.f6 with
     | false => exact nd3c x w k3 (Nb7.2 he) (by rw [← h5]; exact ref5_f x.f5.f0 x.f5.f1 x.f5.f2 x.f5.f3 x.f5.f4 20 (by omega)) (by rw [← h6]; exact ref5_f x.f6.f0 x.f6.f1 x.f6.f2 x.f6.f3 x.f6.f4 20 (by omega))
     | true =>
      have h7 : x.f6.f0.toList.isEmpty = false := by
       cases hb : x.f6.f0.toList.isEmpty with
       | true => exact absurd (by rw [he, parts_area h5 h6 (eq_eB (List.isEmpty_iff.1 hb))]; decide) hg
       | false => rfl
      have := nd3d x w k3 (Nb7.2 he) (by rw [← h5]; exact ref5_f x.f5.f0 x.f5.f1 x.f5.f2 x.f5.f3 x.f5.f4 20 (by omega)) (by rw [← h6]; exact ref5_f x.f6.f0 x.f6.f1 x.f6.f2 x.f6.f3 x.f6.f4 20 (by omega))
      rw [h7] at this
      exact this
   ·exact nd3a x w k3 (eqS_no he)
 by_cases k4 : x.f0 = 4
 ·by_cases hg : 0 ≤ Naq x
  ·obtain ⟨he, h1, h2, hp⟩ := shape4 hg k4
   rw [if_pos hg, decide_eq_true hg, hp]
   rcases (by omega : x.f2 = 1 ∨ x.f2 = 2 ∨ x.f2 = 3) with h | h | h
   ·exact nd41 x w k4 (Nb7.2 he) (by rw [h]; rfl)
   ·exact nd42 x w k4 (Nb7.2 he) (by rw [h]; rfl) (by rw [h]; rfl)
   ·have := nd4o x w k4 (Nb7.2 he) (by rw [h]; rfl) (by rw [h]; rfl)
    rw [show (x.f2 == 3) = true by rw [h]; rfl] at this
    exact this
  ·rw [if_neg hg, decide_eq_false hg, show rk x = 1 by unfold rk; rw [k4]; rfl]
   by_cases he : x = nUn x.f2
   ·have h5 : ¬ (1 ≤ x.f2 ∧ x.f2 ≤ 3) := fun h => hg (by rw [he, parts_un h.1 h.2]; decide)
    have := nd4o x w k4 (Nb7.2 he) (beq_eq_false_iff_ne.2 (by omega)) (beq_eq_false_iff_ne.2 (by omega))
    rw [show (x.f2 == 3) = false from beq_eq_false_iff_ne.2 (by omega)] at this
    exact this
   ·exact nd4a x w k4 (eqS_no he)
 by_cases k5 : x.f0 = 5
 ·by_cases hg : 0 ≤ Naq x
  ·obtain ⟨he, h5, hp⟩ := shape5 hg k5
   rw [if_pos hg, decide_eq_true hg, hp]
   exact nd5b x w k5 (Nb7.2 he) true (by rw [isbin_f, decide_eq_true h5])
  ·rw [if_neg hg, decide_eq_false hg, show rk x = 2 by unfold rk; rw [k5]; rfl]
   by_cases he : x = nBin x.f2
   ·have h5 : ¬ binO x.f2 := fun h => hg (by rw [he, parts_bin h]; decide)
    exact nd5b x w k5 (Nb7.2 he) false (by rw [isbin_f, decide_eq_false h5])
   ·exact nd5a x w k5 (eqS_no he)
 by_cases k6 : x.f0 = 6
 ·by_cases hg : 0 ≤ Naq x
  ·obtain ⟨he, h5, h1, h2, hp⟩ := shape6 hg k6
   rw [if_pos hg, decide_eq_true hg, hp]
   have := nd6d x w k6 (Nb7.2 he) (by rw [latin_f x.f3 false 20 (by omega), latin_fn, h5]) (decide_eq_true h1)
   rw [decide_eq_true h2] at this
   exact this
  ·rw [if_neg hg, decide_eq_false hg, show rk x = x.f4 by unfold rk; rw [k6]; rfl]
   by_cases he : x = nCall x.f3 x.f4
   ·cases h5 : fnB x.f3 with
    | false => exact nd6b x w k6 (Nb7.2 he) (by rw [latin_f x.f3 false 20 (by omega), latin_fn, h5])
    | true =>
     by_cases h1 : 0 ≤ x.f4
     ·have h2 : ¬ x.f4 ≤ 30 := fun h => hg (by rw [he, parts_call h5 h1 h]; exact h1)
      have := nd6d x w k6 (Nb7.2 he) (by rw [latin_f x.f3 false 20 (by omega), latin_fn, h5]) (decide_eq_true h1)
      rw [decide_eq_false h2] at this
      exact this
     ·exact nd6c x w k6 (Nb7.2 he) (by rw [latin_f x.f3 false 20 (by omega), latin_fn, h5]) (decide_eq_false h1)
   ·exact nd6a x w k6 (eqS_no he)
 have hg : ¬ 0 ≤ Naq x := fun h => by have := shape0 h; omega
 rw [if_neg hg, decide_eq_false hg, show rk x = 0 by unfold rk; rw [if_neg k4, if_neg k5, if_neg k6]]
 exact nd0 x w k1 k2 k3 k4 k5 k6
def Nbx.f (x : S50) : Option (Int × Bool) := if x.f1.f2.size ≤ 9223372036854775807 then some ((if 0 ≤ Naq x then Naq x else rk x), decide (0 ≤ Naq x)) else none
theorem Nbx.calls (x : S50) (r1 : Int) (r2 : Bool) (w : World) (h : Nbx.f x = some (r1, r2)) : Calls Tryz.prog 84 #[v50 x] w fun e w' => e = .returned (.tuple #[.int .i64 r1, .bool r2]) ∧ Below w.heap.size w w' := by
 unfold Nbx.f at h
 split at h
 ·rename_i hs
  obtain ⟨rfl, rfl⟩ := Prod.mk.inj (sI h)
  exact node84 x hs w
 ·cases h
section
attribute [local go_sem] max2_int min2_int max_two min_two max_three min_three max_four min_four
mutual
def Nar.l0 : Nat → List (S50) → Int → Int → Int → Int → Option (Int × Int × Bool)
 | 0, _, _, _, _, _ => none
 | k + 1, x0, x1, x7, x9, x10 => if x10 < x7 then ((Nar.f k x0 x1).bind fun bt104 => (if bt104.2.2 = true then (Nar.l0 k x0 bt104.1 x7 (mx x9 bt104.2.1) (wrap64 (x10 + 1))) else (some (0, 0, false)))) else (some (x1, wrap64 (x9 + 1), true))
def Nar.f : Nat → List (S50) → Int → Option (Int × Int × Bool)
 | 0, _, _ => none
 | k + 1, l0, a1 => if a1 ≥ (l0.length : Int) then (some (0, 0, false)) else (if 0 ≤ a1 then (if a1 < (l0.length : Int) then ((Nbx.f (Ncw l0 a1)).bind fun bt102 => (if bt102.2 = true then (Nar.l0 k l0 (wrap64 (a1 + 1)) bt102.1 0 0) else (some (0, 0, false)))) else (none)) else (none))
end
theorem Nar.calls (k : Nat) : ∀ (A0 : Option Addr) (c0 : Nat) (l0 : List (S50)) (a1 : Int) (r1 : Int) (r2 : Int) (r3 : Bool) (w : World) (hr0 : Kd.C k50 w A0 l0.length l0) (hc0 : l0.length ≤ c0) (h : Nar.f k l0 a1 = some (r1, r2, r3)),
 Calls Tryz.prog 54 #[.slice A0 l0.length c0, .int .i64 a1] w fun e w' => e = .returned (.tuple #[.int .i64 r1, .int .i64 r2, .bool r3]) ∧ Below w.heap.size w w' := by
 induction k using Nat.strongRecOn with
 | _ k ih =>
 intro A0 c0 l0 a1 r1 r2 r3 w hr0 hc0 h
 cases k with
 | zero => exact absurd h (by simp [Nar.f])
 | succ k =>
 simp only [Nar.f] at h
 have hu50 := Tryz.underlying50
 have HR0 := aM hr0
 have HC0 := aM hc0
 clear hr0 hc0
 have HB := aM (Below.refl w.heap.size w)
 have H : (if a1 ≥ (l0.length : Int) then (some (0, 0, false)) else (if 0 ≤ a1 then (if a1 < (l0.length : Int) then ((Nbx.f (Ncw l0 a1)).bind fun bt102 => (if bt102.2 = true then (Nar.l0 k l0 (wrap64 (a1 + 1)) bt102.1 0 0) else (some (0, 0, false)))) else (none)) else (none))) = some (r1, r2, r3) := h
 clear h
 by_cases c3 : a1 ≥ (l0.length : Int)
 ·rw [if_pos c3] at H
  have c3b0 : decide ((l0.length : Int) ≤ a1) = true := decide_eq_true c3
  clear c3
  simp only [sJ, pJ] at H
  obtain ⟨rfl, rfl, rfl⟩ := H
  go_enter Tryz.func54, Tryz.ntmps54
  go_wp2
  go_ret3
  exact ⟨eR, bE⟩
 ·rw [if_neg c3] at H
  have c3b0 : decide ((l0.length : Int) ≤ a1) = false := decide_eq_false c3
  clear c3
  by_cases c4 : 0 ≤ a1
  ·rw [if_pos c4] at H
   have c4b0 : decide (0 ≤ a1) = true := decide_eq_true c4
   clear c4
   by_cases c5 : a1 < (l0.length : Int)
   ·rw [if_pos c5] at H
    have c5b0 : decide (a1 < (l0.length : Int)) = true := decide_eq_true c5
    clear c5
    replace H := bS H
    obtain ⟨⟨t102, t103⟩, A60, H⟩ := H
    try dsimp only at H
    have A6 := aM A60
    clear A60
    by_cases c7 : t103 = true
    ·subst c7
     rw [if_pos rfl] at H
     have H' := aM H
     clear H
     have p101 : 0 ≤ (a1 : Int) := of_decide_eq_true (by first | (with_reducible assumption) | assumption)
     have q101 : a1 < (l0.length : Int) := of_decide_eq_true (by first | (with_reducible assumption) | assumption)
     obtain ⟨ad101, e101⟩ := at_N50 HR0.out a1 p101 q101
     cases e101
     replace p101 := eq_true p101
     replace q101 := eq_true q101
     go_enter Tryz.func54, Tryz.ntmps54
     go_wp2_with (first | ((with_reducible refine gD 22 rfl ?_); refine Ndh rfl rfl (xs := l0) (n := l0.length) (A := some ad101) ?hc a1 (of_eq_true p101) (of_eq_true q101) rfl ?ha ?_; (case hc => first | exact HR0.out | exact Kd.C_below HR0.out HB.out); (case ha => rfl)) | ((with_reducible refine gC 84 rfl ?_); refine gL 23 Tryz.func84 #[v50 (Ncw l0 a1)] ?_; (with_reducible refine (Nbx.calls (Ncw l0 a1) t102 true _ A6.out).mono ?_); rintro e w8 ⟨rfl, hb⟩; refine ⟨_, rfl, ?_⟩; replace HB := aM (Nab bE hb); (try clear hb)))
     go_loopg [1, 9, 10] k (fun kq v1 v9 v10 w' => ∃ (x1_1 : Int) (x9_1 : Int) (x10_1 : Int), v1 = .int .i64 x1_1 ∧ v9 = .int .i64 x9_1 ∧ v10 = .int .i64 x10_1 ∧ Nah (Nar.l0 kq l0 x1_1 t102 x9_1 x10_1 = some (r1, r2, r3)) ∧ Nah (kq ≤ k) ∧ Nah (Below w.heap.size w w'))
     case atStart => exact ⟨(wrap64 (a1 + 1)), (0), (0), (by first | rfl | (simp; done) | (simp [*]; done)), (by first | rfl | (simp; done) | (simp [*]; done)), (by first | rfl | (simp; done) | (simp [*]; done)), H', ⟨Nat.le_refl _⟩, ⟨bE⟩⟩
     case round =>
      clear H'
      try clear p1
      try clear q1
      try clear hx1
      try clear p2
      try clear c3
      try clear c3b0
      try clear c4
      try clear c4b0
      try clear c5
      try clear c5b0
      try clear p6
      try clear c7
      try clear c8
      try clear hx101_0
      try clear hx101_1
      try clear hx101_10
      try clear hx101_11
      try clear hx101_12
      try clear hx101_13
      try clear hx101_14
      try clear hx101_15
      try clear hx101_16
      try clear hx101_17
      try clear hx101_18
      try clear hx101_19
      try clear hx101_2
      try clear hx101_3
      try clear hx101_4
      try clear hx101_5
      try clear hx101_6
      try clear hx101_7
      try clear hx101_8
      try clear hx101_9
      try clear p101
      try clear q101
      obtain ⟨x1_1, x9_1, x10_1, rfl, rfl, rfl, HA, HK1, HB⟩ := hrel
      cases gk with
      | zero => exact absurd HA.out (by simp [Nar.l0])
      | succ k1 =>
       have H := HA.out
       clear HA
       simp only [Nar.l0] at H
       by_cases c9 : x10_1 < t102
       ·rw [if_pos c9] at H
        have c9b0 : decide (x10_1 < t102) = true := decide_eq_true c9
        clear c9
        replace H := bS H
        obtain ⟨⟨t104, t105, t106⟩, A100, H⟩ := H
        try dsimp only at H
        have A10 := aM A100
        clear A100
        by_cases c11 : t106 = true
        ·subst c11
         rw [if_pos rfl] at H
         obtain ⟨ji12, hji12⟩ : ∃ j_ : Int, (mx x9_1 t105) = j_ := ⟨_, rfl⟩
         replace H : (Nar.l0 k1 l0 t104 t102 ji12 (wrap64 (x10_1 + 1))) = some (r1, r2, r3) := by first | (rw [hji12] at H; exact H) | (simp only [hji12] at H ⊢; exact H)
         (try rw [hji12] at A10)
         have hji12_ : (if x9_1 < t105 then t105 else x9_1) = ji12 := hji12
         have H' := aM H
         clear H
         go_wp2_with (first | ((with_reducible refine gD 22 rfl ?_); refine Ndh rfl rfl (xs := l0) (n := l0.length) (A := some ad101) ?hc a1 (of_eq_true p101) (of_eq_true q101) rfl ?ha ?_; (case hc => first | exact HR0.out | exact Kd.C_below HR0.out HB.out); (case ha => rfl)) | ((with_reducible refine gC 54 rfl ?_); refine gL 38 Tryz.func54 #[.slice (some ad101) l0.length c0, .int .i64 x1_1] ?_; (with_reducible refine (ih k1 (by have := HK1.out; omega) _ _ l0 x1_1 t104 t105 true _ ?side1 ?side2 A10.out).mono ?_); (case side1 => repeat (first | exact (Kd.C_below HR0.out HB.out) | (with_reducible refine Kd.C_alloc ?_ _) | (with_reducible refine Kd.C_drewN ?_ _) | (with_reducible refine Kd.C_drew ?_))); (case side2 => exact HC0.out); rintro e w13 ⟨rfl, hb⟩; refine ⟨_, rfl, ?_⟩; replace HB := aM (Nab bE hb); (try clear hb)))
         go_roundg k1
         case measure => have := HK1.out; omega
         case rel => exact ⟨(t104), (ji12), (wrap64 (x10_1 + 1)), (by first | rfl | (simp; done) | (simp [*]; done)), (by first | rfl | (simp; done) | (simp only [← hji12] <;> (first | rfl | simp)) | (simp [*]; done)), (by first | rfl | (simp; done) | (simp [*]; done)), H', ⟨by have := HK1.out; omega⟩, ⟨bE⟩⟩
        ·replace c11 := Bool.eq_false_iff.mpr c11
         subst c11
         rw [if_neg fT] at H
         simp only [sJ, pJ] at H
         obtain ⟨rfl, rfl, rfl⟩ := H
         go_wp2_with (first | ((with_reducible refine gD 22 rfl ?_); refine Ndh rfl rfl (xs := l0) (n := l0.length) (A := some ad101) ?hc a1 (of_eq_true p101) (of_eq_true q101) rfl ?ha ?_; (case hc => first | exact HR0.out | exact Kd.C_below HR0.out HB.out); (case ha => rfl)) | ((with_reducible refine gC 54 rfl ?_); refine gL 38 Tryz.func54 #[.slice (some ad101) l0.length c0, .int .i64 x1_1] ?_; (with_reducible refine (ih k1 (by have := HK1.out; omega) _ _ l0 x1_1 t104 t105 false _ ?side1 ?side2 A10.out).mono ?_); (case side1 => repeat (first | exact (Kd.C_below HR0.out HB.out) | (with_reducible refine Kd.C_alloc ?_ _) | (with_reducible refine Kd.C_drewN ?_ _) | (with_reducible refine Kd.C_drew ?_))); (case side2 => exact HC0.out); rintro e w14 ⟨rfl, hb⟩; refine ⟨_, rfl, ?_⟩; replace HB := aM (Nab bE hb); (try clear hb)))
         go_ret3
         exact ⟨eR, bE⟩
       ·rw [if_neg c9] at H
        have c9b0 : decide (x10_1 < t102) = false := decide_eq_false c9
        clear c9
        simp only [sJ, pJ] at H
        obtain ⟨rfl, rfl, rfl⟩ := H
        go_wp2
        go_ret3
        exact ⟨eR, bE⟩
    ·replace c7 := Bool.eq_false_iff.mpr c7
     subst c7
     rw [if_neg fT] at H
     simp only [sJ, pJ] at H
     obtain ⟨rfl, rfl, rfl⟩ := H
     have p101 : 0 ≤ (a1 : Int) := of_decide_eq_true (by first | (with_reducible assumption) | assumption)
     have q101 : a1 < (l0.length : Int) := of_decide_eq_true (by first | (with_reducible assumption) | assumption)
     obtain ⟨ad101, e101⟩ := at_N50 HR0.out a1 p101 q101
     cases e101
     replace p101 := eq_true p101
     replace q101 := eq_true q101
     go_enter Tryz.func54, Tryz.ntmps54
     go_wp2_with (first | ((with_reducible refine gD 22 rfl ?_); refine Ndh rfl rfl (xs := l0) (n := l0.length) (A := some ad101) ?hc a1 (of_eq_true p101) (of_eq_true q101) rfl ?ha ?_; (case hc => first | exact HR0.out | exact Kd.C_below HR0.out HB.out); (case ha => rfl)) | ((with_reducible refine gC 84 rfl ?_); refine gL 23 Tryz.func84 #[v50 (Ncw l0 a1)] ?_; (with_reducible refine (Nbx.calls (Ncw l0 a1) t102 false _ A6.out).mono ?_); rintro e w15 ⟨rfl, hb⟩; refine ⟨_, rfl, ?_⟩; replace HB := aM (Nab bE hb); (try clear hb)))
     go_ret3
     exact ⟨eR, bE⟩
   ·rw [if_neg c5] at H
    exact absurd H (by simp)
  ·rw [if_neg c4] at H
   exact absurd H (by simp)
end
def Nav.j0 : Nat → Int → Bool → Option (Int)
 | 0, _, _ => none
 | k + 1, x4, x22 => if x22 = true then (some 53) else (if x4 > 32 then (some 51) else (some 0))
def Nav.f (k : Nat) (l0 : List (S50)) : Option (Int) := if (l0.length : Int) > 256 then (some 52) else ((Nar.f k l0 0).bind fun bt101 => (if bt101.2.2 = true then (Nav.j0 k bt101.2.1 (bt101.1 != (l0.length : Int))) else (Nav.j0 k bt101.2.1 true)))
theorem Nav.calls (k : Nat) (A0 : Option Addr) (c0 : Nat) (l0 : List (S50)) (r : Int) (w : World) (hr0 : Kd.C k50 w A0 l0.length l0) (hc0 : l0.length ≤ c0) (h : Nav.f k l0 = some r) :
 Calls Tryz.prog 29 #[.slice A0 l0.length c0] w fun e w' => e = .returned (.int .i64 r) ∧ Below w.heap.size w w' := by
 have HR0 := aM hr0
 have HC0 := aM hc0
 clear hr0 hc0
 have HB := aM (Below.refl w.heap.size w)
 have H := h
 unfold Nav.f at H
 clear h
 by_cases c2 : (l0.length : Int) > 256
 ·rw [if_pos c2] at H
  have c2b0 : decide (256 < (l0.length : Int)) = true := decide_eq_true c2
  have c2b1 : decide (256 < l0.length) = true := decide_eq_true (by omega)
  clear c2
  obtain rfl := sI H
  go_enter Tryz.func29, Tryz.ntmps29
  go_wp2
  go_ret
  exact ⟨eR, bE⟩
 ·rw [if_neg c2] at H
  have c2b0 : decide (256 < (l0.length : Int)) = false := decide_eq_false c2
  have c2b1 : decide (256 < l0.length) = false := decide_eq_false (by omega)
  clear c2
  replace H := bS H
  obtain ⟨⟨t101, t102, t103⟩, A30, H⟩ := H
  try dsimp only at H
  have A3 := aM A30
  clear A30
  have HC4 := aM H
  clear H
  go_enter Tryz.func29, Tryz.ntmps29
  go_upto_region 4 with (first | ((with_reducible refine gC 54 rfl ?_); refine gL 11 Tryz.func54 #[.slice A0 l0.length c0, .int .i64 0] ?_; (with_reducible refine (Nar.calls k _ _ l0 0 t101 t102 t103 _ ?side1 ?side2 A3.out).mono ?_); (case side1 => repeat (first | exact HR0.out | (with_reducible refine Kd.C_alloc ?_ _) | (with_reducible refine Kd.C_drewN ?_ _) | (with_reducible refine Kd.C_drew ?_))); (case side2 => exact HC0.out); rintro e w5 ⟨rfl, hb⟩; refine ⟨_, rfl, ?_⟩; replace HB := aM (Nab bE hb); (try clear hb)))
  (try simp only [Act.put, List.setIfInBounds_toArray, List.set_cons_zero, List.set_cons_succ])
  go_cut [22] (fun v22 wc => ∃ (kq : Nat) (x22_3 : Bool), v22 = .bool x22_3 ∧ Nah (Nav.j0 kq t102 x22_3 = some r) ∧ Nah (kq ≤ k) ∧ Nah (Below w.heap.size w wc))
  case first =>
   have H := HC4.out
   clear HC4
   by_cases c6 : t103 = true
   ·subst c6
    rw [if_pos rfl] at H
    have H' := aM H
    clear H
    go_wp2
    go_meet
    case rel => exact ⟨_, ((t101 != (l0.length : Int))), (by first | rfl | (simp; done) | (simp [*]; done)), H', ⟨by first | omega | exact Nat.le_refl _⟩, ⟨bE⟩⟩
   ·replace c6 := Bool.eq_false_iff.mpr c6
    subst c6
    rw [if_neg fT] at H
    have H' := aM H
    clear H
    go_wp2
    go_meet
    case rel => exact ⟨_, (true), (by first | rfl | (simp; done) | (simp [*]; done)), H', ⟨by first | omega | exact Nat.le_refl _⟩, ⟨bE⟩⟩
  case rest =>
   clear HC4
   try clear c2
   try clear c2b0
   try clear c2b1
   try clear p2
   try clear c5
   try clear c6
   obtain ⟨kq, x22_3, rfl, HA, HJ3, HB⟩ := hcut
   cases kq with
   | zero => exact absurd HA.out (by simp [Nav.j0])
   | succ kj3 =>
    have H := HA.out
    clear HA
    simp only [Nav.j0] at H
    by_cases c7 : x22_3 = true
    ·subst c7
     rw [if_pos rfl] at H
     obtain rfl := sI H
     go_wp2
     go_ret
     exact ⟨eR, bE⟩
    ·replace c7 := Bool.eq_false_iff.mpr c7
     subst c7
     rw [if_neg fT] at H
     by_cases c8 : t102 > 32
     ·rw [if_pos c8] at H
      have c8b0 : decide (32 < t102) = true := decide_eq_true c8
      clear c8
      obtain rfl := sI H
      go_wp2
      go_ret
      exact ⟨eR, bE⟩
     ·rw [if_neg c8] at H
      have c8b0 : decide (32 < t102) = false := decide_eq_false c8
      clear c8
      obtain rfl := sI H
      go_wp2
      go_ret
      exact ⟨eR, bE⟩
def Sz (l : List S50) : Prop := ∀ n ∈ l, n.f1.f2.size ≤ 9223372036854775807
theorem end_over {l : List S50} (hs : Sz l) (hl : l.length ≤ 100000000) : ∀ K : Nat,
 (∀ (i : Nat) (a b : Int), Nai.f K l (i : Int) = some (a, b) → Nar.f K l (i : Int) = some (if a < 0 then (0, 0, false) else (a, b, true))) ∧
 (∀ (i : Nat) (dp z t a b : Int), Nai.l0 K l (i : Int) dp z t = some (a, b) → Nar.l0 K l (i : Int) z dp t = some (if a < 0 then (0, 0, false) else (a, b, true))) := by
 intro K
 induction K with
 | zero => exact ⟨fun i a b h => (by rw [Nai.f] at h; cases h), fun i dp z t a b h => (by rw [Nai.l0] at h; cases h)⟩
 | succ K ih =>
  constructor
  ·intro i a b h
   rw [Nai.f] at h
   rw [Nar.f]
   by_cases h1 : (i : Int) ≥ (l.length : Int)
   ·rw [if_pos h1] at h ⊢
    cases h
    rfl
   rw [if_neg h1, if_pos (by omega), if_pos (by omega)] at h ⊢
   unfold Ndb.f at h
   unfold Nbx.f
   rw [if_pos (hs _ (rd_mem (by omega)))]
   simp only [Option.bind_some] at h ⊢
   by_cases hp : Naq (Ncw l (i : Int)) < 0
   ·rw [if_pos hp] at h
    cases h
    rw [if_neg (by simpa using hp)]
    rfl
   ·rw [if_neg hp] at h
    rw [if_pos (by simpa using hp), if_pos (by omega)]
    rw [wr1 (by omega) (by omega), show (i : Int) + 1 = ((i + 1 : Nat) : Int) by omega] at h ⊢
    exact ih.2 (i + 1) 0 _ 0 a b h
  ·intro i dp z t a b h
   rw [Nai.l0] at h
   rw [Nar.l0]
   by_cases h1 : t < z
   ·rw [if_pos h1] at h ⊢
    cases ho : Nai.f K l (i : Int) with
    | none => rw [ho] at h; cases h
    | some r =>
     obtain ⟨a1, b1⟩ := r
     rw [ho] at h
     rw [ih.1 i a1 b1 ho]
     simp only [Option.bind_some] at h ⊢
     by_cases hn : a1 < 0
     ·rw [if_pos hn] at h ⊢
      cases h
      rfl
     ·rw [if_neg hn] at h ⊢
      simp only [if_true]
      obtain ⟨j, rfl⟩ : ∃ j : Nat, a1 = (j : Int) := ⟨a1.toNat, by omega⟩
      exact ih.2 j _ _ _ a b h
   ·rw [if_neg h1] at h ⊢
    cases h
    rw [if_neg (by omega)]
theorem chk_K (l : List S50) : ∀ m : Nat, Na7.f (600 + m) l = some (chk l)
 | 0 => chk_f l
 | m + 1 => Na7.mono l (600 + m) _ (chk_K l m)
theorem ref5_check {l : List S50} (hs : Sz l) (m : Nat) : Nav.f (600 + m) l = some (chk l) := by
 have h := chk_K l m
 unfold Na7.f at h
 unfold Nav.f
 by_cases hl : (l.length : Int) > 256
 ·rw [if_pos hl] at h ⊢
  exact h
 rw [if_neg hl] at h ⊢
 cases ho : Nai.f (600 + m) l 0 with
 | none => rw [ho] at h; cases h
 | some r =>
  obtain ⟨a, b⟩ := r
  have he := (end_over hs (by omega) (600 + m)).1 0 a b ho
  rw [ho] at h
  rw [show (0 : Int) = ((0 : Nat) : Int) from rfl, he]
  simp only [Option.bind_some] at h ⊢
  obtain ⟨K, hK⟩ : ∃ K, 600 + m = K + 1 := ⟨599 + m, by omega⟩
  rw [hK]
  by_cases hn : a < 0
  ·rw [if_pos hn]
   rw [if_neg (by omega)] at h
   rw [if_neg (by decide), Nav.j0, if_pos rfl]
   exact h
  ·rw [if_neg hn]
   simp only [if_true]
   rw [Nav.j0]
   by_cases hq : a = (l.length : Int)
   ·rw [if_pos hq] at h
    rw [if_neg (by rw [hq]; simp)]
    exact h
   ·rw [if_neg hq] at h
    rw [if_pos (by simpa using hq)]
    exact h
end Go.Proofs.YtejbbceidnaloaaGreatDoor.P
namespace Go.Proofs.YtejbbceidnaloaaGreatDoor.R
open Go.ChangeShapes Go.WideShapes Go.ChangeAt Go.RowKit Go.Proofs.YtejbbceidnaloaaGreatDoor.P AW
section
section
variable {H : Type} {enc : TypeId × Value → H} {W : World} {b0 base : Nat} {sp : Nat → Bool} {held : Bool} {v : Value} {d : DataW H} {p : List MemPlace}
theorem list_ofz {α : Type} {R : Nat → α → Prop} : ∀ {n : Nat}, (∀ i, i < n → ∃ x, R i x) → ∃ l : List α, l.length = n ∧ ∀ i x, l[i]? = some x → R i x := by
 intro n
 induction n with
 | zero => intro _; exact ⟨[], rfl, fun i x h => by simp at h⟩
 | succ n ih =>
  intro h
  obtain ⟨l, hl, hr⟩ := ih (fun i hi => h i (by omega))
  obtain ⟨x, hx⟩ := h n (by omega)
  refine ⟨l ++ [x], by simp [hl], fun i y hy => ?_⟩
  by_cases hi : i < l.length
  ·rw [List.getElem?_append_left hi] at hy; exact hr i y hy
  ·rw [List.getElem?_append_right (by omega)] at hy
   have : i - l.length = 0 := by
    rcases Nat.eq_zero_or_pos (i - l.length) with h0 | h0
    ·exact h0
    ·rw [List.getElem?_eq_none (by simp; omega)] at hy; cases hy
   rw [this] at hy
   simp at hy
   subst hy
   obtain rfl : i = n := by omega
   exact hx
def in64z (n : Int) : Prop := -9223372036854775808 ≤ n ∧ n ≤ 9223372036854775807
theorem open_nodez {n' : Nat} {u0 u1 u2 u3 u4 u5 u6 u7 u8 u9 u10 u11 u12 u13 u14 u15 u16 u17 u18 u19 : Value} {y : DataW H × List MemPlace} (ht' : DataW.trod enc Tryz.prog W base sp held n' 50 [u0, u1, u2, u3, u4, u5, u6, u7, u8, u9, u10, u11, u12, u13, u14, u15, u16, u17, u18, u19] = some y) :
 ∃ x : S50, [u0, u1, u2, u3, u4, u5, u6, u7, u8, u9, u10, u11, u12, u13, u14, u15, u16, u17, u18, u19] = [.int .i64 x.f0, .int .i64 x.f1.f0, .int .i64 x.f1.f1.f0, .int .i64 x.f1.f1.f1, .string x.f1.f2, .bool x.f1.f3, .int .i64 x.f1.f4, .int .i64 x.f2, .string x.f3, .int .i64 x.f4, .string x.f5.f0, .int .i64 x.f5.f1, .int .i64 x.f5.f2, .bool x.f5.f3, .bool x.f5.f4, .string x.f6.f0, .int .i64 x.f6.f1, .int .i64 x.f6.f2, .bool x.f6.f3, .bool x.f6.f4] ∧ in64z x.f2 ∧ in64z x.f4 ∧ x.f1.f2.size ≤ 9223372036854775807 := by
 have cO3 : Tryz.prog.cellsOf 3 = 1 := by kernel_rfl
 have cO4 : Tryz.prog.cellsOf 4 = 1 := by kernel_rfl
 have cO9 : Tryz.prog.cellsOf 9 = 1 := by kernel_rfl
 have cO44 : Tryz.prog.cellsOf 44 = 2 := by kernel_rfl
 have cO46 : Tryz.prog.cellsOf 46 = 6 := by kernel_rfl
 have cO48 : Tryz.prog.cellsOf 48 = 5 := by kernel_rfl
 obtain ⟨xs0, n0, _, _, _, hlen0, hg0⟩ := DataW.trod_struct Tryz.underlying50 ht'
 match xs0, hlen0 with
 | [y0_0, y0_1, y0_2, y0_3, y0_4, y0_5, y0_6], _ =>
  obtain ⟨x0, e0, _, w0⟩ := DataW.trod_int Tryz.underlying3 (by simpa [cO3, cO4, cO9, cO44, cO46, cO48] using hg0 0 _ rfl : DataW.trod enc Tryz.prog W base sp held n0 3 [u0] = some y0_0)
  have q1 := (by simpa [cO3, cO4, cO9, cO44, cO46, cO48] using hg0 1 _ rfl : DataW.trod enc Tryz.prog W base sp held n0 46 [u1, u2, u3, u4, u5, u6] = some y0_1)
  obtain ⟨xs1, n1, _, _, _, hlen1, hg1⟩ := DataW.trod_struct Tryz.underlying46 q1
  match xs1, hlen1 with
  | [y1_0, y1_1, y1_2, y1_3, y1_4], _ =>
   obtain ⟨x1, e1, _, w1⟩ := DataW.trod_int Tryz.underlying3 (by simpa [cO3, cO4, cO9, cO44, cO46, cO48] using hg1 0 _ rfl : DataW.trod enc Tryz.prog W base sp held n1 3 [u1] = some y1_0)
   have q2 := (by simpa [cO3, cO4, cO9, cO44, cO46, cO48] using hg1 1 _ rfl : DataW.trod enc Tryz.prog W base sp held n1 44 [u2, u3] = some y1_1)
   obtain ⟨xs2, n2, _, _, _, hlen2, hg2⟩ := DataW.trod_struct Tryz.underlying44 q2
   match xs2, hlen2 with
   | [y2_0, y2_1], _ =>
    obtain ⟨x2, e2, _, w2⟩ := DataW.trod_int Tryz.underlying3 (by simpa [cO3, cO4, cO9, cO44, cO46, cO48] using hg2 0 _ rfl : DataW.trod enc Tryz.prog W base sp held n2 3 [u2] = some y2_0)
    obtain ⟨x3, e3, _, w3⟩ := DataW.trod_int Tryz.underlying3 (by simpa [cO3, cO4, cO9, cO44, cO46, cO48] using hg2 1 _ rfl : DataW.trod enc Tryz.prog W base sp held n2 3 [u3] = some y2_1)
    obtain ⟨x4, e4, _, z4⟩ := DataW.trod_string Tryz.underlying9 (by simpa [cO3, cO4, cO9, cO44, cO46, cO48] using hg1 2 _ rfl : DataW.trod enc Tryz.prog W base sp held n1 9 [u4] = some y1_2)
    obtain ⟨x5, e5, _⟩ := DataW.trod_bool Tryz.underlying4 (by simpa [cO3, cO4, cO9, cO44, cO46, cO48] using hg1 3 _ rfl : DataW.trod enc Tryz.prog W base sp held n1 4 [u5] = some y1_3)
    obtain ⟨x6, e6, _, w6⟩ := DataW.trod_int Tryz.underlying3 (by simpa [cO3, cO4, cO9, cO44, cO46, cO48] using hg1 4 _ rfl : DataW.trod enc Tryz.prog W base sp held n1 3 [u6] = some y1_4)
    obtain ⟨x7, e7, _, w7⟩ := DataW.trod_int Tryz.underlying3 (by simpa [cO3, cO4, cO9, cO44, cO46, cO48] using hg0 2 _ rfl : DataW.trod enc Tryz.prog W base sp held n0 3 [u7] = some y0_2)
    obtain ⟨x8, e8, _, _⟩ := DataW.trod_string Tryz.underlying9 (by simpa [cO3, cO4, cO9, cO44, cO46, cO48] using hg0 3 _ rfl : DataW.trod enc Tryz.prog W base sp held n0 9 [u8] = some y0_3)
    obtain ⟨x9, e9, _, w9⟩ := DataW.trod_int Tryz.underlying3 (by simpa [cO3, cO4, cO9, cO44, cO46, cO48] using hg0 4 _ rfl : DataW.trod enc Tryz.prog W base sp held n0 3 [u9] = some y0_4)
    have q10 := (by simpa [cO3, cO4, cO9, cO44, cO46, cO48] using hg0 5 _ rfl : DataW.trod enc Tryz.prog W base sp held n0 48 [u10, u11, u12, u13, u14] = some y0_5)
    obtain ⟨xs3, n3, _, _, _, hlen3, hg3⟩ := DataW.trod_struct Tryz.underlying48 q10
    match xs3, hlen3 with
    | [y3_0, y3_1, y3_2, y3_3, y3_4], _ =>
     obtain ⟨x10, e10, _, _⟩ := DataW.trod_string Tryz.underlying9 (by simpa [cO3, cO4, cO9, cO44, cO46, cO48] using hg3 0 _ rfl : DataW.trod enc Tryz.prog W base sp held n3 9 [u10] = some y3_0)
     obtain ⟨x11, e11, _, w11⟩ := DataW.trod_int Tryz.underlying3 (by simpa [cO3, cO4, cO9, cO44, cO46, cO48] using hg3 1 _ rfl : DataW.trod enc Tryz.prog W base sp held n3 3 [u11] = some y3_1)
     obtain ⟨x12, e12, _, w12⟩ := DataW.trod_int Tryz.underlying3 (by simpa [cO3, cO4, cO9, cO44, cO46, cO48] using hg3 2 _ rfl : DataW.trod enc Tryz.prog W base sp held n3 3 [u12] = some y3_2)
     obtain ⟨x13, e13, _⟩ := DataW.trod_bool Tryz.underlying4 (by simpa [cO3, cO4, cO9, cO44, cO46, cO48] using hg3 3 _ rfl : DataW.trod enc Tryz.prog W base sp held n3 4 [u13] = some y3_3)
     obtain ⟨x14, e14, _⟩ := DataW.trod_bool Tryz.underlying4 (by simpa [cO3, cO4, cO9, cO44, cO46, cO48] using hg3 4 _ rfl : DataW.trod enc Tryz.prog W base sp held n3 4 [u14] = some y3_4)
     have q15 := (by simpa [cO3, cO4, cO9, cO44, cO46, cO48] using hg0 6 _ rfl : DataW.trod enc Tryz.prog W base sp held n0 48 [u15, u16, u17, u18, u19] = some y0_6)
     obtain ⟨xs4, n4, _, _, _, hlen4, hg4⟩ := DataW.trod_struct Tryz.underlying48 q15
     match xs4, hlen4 with
     | [y4_0, y4_1, y4_2, y4_3, y4_4], _ =>
      obtain ⟨x15, e15, _, _⟩ := DataW.trod_string Tryz.underlying9 (by simpa [cO3, cO4, cO9, cO44, cO46, cO48] using hg4 0 _ rfl : DataW.trod enc Tryz.prog W base sp held n4 9 [u15] = some y4_0)
      obtain ⟨x16, e16, _, w16⟩ := DataW.trod_int Tryz.underlying3 (by simpa [cO3, cO4, cO9, cO44, cO46, cO48] using hg4 1 _ rfl : DataW.trod enc Tryz.prog W base sp held n4 3 [u16] = some y4_1)
      obtain ⟨x17, e17, _, w17⟩ := DataW.trod_int Tryz.underlying3 (by simpa [cO3, cO4, cO9, cO44, cO46, cO48] using hg4 2 _ rfl : DataW.trod enc Tryz.prog W base sp held n4 3 [u17] = some y4_2)
      obtain ⟨x18, e18, _⟩ := DataW.trod_bool Tryz.underlying4 (by simpa [cO3, cO4, cO9, cO44, cO46, cO48] using hg4 3 _ rfl : DataW.trod enc Tryz.prog W base sp held n4 4 [u18] = some y4_3)
      obtain ⟨x19, e19, _⟩ := DataW.trod_bool Tryz.underlying4 (by simpa [cO3, cO4, cO9, cO44, cO46, cO48] using hg4 4 _ rfl : DataW.trod enc Tryz.prog W base sp held n4 4 [u19] = some y4_4)
      simp only [List.cons.injEq, and_true] at e0 e1 e2 e3 e4 e5 e6 e7 e8 e9 e10 e11 e12 e13 e14 e15 e16 e17 e18 e19
      subst e0 e1 e2 e3 e4 e5 e6 e7 e8 e9 e10 e11 e12 e13 e14 e15 e16 e17 e18 e19
      exact ⟨⟨x0, ⟨x1, ⟨x2, x3⟩, x4, x5, x6⟩, x7, x8, x9, ⟨x10, x11, x12, x13, x14⟩, ⟨x15, x16, x17, x18, x19⟩⟩, rfl, bounds_i64 w7, bounds_i64 w9, by unfold maxLen at z4; omega⟩
theorem open_nodesz {ts : List TypeId} {ds : List (DataW H)} {j : Nat} (hv : Value.okWide Tryz.prog W .any b0 22 v) (h : DataW.Trod enc Tryz.prog W base sp held 22 v d p)
 (hsz : (DataW.weightsEach Tryz.prog ts ds).all (· ≤ reachBytes) = true) (ht : ts[j]? = some 22) (hd : ds[j]? = some d) :
 ∃ (A : Option Addr) (c : Nat) (l : List S50), v = .slice A l.length c ∧ Kd.C k50 W A l.length l ∧ l.length ≤ c ∧ l.length * 176 ≤ 140737488351232 ∧ Sz l := by
 have c50 : Tryz.prog.cellsOf 50 = 20 := by kernel_rfl
 have hb : Tryz.prog.bytesOf 50 = 176 := by kernel_rfl
 obtain ⟨A, len, cap, rfl⟩ := okWide_slice Tryz.underlying22 hv
 obtain ⟨fuel, hf⟩ := h
 rcases Deep.open_slice Tryz.underlying22 hf with ⟨hcs, _⟩ | ⟨a, len', cap', m, n, D, Pl, hcs, _, hl, hm, hmm, hx, hi⟩
 ·simp [Value.cells] at hcs
  obtain ⟨rfl, rfl, rfl⟩ := hcs
  exact ⟨none, 0, [], rfl, ⟨rfl, by simp, fun h => by simp at h⟩, by simp, by simp, fun x hx => by cases hx⟩
 ·simp [Value.cells] at hcs
  obtain ⟨rfl, rfl, rfl⟩ := hcs
  have hlm : len ≤ m := by rw [hmm]; split <;> omega
  obtain ⟨l, hll, hlr⟩ := list_ofz (R := fun i (x : S50) => (∀ (q : Nat) u, ([.int .i64 x.f0, .int .i64 x.f1.f0, .int .i64 x.f1.f1.f0, .int .i64 x.f1.f1.f1, .string x.f1.f2, .bool x.f1.f3, .int .i64 x.f1.f4, .int .i64 x.f2, .string x.f3, .int .i64 x.f4, .string x.f5.f0, .int .i64 x.f5.f1, .int .i64 x.f5.f2, .bool x.f5.f3, .bool x.f5.f4, .string x.f6.f0, .int .i64 x.f6.f1, .int .i64 x.f6.f2, .bool x.f6.f3, .bool x.f6.f4] : List Value)[q]? = some u → W.cell? (a.add (i * 20 + q)) = some u) ∧ x.f1.f2.size ≤ 9223372036854775807) (n := len) (fun i hin => by
   obtain ⟨cs', hc, ht'⟩ := hi i (by omega)
   rw [c50] at hc
   obtain ⟨_, hcl, hat⟩ := World.cells?_some hc
   match cs', hcl with
   | [u0, u1, u2, u3, u4, u5, u6, u7, u8, u9, u10, u11, u12, u13, u14, u15, u16, u17, u18, u19], _ =>
    obtain ⟨x, e, _, _, hzz⟩ := open_nodez ht'
    refine ⟨x, fun q u hq => ?_, hzz⟩
    rw [← e] at hq
    obtain ⟨hq20, -⟩ := List.getElem?_eq_some_iff.1 hq
    have hz := hat q (by simpa using hq20)
    rw [Deep.add_add] at hz
    exact hz.trans hq)
  subst hll
  refine ⟨some a, cap, l, rfl, ⟨rfl, by unfold maxLen at hm; omega, fun _ => ⟨a, rfl, fun i x hix => ⟨[.int .i64 x.f0, .int .i64 x.f1.f0, .int .i64 x.f1.f1.f0, .int .i64 x.f1.f1.f1, .string x.f1.f2, .bool x.f1.f3, .int .i64 x.f1.f4, .int .i64 x.f2, .string x.f3, .int .i64 x.f4, .string x.f5.f0, .int .i64 x.f5.f1, .int .i64 x.f5.f2, .bool x.f5.f3, .bool x.f5.f4, .string x.f6.f0, .int .i64 x.f6.f1, .int .i64 x.f6.f2, .bool x.f6.f3, .bool x.f6.f4], rfl, k50_mk W x, fun q u hq => (hlr i x hix).1 q u hq⟩⟩⟩, hl, ?_, fun x hx => by obtain ⟨i, hi', rfl⟩ := List.getElem_of_mem hx; exact (hlr i _ (List.getElem?_eq_getElem hi')).2⟩
  obtain ⟨hx, _⟩ := Prod.mk.inj hx
  subst hx
  have z := sized_slice hsz ht hd Tryz.underlying22
  rw [hb] at z
  have h1 : l.length ≤ ((List.range l.length).map D).length + ((List.range (m - l.length)).map fun j => D (l.length + j)).length := by simp
  exact Nat.le_trans (Nat.mul_le_mul_right _ h1) z
end
end
end Go.Proofs.YtejbbceidnaloaaGreatDoor.R
