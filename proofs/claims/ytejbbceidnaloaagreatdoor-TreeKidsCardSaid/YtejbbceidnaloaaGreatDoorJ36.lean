import Derived.Test.YtejbbceidnaloaaGreatDoorJ35
set_option linter.unusedVariables false
set_option linter.unusedSimpArgs false
set_option maxRecDepth 100000
set_option maxHeartbeats 8000000
namespace Go.Proofs.YtejbbceidnaloaaGreatDoor.P
open Go.RowKit Go.Proofs.YtejbbceidnaloaaGreatDoorW.PrintWords Go.Proofs.YtejbbceidnaloaaGreatDoorW.PrintLast Go.Proofs.YtejbbceidnaloaaGreatDoorW.PrintMore
theorem parts_val {v : S46} (h : litB v = true) : Nau (nVal v) = 0 := by
 unfold litB at h
 rw [Bool.and_eq_true] at h
 unfold Nau Ndy
 rw [if_pos (show (nVal v).f0 = 1 from rfl)]
 unfold partsV1
 split
 ·split
  ·rfl
  ·rename_i h2; exact absurd ⟨h.1, of_decide_eq_true h.2⟩ h2
 ·rename_i h1; exact absurd (by kernel_rfl) h1
theorem parts_un {o : Int} (h1 : 1 ≤ o) (h2 : o ≤ 3) : Nau (nUn o) = 1 := by
 unfold Nau Ndy
 rw [if_neg (by show ¬ (4 : Int) = 1; decide), if_neg (by show ¬ (4 : Int) = 2; decide), if_neg (by show ¬ (4 : Int) = 3; decide), if_pos (show (nUn o).f0 = 4 from rfl)]
 unfold partsV4
 split
 ·split
  ·rfl
  ·rename_i h3; exact absurd ⟨h1, h2⟩ h3
 ·rename_i h3; exact absurd (by kernel_rfl) h3
theorem parts_bin {o : Int} (h : binO o) : Nau (nBin o) = 2 := by
 unfold Nau Ndy
 rw [if_neg (by show ¬ (5 : Int) = 1; decide), if_neg (by show ¬ (5 : Int) = 2; decide), if_neg (by show ¬ (5 : Int) = 3; decide), if_neg (by show ¬ (5 : Int) = 4; decide), if_pos (show (nBin o).f0 = 5 from rfl)]
 unfold partsV5
 split
 ·split
  ·rfl
  ·rename_i h3; exact absurd h h3
 ·rename_i h3; exact absurd (by kernel_rfl) h3
theorem parts_call {m : ByteArray} {c : Int} (h : fnB m = true) (h1 : 0 ≤ c) (h2 : c ≤ 30) : Nau (nCall m c) = c := by
 unfold Nau Ndy
 rw [if_neg (by show ¬ (6 : Int) = 1; decide), if_neg (by show ¬ (6 : Int) = 2; decide), if_neg (by show ¬ (6 : Int) = 3; decide), if_neg (by show ¬ (6 : Int) = 4; decide), if_neg (by show ¬ (6 : Int) = 5; decide), if_pos (show (nCall m c).f0 = 6 from rfl)]
 unfold partsV6
 split
 ·split
  ·rfl
  ·rename_i h3; exact absurd ⟨h, h1, h2⟩ h3
 ·rename_i h3; exact absurd (by kernel_rfl) h3
theorem shape1 {x : S50} (h : 0 ≤ Nau x) (k : x.f0 = 1) : x = nVal x.f1 ∧ litB x.f1 = true ∧ Nau x = 0 := by
 have hg := Nd9 x h
 generalize hz : Nau x = z at hg ⊢
 cases hg <;> first | (cases k; done) | exact ⟨rfl, by assumption, rfl⟩
theorem shape2 {x : S50} (h : 0 ≤ Nau x) (k : x.f0 = 2) : x = nCell x.f5 ∧ refR x.f5 = true ∧ Nau x = 0 := by
 have hg := Nd9 x h
 generalize hz : Nau x = z at hg ⊢
 cases hg <;> first | (cases k; done) | exact ⟨rfl, by assumption, rfl⟩
theorem shape3 {x : S50} (h : 0 ≤ Nau x) (k : x.f0 = 3) : x = nArea x.f5 x.f6 ∧ refR x.f5 = true ∧ refR x.f6 = true ∧ x.f6.f0 = eB ∧ Nau x = 0 := by
 have hg := Nd9 x h
 generalize hz : Nau x = z at hg ⊢
 cases hg <;> first | (cases k; done) | exact ⟨rfl, by assumption, by assumption, by assumption, rfl⟩
theorem shape4 {x : S50} (h : 0 ≤ Nau x) (k : x.f0 = 4) : x = nUn x.f2 ∧ 1 ≤ x.f2 ∧ x.f2 ≤ 3 ∧ Nau x = 1 := by
 have hg := Nd9 x h
 generalize hz : Nau x = z at hg ⊢
 cases hg <;> first | (cases k; done) | exact ⟨rfl, by assumption, by assumption, rfl⟩
theorem shape5 {x : S50} (h : 0 ≤ Nau x) (k : x.f0 = 5) : x = nBin x.f2 ∧ binO x.f2 ∧ Nau x = 2 := by
 have hg := Nd9 x h
 generalize hz : Nau x = z at hg ⊢
 cases hg <;> first | (cases k; done) | exact ⟨rfl, by assumption, rfl⟩
theorem shape6 {x : S50} (h : 0 ≤ Nau x) (k : x.f0 = 6) : x = nCall x.f3 x.f4 ∧ fnB x.f3 = true ∧ 0 ≤ x.f4 ∧ x.f4 ≤ 30 ∧ Nau x = x.f4 := by
 have hg := Nd9 x h
 generalize hz : Nau x = z at hg ⊢
 cases hg <;> first | (cases k; done) | exact ⟨rfl, by assumption, by assumption, by assumption, rfl⟩
theorem shape0 {x : S50} (h : 0 ≤ Nau x) : 1 ≤ x.f0 ∧ x.f0 ≤ 6 := by
 have hg := Nd9 x h
 generalize hz : Nau x = z at hg
 cases hg
 ·exact ⟨by show (1 : Int) ≤ 1; decide, by show (1 : Int) ≤ 6; decide⟩
 ·exact ⟨by show (1 : Int) ≤ 2; decide, by show (2 : Int) ≤ 6; decide⟩
 ·exact ⟨by show (1 : Int) ≤ 3; decide, by show (3 : Int) ≤ 6; decide⟩
 ·exact ⟨by show (1 : Int) ≤ 4; decide, by show (4 : Int) ≤ 6; decide⟩
 ·exact ⟨by show (1 : Int) ≤ 5; decide, by show (5 : Int) ≤ 6; decide⟩
 ·exact ⟨by show (1 : Int) ≤ 6; decide, by show (6 : Int) ≤ 6; decide⟩
def rk (x : S50) : Int := if x.f0 = 4 then 1 else if x.f0 = 5 then 2 else if x.f0 = 6 then x.f4 else 0
theorem eqS_no {x y : S50} (h : ¬ x = y) : eqS x y = false := by
 cases hb : eqS x y with
 | true => exact absurd (Nb4.1 hb) h
 | false => rfl
theorem node84 (x : S50) (hs : x.f1.f2.size ≤ 9223372036854775807) (w : World) : ND x w (if 0 ≤ Nau x then Nau x else rk x) (decide (0 ≤ Nau x)) := by
 by_cases k1 : x.f0 = 1
 ·by_cases hg : 0 ≤ Nau x
  ·obtain ⟨he, h5, hp⟩ := shape1 hg k1
   rw [if_pos hg, decide_eq_true hg, hp]
   exact nd1b x w k1 (Nb4.2 he) (x.f1.f2.size + 1000003) true (by rw [← h5]; exact literal_f x.f1 hs _ (by omega) (by omega))
  ·rw [if_neg hg, decide_eq_false hg, show rk x = 0 by unfold rk; rw [k1]; rfl]
   by_cases he : x = nVal x.f1
   ·have h5 : litB x.f1 = false := by
     cases hb : litB x.f1 with
     | true => exact absurd (by rw [he, parts_val hb]; decide) hg
     | false => rfl
    exact nd1b x w k1 (Nb4.2 he) (x.f1.f2.size + 1000003) false (by rw [← h5]; exact literal_f x.f1 hs _ (by omega) (by omega))
   ·exact nd1a x w k1 (eqS_no he)
 by_cases k2 : x.f0 = 2
 ·by_cases hg : 0 ≤ Nau x
  ·obtain ⟨he, h5, hp⟩ := shape2 hg k2
   rw [if_pos hg, decide_eq_true hg, hp]
   exact nd2b x w k2 (Nb4.2 he) true (by rw [← h5]; exact ref5_f x.f5.f0 x.f5.f1 x.f5.f2 x.f5.f3 x.f5.f4 20 (by omega))
  ·rw [if_neg hg, decide_eq_false hg, show rk x = 0 by unfold rk; rw [k2]; rfl]
   by_cases he : x = nCell x.f5
   ·have h5 : refR x.f5 = false := by
     cases hb : refR x.f5 with
     | true => exact absurd (by rw [he, parts_cell hb]; decide) hg
     | false => rfl
    exact nd2b x w k2 (Nb4.2 he) false (by rw [← h5]; exact ref5_f x.f5.f0 x.f5.f1 x.f5.f2 x.f5.f3 x.f5.f4 20 (by omega))
   ·exact nd2a x w k2 (eqS_no he)
 by_cases k3 : x.f0 = 3
 ·by_cases hg : 0 ≤ Nau x
  ·obtain ⟨he, h5, h6, h7, hp⟩ := shape3 hg k3
   rw [if_pos hg, decide_eq_true hg, hp]
   have := nd3d x w k3 (Nb4.2 he) (by rw [← h5]; exact ref5_f x.f5.f0 x.f5.f1 x.f5.f2 x.f5.f3 x.f5.f4 20 (by omega)) (by rw [← h6]; exact ref5_f x.f6.f0 x.f6.f1 x.f6.f2 x.f6.f3 x.f6.f4 20 (by omega))
   rw [show x.f6.f0.toList.isEmpty = true by rw [h7]; kernel_rfl] at this
   exact this
  ·rw [if_neg hg, decide_eq_false hg, show rk x = 0 by unfold rk; rw [k3]; rfl]
   by_cases he : x = nArea x.f5 x.f6
   ·cases h5 : refR x.f5 with
    | false => exact nd3b x w k3 (Nb4.2 he) (by rw [← h5]; exact ref5_f x.f5.f0 x.f5.f1 x.f5.f2 x.f5.f3 x.f5.f4 20 (by omega))
    | true =>
     cases h6 : refR x.f6 with
     | false => exact nd3c x w k3 (Nb4.2 he) (by rw [← h5]; exact ref5_f x.f5.f0 x.f5.f1 x.f5.f2 x.f5.f3 x.f5.f4 20 (by omega)) (by rw [← h6]; exact ref5_f x.f6.f0 x.f6.f1 x.f6.f2 x.f6.f3 x.f6.f4 20 (by omega))
     | true =>
      have h7 : x.f6.f0.toList.isEmpty = false := by
       cases hb : x.f6.f0.toList.isEmpty with
       | true => exact absurd (by rw [he, parts_area h5 h6 (eq_eB (List.isEmpty_iff.1 hb))]; decide) hg
       | false => rfl
      have := nd3d x w k3 (Nb4.2 he) (by rw [← h5]; exact ref5_f x.f5.f0 x.f5.f1 x.f5.f2 x.f5.f3 x.f5.f4 20 (by omega)) (by rw [← h6]; exact ref5_f x.f6.f0 x.f6.f1 x.f6.f2 x.f6.f3 x.f6.f4 20 (by omega))
      rw [h7] at this
      exact this
   ·exact nd3a x w k3 (eqS_no he)
 by_cases k4 : x.f0 = 4
 ·by_cases hg : 0 ≤ Nau x
  ·obtain ⟨he, h1, h2, hp⟩ := shape4 hg k4
   rw [if_pos hg, decide_eq_true hg, hp]
   rcases (by omega : x.f2 = 1 ∨ x.f2 = 2 ∨ x.f2 = 3) with h | h | h
   ·exact nd41 x w k4 (Nb4.2 he) (by rw [h]; rfl)
   ·exact nd42 x w k4 (Nb4.2 he) (by rw [h]; rfl) (by rw [h]; rfl)
   ·have := nd4o x w k4 (Nb4.2 he) (by rw [h]; rfl) (by rw [h]; rfl)
    rw [show (x.f2 == 3) = true by rw [h]; rfl] at this
    exact this
  ·rw [if_neg hg, decide_eq_false hg, show rk x = 1 by unfold rk; rw [k4]; rfl]
   by_cases he : x = nUn x.f2
   ·have h5 : ¬ (1 ≤ x.f2 ∧ x.f2 ≤ 3) := fun h => hg (by rw [he, parts_un h.1 h.2]; decide)
    have := nd4o x w k4 (Nb4.2 he) (beq_eq_false_iff_ne.2 (by omega)) (beq_eq_false_iff_ne.2 (by omega))
    rw [show (x.f2 == 3) = false from beq_eq_false_iff_ne.2 (by omega)] at this
    exact this
   ·exact nd4a x w k4 (eqS_no he)
 by_cases k5 : x.f0 = 5
 ·by_cases hg : 0 ≤ Nau x
  ·obtain ⟨he, h5, hp⟩ := shape5 hg k5
   rw [if_pos hg, decide_eq_true hg, hp]
   exact nd5b x w k5 (Nb4.2 he) true (by rw [isbin_f, decide_eq_true h5])
  ·rw [if_neg hg, decide_eq_false hg, show rk x = 2 by unfold rk; rw [k5]; rfl]
   by_cases he : x = nBin x.f2
   ·have h5 : ¬ binO x.f2 := fun h => hg (by rw [he, parts_bin h]; decide)
    exact nd5b x w k5 (Nb4.2 he) false (by rw [isbin_f, decide_eq_false h5])
   ·exact nd5a x w k5 (eqS_no he)
 by_cases k6 : x.f0 = 6
 ·by_cases hg : 0 ≤ Nau x
  ·obtain ⟨he, h5, h1, h2, hp⟩ := shape6 hg k6
   rw [if_pos hg, decide_eq_true hg, hp]
   have := nd6d x w k6 (Nb4.2 he) (by rw [latin_f x.f3 false 20 (by omega), latin_fn, h5]) (decide_eq_true h1)
   rw [decide_eq_true h2] at this
   exact this
  ·rw [if_neg hg, decide_eq_false hg, show rk x = x.f4 by unfold rk; rw [k6]; rfl]
   by_cases he : x = nCall x.f3 x.f4
   ·cases h5 : fnB x.f3 with
    | false => exact nd6b x w k6 (Nb4.2 he) (by rw [latin_f x.f3 false 20 (by omega), latin_fn, h5])
    | true =>
     by_cases h1 : 0 ≤ x.f4
     ·have h2 : ¬ x.f4 ≤ 30 := fun h => hg (by rw [he, parts_call h5 h1 h]; exact h1)
      have := nd6d x w k6 (Nb4.2 he) (by rw [latin_f x.f3 false 20 (by omega), latin_fn, h5]) (decide_eq_true h1)
      rw [decide_eq_false h2] at this
      exact this
     ·exact nd6c x w k6 (Nb4.2 he) (by rw [latin_f x.f3 false 20 (by omega), latin_fn, h5]) (decide_eq_false h1)
   ·exact nd6a x w k6 (eqS_no he)
 have hg : ¬ 0 ≤ Nau x := fun h => by have := shape0 h; omega
 rw [if_neg hg, decide_eq_false hg, show rk x = 0 by unfold rk; rw [if_neg k4, if_neg k5, if_neg k6]]
 exact nd0 x w k1 k2 k3 k4 k5 k6
def Nbd.f (x : S50) : Option (Int × Bool) := if x.f1.f2.size ≤ 9223372036854775807 then some ((if 0 ≤ Nau x then Nau x else rk x), decide (0 ≤ Nau x)) else none
theorem Nbd.calls (x : S50) (r1 : Int) (r2 : Bool) (w : World) (h : Nbd.f x = some (r1, r2)) : Calls Tryz.prog 84 #[v50 x] w fun e w' => e = .returned (.tuple #[.int .i64 r1, .bool r2]) ∧ Below w.heap.size w w' := by
 unfold Nbd.f at h
 split at h
 ·rename_i hs
  obtain ⟨rfl, rfl⟩ := Prod.mk.inj (Option.some.inj h)
  exact node84 x hs w
 ·cases h
section
attribute [local go_sem] max2_int min2_int max_two min_two max_three min_three max_four min_four
mutual
def Nah.l0 : Nat → List (S50) → Int → Int → Int → Int → Option (Int × Int × Bool)
 | 0, _, _, _, _, _ => none
 | k + 1, x0, x1, x7, x9, x10 => if x10 < x7 then ((Nah.f k x0 x1).bind fun bt104 => (if bt104.2.2 = true then (Nah.l0 k x0 bt104.1 x7 (mx x9 bt104.2.1) (wrap64 (x10 + 1))) else (some (0, 0, false)))) else (some (x1, wrap64 (x9 + 1), true))
def Nah.f : Nat → List (S50) → Int → Option (Int × Int × Bool)
 | 0, _, _ => none
 | k + 1, l0, a1 => if a1 ≥ (l0.length : Int) then (some (0, 0, false)) else (if 0 ≤ a1 then (if a1 < (l0.length : Int) then ((Nbd.f (Ncm l0 a1)).bind fun bt102 => (if bt102.2 = true then (Nah.l0 k l0 (wrap64 (a1 + 1)) bt102.1 0 0) else (some (0, 0, false)))) else (none)) else (none))
end
theorem Nah.mono_l : ∀ k, (∀ y0 y1, LeO (Nah.f k y0 y1) (Nah.f (k + 1) y0 y1)) ∧ (∀ y0 y1 y2 y3 y4, LeO (Nah.l0 k y0 y1 y2 y3 y4) (Nah.l0 (k + 1) y0 y1 y2 y3 y4))
 | 0 => ⟨fun _ _ r h => by simp [Nah.f] at h, fun _ _ _ _ _ r h => by simp [Nah.l0] at h⟩
 | k + 1 => by
  obtain ⟨ih0, ih1⟩ := Nah.mono_l k
  refine ⟨?_, ?_⟩
  ·intro y0 y1
   unfold Nah.f
   repeat' first
   | (with_reducible exact ih0 _ _)
   | (with_reducible exact ih1 _ _ _ _ _)
   | (with_reducible exact LeO.refl _)
   | (with_reducible exact LeO.none _)
   | (with_reducible refine LeO.ite ?_ ?_)
   | (with_reducible refine LeO.bind ?_ (fun _ => ?_))
   | exact ih0 _ _
   | exact ih1 _ _ _ _ _
   | exact LeO.none _
   | refine LeO.ite ?_ ?_
   | refine LeO.bind ?_ (fun _ => ?_)
  ·intro y0 y1 y2 y3 y4
   unfold Nah.l0
   repeat' first
   | (with_reducible exact ih0 _ _)
   | (with_reducible exact ih1 _ _ _ _ _)
   | (with_reducible exact LeO.refl _)
   | (with_reducible exact LeO.none _)
   | (with_reducible refine LeO.ite ?_ ?_)
   | (with_reducible refine LeO.bind ?_ (fun _ => ?_))
   | exact ih0 _ _
   | exact ih1 _ _ _ _ _
   | exact LeO.none _
   | refine LeO.ite ?_ ?_
   | refine LeO.bind ?_ (fun _ => ?_)
theorem Nah.mono : ∀ a0 a1 k, LeO (Nah.f k a0 a1) (Nah.f (k + 1) a0 a1) := by
 intro a0 a1 k
 obtain ⟨ih0, ih1⟩ := Nah.mono_l k
 exact ih0 a0 a1
theorem Nah.calls (k : Nat) : ∀ (A0 : Option Addr) (c0 : Nat) (l0 : List (S50)) (a1 : Int) (r1 : Int) (r2 : Int) (r3 : Bool) (w : World) (hr0 : Kd.C k50 w A0 l0.length l0) (hc0 : l0.length ≤ c0) (h : Nah.f k l0 a1 = some (r1, r2, r3)),
 Calls Tryz.prog 54 #[.slice A0 l0.length c0, .int .i64 a1] w fun e w' => e = .returned (.tuple #[.int .i64 r1, .int .i64 r2, .bool r3]) ∧ Below w.heap.size w w' := by
 induction k using Nat.strongRecOn with
 | _ k ih =>
 intro A0 c0 l0 a1 r1 r2 r3 w hr0 hc0 h
 cases k with
 | zero => exact absurd h (by simp [Nah.f])
 | succ k =>
 simp only [Nah.f] at h
 have hu50 := Tryz.underlying50
 have HR0 := aM hr0
 have HC0 := aM hc0
 clear hr0 hc0
 have HB := aM (Below.refl w.heap.size w)
 have H : (if a1 ≥ (l0.length : Int) then (some (0, 0, false)) else (if 0 ≤ a1 then (if a1 < (l0.length : Int) then ((Nbd.f (Ncm l0 a1)).bind fun bt102 => (if bt102.2 = true then (Nah.l0 k l0 (wrap64 (a1 + 1)) bt102.1 0 0) else (some (0, 0, false)))) else (none)) else (none))) = some (r1, r2, r3) := h
 clear h
 by_cases c3 : a1 ≥ (l0.length : Int)
 ·rw [if_pos c3] at H
  have c3b0 : decide ((l0.length : Int) ≤ a1) = true := decide_eq_true c3
  clear c3
  simp only [Option.some.injEq, Prod.mk.injEq] at H
  obtain ⟨rfl, rfl, rfl⟩ := H
  go_enter Tryz.func54, Tryz.ntmps54
  go_wp2
  go_ret3
  exact ⟨eR, bE⟩
 ·rw [if_neg c3] at H
  have c3b0 : decide ((l0.length : Int) ≤ a1) = false := decide_eq_false c3
  clear c3
  by_cases c4 : 0 ≤ a1
  ·rw [if_pos c4] at H
   have c4b0 : decide (0 ≤ a1) = true := decide_eq_true c4
   clear c4
   by_cases c5 : a1 < (l0.length : Int)
   ·rw [if_pos c5] at H
    have c5b0 : decide (a1 < (l0.length : Int)) = true := decide_eq_true c5
    clear c5
    replace H := Option.bind_eq_some_iff.mp H
    obtain ⟨⟨t102, t103⟩, A60, H⟩ := H
    try dsimp only at H
    have A6 := aM A60
    clear A60
    by_cases c7 : t103 = true
    ·subst c7
     rw [if_pos rfl] at H
     have H' := aM H
     clear H
     have p101 : 0 ≤ (a1 : Int) := of_decide_eq_true (by first | (with_reducible assumption) | assumption)
     have q101 : a1 < (l0.length : Int) := of_decide_eq_true (by first | (with_reducible assumption) | assumption)
     obtain ⟨ad101, e101⟩ := at_N50 HR0.out a1 p101 q101
     cases e101
     replace p101 := eq_true p101
     replace q101 := eq_true q101
     go_enter Tryz.func54, Tryz.ntmps54
     go_wp2_with (first | ((with_reducible refine gD 22 rfl ?_); refine Ncp rfl rfl (xs := l0) (n := l0.length) (A := some ad101) ?hc a1 (of_eq_true p101) (of_eq_true q101) rfl ?ha ?_; (case hc => first | exact HR0.out | exact Kd.C_below HR0.out HB.out); (case ha => rfl)) | ((with_reducible refine gC 84 rfl ?_); refine gL 23 Tryz.func84 #[v50 (Ncm l0 a1)] ?_; (with_reducible refine (Nbd.calls (Ncm l0 a1) t102 true _ A6.out).mono ?_); rintro e w8 ⟨rfl, hb⟩; refine ⟨_, rfl, ?_⟩; replace HB := aM (Nac bE hb); (try clear hb)))
     go_loopg [1, 9, 10] k (fun kq v1 v9 v10 w' => ∃ (x1_1 : Int) (x9_1 : Int) (x10_1 : Int), v1 = .int .i64 x1_1 ∧ v9 = .int .i64 x9_1 ∧ v10 = .int .i64 x10_1 ∧ Naj (Nah.l0 kq l0 x1_1 t102 x9_1 x10_1 = some (r1, r2, r3)) ∧ Naj (kq ≤ k) ∧ Naj (Below w.heap.size w w'))
     case atStart => exact ⟨(wrap64 (a1 + 1)), (0), (0), (by first | rfl | (simp; done) | (simp [*]; done)), (by first | rfl | (simp; done) | (simp [*]; done)), (by first | rfl | (simp; done) | (simp [*]; done)), H', ⟨Nat.le_refl _⟩, ⟨bE⟩⟩
     case round =>
      clear H'
      try clear p1
      try clear q1
      try clear hx1
      try clear p2
      try clear c3
      try clear c3b0
      try clear c4
      try clear c4b0
      try clear c5
      try clear c5b0
      try clear p6
      try clear c7
      try clear c8
      try clear hx101_0
      try clear hx101_1
      try clear hx101_10
      try clear hx101_11
      try clear hx101_12
      try clear hx101_13
      try clear hx101_14
      try clear hx101_15
      try clear hx101_16
      try clear hx101_17
      try clear hx101_18
      try clear hx101_19
      try clear hx101_2
      try clear hx101_3
      try clear hx101_4
      try clear hx101_5
      try clear hx101_6
      try clear hx101_7
      try clear hx101_8
      try clear hx101_9
      try clear p101
      try clear q101
      obtain ⟨x1_1, x9_1, x10_1, rfl, rfl, rfl, HA, HK1, HB⟩ := hrel
      cases gk with
      | zero => exact absurd HA.out (by simp [Nah.l0])
      | succ k1 =>
       have H := HA.out
       clear HA
       simp only [Nah.l0] at H
       by_cases c9 : x10_1 < t102
       ·rw [if_pos c9] at H
        have c9b0 : decide (x10_1 < t102) = true := decide_eq_true c9
        clear c9
        replace H := Option.bind_eq_some_iff.mp H
        obtain ⟨⟨t104, t105, t106⟩, A100, H⟩ := H
        try dsimp only at H
        have A10 := aM A100
        clear A100
        by_cases c11 : t106 = true
        ·subst c11
         rw [if_pos rfl] at H
         obtain ⟨ji12, hji12⟩ : ∃ j_ : Int, (mx x9_1 t105) = j_ := ⟨_, rfl⟩
         replace H : (Nah.l0 k1 l0 t104 t102 ji12 (wrap64 (x10_1 + 1))) = some (r1, r2, r3) := by first | (rw [hji12] at H; exact H) | (simp only [hji12] at H ⊢; exact H)
         (try rw [hji12] at A10)
         have hji12_ : (if x9_1 < t105 then t105 else x9_1) = ji12 := hji12
         have H' := aM H
         clear H
         go_wp2_with (first | ((with_reducible refine gD 22 rfl ?_); refine Ncp rfl rfl (xs := l0) (n := l0.length) (A := some ad101) ?hc a1 (of_eq_true p101) (of_eq_true q101) rfl ?ha ?_; (case hc => first | exact HR0.out | exact Kd.C_below HR0.out HB.out); (case ha => rfl)) | ((with_reducible refine gC 54 rfl ?_); refine gL 38 Tryz.func54 #[.slice (some ad101) l0.length c0, .int .i64 x1_1] ?_; (with_reducible refine (ih k1 (by have := HK1.out; omega) _ _ l0 x1_1 t104 t105 true _ ?side1 ?side2 A10.out).mono ?_); (case side1 => repeat (first | exact (Kd.C_below HR0.out HB.out) | (with_reducible refine Kd.C_alloc ?_ _) | (with_reducible refine Kd.C_drewN ?_ _) | (with_reducible refine Kd.C_drew ?_))); (case side2 => exact HC0.out); rintro e w13 ⟨rfl, hb⟩; refine ⟨_, rfl, ?_⟩; replace HB := aM (Nac bE hb); (try clear hb)))
         go_roundg k1
         case measure => have := HK1.out; omega
         case rel => exact ⟨(t104), (ji12), (wrap64 (x10_1 + 1)), (by first | rfl | (simp; done) | (simp [*]; done)), (by first | rfl | (simp; done) | (simp only [← hji12] <;> (first | rfl | simp)) | (simp [*]; done)), (by first | rfl | (simp; done) | (simp [*]; done)), H', ⟨by have := HK1.out; omega⟩, ⟨bE⟩⟩
        ·replace c11 := Bool.eq_false_iff.mpr c11
         subst c11
         rw [if_neg Bool.false_ne_true] at H
         simp only [Option.some.injEq, Prod.mk.injEq] at H
         obtain ⟨rfl, rfl, rfl⟩ := H
         go_wp2_with (first | ((with_reducible refine gD 22 rfl ?_); refine Ncp rfl rfl (xs := l0) (n := l0.length) (A := some ad101) ?hc a1 (of_eq_true p101) (of_eq_true q101) rfl ?ha ?_; (case hc => first | exact HR0.out | exact Kd.C_below HR0.out HB.out); (case ha => rfl)) | ((with_reducible refine gC 54 rfl ?_); refine gL 38 Tryz.func54 #[.slice (some ad101) l0.length c0, .int .i64 x1_1] ?_; (with_reducible refine (ih k1 (by have := HK1.out; omega) _ _ l0 x1_1 t104 t105 false _ ?side1 ?side2 A10.out).mono ?_); (case side1 => repeat (first | exact (Kd.C_below HR0.out HB.out) | (with_reducible refine Kd.C_alloc ?_ _) | (with_reducible refine Kd.C_drewN ?_ _) | (with_reducible refine Kd.C_drew ?_))); (case side2 => exact HC0.out); rintro e w14 ⟨rfl, hb⟩; refine ⟨_, rfl, ?_⟩; replace HB := aM (Nac bE hb); (try clear hb)))
         go_ret3
         exact ⟨eR, bE⟩
       ·rw [if_neg c9] at H
        have c9b0 : decide (x10_1 < t102) = false := decide_eq_false c9
        clear c9
        simp only [Option.some.injEq, Prod.mk.injEq] at H
        obtain ⟨rfl, rfl, rfl⟩ := H
        go_wp2
        go_ret3
        exact ⟨eR, bE⟩
    ·replace c7 := Bool.eq_false_iff.mpr c7
     subst c7
     rw [if_neg Bool.false_ne_true] at H
     simp only [Option.some.injEq, Prod.mk.injEq] at H
     obtain ⟨rfl, rfl, rfl⟩ := H
     have p101 : 0 ≤ (a1 : Int) := of_decide_eq_true (by first | (with_reducible assumption) | assumption)
     have q101 : a1 < (l0.length : Int) := of_decide_eq_true (by first | (with_reducible assumption) | assumption)
     obtain ⟨ad101, e101⟩ := at_N50 HR0.out a1 p101 q101
     cases e101
     replace p101 := eq_true p101
     replace q101 := eq_true q101
     go_enter Tryz.func54, Tryz.ntmps54
     go_wp2_with (first | ((with_reducible refine gD 22 rfl ?_); refine Ncp rfl rfl (xs := l0) (n := l0.length) (A := some ad101) ?hc a1 (of_eq_true p101) (of_eq_true q101) rfl ?ha ?_; (case hc => first | exact HR0.out | exact Kd.C_below HR0.out HB.out); (case ha => rfl)) | ((with_reducible refine gC 84 rfl ?_); refine gL 23 Tryz.func84 #[v50 (Ncm l0 a1)] ?_; (with_reducible refine (Nbd.calls (Ncm l0 a1) t102 false _ A6.out).mono ?_); rintro e w15 ⟨rfl, hb⟩; refine ⟨_, rfl, ?_⟩; replace HB := aM (Nac bE hb); (try clear hb)))
     go_ret3
     exact ⟨eR, bE⟩
   ·rw [if_neg c5] at H
    exact absurd H (by simp)
  ·rw [if_neg c4] at H
   exact absurd H (by simp)
end
def Nap.j0 : Nat → Int → Bool → Option (Int)
 | 0, _, _ => none
 | k + 1, x4, x22 => if x22 = true then (some 53) else (if x4 > 32 then (some 51) else (some 0))
def Nap.f (k : Nat) (l0 : List (S50)) : Option (Int) := if (l0.length : Int) > 256 then (some 52) else ((Nah.f k l0 0).bind fun bt101 => (if bt101.2.2 = true then (Nap.j0 k bt101.2.1 (bt101.1 != (l0.length : Int))) else (Nap.j0 k bt101.2.1 true)))
theorem Nap.calls (k : Nat) (A0 : Option Addr) (c0 : Nat) (l0 : List (S50)) (r : Int) (w : World) (hr0 : Kd.C k50 w A0 l0.length l0) (hc0 : l0.length ≤ c0) (h : Nap.f k l0 = some r) :
 Calls Tryz.prog 29 #[.slice A0 l0.length c0] w fun e w' => e = .returned (.int .i64 r) ∧ Below w.heap.size w w' := by
 have HR0 := aM hr0
 have HC0 := aM hc0
 clear hr0 hc0
 have HB := aM (Below.refl w.heap.size w)
 have H := h
 unfold Nap.f at H
 clear h
 by_cases c2 : (l0.length : Int) > 256
 ·rw [if_pos c2] at H
  have c2b0 : decide (256 < (l0.length : Int)) = true := decide_eq_true c2
  have c2b1 : decide (256 < l0.length) = true := decide_eq_true (by omega)
  clear c2
  obtain rfl := Option.some.inj H
  go_enter Tryz.func29, Tryz.ntmps29
  go_wp2
  go_ret
  exact ⟨eR, bE⟩
 ·rw [if_neg c2] at H
  have c2b0 : decide (256 < (l0.length : Int)) = false := decide_eq_false c2
  have c2b1 : decide (256 < l0.length) = false := decide_eq_false (by omega)
  clear c2
  replace H := Option.bind_eq_some_iff.mp H
  obtain ⟨⟨t101, t102, t103⟩, A30, H⟩ := H
  try dsimp only at H
  have A3 := aM A30
  clear A30
  have HC4 := aM H
  clear H
  go_enter Tryz.func29, Tryz.ntmps29
  go_upto_region 4 with (first | ((with_reducible refine gC 54 rfl ?_); refine gL 11 Tryz.func54 #[.slice A0 l0.length c0, .int .i64 0] ?_; (with_reducible refine (Nah.calls k _ _ l0 0 t101 t102 t103 _ ?side1 ?side2 A3.out).mono ?_); (case side1 => repeat (first | exact HR0.out | (with_reducible refine Kd.C_alloc ?_ _) | (with_reducible refine Kd.C_drewN ?_ _) | (with_reducible refine Kd.C_drew ?_))); (case side2 => exact HC0.out); rintro e w5 ⟨rfl, hb⟩; refine ⟨_, rfl, ?_⟩; replace HB := aM (Nac bE hb); (try clear hb)))
  (try simp only [Act.put, List.setIfInBounds_toArray, List.set_cons_zero, List.set_cons_succ])
  go_cut [22] (fun v22 wc => ∃ (kq : Nat) (x22_3 : Bool), v22 = .bool x22_3 ∧ Naj (Nap.j0 kq t102 x22_3 = some r) ∧ Naj (kq ≤ k) ∧ Naj (Below w.heap.size w wc))
  case first =>
   have H := HC4.out
   clear HC4
   by_cases c6 : t103 = true
   ·subst c6
    rw [if_pos rfl] at H
    have H' := aM H
    clear H
    go_wp2
    go_meet
    case rel => exact ⟨_, ((t101 != (l0.length : Int))), (by first | rfl | (simp; done) | (simp [*]; done)), H', ⟨by first | omega | exact Nat.le_refl _⟩, ⟨bE⟩⟩
   ·replace c6 := Bool.eq_false_iff.mpr c6
    subst c6
    rw [if_neg Bool.false_ne_true] at H
    have H' := aM H
    clear H
    go_wp2
    go_meet
    case rel => exact ⟨_, (true), (by first | rfl | (simp; done) | (simp [*]; done)), H', ⟨by first | omega | exact Nat.le_refl _⟩, ⟨bE⟩⟩
  case rest =>
   clear HC4
   try clear c2
   try clear c2b0
   try clear c2b1
   try clear p2
   try clear c5
   try clear c6
   obtain ⟨kq, x22_3, rfl, HA, HJ3, HB⟩ := hcut
   cases kq with
   | zero => exact absurd HA.out (by simp [Nap.j0])
   | succ kj3 =>
    have H := HA.out
    clear HA
    simp only [Nap.j0] at H
    by_cases c7 : x22_3 = true
    ·subst c7
     rw [if_pos rfl] at H
     obtain rfl := Option.some.inj H
     go_wp2
     go_ret
     exact ⟨eR, bE⟩
    ·replace c7 := Bool.eq_false_iff.mpr c7
     subst c7
     rw [if_neg Bool.false_ne_true] at H
     by_cases c8 : t102 > 32
     ·rw [if_pos c8] at H
      have c8b0 : decide (32 < t102) = true := decide_eq_true c8
      clear c8
      obtain rfl := Option.some.inj H
      go_wp2
      go_ret
      exact ⟨eR, bE⟩
     ·rw [if_neg c8] at H
      have c8b0 : decide (32 < t102) = false := decide_eq_false c8
      clear c8
      obtain rfl := Option.some.inj H
      go_wp2
      go_ret
      exact ⟨eR, bE⟩
def Nak.l0 : Nat → List (S50) → List Int → Int → Int → Int → Option (List Int)
 | 0, _, _, _, _, _ => none
 | k + 1, x0, x5, x6, x8, x9 => if x9 < x6 then (if x5.length < 17592186044416 then ((Nah.f k x0 x8).bind fun bt107 => (Nak.l0 k x0 (x5 ++ [x8]) x6 bt107.1 (wrap64 (x9 + 1)))) else (none)) else (some x5)
def Nak.f (k : Nat) (l0 : List (S50)) (a1 : Int) : Option (List Int) := if 0 ≤ a1 then (if a1 < (l0.length : Int) then ((Nbd.f (Ncm l0 a1)).bind fun bt102 => (Nak.l0 k l0 ([] : List Int) bt102.1 (wrap64 (a1 + 1)) 0)) else (none)) else (none)
theorem Nak.mono_l : ∀ k, (∀ y0 y1 y2 y3 y4, LeO (Nak.l0 k y0 y1 y2 y3 y4) (Nak.l0 (k + 1) y0 y1 y2 y3 y4))
 | 0 => fun _ _ _ _ _ r h => by simp [Nak.l0] at h
 | k + 1 => by
  have ih0 := Nak.mono_l k
  ·intro y0 y1 y2 y3 y4
   unfold Nak.l0
   repeat' first
   | (with_reducible exact ih0 _ _ _ _ _)
   | (with_reducible exact Nah.mono _ _ _)
   | (with_reducible exact LeO.refl _)
   | (with_reducible exact LeO.none _)
   | (with_reducible refine LeO.ite ?_ ?_)
   | (with_reducible refine LeO.bind ?_ (fun _ => ?_))
   | exact ih0 _ _ _ _ _
   | exact Nah.mono _ _ _
   | exact LeO.none _
   | refine LeO.ite ?_ ?_
   | refine LeO.bind ?_ (fun _ => ?_)
theorem Nak.calls (k : Nat) (A0 : Option Addr) (c0 : Nat) (l0 : List (S50)) (a1 : Int) (r : List Int) (w : World) (hr0 : Kd.C k50 w A0 l0.length l0) (hc0 : l0.length ≤ c0) (h : Nak.f k l0 a1 = some r) :
 Calls Tryz.prog 57 #[.slice A0 l0.length c0, .int .i64 a1] w fun e w' => ∃ v0_ : Value, e = .returned (v0_) ∧ Kd.R (Kd.int .i64) 3 w' w.heap.size (fun _ => True) v0_ r ∧ Below w.heap.size w w' := by
 have hu50 := Tryz.underlying50
 have HR0 := aM hr0
 have HC0 := aM hc0
 clear hr0 hc0
 have HB := aM (Below.refl w.heap.size w)
 have H := h
 unfold Nak.f at H
 clear h
 by_cases c3 : 0 ≤ a1
 ·rw [if_pos c3] at H
  have c3b0 : decide (0 ≤ a1) = true := decide_eq_true c3
  clear c3
  by_cases c4 : a1 < (l0.length : Int)
  ·rw [if_pos c4] at H
   have c4b0 : decide (a1 < (l0.length : Int)) = true := decide_eq_true c4
   clear c4
   replace H := Option.bind_eq_some_iff.mp H
   obtain ⟨⟨t102, t103⟩, A50, H⟩ := H
   try dsimp only at H
   have A5 := aM A50
   clear A50
   have H' := aM H
   clear H
   have p101 : 0 ≤ (a1 : Int) := of_decide_eq_true (by first | (with_reducible assumption) | assumption)
   have q101 : a1 < (l0.length : Int) := of_decide_eq_true (by first | (with_reducible assumption) | assumption)
   obtain ⟨ad101, e101⟩ := at_N50 HR0.out a1 p101 q101
   cases e101
   replace p101 := eq_true p101
   replace q101 := eq_true q101
   go_enter Tryz.func57, Tryz.ntmps57
   go_wp2_with (first | ((with_reducible refine gD 14 rfl ?_); refine Ncp rfl rfl (xs := l0) (n := l0.length) (A := some ad101) ?hc a1 (of_eq_true p101) (of_eq_true q101) rfl ?ha ?_; (case hc => first | exact HR0.out | exact Kd.C_below HR0.out HB.out); (case ha => rfl)) | ((with_reducible refine gC 84 rfl ?_); refine gL 15 Tryz.func84 #[v50 (Ncm l0 a1)] ?_; (with_reducible refine (Nbd.calls (Ncm l0 a1) t102 t103 _ A5.out).mono ?_); rintro e w6 ⟨rfl, hb⟩; refine ⟨_, rfl, ?_⟩; replace HB := aM (Nac bE hb); (try clear hb)))
   go_loopg [5, 8, 9] k (fun kq v5 v8 v9 w' => ∃ (x5_1 : List Int) (x8_1 : Int) (x9_1 : Int), v8 = .int .i64 x8_1 ∧ v9 = .int .i64 x9_1 ∧ Naj (Nak.l0 kq l0 x5_1 t102 x8_1 x9_1 = some r) ∧ Naj (kq ≤ k) ∧ Naj (Kd.R (Kd.int .i64) 3 w' w.heap.size (fun _ => True) v5 x5_1) ∧ Naj (Below w.heap.size w w'))
   case atStart => exact ⟨(([] : List Int)), (wrap64 (a1 + 1)), (0), (by first | rfl | (simp; done) | (simp [*]; done)), (by first | rfl | (simp; done) | (simp [*]; done)), H', ⟨Nat.le_refl _⟩, ⟨by first | exact Kd.R_nil _ _ _ _ _ | exact Kd.N_nil _ _ _ _ _ | exact Kd.V_nil _ _ _ _ _ | exact Kd.Q_nil _ _ _ _ _ | exact Kd.S_nil _ _ _ _ _⟩, ⟨bE⟩⟩
   case round =>
    clear H'
    try clear p1
    try clear q1
    try clear hx1
    try clear p2
    try clear c3
    try clear c3b0
    try clear c4
    try clear c4b0
    try clear c5
    try clear p6
    try clear hx101_0
    try clear hx101_1
    try clear hx101_10
    try clear hx101_11
    try clear hx101_12
    try clear hx101_13
    try clear hx101_14
    try clear hx101_15
    try clear hx101_16
    try clear hx101_17
    try clear hx101_18
    try clear hx101_19
    try clear hx101_2
    try clear hx101_3
    try clear hx101_4
    try clear hx101_5
    try clear hx101_6
    try clear hx101_7
    try clear hx101_8
    try clear hx101_9
    try clear p101
    try clear q101
    obtain ⟨x5_1, x8_1, x9_1, rfl, rfl, HA, HK1, HO_5, HB⟩ := hrel
    cases gk with
    | zero => exact absurd HA.out (by simp [Nak.l0])
    | succ k1 =>
     have H := HA.out
     clear HA
     simp only [Nak.l0] at H
     by_cases c7 : x9_1 < t102
     ·rw [if_pos c7] at H
      have c7b0 : decide (x9_1 < t102) = true := decide_eq_true c7
      clear c7
      by_cases c8 : x5_1.length < 17592186044416
      ·rw [if_pos c8] at H
       have LMc8 := aM c8
       clear c8
       obtain ⟨y104, hy104⟩ : ∃ y_ : List Int, y_ = (x5_1 ++ [x8_1]) := ⟨_, rfl⟩
       replace H : ((Nah.f k1 l0 x8_1).bind fun bt107 => (Nak.l0 k1 l0 y104 t102 bt107.1 (wrap64 (x9_1 + 1)))) = some r := by first | (rw [hy104]; with_reducible exact H) | (have H2_ := (Option.bind_some _ _).symm.trans H; rw [hy104]; with_reducible exact H2_) | (have H2_ := (Option.bind_some _ _).symm.trans H; with_reducible exact H2_) | with_reducible exact H | (rw [hy104]; exact H) | exact H
       have Ny104 := aM hy104
       clear hy104
       replace H := Option.bind_eq_some_iff.mp H
       obtain ⟨⟨t107, t108, t109⟩, A90, H⟩ := H
       try dsimp only at H
       have A9 := aM A90
       clear A90
       have H' := aM H
       clear H
       go_wp2_with (first | ((with_reducible refine gD 14 rfl ?_); refine Ncp rfl rfl (xs := l0) (n := l0.length) (A := some ad101) ?hc a1 (of_eq_true p101) (of_eq_true q101) rfl ?ha ?_; (case hc => first | exact HR0.out | exact Kd.C_below HR0.out HB.out); (case ha => rfl)) | ((with_reducible refine Nc5 (b := .append) (xs := #[.tmp 25, .tmp 27]) rfl ?_); at_builtin; refine Kd.R_append (Kd.int .i64) (w0 := w) w.heap.size rfl (.tmp 25) (.tmp 27) 37 3 (.int .i64 0) 8 rfl Tryz.underlying37 info3 rfl (by decide) (by omega) u5 x5_1 x8_1 [.int .i64 x8_1] (fun _ => True) (fun _ => False) rfl rfl ?aP (fun _ hk => hk.elim) ?aF ?aO ?aB ?aS ?aL ?_; (case aP => exact rfl); (case aB => exact bE); (case aF => exact (fun _ _ => trivial)); (case aO => exact (by (with_reducible repeat (first | apply Kd.R_alloc | apply Kd.R_drewN | apply Kd.R_drew)); exact HO_5.out)); (case aS => exact (Nbl bE)); (case aL => have := LMc8.out; omega); intro v105 w10 ho hb hg hat; rw [← Ny104.out] at ho; have n0_ := aM (hb); have n1_ := aM (ho); clear HB; clear HO_5; have HB := n0_; have HO106 := n1_; clear n0_ n1_; clear ho hb hg hat) | ((with_reducible refine gC 54 rfl ?_); refine gL 32 Tryz.func54 #[.slice (some ad101) l0.length c0, .int .i64 x8_1] ?_; (with_reducible refine (Nah.calls k1 _ _ l0 x8_1 t107 t108 t109 _ ?side1 ?side2 A9.out).mono ?_); (case side1 => repeat (first | exact (Kd.C_below HR0.out HB.out) | (with_reducible refine Kd.C_alloc ?_ _) | (with_reducible refine Kd.C_drewN ?_ _) | (with_reducible refine Kd.C_drew ?_))); (case side2 => exact HC0.out); rintro e w11 ⟨rfl, hb⟩; refine ⟨_, rfl, ?_⟩; replace HO106 := aM (Kd.R_below (by (with_reducible repeat (first | apply Kd.R_alloc | apply Kd.R_drewN | apply Kd.R_drew)); exact HO106.out) hb); replace HB := aM (Nac bE hb); (try clear hb)))
       go_roundg k1
       case measure => have := HK1.out; omega
       case rel => exact ⟨(y104), (t107), (wrap64 (x9_1 + 1)), (by first | rfl | (simp; done) | (simp [*]; done)), (by first | rfl | (simp; done) | (simp [*]; done)), H', ⟨by have := HK1.out; omega⟩, ⟨by (with_reducible repeat (first | apply Kd.R_alloc | apply Kd.R_drewN | apply Kd.R_drew)); exact HO106.out⟩, ⟨bE⟩⟩
      ·rw [if_neg c8] at H
       exact absurd H (by simp)
     ·rw [if_neg c7] at H
      have c7b0 : decide (x9_1 < t102) = false := decide_eq_false c7
      clear c7
      obtain rfl := Option.some.inj H
      go_wp2
      go_ret
      exact ⟨_, eR, by (with_reducible repeat (first | apply Kd.R_alloc | apply Kd.R_drewN | apply Kd.R_drew)); exact HO_5.out, bE⟩
  ·rw [if_neg c4] at H
   exact absurd H (by simp)
 ·rw [if_neg c3] at H
  exact absurd H (by simp)
end Go.Proofs.YtejbbceidnaloaaGreatDoor.P
