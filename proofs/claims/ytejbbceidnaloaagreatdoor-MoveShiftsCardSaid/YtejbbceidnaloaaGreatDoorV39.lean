import Derived.Test.YtejbbceidnaloaaGreatDoorV38
import Derived.Lib.DecodeN
set_option linter.unusedVariables false
set_option linter.unusedSimpArgs false
set_option maxRecDepth 100000
set_option maxHeartbeats 8000000
namespace Go.Proofs.YtejbbceidnaloaaGreatDoor.P
open Go.RowKit AW AL AM
def mcp.f (a0 : ByteArray) (a1 a2 : Int) : Option (ByteArray × Int) := (strings_CutPrefix.f a0 (⟨#[61]⟩ : ByteArray)).bind fun bt101 => (if bt101.2 = true then ((Ndf.f bt101.1).bind fun bt103 => (if bt103.2.1 = 0 then ((msh.f bt103.1 a1 a2).bind fun bt108 => ((Ndx.f bt108.1).bind fun bt112 => (if (bt112.1.size : Int) ≥ 1024 then (some ((⟨#[]⟩ : ByteArray), 2)) else (if 1 + bt112.1.size ≤ 9223372036854775807 then (some ((⟨#[61]⟩ : ByteArray) ++ bt112.1, 0)) else (none))))) else (some ((⟨#[]⟩ : ByteArray), bt103.2.1)))) else (some (a0, 0)))
theorem mcp.calls (a0 : ByteArray) (a1 a2 : Int) (r1 : ByteArray) (r2 : Int) (w : World) (hG : GL w) (h : mcp.f a0 a1 a2 = some (r1, r2)) :
 Calls Tryz.prog 41 #[.string a0, .int .i64 a1, .int .i64 a2] w fun e w' => e = .returned (.tuple #[.string r1, .int .i64 r2]) ∧ Below w.heap.size w w' := by
 have HB := aM (Below.refl w.heap.size w)
 have H := h
 unfold mcp.f at H
 clear h
 replace H := bS H
 obtain ⟨⟨t101, t102⟩, A40, H⟩ := H
 try dsimp only at H
 have A4 := aM A40
 clear A40
 by_cases c5 : t102 = true
 ·subst c5
  rw [if_pos rfl] at H
  replace H := bS H
  obtain ⟨⟨t103, t104, t105⟩, A60, H⟩ := H
  try dsimp only at H
  have A6 := aM A60
  clear A60
  by_cases c7 : t104 = 0
  ·rw [if_pos c7] at H
   obtain ⟨c7b0, c7b1⟩ := bqT c7
   clear c7
   replace H := bS H
   obtain ⟨⟨t108, t109⟩, A80, H⟩ := H
   try dsimp only at H
   have A8 := aM A80
   clear A80
   replace H := bS H
   obtain ⟨⟨t112, t113⟩, A90, H⟩ := H
   try dsimp only at H
   have A9 := aM A90
   clear A90
   by_cases c10 : (t112.size : Int) ≥ 1024
   ·rw [if_pos c10] at H
    have c10b0 : decide (1024 ≤ (t112.size : Int)) = true := decide_eq_true c10
    have c10b1 : decide (1024 ≤ t112.size) = true := decide_eq_true (by omega)
    clear c10
    simp only [sJ, pJ] at H
    obtain ⟨rfl, rfl⟩ := H
    go_enter Tryz.func41, Tryz.ntmps41
    go_wp2_with (first | ((with_reducible refine gC 64 rfl ?_); refine gL 17 Tryz.func64 #[.string a0, .string (⟨#[61]⟩ : ByteArray)] ?_; (with_reducible refine (strings_CutPrefix.calls a0 (⟨#[61]⟩ : ByteArray) t101 true _ A4.out).mono ?_); rintro e w' ⟨rfl, ⟨nd, rfl⟩⟩; refine ⟨_, rfl, ?_⟩) | ((with_reducible refine gC 21 rfl ?_); refine gL 25 Tryz.func21 #[.string t101] ?_; (with_reducible refine (Ndf.calls t101 t103 t104 t105 _ ?side1 A6.out).mono ?_); (case side1 => exact GL.below hG bE); rintro e w11 ⟨v106, rfl, ho0, hb⟩; refine ⟨_, rfl, ?_⟩; have HO107 := aM (Kd.R_lower ho0 (Na8 bE)); replace HB := aM (Nab bE hb); (try clear hb); (try clear ho0); obtain ⟨Ao12, co12, eo12⟩ := Kd.R_slice HO107.out; subst eo12) | ((with_reducible refine gC 37 rfl ?_); refine gL 36 Tryz.func37 #[.slice Ao12 t103.length co12, .int .i64 a1, .int .i64 a2] ?_; (with_reducible refine (msh.calls _ _ t103 a1 a2 t108 t109 _ ?side1 ?side2 A8.out).mono ?_); (case side1 => repeat (first | exact (Kd.R_reads' HO107.out).2.2 | (with_reducible refine Kd.C_alloc ?_ _) | (with_reducible refine Kd.C_drewN ?_ _) | (with_reducible refine Kd.C_drew ?_))); (case side2 => exact (Kd.R_reads' HO107.out).2.1); rintro e w13 ⟨v110, rfl, ho0, hb⟩; refine ⟨_, rfl, ?_⟩; have HO111 := aM (Kd.R_lower (Kd.R_new' ho0 (Kd.R_lt (by (with_reducible repeat (first | apply Kd.R_alloc | apply Kd.R_drewN | apply Kd.R_drew)); exact HO107.out))) (Na8 bE)); replace HO107 := aM (Kd.R_elder' (by (with_reducible repeat (first | apply Kd.R_alloc | apply Kd.R_drewN | apply Kd.R_drew)); exact HO107.out) (Kd.R_base ho0) hb); replace HB := aM (Nab bE hb); (try clear hb); (try clear ho0); obtain ⟨Ao14, co14, eo14⟩ := Kd.R_slice HO111.out; subst eo14) | ((with_reducible refine gC 26 rfl ?_); refine gL 41 Tryz.func26 #[.slice Ao14 t108.length co14] ?_; (with_reducible refine (Ndx.calls _ _ t108 t112 t113 _ ?side3 ?side1 ?side2 A9.out).mono ?_); (case side1 => repeat (first | exact (Kd.R_reads' HO111.out).2.2 | (with_reducible refine Kd.C_alloc ?_ _) | (with_reducible refine Kd.C_drewN ?_ _) | (with_reducible refine Kd.C_drew ?_))); (case side2 => exact (Kd.R_reads' HO111.out).2.1); (case side3 => exact GL.below hG bE); rintro e w15 ⟨rfl, hb⟩; refine ⟨_, rfl, ?_⟩; replace HO107 := aM (Kd.R_below (by (with_reducible repeat (first | apply Kd.R_alloc | apply Kd.R_drewN | apply Kd.R_drew)); exact HO107.out) hb); replace HO111 := aM (Kd.R_below (by (with_reducible repeat (first | apply Kd.R_alloc | apply Kd.R_drewN | apply Kd.R_drew)); exact HO111.out) hb); replace HB := aM (Nab bE hb); (try clear hb)))
    go_ret2
    exact ⟨eR, bE⟩
   ·rw [if_neg c10] at H
    have c10b0 : decide (1024 ≤ (t112.size : Int)) = false := decide_eq_false c10
    have c10b1 : decide (1024 ≤ t112.size) = false := decide_eq_false (by omega)
    clear c10
    by_cases c16 : 1 + t112.size ≤ 9223372036854775807
    ·rw [if_pos c16] at H
     have c16b0 := eq_true c16
     have c16b1 : decide (1 + t112.size ≤ 9223372036854775807) = true := decide_eq_true c16
     try have c16b2 : (9223372036854775807 < 1 + t112.size) = False := eq_false (Nat.not_lt.2 c16)
     simp only [sJ, pJ] at H
     obtain ⟨rfl, rfl⟩ := H
     go_enter Tryz.func41, Tryz.ntmps41
     go_wp2_with (first | ((with_reducible refine gC 64 rfl ?_); refine gL 17 Tryz.func64 #[.string a0, .string (⟨#[61]⟩ : ByteArray)] ?_; (with_reducible refine (strings_CutPrefix.calls a0 (⟨#[61]⟩ : ByteArray) t101 true _ A4.out).mono ?_); rintro e w' ⟨rfl, ⟨nd, rfl⟩⟩; refine ⟨_, rfl, ?_⟩) | ((with_reducible refine gC 21 rfl ?_); refine gL 25 Tryz.func21 #[.string t101] ?_; (with_reducible refine (Ndf.calls t101 t103 t104 t105 _ ?side1 A6.out).mono ?_); (case side1 => exact GL.below hG bE); rintro e w17 ⟨v106, rfl, ho0, hb⟩; refine ⟨_, rfl, ?_⟩; have HO107 := aM (Kd.R_lower ho0 (Na8 bE)); replace HB := aM (Nab bE hb); (try clear hb); (try clear ho0); obtain ⟨Ao18, co18, eo18⟩ := Kd.R_slice HO107.out; subst eo18) | ((with_reducible refine gC 37 rfl ?_); refine gL 36 Tryz.func37 #[.slice Ao18 t103.length co18, .int .i64 a1, .int .i64 a2] ?_; (with_reducible refine (msh.calls _ _ t103 a1 a2 t108 t109 _ ?side1 ?side2 A8.out).mono ?_); (case side1 => repeat (first | exact (Kd.R_reads' HO107.out).2.2 | (with_reducible refine Kd.C_alloc ?_ _) | (with_reducible refine Kd.C_drewN ?_ _) | (with_reducible refine Kd.C_drew ?_))); (case side2 => exact (Kd.R_reads' HO107.out).2.1); rintro e w19 ⟨v110, rfl, ho0, hb⟩; refine ⟨_, rfl, ?_⟩; have HO111 := aM (Kd.R_lower (Kd.R_new' ho0 (Kd.R_lt (by (with_reducible repeat (first | apply Kd.R_alloc | apply Kd.R_drewN | apply Kd.R_drew)); exact HO107.out))) (Na8 bE)); replace HO107 := aM (Kd.R_elder' (by (with_reducible repeat (first | apply Kd.R_alloc | apply Kd.R_drewN | apply Kd.R_drew)); exact HO107.out) (Kd.R_base ho0) hb); replace HB := aM (Nab bE hb); (try clear hb); (try clear ho0); obtain ⟨Ao20, co20, eo20⟩ := Kd.R_slice HO111.out; subst eo20) | ((with_reducible refine gC 26 rfl ?_); refine gL 41 Tryz.func26 #[.slice Ao20 t108.length co20] ?_; (with_reducible refine (Ndx.calls _ _ t108 t112 t113 _ ?side3 ?side1 ?side2 A9.out).mono ?_); (case side1 => repeat (first | exact (Kd.R_reads' HO111.out).2.2 | (with_reducible refine Kd.C_alloc ?_ _) | (with_reducible refine Kd.C_drewN ?_ _) | (with_reducible refine Kd.C_drew ?_))); (case side2 => exact (Kd.R_reads' HO111.out).2.1); (case side3 => exact GL.below hG bE); rintro e w21 ⟨rfl, hb⟩; refine ⟨_, rfl, ?_⟩; replace HO107 := aM (Kd.R_below (by (with_reducible repeat (first | apply Kd.R_alloc | apply Kd.R_drewN | apply Kd.R_drew)); exact HO107.out) hb); replace HO111 := aM (Kd.R_below (by (with_reducible repeat (first | apply Kd.R_alloc | apply Kd.R_drewN | apply Kd.R_drew)); exact HO111.out) hb); replace HB := aM (Nab bE hb); (try clear hb)))
     go_ret2
     exact ⟨eR, bE⟩
    ·rw [if_neg c16] at H
     exact absurd H (by simp)
  ·rw [if_neg c7] at H
   obtain ⟨c7b0, c7b1⟩ := bqF c7
   simp only [sJ, pJ] at H
   obtain ⟨rfl, rfl⟩ := H
   go_enter Tryz.func41, Tryz.ntmps41
   go_wp2_with (first | ((with_reducible refine gC 64 rfl ?_); refine gL 17 Tryz.func64 #[.string a0, .string (⟨#[61]⟩ : ByteArray)] ?_; (with_reducible refine (strings_CutPrefix.calls a0 (⟨#[61]⟩ : ByteArray) t101 true _ A4.out).mono ?_); rintro e w' ⟨rfl, ⟨nd, rfl⟩⟩; refine ⟨_, rfl, ?_⟩) | ((with_reducible refine gC 21 rfl ?_); refine gL 25 Tryz.func21 #[.string t101] ?_; (with_reducible refine (Ndf.calls t101 t103 t104 t105 _ ?side1 A6.out).mono ?_); (case side1 => exact GL.below hG bE); rintro e w22 ⟨v106, rfl, ho0, hb⟩; refine ⟨_, rfl, ?_⟩; have HO107 := aM (Kd.R_lower ho0 (Na8 bE)); replace HB := aM (Nab bE hb); (try clear hb); (try clear ho0)))
   go_ret2
   exact ⟨eR, bE⟩
 ·replace c5 := Bool.eq_false_iff.mpr c5
  subst c5
  rw [if_neg fT] at H
  simp only [sJ, pJ] at H
  obtain ⟨rfl, rfl⟩ := H
  go_enter Tryz.func41, Tryz.ntmps41
  go_wp2_with (first | ((with_reducible refine gC 64 rfl ?_); refine gL 17 Tryz.func64 #[.string a0, .string (⟨#[61]⟩ : ByteArray)] ?_; (with_reducible refine (strings_CutPrefix.calls a0 (⟨#[61]⟩ : ByteArray) t101 false _ A4.out).mono ?_); rintro e w' ⟨rfl, ⟨nd, rfl⟩⟩; refine ⟨_, rfl, ?_⟩))
  go_ret2
  exact ⟨eR, bE⟩
def ab6.f  : Option (Bool) := (mcp.f (⟨#[61, 65, 49]⟩ : ByteArray) 1 0).bind fun bt101 => (if bt101.2 = 0 then (some (bt101.1.toList == ([61, 65, 50] : List UInt8))) else (some false))
theorem ab6.calls  (r : Bool) (w : World) (hG : GL w) (h : ab6.f  = some r) :
 Calls Tryz.prog 39 #[] w fun e w' => e = .returned (.bool r) ∧ Below w.heap.size w w' := by
 have HB := aM (Below.refl w.heap.size w)
 have H := h
 unfold ab6.f at H
 clear h
 replace H := bS H
 obtain ⟨⟨t101, t102⟩, A10, H⟩ := H
 try dsimp only at H
 have A1 := aM A10
 clear A10
 by_cases c2 : t102 = 0
 ·rw [if_pos c2] at H
  obtain ⟨c2b0, c2b1⟩ := bqT c2
  clear c2
  obtain rfl := sI H
  go_enter Tryz.func39, Tryz.ntmps39
  go_wp2_with (first | ((with_reducible refine gC 41 rfl ?_); refine gL 4 Tryz.func41 #[.string (⟨#[61, 65, 49]⟩ : ByteArray), .int .i64 1, .int .i64 0] ?_; (with_reducible refine (mcp.calls (⟨#[61, 65, 49]⟩ : ByteArray) 1 0 t101 t102 _ ?side1 A1.out).mono ?_); (case side1 => exact GL.below hG bE); rintro e w3 ⟨rfl, hb⟩; refine ⟨_, rfl, ?_⟩; replace HB := aM (Nab bE hb); (try clear hb)))
  go_ret
  exact ⟨eR, bE⟩
 ·rw [if_neg c2] at H
  obtain ⟨c2b0, c2b1⟩ := bqF c2
  obtain rfl := sI H
  go_enter Tryz.func39, Tryz.ntmps39
  go_wp2_with (first | ((with_reducible refine gC 41 rfl ?_); refine gL 4 Tryz.func41 #[.string (⟨#[61, 65, 49]⟩ : ByteArray), .int .i64 1, .int .i64 0] ?_; (with_reducible refine (mcp.calls (⟨#[61, 65, 49]⟩ : ByteArray) 1 0 t101 t102 _ ?side1 A1.out).mono ?_); (case side1 => exact GL.below hG bE); rintro e w4 ⟨rfl, hb⟩; refine ⟨_, rfl, ?_⟩; replace HB := aM (Nab bE hb); (try clear hb)))
  go_ret
  exact ⟨eR, bE⟩
section
theorem able6_true : ab6.f = some true := by kernel_rfl
end
theorem neq50 {o : Oper} {a : Act} (x y : S50) (w : World) (ho : o.op = .binOp .neq 50 (.tmp 20) (.tmp 24) 50) (hx : a.eval (.tmp 20) = .agg (cs50 x).toArray) (hy : a.eval (.tmp 24) = .agg (cs50 y).toArray) :
 (execOp a.eval o).run Tryz.prog w = .ok (.value (.bool (!eqS x y))) w := by
 unfold execOp
 simp only [ho, hx, hy, Sem.run_bind, Sem.run_pure]
 rw [run_eqGuard_agg (hm := Tryz.eqGuardType50)]
 simp only [Result.andThen]
 rw [run_neq_struct, eq50V 9996 w x y]
 rfl
def eqRows : List S50 → List S50 → Bool
 | [], [] => true
 | x :: l, y :: m => eqSB x y && eqRows l m
 | _, _ => false
theorem Nfa : ∀ {l m : List S50}, eqRows l m = true ↔ l = m
 | [], [] => by simp [eqRows]
 | [], y :: m => by simp [eqRows]
 | x :: l, [] => by simp [eqRows]
 | x :: l, y :: m => by
  rw [eqRows, Bool.and_eq_true, eqSB_iff, Nfa]
  simp
theorem eqRows_dec (l m : List S50) : eqRows l m = @decide (l = m) (Classical.propDecidable _) := by
 rw [Bool.eq_iff_iff, Nfa]
 exact (@decide_eq_true_iff _ (Classical.propDecidable _)).symm
section
set_option maxHeartbeats 4000000
theorem same40_any (A1 A2 : Option Addr) (c1 c2 : Nat) (l1 l2 : List S50) (w : World) (hC1 : Kd.C k50 w A1 l1.length l1) (hC2 : Kd.C k50 w A2 l2.length l2) (hl : l1.length ≤ 1000000000000) : Calls Tryz.prog 40 #[.slice A1 l1.length c1, .slice A2 l2.length c2] w fun e w' => e = .returned (.bool (@decide (l1 = l2) (Classical.propDecidable _))) ∧ Below w.heap.size w w' := by
 have HC1 := lh hC1
 have HC2 := lh hC2
 have HL := lh hl
 have hu50 := Tryz.underlying50
 obtain ⟨r, hr⟩ : ∃ r : Bool, r = @decide (l1 = l2) (Classical.propDecidable _) := ⟨_, rfl⟩
 rw [← hr]
 have HR := lh hr
 clear hC1 hC2 hl hr
 by_cases hne : l1.length = l2.length
 ·have HNE := lh hne
  rw [← hne]
  clear hne
  go_enter Tryz.func40, Tryz.ntmps40
  go_wp2_with (fail)
  go_loopw [5] (fun v5 w' => ∃ i : Nat, i ≤ l1.length ∧ v5 = .int .i64 i ∧ Hid (∀ j, j < i → Ncw l1 (j : Int) = Ncw l2 (j : Int)) ∧ Hid (Below w.heap.size w w')) (fun v5 _ => l1.length - (intOf v5).toNat)
  case atStart => exact ⟨0, Nat.zero_le _, rfl, lh (fun j hj => by omega), lh (Below.refl _ _)⟩
  case round =>
   obtain ⟨i, hi, rfl, HE, HB⟩ := hrel
   by_cases hlt : i < l1.length
   ·obtain ⟨ad1, q1, rfl, hq1, hk1, hx0⟩ := Kd.C_get (Kd.C_below HC1.out HB.out) z50 (i : Int) (by omega) (by omega)
    obtain ⟨ad2, q2, rfl, hq2, hk2, hy0⟩ := Kd.C_get (Kd.C_below HC2.out HB.out) z50 (i : Int) (by omega) (by have := HNE.out; omega)
    obtain rfl := Nek hk1
    obtain rfl := Nek hk2
    have HX := lh hx0
    have HY := lh hy0
    obtain ⟨x, hxx⟩ : ∃ x_ : S50, x_ = Ncw l1 (i : Int) := ⟨_, rfl⟩
    obtain ⟨y, hyy⟩ : ∃ x_ : S50, x_ = Ncw l2 (i : Int) := ⟨_, rfl⟩
    have HXX := lh hxx
    have HYY := lh hyy
    have hx : ∀ (j : Nat) v, (cs50 x)[j]? = some v → wr.cell? ((ad1.add (i * 20)).add j) = some v := fun j v hv => by rw [add_add]; exact HX.out j v (by rw [hxx] at hv; exact hv)
    have hy : ∀ (j : Nat) v, (cs50 y)[j]? = some v → wr.cell? ((ad2.add (i * 20)).add j) = some v := fun j v hv => by rw [add_add]; exact HY.out j v (by rw [hyy] at hv; exact hv)
    clear hx0 hy0 hxx hyy hk1 hk2 hq1 hq2 HX HY
    have HI := lh hi
    have hlen2 : i < l2.length := by have := HNE.out; omega
    go_upto_region 6 with (fail)
    refine sP (n := 9) (S := fun w' => (∀ (j : Nat) v, (cs50 x)[j]? = some v → w'.cell? ((ad1.add (i * 20)).add j) = some v) ∧ ∀ (j : Nat) v, (cs50 y)[j]? = some v → w'.cell? ((ad2.add (i * 20)).add j) = some v) (ds := []) ⟨hx, hy⟩ (fun hHeld => ?_)
    refine pP 0 17 ?_
    refine pP 1 18 ?_
    refine pP 2 19 ?_
    refine pP 4 21 ?_
    refine pP 5 22 ?_
    refine pP 6 23 ?_
    refine tP 3 20 hHeld ?_ (hy := Or.inl ⟨by rfl, by rintro w' ⟨s0, s1⟩; refine Ned (t := 50) (p := .tmp 19) (ad := ad1.add (i * 20)) (cs := cs50 x) ?_ ?_ s0 hu50 rfl ?_; rfl; rfl; kernel_rfl⟩)
    refine tP 7 24 hHeld ?_ (hy := Or.inl ⟨by rfl, by rintro w' ⟨s0, s1⟩; refine Ned (t := 50) (p := .tmp 23) (ad := ad2.add (i * 20)) (cs := cs50 y) ?_ ?_ s1 hu50 rfl ?_; rfl; rfl; kernel_rfl⟩)
    refine pP 8 25 ?_ (hy := Or.inl ⟨by rfl, by intro w'; refine neq50 x y w' ?_ ?_ ?_; rfl; rfl; rfl⟩)
    refine done_ (by kernel_rfl) ?_
    cases hb : eqS x y with
    | true =>
     have hxy := Nb7.1 hb
     have HXY := lh (show Ncw l1 (i : Int) = Ncw l2 (i : Int) by rw [← HXX.out, ← HYY.out, hxy])
     have hw1 : wrap64 ((i : Int) + 1) = (i : Int) + 1 := wr1 (by omega) (by have := HL.out; omega)
     have HB2 := lh (show Below w.heap.size w wr.drew from HB.out.drew)
     clear hxy hx hy
     go_wp2_with (fail)
     rw [hw1]
     clear hw1
     go_roundw
     case rel => exact ⟨i + 1, Nat.succ_le_of_lt hlt, rfl, lh (fun j hj => by rcases Nat.lt_succ_iff_lt_or_eq.1 hj with h | rfl; exact HE.out j h; exact HXY.out), HB2⟩
     case measure => simp only [intOf]; omega
    | false =>
     have hxy : ¬ x = y := fun h => by rw [Nb7.2 h] at hb; cases hb
     have HRF := lh (show r = false by rw [HR.out]; exact @decide_eq_false _ (Classical.propDecidable _) (fun hh => hxy (by rw [HXX.out, HYY.out, hh])))
     have HB2 := lh (show Below w.heap.size w wr.drew from HB.out.drew)
     clear hxy hx hy
     go_wp2_with (fail)
     go_ret
     exact ⟨by rw [HRF.out]; rfl, HB2.out⟩
   ·obtain rfl : i = l1.length := by omega
    have HRT := lh (show r = true by
     rw [HR.out]
     refine @decide_eq_true _ (Classical.propDecidable _) (List.ext_getElem HNE.out fun j h1 h2 => ?_)
     have := HE.out j h1
     unfold Ncw at this
     simpa [List.getD, h1, h2] using this)
    clear hi hlt
    go_wp2_with (fail)
    go_ret
    exact ⟨by rw [HRT.out]; rfl, HB.out⟩
 ·have HRF := lh (show r = false by rw [HR.out]; exact @decide_eq_false _ (Classical.propDecidable _) (fun hh => hne (by rw [hh])))
  have hb : ((l1.length : Int) != (l2.length : Int)) = true := by rw [bne_iff_ne]; omega
  clear hne
  go_enter Tryz.func40, Tryz.ntmps40
  go_wp2_with (fail)
  go_ret
  exact ⟨by rw [HRF.out]; rfl, Below.refl _ _⟩
def Nc1.f (l0 : List (S50)) (l1 : List (S50)) : Option Bool := if l0.length ≤ 1000000000000 then some (eqRows l0 l1) else none
theorem Nc1.calls (A0 : Option Addr) (c0 : Nat) (l0 : List (S50)) (A1 : Option Addr) (c1 : Nat) (l1 : List (S50)) (r : Bool) (w : World) (hr0 : Kd.C k50 w A0 l0.length l0) (hc0 : l0.length ≤ c0) (hr1 : Kd.C k50 w A1 l1.length l1) (hc1 : l1.length ≤ c1) (h : Nc1.f l0 l1 = some r) :
 Calls Tryz.prog 40 #[.slice A0 l0.length c0, .slice A1 l1.length c1] w fun e w' => e = .returned (.bool r) ∧ Below w.heap.size w w' := by
 unfold Nc1.f at h
 split at h
 ·rename_i hl
  obtain rfl := sI h
  rw [eqRows_dec]
  exact same40_any A0 A1 c0 c1 l0 l1 w hr0 hr1 hl
 ·cases h
def able6_g.f : Option Bool := some true
theorem able6_g.calls (r : Bool) (w : World) (hG : GL w) (h : able6_g.f = some r) : Calls Tryz.prog 39 #[] w fun e w' => e = .returned (.bool r) ∧ Below w.heap.size w w' := by
 obtain rfl := sI h
 exact ab6.calls true w hG able6_true
end
def inR (a b : Int) : Prop := 0 ≤ a ∧ a < 65536 ∧ 0 ≤ b ∧ b < 256
instance (a b : Int) : Decidable (inR a b) := by unfold inR; infer_instance
theorem right_in (a b : Int) : Na0.f 0 a b = some (decide (inR a b)) := by
 unfold Na0.f Ncq.f Ndn.f Ncz.f inR
 by_cases h1 : 0 ≤ a <;> by_cases h2 : a < 65536 <;> by_cases h3 : 0 ≤ b <;> by_cases h4 : b < 256 <;> simp [h1, h2, h3, h4]
theorem parts_cell {r : S48} (h : refR r = true) : Naq (nCell r) = 0 := by
 have h : refB r.f0 r.f1 r.f2 = true := h
 have hz : refB zR.f0 zR.f1 zR.f2 = true := by kernel_rfl
 unfold Naq Nd4
 rw [if_neg (by show ¬ (2 : Int) = 1; decide), if_pos (show (nCell r).f0 = 2 from rfl)]
 show partsV2 _ _ _ _ _ _ _ _ _ r.f0 r.f1 r.f2 r.f3 r.f4 _ _ _ _ _ (refB r.f0 r.f1 r.f2) _ = 0
 rw [h]
 kernel_rfl
theorem parts_area {r s : S48} (h : refR r = true) (hs : refR s = true) (he : s.f0 = eB) : Naq (nArea r s) = 0 := by
 obtain ⟨s0, s1, s2, s3, s4⟩ := s
 obtain rfl : s0 = eB := he
 have h : refB r.f0 r.f1 r.f2 = true := h
 have hs : refB eB s1 s2 = true := hs
 unfold Naq Nd4
 rw [if_neg (by show ¬ (3 : Int) = 1; decide), if_neg (by show ¬ (3 : Int) = 2; decide), if_pos (show (nArea r ⟨eB, s1, s2, s3, s4⟩).f0 = 3 from rfl)]
 show partsV3 _ _ _ _ _ _ _ _ _ r.f0 r.f1 r.f2 r.f3 r.f4 eB s1 s2 s3 s4 (refB r.f0 r.f1 r.f2) (refB eB s1 s2) = 0
 rw [h, hs]
 kernel_rfl
theorem rd_mem {l : List S50} {i : Nat} (hi : i < l.length) : Ncw l (i : Int) ∈ l := by
 unfold Ncw
 simp [List.getD, hi]
def Nb0.f (a0 : Int) : Option (Int) := if a0 < 0 then (some (IntKind.u64.wrap ((IntKind.u64.wrap (wrap64 (-(wrap64 (a0 + 1))))) + 1))) else (some (IntKind.u64.wrap (a0)))
theorem Nb0.calls (a0 r : Int) (w : World) (h : Nb0.f a0 = some r) :
 Calls Tryz.prog 157 #[.int .i64 a0] w fun e w' => e = .returned (.int .u64 r) ∧ Na3 w w' := by
 have H := h
 unfold Nb0.f at H
 clear h
 by_cases c2 : a0 < 0
 ·rw [if_pos c2] at H
  have c2b0 : decide (a0 < 0) = true := decide_eq_true c2
  clear c2
  obtain rfl := sI H
  go_enter Tryz.func157, Tryz.ntmps157
  go_wp2
  go_ret
  exact ⟨eR, dE⟩
 ·rw [if_neg c2] at H
  have c2b0 : decide (a0 < 0) = false := decide_eq_false c2
  clear c2
  obtain rfl := sI H
  go_enter Tryz.func157, Tryz.ntmps157
  go_wp2
  go_ret
  exact ⟨eR, dE⟩
def Na1.l0 : Nat → Int → Int → Option (Int)
 | 0, _, _ => none
 | k + 1, x0, x1 => if x1 = 0 then (some x0) else (Na1.l0 k x1 (Int.tmod x0 x1))
def Na1.f (k : Nat) (a0 a1 : Int) : Option (Int) := Na1.l0 k a0 a1
theorem Na1.calls (k : Nat) (a0 a1 r : Int) (w : World) (h : Na1.f k a0 a1 = some r) :
 Calls Tryz.prog 215 #[.int .u64 a0, .int .u64 a1] w fun e w' => e = .returned (.int .u64 r) ∧ Na3 w w' := by
 have H := h
 unfold Na1.f at H
 clear h
 have H' := aM H
 clear H
 go_enter Tryz.func215, Tryz.ntmps215
 go_wp2
 go_loopg [0, 1] k (fun kq v0 v1 w' => ∃ (x0_1 : Int) (x1_1 : Int), v0 = .int .u64 x0_1 ∧ v1 = .int .u64 x1_1 ∧ Nah (Na1.l0 kq x0_1 x1_1 = some r) ∧ Nah (kq ≤ k) ∧ Na3 w w')
 case atStart => exact ⟨(a0), (a1), (by first | rfl | (simp; done) | (simp [*]; done)), (by first | rfl | (simp; done) | (simp [*]; done)), H', ⟨Nat.le_refl _⟩, dE⟩
 case round =>
  clear H'
  try clear c2
  try clear p2
  obtain ⟨x0_1, x1_1, rfl, rfl, HA, HK1, ⟨m1, rfl⟩⟩ := hrel
  cases gk with
  | zero => exact absurd HA.out (by simp [Na1.l0])
  | succ k1 =>
   have H := HA.out
   clear HA
   simp only [Na1.l0] at H
   by_cases c3 : x1_1 = 0
   ·rw [if_pos c3] at H
    obtain ⟨c3b0, c3b1⟩ := bqT c3
    clear c3
    obtain rfl := sI H
    go_wp2
    go_ret
    exact ⟨eR, dE⟩
   ·rw [if_neg c3] at H
    obtain ⟨c3b0, c3b1⟩ := bqF c3
    have H' := aM H
    clear H
    go_wp2
    go_roundg k1
    case measure => have := HK1.out; omega
    case rel => exact ⟨(x1_1), (Int.tmod x0_1 x1_1), (by first | rfl | (simp; done) | (simp [*]; done)), (by first | rfl | (simp; done) | (simp [*]; done)), H', ⟨by have := HK1.out; omega⟩, dE⟩
def Nam.j0 : Nat → Bool → Int → Int → Option (Bool)
 | 0, _, _, _ => none
 | k + 1, x20, x102000, x102001 => if x20 = true then (some false) else ((Nb0.f x102000).bind fun t102 => ((Na1.f k t102 (IntKind.u64.wrap (x102001))).bind fun t103 => (some (t103 == 1))))
def Nam.f (k : Nat) (a0_0 a0_1 : Int) : Option (Bool) := if a0_1 < 1 then (Nam.j0 k true a0_0 a0_1) else (if a0_1 > 1000000 then (Nam.j0 k true a0_0 a0_1) else (if a0_0 < (-1000000000000) then (Nam.j0 k true a0_0 a0_1) else (Nam.j0 k (decide (a0_0 > 1000000000000)) a0_0 a0_1)))
theorem Nam.calls (k : Nat) (a0_0 a0_1 : Int) (r : Bool) (w : World) (h : Nam.f k a0_0 a0_1 = some r) :
 Calls Tryz.prog 193 #[.agg #[.int .i64 a0_0, .int .i64 a0_1]] w fun e w' => e = .returned (.bool r) ∧ Below w.heap.size w w' := by
 have hu44 := Tryz.underlying44
 have HB := aM (Below.refl w.heap.size w)
 have H := h
 unfold Nam.f at H
 clear h
 have HC2 := aM H
 clear H
 go_enter Tryz.func193, Tryz.ntmps193
 go_upto_region 1 with (first | ((with_reducible refine gD 1 rfl ?_); refine bX 1 #[.int .i64 a0_0, .int .i64 a0_1] 44 ?_; intro gb101 hg w3 hbox hb; replace HB := bK w hbox hg hb; obtain ⟨BK101, GW101, HB⟩ := HB; have GE101 := GW101; clear hb hbox hg))
 repeat (go_quiet (first | ((with_reducible refine gD 1 rfl ?_); refine bX 1 #[.int .i64 a0_0, .int .i64 a0_1] 44 ?_; intro gb101 hg w3 hbox hb; replace HB := bK w hbox hg hb; obtain ⟨BK101, GW101, HB⟩ := HB; have GE101 := GW101; clear hb hbox hg)); go_upto_region 1 with (first | ((with_reducible refine gD 1 rfl ?_); refine bX 1 #[.int .i64 a0_0, .int .i64 a0_1] 44 ?_; intro gb101 hg w3 hbox hb; replace HB := bK w hbox hg hb; obtain ⟨BK101, GW101, HB⟩ := HB; have GE101 := GW101; clear hb hbox hg)))
 (try simp only [Act.put, List.setIfInBounds_toArray, List.set_cons_zero, List.set_cons_succ])
 go_cut [20] (fun v20 wc => ∃ (kq : Nat) (x20_1 : Bool), v20 = .bool x20_1 ∧ Nah (Nam.j0 kq x20_1 a0_0 a0_1 = some r) ∧ Nah (kq ≤ k) ∧ Nah (wc.heap[gb101]? = some (.cells #[.int .i64 a0_0, .int .i64 a0_1] 44 (0, 0))) ∧ Nah (Below w.heap.size w wc))
 case first =>
  have H := HC2.out
  clear HC2
  by_cases c4 : a0_1 < 1
  ·rw [if_pos c4] at H
   have c4b0 : decide (a0_1 < 1) = true := decide_eq_true c4
   clear c4
   (first | rw [c4b0] | (simp only [i64_w, i32_w]; rw [c4b0]) | skip)
   have H' := aM H
   clear H
   have hcz5_0 : w3.cell? ⟨gb101, 0, none⟩ = some (.int .i64 a0_0) := (Naa BK101.out 0).trans rfl
   have hcz5_1 : w3.cell? ⟨gb101, 1, none⟩ = some (.int .i64 a0_1) := (Naa BK101.out 1).trans rfl
   have hfz5_0 := Nae BK101.out 0
   have hfz5_1 := Nae BK101.out 1
   go_wp2
   repeat (go_quiet (fail); try go_wp2)
   go_meet
   case rel => exact ⟨_, (true), (by first | rfl | (simp; done) | (simp [*]; done)), H', ⟨by first | omega | exact Nat.le_refl _⟩, ⟨BK101.out⟩, ⟨bE⟩⟩
  ·rw [if_neg c4] at H
   have c4b0 : decide (a0_1 < 1) = false := decide_eq_false c4
   clear c4
   (first | rw [c4b0] | (simp only [i64_w, i32_w]; rw [c4b0]) | skip)
   by_cases c6 : a0_1 > 1000000
   ·rw [if_pos c6] at H
    have c6b0 : decide (1000000 < a0_1) = true := decide_eq_true c6
    clear c6
    have H' := aM H
    clear H
    have hcz7_0 : w3.cell? ⟨gb101, 0, none⟩ = some (.int .i64 a0_0) := (Naa BK101.out 0).trans rfl
    have hcz7_1 : w3.cell? ⟨gb101, 1, none⟩ = some (.int .i64 a0_1) := (Naa BK101.out 1).trans rfl
    have hfz7_0 := Nae BK101.out 0
    have hfz7_1 := Nae BK101.out 1
    go_wp2
    repeat (go_quiet (fail); try go_wp2)
    go_meet
    case rel => exact ⟨_, (true), (by first | rfl | (simp; done) | (simp [*]; done)), H', ⟨by first | omega | exact Nat.le_refl _⟩, ⟨BK101.out⟩, ⟨bE⟩⟩
   ·rw [if_neg c6] at H
    have c6b0 : decide (1000000 < a0_1) = false := decide_eq_false c6
    clear c6
    by_cases c8 : a0_0 < (-1000000000000)
    ·rw [if_pos c8] at H
     have c8b0 : decide (a0_0 < (-1000000000000)) = true := decide_eq_true c8
     clear c8
     have H' := aM H
     clear H
     have hcz9_0 : w3.cell? ⟨gb101, 0, none⟩ = some (.int .i64 a0_0) := (Naa BK101.out 0).trans rfl
     have hcz9_1 : w3.cell? ⟨gb101, 1, none⟩ = some (.int .i64 a0_1) := (Naa BK101.out 1).trans rfl
     have hfz9_0 := Nae BK101.out 0
     have hfz9_1 := Nae BK101.out 1
     go_wp2
     repeat (go_quiet (fail); try go_wp2)
     go_meet
     case rel => exact ⟨_, (true), (by first | rfl | (simp; done) | (simp [*]; done)), H', ⟨by first | omega | exact Nat.le_refl _⟩, ⟨BK101.out⟩, ⟨bE⟩⟩
    ·rw [if_neg c8] at H
     have c8b0 : decide (a0_0 < (-1000000000000)) = false := decide_eq_false c8
     clear c8
     have H' := aM H
     clear H
     have hcz10_0 : w3.cell? ⟨gb101, 0, none⟩ = some (.int .i64 a0_0) := (Naa BK101.out 0).trans rfl
     have hcz10_1 : w3.cell? ⟨gb101, 1, none⟩ = some (.int .i64 a0_1) := (Naa BK101.out 1).trans rfl
     have hfz10_0 := Nae BK101.out 0
     have hfz10_1 := Nae BK101.out 1
     go_wp2
     repeat (go_quiet (fail); try go_wp2)
     go_meet
     case rel => exact ⟨_, (decide (a0_0 > 1000000000000)), (by first | rfl | (simp; done) | (simp [*]; done)), H', ⟨by first | omega | exact Nat.le_refl _⟩, ⟨BK101.out⟩, ⟨bE⟩⟩
 case rest =>
  clear HC2
  try clear c1
  try clear p2
  try clear c4
  try clear c4b0
  try clear c6
  try clear c6b0
  try clear c8
  try clear c8b0
  try clear hcz10_0
  try clear hcz10_1
  try clear hcz5_0
  try clear hcz5_1
  try clear hcz7_0
  try clear hcz7_1
  try clear hcz9_0
  try clear hcz9_1
  try clear hfz10_0
  try clear hfz10_1
  try clear hfz5_0
  try clear hfz5_1
  try clear hfz7_0
  try clear hfz7_1
  try clear hfz9_0
  try clear hfz9_1
  obtain ⟨kq, x20_1, rfl, HA, HJ1, BK101, HB⟩ := hcut
  cases kq with
  | zero => exact absurd HA.out (by simp [Nam.j0])
  | succ kj1 =>
   have H := HA.out
   clear HA
   simp only [Nam.j0] at H
   by_cases c11 : x20_1 = true
   ·subst c11
    rw [if_pos rfl] at H
    obtain rfl := sI H
    go_wp2
    repeat (go_quiet (fail); try go_wp2)
    go_ret
    exact ⟨eR, bE⟩
   ·replace c11 := Bool.eq_false_iff.mpr c11
    subst c11
    rw [if_neg fT] at H
    replace H := bS H
    obtain ⟨t102, A120, H⟩ := H
    try dsimp only at H
    have A12 := aM A120
    clear A120
    replace H := bS H
    obtain ⟨t103, A130, H⟩ := H
    try dsimp only at H
    have A13 := aM A130
    clear A130
    obtain rfl := sI H
    have hcz14_0 : wc.cell? ⟨gb101, 0, none⟩ = some (.int .i64 a0_0) := (Naa BK101.out 0).trans rfl
    have hcz14_1 : wc.cell? ⟨gb101, 1, none⟩ = some (.int .i64 a0_1) := (Naa BK101.out 1).trans rfl
    have hfz14_0 := Nae BK101.out 0
    have hfz14_1 := Nae BK101.out 1
    go_wp2_with (first | (go_at_call 157; (with_reducible refine (Nb0.calls a0_0 t102 _ A12.out).mono ?_); rintro e w' ⟨rfl, ⟨nd, rfl⟩⟩; (try first | exact ⟨rfl, _, World.drewN_drewN _ _ _⟩ | exact ⟨rfl, _, Eq.trans (World.drewN_drewN _ _ _) (congrArg (World.drewN _) (Nat.add_assoc _ _ _))⟩)) | (go_at_call 215; (with_reducible refine (Na1.calls kj1 t102 (IntKind.u64.wrap (a0_1)) t103 _ A13.out).mono ?_); rintro e w' ⟨rfl, ⟨nd, rfl⟩⟩; (try first | exact ⟨rfl, _, World.drewN_drewN _ _ _⟩ | exact ⟨rfl, _, Eq.trans (World.drewN_drewN _ _ _) (congrArg (World.drewN _) (Nat.add_assoc _ _ _))⟩)))
    repeat (go_quiet (first | (go_at_call 157; (with_reducible refine (Nb0.calls a0_0 t102 _ A12.out).mono ?_); rintro e w' ⟨rfl, ⟨nd, rfl⟩⟩; (try first | exact ⟨rfl, _, World.drewN_drewN _ _ _⟩ | exact ⟨rfl, _, Eq.trans (World.drewN_drewN _ _ _) (congrArg (World.drewN _) (Nat.add_assoc _ _ _))⟩)) | (go_at_call 215; (with_reducible refine (Na1.calls kj1 t102 (IntKind.u64.wrap (a0_1)) t103 _ A13.out).mono ?_); rintro e w' ⟨rfl, ⟨nd, rfl⟩⟩; (try first | exact ⟨rfl, _, World.drewN_drewN _ _ _⟩ | exact ⟨rfl, _, Eq.trans (World.drewN_drewN _ _ _) (congrArg (World.drewN _) (Nat.add_assoc _ _ _))⟩))); try go_wp2_with (first | (go_at_call 157; (with_reducible refine (Nb0.calls a0_0 t102 _ A12.out).mono ?_); rintro e w' ⟨rfl, ⟨nd, rfl⟩⟩; (try first | exact ⟨rfl, _, World.drewN_drewN _ _ _⟩ | exact ⟨rfl, _, Eq.trans (World.drewN_drewN _ _ _) (congrArg (World.drewN _) (Nat.add_assoc _ _ _))⟩)) | (go_at_call 215; (with_reducible refine (Na1.calls kj1 t102 (IntKind.u64.wrap (a0_1)) t103 _ A13.out).mono ?_); rintro e w' ⟨rfl, ⟨nd, rfl⟩⟩; (try first | exact ⟨rfl, _, World.drewN_drewN _ _ _⟩ | exact ⟨rfl, _, Eq.trans (World.drewN_drewN _ _ _) (congrArg (World.drewN _) (Nat.add_assoc _ _ _))⟩))))
    go_ret
    exact ⟨eR, bE⟩
def Nao.l0 : Nat → ByteArray → Int → Option (Bool)
 | 0, _, _ => none
 | k + 1, x0, x3 => if x3 < (x0.size : Int) then (if 0 ≤ x3 then (if (bt x0 x3) < 32 then (some false) else (if (bt x0 x3) > 126 then (some false) else (Nao.l0 k x0 (wrap64 (x3 + 1))))) else (none)) else (some true)
def Nao.f (k : Nat) (a0 : ByteArray) : Option (Bool) := Nao.l0 k a0 0
theorem Nao.calls (k : Nat) (a0 : ByteArray) (r : Bool) (w : World) (h : Nao.f k a0 = some r) :
 Calls Tryz.prog 194 #[.string a0] w fun e w' => e = .returned (.bool r) ∧ Na3 w w' := by
 have H := h
 unfold Nao.f at H
 clear h
 have H' := aM H
 clear H
 go_enter Tryz.func194, Tryz.ntmps194
 go_wp2
 go_loopg [3] k (fun kq v3 w' => ∃ (x3_1 : Int), v3 = .int .i64 x3_1 ∧ Nah (Nao.l0 kq a0 x3_1 = some r) ∧ Nah (kq ≤ k) ∧ Na3 w w')
 case atStart => exact ⟨(0), (by first | rfl | (simp; done) | (simp [*]; done)), H', ⟨Nat.le_refl _⟩, dE⟩
 case round =>
  clear H'
  try clear c1
  obtain ⟨x3_1, rfl, HA, HK1, ⟨m1, rfl⟩⟩ := hrel
  cases gk with
  | zero => exact absurd HA.out (by simp [Nao.l0])
  | succ k1 =>
   have H := HA.out
   clear HA
   simp only [Nao.l0] at H
   by_cases c2 : x3_1 < (a0.size : Int)
   ·rw [if_pos c2] at H
    have c2b0 : decide (x3_1 < (a0.size : Int)) = true := decide_eq_true c2
    clear c2
    by_cases c3 : 0 ≤ x3_1
    ·rw [if_pos c3] at H
     have c3b0 : decide (0 ≤ x3_1) = true := decide_eq_true c3
     clear c3
     by_cases c5 : (bt a0 x3_1) < 32
     ·rw [if_pos c5] at H
      have c5b0 : decide ((bt a0 x3_1) < 32) = true := decide_eq_true c5
      clear c5
      obtain rfl := sI H
      have p4 : 0 ≤ (x3_1 : Int) := of_decide_eq_true (by first | (with_reducible assumption) | assumption)
      have q4 : x3_1 < (a0.size : Int) := of_decide_eq_true (by first | (with_reducible assumption) | assumption)
      have hx4 := bt_at a0 x3_1
      replace p4 := eq_true p4
      replace q4 := eq_true q4
      go_wp2
      go_ret
      exact ⟨eR, dE⟩
     ·rw [if_neg c5] at H
      have c5b0 : decide ((bt a0 x3_1) < 32) = false := decide_eq_false c5
      clear c5
      by_cases c7 : (bt a0 x3_1) > 126
      ·rw [if_pos c7] at H
       have c7b0 : decide (126 < (bt a0 x3_1)) = true := decide_eq_true c7
       clear c7
       obtain rfl := sI H
       have p4 : 0 ≤ (x3_1 : Int) := of_decide_eq_true (by first | (with_reducible assumption) | assumption)
       have q4 : x3_1 < (a0.size : Int) := of_decide_eq_true (by first | (with_reducible assumption) | assumption)
       have hx4 := bt_at a0 x3_1
       replace p4 := eq_true p4
       replace q4 := eq_true q4
       have p6 : 0 ≤ (x3_1 : Int) := of_decide_eq_true (by first | (with_reducible assumption) | assumption)
       have q6 : x3_1 < (a0.size : Int) := of_decide_eq_true (by first | (with_reducible assumption) | assumption)
       have hx6 := bt_at a0 x3_1
       replace p6 := eq_true p6
       replace q6 := eq_true q6
       go_wp2
       go_ret
       exact ⟨eR, dE⟩
      ·rw [if_neg c7] at H
       have c7b0 : decide (126 < (bt a0 x3_1)) = false := decide_eq_false c7
       clear c7
       have H' := aM H
       clear H
       have p4 : 0 ≤ (x3_1 : Int) := of_decide_eq_true (by first | (with_reducible assumption) | assumption)
       have q4 : x3_1 < (a0.size : Int) := of_decide_eq_true (by first | (with_reducible assumption) | assumption)
       have hx4 := bt_at a0 x3_1
       replace p4 := eq_true p4
       replace q4 := eq_true q4
       have p6 : 0 ≤ (x3_1 : Int) := of_decide_eq_true (by first | (with_reducible assumption) | assumption)
       have q6 : x3_1 < (a0.size : Int) := of_decide_eq_true (by first | (with_reducible assumption) | assumption)
       have hx6 := bt_at a0 x3_1
       replace p6 := eq_true p6
       replace q6 := eq_true q6
       go_wp2
       go_roundg k1
       case measure => have := HK1.out; omega
       case rel => exact ⟨(wrap64 (x3_1 + 1)), (by first | rfl | (simp; done) | (simp [*]; done)), H', ⟨by have := HK1.out; omega⟩, dE⟩
    ·rw [if_neg c3] at H
     exact absurd H (by simp)
   ·rw [if_neg c2] at H
    have c2b0 : decide (x3_1 < (a0.size : Int)) = false := decide_eq_false c2
    clear c2
    obtain rfl := sI H
    go_wp2
    go_ret
    exact ⟨eR, dE⟩
end Go.Proofs.YtejbbceidnaloaaGreatDoor.P
