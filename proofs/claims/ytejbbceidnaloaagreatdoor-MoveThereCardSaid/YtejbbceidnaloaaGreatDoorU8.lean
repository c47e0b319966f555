import Derived.Test.YtejbbceidnaloaaGreatDoorU7
namespace Go.Proofs.YtejbbceidnaloaaGreatDoor.P
open Go.RowKit Go.Proofs.YtejbbceidnaloaaGreatDoorW.PrintWords Go.Proofs.YtejbbceidnaloaaGreatDoorW.PrintLast Go.Proofs.YtejbbceidnaloaaGreatDoorW.PrintMore
set_option linter.unusedVariables false
set_option linter.unusedSimpArgs false
section
set_option maxRecDepth 100000
set_option maxHeartbeats 4000000
attribute [local go_sem high] eqA50
def rest1 (o : Int) (m : ByteArray) (ag : Int) (a0 : ByteArray) (a1 : Int) (a2 : Int) (a3 : Bool) (a4 : Bool) (b0 : ByteArray) (b1 : Int) (b2 : Int) (b3 : Bool) (b4 : Bool) : Bool := decide (o = 0 ∧ m.toList = [] ∧ ag = 0 ∧ a0.toList = [] ∧ a1 = 0 ∧ a2 = 0 ∧ a3 = false ∧ a4 = false ∧ b0.toList = [] ∧ b1 = 0 ∧ b2 = 0 ∧ b3 = false ∧ b4 = false)
def partsV1 (v0 : Int) (v1 : Int) (v2 : Int) (v3 : ByteArray) (v4 : Bool) (v5 : Int) (o : Int) (m : ByteArray) (ag : Int) (a0 : ByteArray) (a1 : Int) (a2 : Int) (a3 : Bool) (a4 : Bool) (b0 : ByteArray) (b1 : Int) (b2 : Int) (b3 : Bool) (b4 : Bool) (bR : Bool) : Int := if rest1 o m ag a0 a1 a2 a3 a4 b0 b1 b2 b3 b4 = true then (if bR = true ∧ v0 ≠ 0 ∧ (v0 ≠ 1 ∨ 0 ≤ v1 ∧ (1000000 : Int) % v2 = 0) then 0 else -1) else -1
theorem parts_1 (kk : Nat) (bR : Bool) (v0 : Int) (v1 : Int) (v2 : Int) (v3 : ByteArray) (v4 : Bool) (v5 : Int) (o : Int) (m : ByteArray) (ag : Int) (a0 : ByteArray) (a1 : Int) (a2 : Int) (a3 : Bool) (a4 : Bool) (b0 : ByteArray) (b1 : Int) (b2 : Int) (b3 : Bool) (b4 : Bool) (w : World) (hv : Nbn.f kk v0 v1 v2 v3 v4 v5 = some bR) (hd : bR = true → v0 = 1 → 1 ≤ v2 ∧ v2 ≤ 1000000) (r : Int) (hR : partsV1 v0 v1 v2 v3 v4 v5 o m ag a0 a1 a2 a3 a4 b0 b1 b2 b3 b4 bR = r) : Calls Tryz.prog 56 #[.agg #[.int .i64 1, .int .i64 v0, .int .i64 v1, .int .i64 v2, .string v3, .bool v4, .int .i64 v5, .int .i64 o, .string m, .int .i64 ag, .string a0, .int .i64 a1, .int .i64 a2, .bool a3, .bool a4, .string b0, .int .i64 b1, .int .i64 b2, .bool b3, .bool b4]] w fun e w' => e = .returned (.int .i64 r) ∧ Below w.heap.size w w' := by
 have HV := lh hv
 have HD := lh hd
 have HR := lh hR
 clear hv hd hR
 have hu50 := Tryz.underlying50
 have hu46 := Tryz.underlying46
 have hu48 := Tryz.underlying48
 go_enter Tryz.func56, Tryz.ntmps56
 go_upto_region 3 with (first | ((with_reducible refine gate_dst (N := 1) rfl ?_); refine bX 1 #[.int .i64 1, .int .i64 v0, .int .i64 v1, .int .i64 v2, .string v3, .bool v4, .int .i64 v5, .int .i64 o, .string m, .int .i64 ag, .string a0, .int .i64 a1, .int .i64 a2, .bool a3, .bool a4, .string b0, .int .i64 b1, .int .i64 b2, .bool b3, .bool b4] 50 ?_; intro g1 hg_ w1 hb_ hl_; have z1 : w.heap.size ≤ g1 := hg_ ▸ Nat.le_refl _; have B1 := lh hl_; have H1 := lh hb_; clear hb_ hl_ hg_; have ck_ : w1.cell? ⟨g1, 0, none⟩ = some (.int .i64 1) := (blk_cell H1.out 0).trans rfl) | ((with_reducible refine gate_dst (N := 3) rfl ?_); refine bX 3 #[.int .i64 0, .int .i64 0, .int .i64 0, .int .i64 0, .string ⟨#[]⟩, .bool false, .int .i64 0, .int .i64 0, .string ⟨#[]⟩, .int .i64 0, .string ⟨#[]⟩, .int .i64 0, .int .i64 0, .bool false, .bool false, .string ⟨#[]⟩, .int .i64 0, .int .i64 0, .bool false, .bool false] 50 ?_; intro g3 hg_ w2 hb_ hl_; have n13 : g1 ≠ g3 := (by have := blk_lt H1.out; omega); have n31 : g3 ≠ g1 := n13.symm; have z3 : w.heap.size ≤ g3 := hg_ ▸ B1.out.size; have B2 := lh (below_step B1.out hl_); have G1 := lh (blk_below H1.out hl_); have G3 := lh hb_; clear hb_ hl_ hg_ ck_ H1 B1) | ((with_reducible refine gate_ (.store 50 (.tmp 3) (.tmp 7)) rfl ?_); refine sE G3.out 50 (.tmp 3) (.tmp 7) 0 (.agg #[.int .i64 1, .int .i64 0, .int .i64 0, .int .i64 0, .string ⟨#[]⟩, .bool false, .int .i64 0, .int .i64 0, .string ⟨#[]⟩, .int .i64 0, .string ⟨#[]⟩, .int .i64 0, .int .i64 0, .bool false, .bool false, .string ⟨#[]⟩, .int .i64 0, .int .i64 0, .bool false, .bool false]) #[.int .i64 1, .int .i64 0, .int .i64 0, .int .i64 0, .string ⟨#[]⟩, .bool false, .int .i64 0, .int .i64 0, .string ⟨#[]⟩, .int .i64 0, .string ⟨#[]⟩, .int .i64 0, .int .i64 0, .bool false, .bool false, .string ⟨#[]⟩, .int .i64 0, .int .i64 0, .bool false, .bool false] ?_; intro w3 hb_ hp_; have J3 := lh hb_; have J1 := lh (hp_.blk G1.out n13); have B3 := lh (hp_.below w z3 B2.out); clear hb_ hp_ G1 G3 B2; have ck_ : w3.cell? ⟨g1, 0, none⟩ = some (.int .i64 1) := (blk_cell J1.out 0).trans rfl))
 go_upto_region 5 with (first | ((with_reducible refine gate_dst (N := 13) rfl ?_); refine Nav rfl (t := 46) (p := .tmp 12) rfl (g := g1) (o' := 1) (e := 50) (cs := [.int .i64 v0, .int .i64 v1, .int .i64 v2, .string v3, .bool v4, .int .i64 v5]) ?ha J1.out ?hc hu46 ?hd ?hi ?_; (case ha => rfl); (case hc => rfl); (case hd => rfl); (case hi => kernel_rfl)) | ((with_reducible refine gate_ (.store 46 (.tmp 14) (.tmp 13)) rfl ?_); refine sE J3.out 46 (.tmp 14) (.tmp 13) 1 (.agg #[.int .i64 v0, .int .i64 v1, .int .i64 v2, .string v3, .bool v4, .int .i64 v5]) #[.int .i64 1, .int .i64 v0, .int .i64 v1, .int .i64 v2, .string v3, .bool v4, .int .i64 v5, .int .i64 0, .string ⟨#[]⟩, .int .i64 0, .string ⟨#[]⟩, .int .i64 0, .int .i64 0, .bool false, .bool false, .string ⟨#[]⟩, .int .i64 0, .int .i64 0, .bool false, .bool false] ?_; intro w4 hb_ hp_; have I3 := lh hb_; have I1 := lh (hp_.blk J1.out n13); have B4 := lh (hp_.below w z3 B3.out); clear hb_ hp_ J1 J3 B3 ck_))
 go_wp2_with (first | ((with_reducible refine gate_dst (N := 16) rfl ?_); refine Nav rfl (t := 46) (p := .tmp 15) rfl (g := g1) (o' := 1) (e := 50) (cs := [.int .i64 v0, .int .i64 v1, .int .i64 v2, .string v3, .bool v4, .int .i64 v5]) ?ha I1.out ?hc hu46 ?hd ?hi ?_; (case ha => rfl); (case hc => rfl); (case hd => rfl); (case hi => kernel_rfl)))
 refine (Nbn.calls kk v0 v1 v2 v3 v4 v5 bR _ HV.out).mono ?_
 rintro e w5 ⟨rfl, hl_⟩
 have X1 := lh (blk_below I1.out hl_)
 have X3 := lh (blk_below I3.out hl_)
 have B5 := lh (below_step B4.out hl_)
 clear hl_ I1 I3 B4
 have c1 : w5.cell? ⟨g1, 1, none⟩ = some (.int .i64 v0) := (blk_cell X1.out 1).trans rfl
 have c2 : w5.cell? ⟨g1, 2, none⟩ = some (.int .i64 v1) := (blk_cell X1.out 2).trans rfl
 have c3 : w5.cell? ⟨g1, 3, none⟩ = some (.int .i64 v2) := (blk_cell X1.out 3).trans rfl
 cases bR with
 | false =>
  go_wp2_with (first | ((with_reducible refine gate_dst (N := 115) rfl ?_); refine lA X3.out 50 (.tmp 3) hu50 ?_) | ((with_reducible refine gate_dst (N := 116) rfl ?_); refine lA X1.out 50 (.tmp 1) hu50 ?_))
  ·rename_i hh
   go_ret
   refine ⟨?_, B5.out⟩
   have hr : rest1 o m ag a0 a1 a2 a3 a4 b0 b1 b2 b3 b4 = false := by unfold rest1; rw [decide_eq_false_iff_not]; intro hz; simp [hz] at hh
   rw [← HR.out]; unfold partsV1; rw [hr]; rfl
  ·rename_i hh
   go_ret
   refine ⟨?_, B5.out⟩
   have hr : rest1 o m ag a0 a1 a2 a3 a4 b0 b1 b2 b3 b4 = true := by
    unfold rest1
    rw [decide_eq_true_eq]
    simp at hh
    simp only [and_assoc, eq_comm (a := (0 : Int))] at hh
    exact hh
   rw [← HR.out]; unfold partsV1; rw [hr]; rfl
 | true =>
  by_cases h0 : v0 = 0
  ·have e0 : (v0 != 0) = false := bne_eq_false_iff_eq.2 h0
   have HC := lh (show ¬ (True ∧ v0 ≠ 0 ∧ (v0 ≠ 1 ∨ 0 ≤ v1 ∧ (1000000 : Int) % v2 = 0)) from fun h => h.2.1 h0)
   clear h0
   go_wp2_with (first | ((with_reducible refine gate_dst (N := 115) rfl ?_); refine lA X3.out 50 (.tmp 3) hu50 ?_) | ((with_reducible refine gate_dst (N := 116) rfl ?_); refine lA X1.out 50 (.tmp 1) hu50 ?_))
   ·rename_i hh
    go_ret
    refine ⟨?_, B5.out⟩
    have hr : rest1 o m ag a0 a1 a2 a3 a4 b0 b1 b2 b3 b4 = false := by unfold rest1; rw [decide_eq_false_iff_not]; intro hz; simp [hz] at hh
    rw [← HR.out]; unfold partsV1; rw [hr]; rfl
   ·rename_i hh
    go_ret
    refine ⟨?_, B5.out⟩
    have hr : rest1 o m ag a0 a1 a2 a3 a4 b0 b1 b2 b3 b4 = true := by
     unfold rest1
     rw [decide_eq_true_eq]
     simp at hh
     simp only [and_assoc, eq_comm (a := (0 : Int))] at hh
     exact hh
    rw [← HR.out]; unfold partsV1; rw [hr]; simp only [if_true]; rw [if_neg HC.out]; rfl
  ·have e0 : (v0 != 0) = true := by rw [bne_iff_ne]; exact h0
   by_cases h1 : v0 = 1
   ·have e1 : (v0 != 1) = false := bne_eq_false_iff_eq.2 h1
    have hD := HD.out rfl h1
    obtain ⟨hD1, hD2⟩ := hD
    have hD0 : ¬ v2 = 0 := by omega
    by_cases h2 : 0 ≤ v1
    ·have d2 : decide (0 ≤ v1) = true := decide_eq_true h2
     by_cases h3 : (1000000 : Int) % v2 = 0
     ·have e3 : ((1000000 : Int) % v2 == 0) = true := beq_iff_eq.2 h3
      have HC := lh (show True ∧ v0 ≠ 0 ∧ (v0 ≠ 1 ∨ 0 ≤ v1 ∧ (1000000 : Int) % v2 = 0) from ⟨trivial, h0, .inr ⟨h2, h3⟩⟩)
      clear h3 h0 h1
      go_wp2_with (first | ((with_reducible refine gate_dst (N := 115) rfl ?_); refine lA X3.out 50 (.tmp 3) hu50 ?_) | ((with_reducible refine gate_dst (N := 116) rfl ?_); refine lA X1.out 50 (.tmp 1) hu50 ?_))
      ·rename_i hh
       go_ret
       refine ⟨?_, B5.out⟩
       have hr : rest1 o m ag a0 a1 a2 a3 a4 b0 b1 b2 b3 b4 = false := by unfold rest1; rw [decide_eq_false_iff_not]; intro hz; simp [hz] at hh
       rw [← HR.out]; unfold partsV1; rw [hr]; rfl
      ·rename_i hh
       go_ret
       refine ⟨?_, B5.out⟩
       have hr : rest1 o m ag a0 a1 a2 a3 a4 b0 b1 b2 b3 b4 = true := by
        unfold rest1
        rw [decide_eq_true_eq]
        simp at hh
        simp only [and_assoc, eq_comm (a := (0 : Int))] at hh
        exact hh
       rw [← HR.out]; unfold partsV1; rw [hr]; simp only [if_true]; rw [if_pos HC.out]; rfl
     ·have e3 : ((1000000 : Int) % v2 == 0) = false := beq_eq_false_iff_ne.2 h3
      have HC := lh (show ¬ (True ∧ v0 ≠ 0 ∧ (v0 ≠ 1 ∨ 0 ≤ v1 ∧ (1000000 : Int) % v2 = 0)) from fun h => h3 (by rcases h.2.2 with h | h; exact absurd h1 h; exact h.2))
      clear h3 h0 h1
      go_wp2_with (first | ((with_reducible refine gate_dst (N := 115) rfl ?_); refine lA X3.out 50 (.tmp 3) hu50 ?_) | ((with_reducible refine gate_dst (N := 116) rfl ?_); refine lA X1.out 50 (.tmp 1) hu50 ?_))
      ·rename_i hh
       go_ret
       refine ⟨?_, B5.out⟩
       have hr : rest1 o m ag a0 a1 a2 a3 a4 b0 b1 b2 b3 b4 = false := by unfold rest1; rw [decide_eq_false_iff_not]; intro hz; simp [hz] at hh
       rw [← HR.out]; unfold partsV1; rw [hr]; rfl
      ·rename_i hh
       go_ret
       refine ⟨?_, B5.out⟩
       have hr : rest1 o m ag a0 a1 a2 a3 a4 b0 b1 b2 b3 b4 = true := by
        unfold rest1
        rw [decide_eq_true_eq]
        simp at hh
        simp only [and_assoc, eq_comm (a := (0 : Int))] at hh
        exact hh
       rw [← HR.out]; unfold partsV1; rw [hr]; simp only [if_true]; rw [if_neg HC.out]; rfl
    ·have d2 : decide (0 ≤ v1) = false := decide_eq_false h2
     have HC := lh (show ¬ (True ∧ v0 ≠ 0 ∧ (v0 ≠ 1 ∨ 0 ≤ v1 ∧ (1000000 : Int) % v2 = 0)) from fun h => h2 (by rcases h.2.2 with h | h; exact absurd h1 h; exact h.1))
     clear h0 h1
     go_wp2_with (first | ((with_reducible refine gate_dst (N := 115) rfl ?_); refine lA X3.out 50 (.tmp 3) hu50 ?_) | ((with_reducible refine gate_dst (N := 116) rfl ?_); refine lA X1.out 50 (.tmp 1) hu50 ?_))
     ·rename_i hh
      go_ret
      refine ⟨?_, B5.out⟩
      have hr : rest1 o m ag a0 a1 a2 a3 a4 b0 b1 b2 b3 b4 = false := by unfold rest1; rw [decide_eq_false_iff_not]; intro hz; simp [hz] at hh
      rw [← HR.out]; unfold partsV1; rw [hr]; rfl
     ·rename_i hh
      go_ret
      refine ⟨?_, B5.out⟩
      have hr : rest1 o m ag a0 a1 a2 a3 a4 b0 b1 b2 b3 b4 = true := by
       unfold rest1
       rw [decide_eq_true_eq]
       simp at hh
       simp only [and_assoc, eq_comm (a := (0 : Int))] at hh
       exact hh
      rw [← HR.out]; unfold partsV1; rw [hr]; simp only [if_true]; rw [if_neg HC.out]; rfl
   ·have e1 : (v0 != 1) = true := by rw [bne_iff_ne]; exact h1
    have HC := lh (show True ∧ v0 ≠ 0 ∧ (v0 ≠ 1 ∨ 0 ≤ v1 ∧ (1000000 : Int) % v2 = 0) from ⟨trivial, h0, .inl h1⟩)
    clear h0 h1
    go_wp2_with (first | ((with_reducible refine gate_dst (N := 115) rfl ?_); refine lA X3.out 50 (.tmp 3) hu50 ?_) | ((with_reducible refine gate_dst (N := 116) rfl ?_); refine lA X1.out 50 (.tmp 1) hu50 ?_))
    ·rename_i hh
     go_ret
     refine ⟨?_, B5.out⟩
     have hr : rest1 o m ag a0 a1 a2 a3 a4 b0 b1 b2 b3 b4 = false := by unfold rest1; rw [decide_eq_false_iff_not]; intro hz; simp [hz] at hh
     rw [← HR.out]; unfold partsV1; rw [hr]; rfl
    ·rename_i hh
     go_ret
     refine ⟨?_, B5.out⟩
     have hr : rest1 o m ag a0 a1 a2 a3 a4 b0 b1 b2 b3 b4 = true := by
      unfold rest1
      rw [decide_eq_true_eq]
      simp at hh
      simp only [and_assoc, eq_comm (a := (0 : Int))] at hh
      exact hh
     rw [← HR.out]; unfold partsV1; rw [hr]; simp only [if_true]; rw [if_pos HC.out]; rfl
theorem parts_0 (k : Int) (v0 : Int) (v1 : Int) (v2 : Int) (v3 : ByteArray) (v4 : Bool) (v5 : Int) (o : Int) (m : ByteArray) (ag : Int) (a0 : ByteArray) (a1 : Int) (a2 : Int) (a3 : Bool) (a4 : Bool) (b0 : ByteArray) (b1 : Int) (b2 : Int) (b3 : Bool) (b4 : Bool) (w : World) (e1 : (k == 1) = false) (e2 : (k == 2) = false) (e3 : (k == 3) = false) (e4 : (k == 4) = false) (e5 : (k == 5) = false) (e6 : (k == 6) = false) : Calls Tryz.prog 56 #[.agg #[.int .i64 k, .int .i64 v0, .int .i64 v1, .int .i64 v2, .string v3, .bool v4, .int .i64 v5, .int .i64 o, .string m, .int .i64 ag, .string a0, .int .i64 a1, .int .i64 a2, .bool a3, .bool a4, .string b0, .int .i64 b1, .int .i64 b2, .bool b3, .bool b4]] w fun e w' => e = .returned (.int .i64 (-1)) ∧ Below w.heap.size w w' := by
 have hu50 := Tryz.underlying50
 have hu46 := Tryz.underlying46
 have hu48 := Tryz.underlying48
 go_enter Tryz.func56, Tryz.ntmps56
 go_upto_region 3 with (first | ((with_reducible refine gate_dst (N := 1) rfl ?_); refine bX 1 #[.int .i64 k, .int .i64 v0, .int .i64 v1, .int .i64 v2, .string v3, .bool v4, .int .i64 v5, .int .i64 o, .string m, .int .i64 ag, .string a0, .int .i64 a1, .int .i64 a2, .bool a3, .bool a4, .string b0, .int .i64 b1, .int .i64 b2, .bool b3, .bool b4] 50 ?_; intro g1 hg_ w1 hb_ hl_; have z1 : w.heap.size ≤ g1 := hg_ ▸ Nat.le_refl _; have B1 := lh hl_; have H1 := lh hb_; clear hb_ hl_ hg_; have ck_ : w1.cell? ⟨g1, 0, none⟩ = some (.int .i64 k) := (blk_cell H1.out 0).trans rfl) | ((with_reducible refine gate_dst (N := 3) rfl ?_); refine bX 3 #[.int .i64 0, .int .i64 0, .int .i64 0, .int .i64 0, .string ⟨#[]⟩, .bool false, .int .i64 0, .int .i64 0, .string ⟨#[]⟩, .int .i64 0, .string ⟨#[]⟩, .int .i64 0, .int .i64 0, .bool false, .bool false, .string ⟨#[]⟩, .int .i64 0, .int .i64 0, .bool false, .bool false] 50 ?_; intro g3 hg_ w2 hb_ hl_; have n13 : g1 ≠ g3 := (by have := blk_lt H1.out; omega); have n31 : g3 ≠ g1 := n13.symm; have z3 : w.heap.size ≤ g3 := hg_ ▸ B1.out.size; have B2 := lh (below_step B1.out hl_); have G1 := lh (blk_below H1.out hl_); have G3 := lh hb_; clear hb_ hl_ hg_ ck_ H1 B1) | ((with_reducible refine gate_ (.store 50 (.tmp 3) (.tmp 7)) rfl ?_); refine sE G3.out 50 (.tmp 3) (.tmp 7) 0 (.agg #[.int .i64 k, .int .i64 0, .int .i64 0, .int .i64 0, .string ⟨#[]⟩, .bool false, .int .i64 0, .int .i64 0, .string ⟨#[]⟩, .int .i64 0, .string ⟨#[]⟩, .int .i64 0, .int .i64 0, .bool false, .bool false, .string ⟨#[]⟩, .int .i64 0, .int .i64 0, .bool false, .bool false]) #[.int .i64 k, .int .i64 0, .int .i64 0, .int .i64 0, .string ⟨#[]⟩, .bool false, .int .i64 0, .int .i64 0, .string ⟨#[]⟩, .int .i64 0, .string ⟨#[]⟩, .int .i64 0, .int .i64 0, .bool false, .bool false, .string ⟨#[]⟩, .int .i64 0, .int .i64 0, .bool false, .bool false] ?_; intro w3 hb_ hp_; have J3 := lh hb_; have J1 := lh (hp_.blk G1.out n13); have B3 := lh (hp_.below w z3 B2.out); clear hb_ hp_ G1 G3 B2; have ck_ : w3.cell? ⟨g1, 0, none⟩ = some (.int .i64 k) := (blk_cell J1.out 0).trans rfl))
 go_wp2_with (first | ((with_reducible refine gate_dst (N := 115) rfl ?_); refine lA J3.out 50 (.tmp 3) hu50 ?_) | ((with_reducible refine gate_dst (N := 116) rfl ?_); refine lA J1.out 50 (.tmp 1) hu50 ?_))
 all_goals (go_ret; exact ⟨rfl, B3.out⟩)
def rest4 (v0 : Int) (v1 : Int) (v2 : Int) (v3 : ByteArray) (v4 : Bool) (v5 : Int) (m : ByteArray) (ag : Int) (a0 : ByteArray) (a1 : Int) (a2 : Int) (a3 : Bool) (a4 : Bool) (b0 : ByteArray) (b1 : Int) (b2 : Int) (b3 : Bool) (b4 : Bool) : Bool := decide (v0 = 0 ∧ v1 = 0 ∧ v2 = 0 ∧ v3.toList = [] ∧ v4 = false ∧ v5 = 0 ∧ m.toList = [] ∧ ag = 0 ∧ a0.toList = [] ∧ a1 = 0 ∧ a2 = 0 ∧ a3 = false ∧ a4 = false ∧ b0.toList = [] ∧ b1 = 0 ∧ b2 = 0 ∧ b3 = false ∧ b4 = false)
def partsV4 (v0 : Int) (v1 : Int) (v2 : Int) (v3 : ByteArray) (v4 : Bool) (v5 : Int) (o : Int) (m : ByteArray) (ag : Int) (a0 : ByteArray) (a1 : Int) (a2 : Int) (a3 : Bool) (a4 : Bool) (b0 : ByteArray) (b1 : Int) (b2 : Int) (b3 : Bool) (b4 : Bool) : Int := if rest4 v0 v1 v2 v3 v4 v5 m ag a0 a1 a2 a3 a4 b0 b1 b2 b3 b4 = true then (if 1 ≤ o ∧ o ≤ 3 then 1 else -1) else -1
theorem parts_4 (v0 : Int) (v1 : Int) (v2 : Int) (v3 : ByteArray) (v4 : Bool) (v5 : Int) (o : Int) (m : ByteArray) (ag : Int) (a0 : ByteArray) (a1 : Int) (a2 : Int) (a3 : Bool) (a4 : Bool) (b0 : ByteArray) (b1 : Int) (b2 : Int) (b3 : Bool) (b4 : Bool) (w : World) (r : Int) (hR : partsV4 v0 v1 v2 v3 v4 v5 o m ag a0 a1 a2 a3 a4 b0 b1 b2 b3 b4 = r) : Calls Tryz.prog 56 #[.agg #[.int .i64 4, .int .i64 v0, .int .i64 v1, .int .i64 v2, .string v3, .bool v4, .int .i64 v5, .int .i64 o, .string m, .int .i64 ag, .string a0, .int .i64 a1, .int .i64 a2, .bool a3, .bool a4, .string b0, .int .i64 b1, .int .i64 b2, .bool b3, .bool b4]] w fun e w' => e = .returned (.int .i64 r) ∧ Below w.heap.size w w' := by
 have HR := lh hR
 clear hR
 have hu50 := Tryz.underlying50
 have hu46 := Tryz.underlying46
 have hu48 := Tryz.underlying48
 go_enter Tryz.func56, Tryz.ntmps56
 go_upto_region 3 with (first | ((with_reducible refine gate_dst (N := 1) rfl ?_); refine bX 1 #[.int .i64 4, .int .i64 v0, .int .i64 v1, .int .i64 v2, .string v3, .bool v4, .int .i64 v5, .int .i64 o, .string m, .int .i64 ag, .string a0, .int .i64 a1, .int .i64 a2, .bool a3, .bool a4, .string b0, .int .i64 b1, .int .i64 b2, .bool b3, .bool b4] 50 ?_; intro g1 hg_ w1 hb_ hl_; have z1 : w.heap.size ≤ g1 := hg_ ▸ Nat.le_refl _; have B1 := lh hl_; have H1 := lh hb_; clear hb_ hl_ hg_; have ck_ : w1.cell? ⟨g1, 0, none⟩ = some (.int .i64 4) := (blk_cell H1.out 0).trans rfl) | ((with_reducible refine gate_dst (N := 3) rfl ?_); refine bX 3 #[.int .i64 0, .int .i64 0, .int .i64 0, .int .i64 0, .string ⟨#[]⟩, .bool false, .int .i64 0, .int .i64 0, .string ⟨#[]⟩, .int .i64 0, .string ⟨#[]⟩, .int .i64 0, .int .i64 0, .bool false, .bool false, .string ⟨#[]⟩, .int .i64 0, .int .i64 0, .bool false, .bool false] 50 ?_; intro g3 hg_ w2 hb_ hl_; have n13 : g1 ≠ g3 := (by have := blk_lt H1.out; omega); have n31 : g3 ≠ g1 := n13.symm; have z3 : w.heap.size ≤ g3 := hg_ ▸ B1.out.size; have B2 := lh (below_step B1.out hl_); have G1 := lh (blk_below H1.out hl_); have G3 := lh hb_; clear hb_ hl_ hg_ ck_ H1 B1) | ((with_reducible refine gate_ (.store 50 (.tmp 3) (.tmp 7)) rfl ?_); refine sE G3.out 50 (.tmp 3) (.tmp 7) 0 (.agg #[.int .i64 4, .int .i64 0, .int .i64 0, .int .i64 0, .string ⟨#[]⟩, .bool false, .int .i64 0, .int .i64 0, .string ⟨#[]⟩, .int .i64 0, .string ⟨#[]⟩, .int .i64 0, .int .i64 0, .bool false, .bool false, .string ⟨#[]⟩, .int .i64 0, .int .i64 0, .bool false, .bool false]) #[.int .i64 4, .int .i64 0, .int .i64 0, .int .i64 0, .string ⟨#[]⟩, .bool false, .int .i64 0, .int .i64 0, .string ⟨#[]⟩, .int .i64 0, .string ⟨#[]⟩, .int .i64 0, .int .i64 0, .bool false, .bool false, .string ⟨#[]⟩, .int .i64 0, .int .i64 0, .bool false, .bool false] ?_; intro w3 hb_ hp_; have J3 := lh hb_; have J1 := lh (hp_.blk G1.out n13); have B3 := lh (hp_.below w z3 B2.out); clear hb_ hp_ G1 G3 B2; have ck_ : w3.cell? ⟨g1, 0, none⟩ = some (.int .i64 4) := (blk_cell J1.out 0).trans rfl))
 have c7_ : w3.cell? ⟨g1, 7, none⟩ = some (.int .i64 o) := (blk_cell J1.out 7).trans rfl
 by_cases h1 : 1 ≤ o
 ·have d1 : decide (1 ≤ o) = true := decide_eq_true h1
  by_cases h2 : o ≤ 3
  ·have d2 : decide (o ≤ 3) = true := decide_eq_true h2
   go_wp2_with (first | ((with_reducible refine gate_ (.store 3 (.tmp 75) (.tmp 74)) rfl ?_); refine sE J3.out 3 (.tmp 75) (.tmp 74) 7 (.int .i64 o) #[.int .i64 4, .int .i64 0, .int .i64 0, .int .i64 0, .string ⟨#[]⟩, .bool false, .int .i64 0, .int .i64 o, .string ⟨#[]⟩, .int .i64 0, .string ⟨#[]⟩, .int .i64 0, .int .i64 0, .bool false, .bool false, .string ⟨#[]⟩, .int .i64 0, .int .i64 0, .bool false, .bool false] ?_; intro w4 hb_ hp_; have I3 := lh hb_; have I1 := lh (hp_.blk J1.out n13); have B4 := lh (hp_.below w z3 B3.out); clear hb_ hp_ J1 J3 B3 ck_ c7_; have c7_ : w4.cell? ⟨g1, 7, none⟩ = some (.int .i64 o) := (blk_cell I1.out 7).trans rfl) | ((with_reducible refine gate_dst (N := 115) rfl ?_); refine lA I3.out 50 (.tmp 3) hu50 ?_) | ((with_reducible refine gate_dst (N := 116) rfl ?_); refine lA I1.out 50 (.tmp 1) hu50 ?_))
   ·rename_i hh
    go_ret
    refine ⟨?_, B4.out⟩
    have hr : rest4 v0 v1 v2 v3 v4 v5 m ag a0 a1 a2 a3 a4 b0 b1 b2 b3 b4 = false := by unfold rest4; rw [decide_eq_false_iff_not]; intro hz; simp [hz] at hh
    rw [← HR.out]; unfold partsV4; rw [hr]; rfl
   ·rename_i hh
    go_ret
    refine ⟨?_, B4.out⟩
    have hr : rest4 v0 v1 v2 v3 v4 v5 m ag a0 a1 a2 a3 a4 b0 b1 b2 b3 b4 = true := by
     unfold rest4
     rw [decide_eq_true_eq]
     simp at hh
     simp only [and_assoc, eq_comm (a := (0 : Int))] at hh
     exact hh
    rw [← HR.out]; unfold partsV4; rw [hr]; simp only [if_true]; rw [if_pos ⟨h1, h2⟩]; rfl
  ·have d2 : decide (o ≤ 3) = false := decide_eq_false h2
   go_wp2_with (first | ((with_reducible refine gate_ (.store 3 (.tmp 75) (.tmp 74)) rfl ?_); refine sE J3.out 3 (.tmp 75) (.tmp 74) 7 (.int .i64 o) #[.int .i64 4, .int .i64 0, .int .i64 0, .int .i64 0, .string ⟨#[]⟩, .bool false, .int .i64 0, .int .i64 o, .string ⟨#[]⟩, .int .i64 0, .string ⟨#[]⟩, .int .i64 0, .int .i64 0, .bool false, .bool false, .string ⟨#[]⟩, .int .i64 0, .int .i64 0, .bool false, .bool false] ?_; intro w4 hb_ hp_; have I3 := lh hb_; have I1 := lh (hp_.blk J1.out n13); have B4 := lh (hp_.below w z3 B3.out); clear hb_ hp_ J1 J3 B3 ck_ c7_; have c7_ : w4.cell? ⟨g1, 7, none⟩ = some (.int .i64 o) := (blk_cell I1.out 7).trans rfl) | ((with_reducible refine gate_dst (N := 115) rfl ?_); refine lA I3.out 50 (.tmp 3) hu50 ?_) | ((with_reducible refine gate_dst (N := 116) rfl ?_); refine lA I1.out 50 (.tmp 1) hu50 ?_))
   ·rename_i hh
    go_ret
    refine ⟨?_, B4.out⟩
    have hr : rest4 v0 v1 v2 v3 v4 v5 m ag a0 a1 a2 a3 a4 b0 b1 b2 b3 b4 = false := by unfold rest4; rw [decide_eq_false_iff_not]; intro hz; simp [hz] at hh
    rw [← HR.out]; unfold partsV4; rw [hr]; rfl
   ·rename_i hh
    go_ret
    refine ⟨?_, B4.out⟩
    have hr : rest4 v0 v1 v2 v3 v4 v5 m ag a0 a1 a2 a3 a4 b0 b1 b2 b3 b4 = true := by
     unfold rest4
     rw [decide_eq_true_eq]
     simp at hh
     simp only [and_assoc, eq_comm (a := (0 : Int))] at hh
     exact hh
    rw [← HR.out]; unfold partsV4; rw [hr]; simp only [if_true]; rw [if_neg (fun h => by omega)]; rfl
 ·have d1 : decide (1 ≤ o) = false := decide_eq_false h1
  go_wp2_with (first | ((with_reducible refine gate_ (.store 3 (.tmp 75) (.tmp 74)) rfl ?_); refine sE J3.out 3 (.tmp 75) (.tmp 74) 7 (.int .i64 o) #[.int .i64 4, .int .i64 0, .int .i64 0, .int .i64 0, .string ⟨#[]⟩, .bool false, .int .i64 0, .int .i64 o, .string ⟨#[]⟩, .int .i64 0, .string ⟨#[]⟩, .int .i64 0, .int .i64 0, .bool false, .bool false, .string ⟨#[]⟩, .int .i64 0, .int .i64 0, .bool false, .bool false] ?_; intro w4 hb_ hp_; have I3 := lh hb_; have I1 := lh (hp_.blk J1.out n13); have B4 := lh (hp_.below w z3 B3.out); clear hb_ hp_ J1 J3 B3 ck_ c7_; have c7_ : w4.cell? ⟨g1, 7, none⟩ = some (.int .i64 o) := (blk_cell I1.out 7).trans rfl) | ((with_reducible refine gate_dst (N := 115) rfl ?_); refine lA I3.out 50 (.tmp 3) hu50 ?_) | ((with_reducible refine gate_dst (N := 116) rfl ?_); refine lA I1.out 50 (.tmp 1) hu50 ?_))
  ·rename_i hh
   go_ret
   refine ⟨?_, B4.out⟩
   have hr : rest4 v0 v1 v2 v3 v4 v5 m ag a0 a1 a2 a3 a4 b0 b1 b2 b3 b4 = false := by unfold rest4; rw [decide_eq_false_iff_not]; intro hz; simp [hz] at hh
   rw [← HR.out]; unfold partsV4; rw [hr]; rfl
  ·rename_i hh
   go_ret
   refine ⟨?_, B4.out⟩
   have hr : rest4 v0 v1 v2 v3 v4 v5 m ag a0 a1 a2 a3 a4 b0 b1 b2 b3 b4 = true := by
    unfold rest4
    rw [decide_eq_true_eq]
    simp at hh
    simp only [and_assoc, eq_comm (a := (0 : Int))] at hh
    exact hh
   rw [← HR.out]; unfold partsV4; rw [hr]; simp only [if_true]; rw [if_neg (fun h => by omega)]; rfl
def rest5 (v0 : Int) (v1 : Int) (v2 : Int) (v3 : ByteArray) (v4 : Bool) (v5 : Int) (m : ByteArray) (ag : Int) (a0 : ByteArray) (a1 : Int) (a2 : Int) (a3 : Bool) (a4 : Bool) (b0 : ByteArray) (b1 : Int) (b2 : Int) (b3 : Bool) (b4 : Bool) : Bool := decide (v0 = 0 ∧ v1 = 0 ∧ v2 = 0 ∧ v3.toList = [] ∧ v4 = false ∧ v5 = 0 ∧ m.toList = [] ∧ ag = 0 ∧ a0.toList = [] ∧ a1 = 0 ∧ a2 = 0 ∧ a3 = false ∧ a4 = false ∧ b0.toList = [] ∧ b1 = 0 ∧ b2 = 0 ∧ b3 = false ∧ b4 = false)
def partsV5 (v0 : Int) (v1 : Int) (v2 : Int) (v3 : ByteArray) (v4 : Bool) (v5 : Int) (o : Int) (m : ByteArray) (ag : Int) (a0 : ByteArray) (a1 : Int) (a2 : Int) (a3 : Bool) (a4 : Bool) (b0 : ByteArray) (b1 : Int) (b2 : Int) (b3 : Bool) (b4 : Bool) : Int := if rest5 v0 v1 v2 v3 v4 v5 m ag a0 a1 a2 a3 a4 b0 b1 b2 b3 b4 = true then (if (11 ≤ o ∧ o ≤ 16) ∨ (21 ≤ o ∧ o ≤ 26) then 2 else -1) else -1
theorem parts_5 (v0 : Int) (v1 : Int) (v2 : Int) (v3 : ByteArray) (v4 : Bool) (v5 : Int) (o : Int) (m : ByteArray) (ag : Int) (a0 : ByteArray) (a1 : Int) (a2 : Int) (a3 : Bool) (a4 : Bool) (b0 : ByteArray) (b1 : Int) (b2 : Int) (b3 : Bool) (b4 : Bool) (w : World) (r : Int) (hR : partsV5 v0 v1 v2 v3 v4 v5 o m ag a0 a1 a2 a3 a4 b0 b1 b2 b3 b4 = r) : Calls Tryz.prog 56 #[.agg #[.int .i64 5, .int .i64 v0, .int .i64 v1, .int .i64 v2, .string v3, .bool v4, .int .i64 v5, .int .i64 o, .string m, .int .i64 ag, .string a0, .int .i64 a1, .int .i64 a2, .bool a3, .bool a4, .string b0, .int .i64 b1, .int .i64 b2, .bool b3, .bool b4]] w fun e w' => e = .returned (.int .i64 r) ∧ Below w.heap.size w w' := by
 have HR := lh hR
 clear hR
 have hu50 := Tryz.underlying50
 have hu46 := Tryz.underlying46
 have hu48 := Tryz.underlying48
 go_enter Tryz.func56, Tryz.ntmps56
 go_upto_region 3 with (first | ((with_reducible refine gate_dst (N := 1) rfl ?_); refine bX 1 #[.int .i64 5, .int .i64 v0, .int .i64 v1, .int .i64 v2, .string v3, .bool v4, .int .i64 v5, .int .i64 o, .string m, .int .i64 ag, .string a0, .int .i64 a1, .int .i64 a2, .bool a3, .bool a4, .string b0, .int .i64 b1, .int .i64 b2, .bool b3, .bool b4] 50 ?_; intro g1 hg_ w1 hb_ hl_; have z1 : w.heap.size ≤ g1 := hg_ ▸ Nat.le_refl _; have B1 := lh hl_; have H1 := lh hb_; clear hb_ hl_ hg_; have ck_ : w1.cell? ⟨g1, 0, none⟩ = some (.int .i64 5) := (blk_cell H1.out 0).trans rfl) | ((with_reducible refine gate_dst (N := 3) rfl ?_); refine bX 3 #[.int .i64 0, .int .i64 0, .int .i64 0, .int .i64 0, .string ⟨#[]⟩, .bool false, .int .i64 0, .int .i64 0, .string ⟨#[]⟩, .int .i64 0, .string ⟨#[]⟩, .int .i64 0, .int .i64 0, .bool false, .bool false, .string ⟨#[]⟩, .int .i64 0, .int .i64 0, .bool false, .bool false] 50 ?_; intro g3 hg_ w2 hb_ hl_; have n13 : g1 ≠ g3 := (by have := blk_lt H1.out; omega); have n31 : g3 ≠ g1 := n13.symm; have z3 : w.heap.size ≤ g3 := hg_ ▸ B1.out.size; have B2 := lh (below_step B1.out hl_); have G1 := lh (blk_below H1.out hl_); have G3 := lh hb_; clear hb_ hl_ hg_ ck_ H1 B1) | ((with_reducible refine gate_ (.store 50 (.tmp 3) (.tmp 7)) rfl ?_); refine sE G3.out 50 (.tmp 3) (.tmp 7) 0 (.agg #[.int .i64 5, .int .i64 0, .int .i64 0, .int .i64 0, .string ⟨#[]⟩, .bool false, .int .i64 0, .int .i64 0, .string ⟨#[]⟩, .int .i64 0, .string ⟨#[]⟩, .int .i64 0, .int .i64 0, .bool false, .bool false, .string ⟨#[]⟩, .int .i64 0, .int .i64 0, .bool false, .bool false]) #[.int .i64 5, .int .i64 0, .int .i64 0, .int .i64 0, .string ⟨#[]⟩, .bool false, .int .i64 0, .int .i64 0, .string ⟨#[]⟩, .int .i64 0, .string ⟨#[]⟩, .int .i64 0, .int .i64 0, .bool false, .bool false, .string ⟨#[]⟩, .int .i64 0, .int .i64 0, .bool false, .bool false] ?_; intro w3 hb_ hp_; have J3 := lh hb_; have J1 := lh (hp_.blk G1.out n13); have B3 := lh (hp_.below w z3 B2.out); clear hb_ hp_ G1 G3 B2; have ck_ : w3.cell? ⟨g1, 0, none⟩ = some (.int .i64 5) := (blk_cell J1.out 0).trans rfl))
 have c7_ : w3.cell? ⟨g1, 7, none⟩ = some (.int .i64 o) := (blk_cell J1.out 7).trans rfl
 go_wp2_with (first | ((with_reducible refine gate_ (.store 3 (.tmp 88) (.tmp 87)) rfl ?_); refine sE J3.out 3 (.tmp 88) (.tmp 87) 7 (.int .i64 o) #[.int .i64 5, .int .i64 0, .int .i64 0, .int .i64 0, .string ⟨#[]⟩, .bool false, .int .i64 0, .int .i64 o, .string ⟨#[]⟩, .int .i64 0, .string ⟨#[]⟩, .int .i64 0, .int .i64 0, .bool false, .bool false, .string ⟨#[]⟩, .int .i64 0, .int .i64 0, .bool false, .bool false] ?_; intro w4 hb_ hp_; have I3 := lh hb_; have I1 := lh (hp_.blk J1.out n13); have B4 := lh (hp_.below w z3 B3.out); clear hb_ hp_ J1 J3 B3 ck_ c7_; have c7_ : w4.cell? ⟨g1, 7, none⟩ = some (.int .i64 o) := (blk_cell I1.out 7).trans rfl))
 by_cases hb : (11 ≤ o ∧ o ≤ 16) ∨ (21 ≤ o ∧ o ≤ 26)
 ·have hf : Nbe.f o = some true := by
   unfold Nbe.f
   by_cases h1 : o ≥ 11 <;> by_cases h2 : o ≤ 16 <;> by_cases h3 : o ≥ 21 <;> simp [h1, h2, h3] <;> omega
  have HC := lh hb
  clear hb
  refine (Nbe.calls o true _ hf).mono ?_
  rintro e w5 ⟨rfl, ⟨q_, rfl⟩⟩
  go_wp2_with (first | ((with_reducible refine gate_dst (N := 115) rfl ?_); refine lA I3.out 50 (.tmp 3) hu50 ?_) | ((with_reducible refine gate_dst (N := 116) rfl ?_); refine lA I1.out 50 (.tmp 1) hu50 ?_))
  ·rename_i hh
   go_ret
   refine ⟨?_, (lh (pw_below_drewN B4.out q_)).out⟩
   have hr : rest5 v0 v1 v2 v3 v4 v5 m ag a0 a1 a2 a3 a4 b0 b1 b2 b3 b4 = false := by unfold rest5; rw [decide_eq_false_iff_not]; intro hz; simp [hz] at hh
   rw [← HR.out]; unfold partsV5; rw [hr]; rfl
  ·rename_i hh
   go_ret
   refine ⟨?_, (lh (pw_below_drewN B4.out q_)).out⟩
   have hr : rest5 v0 v1 v2 v3 v4 v5 m ag a0 a1 a2 a3 a4 b0 b1 b2 b3 b4 = true := by
    unfold rest5
    rw [decide_eq_true_eq]
    simp at hh
    simp only [and_assoc, eq_comm (a := (0 : Int))] at hh
    exact hh
   rw [← HR.out]; unfold partsV5; rw [hr]; simp only [if_true]; rw [if_pos HC.out]; rfl
 ·have hf : Nbe.f o = some false := by
   unfold Nbe.f
   by_cases h1 : o ≥ 11 <;> by_cases h2 : o ≤ 16 <;> by_cases h3 : o ≥ 21 <;> simp [h1, h2, h3] <;> omega
  have HC := lh hb
  clear hb
  refine (Nbe.calls o false _ hf).mono ?_
  rintro e w5 ⟨rfl, ⟨q_, rfl⟩⟩
  go_wp2_with (first | ((with_reducible refine gate_dst (N := 115) rfl ?_); refine lA I3.out 50 (.tmp 3) hu50 ?_) | ((with_reducible refine gate_dst (N := 116) rfl ?_); refine lA I1.out 50 (.tmp 1) hu50 ?_))
  ·rename_i hh
   go_ret
   refine ⟨?_, (lh (pw_below_drewN B4.out q_)).out⟩
   have hr : rest5 v0 v1 v2 v3 v4 v5 m ag a0 a1 a2 a3 a4 b0 b1 b2 b3 b4 = false := by unfold rest5; rw [decide_eq_false_iff_not]; intro hz; simp [hz] at hh
   rw [← HR.out]; unfold partsV5; rw [hr]; rfl
  ·rename_i hh
   go_ret
   refine ⟨?_, (lh (pw_below_drewN B4.out q_)).out⟩
   have hr : rest5 v0 v1 v2 v3 v4 v5 m ag a0 a1 a2 a3 a4 b0 b1 b2 b3 b4 = true := by
    unfold rest5
    rw [decide_eq_true_eq]
    simp at hh
    simp only [and_assoc, eq_comm (a := (0 : Int))] at hh
    exact hh
   rw [← HR.out]; unfold partsV5; rw [hr]; simp only [if_true]; rw [if_neg HC.out]; rfl
def rest2 (v0 : Int) (v1 : Int) (v2 : Int) (v3 : ByteArray) (v4 : Bool) (v5 : Int) (o : Int) (m : ByteArray) (ag : Int) (b0 : ByteArray) (b1 : Int) (b2 : Int) (b3 : Bool) (b4 : Bool) : Bool := decide (v0 = 0 ∧ v1 = 0 ∧ v2 = 0 ∧ v3.toList = [] ∧ v4 = false ∧ v5 = 0 ∧ o = 0 ∧ m.toList = [] ∧ ag = 0 ∧ b0.toList = [] ∧ b1 = 0 ∧ b2 = 0 ∧ b3 = false ∧ b4 = false)
def partsV2 (v0 : Int) (v1 : Int) (v2 : Int) (v3 : ByteArray) (v4 : Bool) (v5 : Int) (o : Int) (m : ByteArray) (ag : Int) (a0 : ByteArray) (a1 : Int) (a2 : Int) (a3 : Bool) (a4 : Bool) (b0 : ByteArray) (b1 : Int) (b2 : Int) (b3 : Bool) (b4 : Bool) (rA rB : Bool) : Int := if rest2 v0 v1 v2 v3 v4 v5 o m ag b0 b1 b2 b3 b4 = true then (if rA = true ∧ rB = true ∧ b0.toList = [] then 0 else -1) else -1
theorem parts_2 (kk : Nat) (rA rB : Bool) (v0 : Int) (v1 : Int) (v2 : Int) (v3 : ByteArray) (v4 : Bool) (v5 : Int) (o : Int) (m : ByteArray) (ag : Int) (a0 : ByteArray) (a1 : Int) (a2 : Int) (a3 : Bool) (a4 : Bool) (b0 : ByteArray) (b1 : Int) (b2 : Int) (b3 : Bool) (b4 : Bool) (w : World) (hA : Ncd.f kk a0 a1 a2 a3 a4 = some rA) (hB : Ncd.f kk b0 b1 b2 b3 b4 = some rB) (r : Int) (hR : partsV2 v0 v1 v2 v3 v4 v5 o m ag a0 a1 a2 a3 a4 b0 b1 b2 b3 b4 rA rB = r) : Calls Tryz.prog 56 #[.agg #[.int .i64 2, .int .i64 v0, .int .i64 v1, .int .i64 v2, .string v3, .bool v4, .int .i64 v5, .int .i64 o, .string m, .int .i64 ag, .string a0, .int .i64 a1, .int .i64 a2, .bool a3, .bool a4, .string b0, .int .i64 b1, .int .i64 b2, .bool b3, .bool b4]] w fun e w' => e = .returned (.int .i64 r) ∧ Below w.heap.size w w' := by
 have HA := lh hA
 have HB := lh hB
 have HR := lh hR
 clear hA hB hR
 have hu50 := Tryz.underlying50
 have hu46 := Tryz.underlying46
 have hu48 := Tryz.underlying48
 go_enter Tryz.func56, Tryz.ntmps56
 go_upto_region 3 with (first | ((with_reducible refine gate_dst (N := 1) rfl ?_); refine bX 1 #[.int .i64 2, .int .i64 v0, .int .i64 v1, .int .i64 v2, .string v3, .bool v4, .int .i64 v5, .int .i64 o, .string m, .int .i64 ag, .string a0, .int .i64 a1, .int .i64 a2, .bool a3, .bool a4, .string b0, .int .i64 b1, .int .i64 b2, .bool b3, .bool b4] 50 ?_; intro g1 hg_ w1 hb_ hl_; have z1 : w.heap.size ≤ g1 := hg_ ▸ Nat.le_refl _; have B1 := lh hl_; have H1 := lh hb_; clear hb_ hl_ hg_; have ck_ : w1.cell? ⟨g1, 0, none⟩ = some (.int .i64 2) := (blk_cell H1.out 0).trans rfl) | ((with_reducible refine gate_dst (N := 3) rfl ?_); refine bX 3 #[.int .i64 0, .int .i64 0, .int .i64 0, .int .i64 0, .string ⟨#[]⟩, .bool false, .int .i64 0, .int .i64 0, .string ⟨#[]⟩, .int .i64 0, .string ⟨#[]⟩, .int .i64 0, .int .i64 0, .bool false, .bool false, .string ⟨#[]⟩, .int .i64 0, .int .i64 0, .bool false, .bool false] 50 ?_; intro g3 hg_ w2 hb_ hl_; have n13 : g1 ≠ g3 := (by have := blk_lt H1.out; omega); have n31 : g3 ≠ g1 := n13.symm; have z3 : w.heap.size ≤ g3 := hg_ ▸ B1.out.size; have B2 := lh (below_step B1.out hl_); have G1 := lh (blk_below H1.out hl_); have G3 := lh hb_; clear hb_ hl_ hg_ ck_ H1 B1) | ((with_reducible refine gate_ (.store 50 (.tmp 3) (.tmp 7)) rfl ?_); refine sE G3.out 50 (.tmp 3) (.tmp 7) 0 (.agg #[.int .i64 2, .int .i64 0, .int .i64 0, .int .i64 0, .string ⟨#[]⟩, .bool false, .int .i64 0, .int .i64 0, .string ⟨#[]⟩, .int .i64 0, .string ⟨#[]⟩, .int .i64 0, .int .i64 0, .bool false, .bool false, .string ⟨#[]⟩, .int .i64 0, .int .i64 0, .bool false, .bool false]) #[.int .i64 2, .int .i64 0, .int .i64 0, .int .i64 0, .string ⟨#[]⟩, .bool false, .int .i64 0, .int .i64 0, .string ⟨#[]⟩, .int .i64 0, .string ⟨#[]⟩, .int .i64 0, .int .i64 0, .bool false, .bool false, .string ⟨#[]⟩, .int .i64 0, .int .i64 0, .bool false, .bool false] ?_; intro w3 hb_ hp_; have J3 := lh hb_; have J1 := lh (hp_.blk G1.out n13); have B3 := lh (hp_.below w z3 B2.out); clear hb_ hp_ G1 G3 B2; have ck_ : w3.cell? ⟨g1, 0, none⟩ = some (.int .i64 2) := (blk_cell J1.out 0).trans rfl))
 go_upto_region 12 with (first | ((with_reducible refine gate_dst (N := 49) rfl ?_); refine Nav rfl (t := 48) (p := .tmp 48) rfl (g := g1) (o' := 10) (e := 50) (cs := [.string a0, .int .i64 a1, .int .i64 a2, .bool a3, .bool a4]) ?ha J1.out ?hc hu48 ?hd ?hi ?_; (case ha => rfl); (case hc => rfl); (case hd => rfl); (case hi => kernel_rfl)) | ((with_reducible refine gate_ (.store 48 (.tmp 50) (.tmp 49)) rfl ?_); refine sE J3.out 48 (.tmp 50) (.tmp 49) 10 (.agg #[.string a0, .int .i64 a1, .int .i64 a2, .bool a3, .bool a4]) #[.int .i64 2, .int .i64 0, .int .i64 0, .int .i64 0, .string ⟨#[]⟩, .bool false, .int .i64 0, .int .i64 0, .string ⟨#[]⟩, .int .i64 0, .string a0, .int .i64 a1, .int .i64 a2, .bool a3, .bool a4, .string ⟨#[]⟩, .int .i64 0, .int .i64 0, .bool false, .bool false] ?_; intro w4 hb_ hp_; have I3 := lh hb_; have I1 := lh (hp_.blk J1.out n13); have B4 := lh (hp_.below w z3 B3.out); clear hb_ hp_ J1 J3 B3 ck_; have ck_ : w4.cell? ⟨g1, 0, none⟩ = some (.int .i64 2) := (blk_cell I1.out 0).trans rfl))
 go_wp2_with (first | ((with_reducible refine gate_dst (N := 58) rfl ?_); refine Nav rfl (t := 48) (p := .tmp 57) rfl (g := g1) (o' := 10) (e := 50) (cs := [.string a0, .int .i64 a1, .int .i64 a2, .bool a3, .bool a4]) ?ha I1.out ?hc hu48 ?hd ?hi ?_; (case ha => rfl); (case hc => rfl); (case hd => rfl); (case hi => kernel_rfl)))
 refine (Ncd.calls kk a0 a1 a2 a3 a4 rA _ HA.out).mono ?_
 rintro e w6 ⟨rfl, hl_⟩
 have X1 := lh (blk_below I1.out hl_)
 have X3 := lh (blk_below I3.out hl_)
 have B6 := lh (below_step B4.out hl_)
 clear hl_ I1 I3 B4 ck_
 have c15 : w6.cell? ⟨g1, 15, none⟩ = some (.string b0) := (blk_cell X1.out 15).trans rfl
 have c16 : w6.cell? ⟨g1, 16, none⟩ = some (.int .i64 b1) := (blk_cell X1.out 16).trans rfl
 have c17 : w6.cell? ⟨g1, 17, none⟩ = some (.int .i64 b2) := (blk_cell X1.out 17).trans rfl
 have c18 : w6.cell? ⟨g1, 18, none⟩ = some (.bool b3) := (blk_cell X1.out 18).trans rfl
 have c19 : w6.cell? ⟨g1, 19, none⟩ = some (.bool b4) := (blk_cell X1.out 19).trans rfl
 cases rA with
 | false =>
  go_wp2_with (first | ((with_reducible refine gate_dst (N := 115) rfl ?_); refine lA X3.out 50 (.tmp 3) hu50 ?_) | ((with_reducible refine gate_dst (N := 116) rfl ?_); refine lA X1.out 50 (.tmp 1) hu50 ?_))
  ·rename_i hh
   go_ret
   refine ⟨?_, B6.out⟩
   have hr : rest2 v0 v1 v2 v3 v4 v5 o m ag b0 b1 b2 b3 b4 = false := by unfold rest2; rw [decide_eq_false_iff_not]; intro hz; simp [hz] at hh
   rw [← HR.out]; unfold partsV2; rw [hr]; rfl
  ·rename_i hh
   go_ret
   refine ⟨?_, B6.out⟩
   have hr : rest2 v0 v1 v2 v3 v4 v5 o m ag b0 b1 b2 b3 b4 = true := by
    unfold rest2
    rw [decide_eq_true_eq]
    simp at hh
    simp only [and_assoc, eq_comm (a := (0 : Int))] at hh
    exact hh
   rw [← HR.out]; unfold partsV2; rw [hr]; simp
 | true =>
  go_wp2_with (fail "")
  refine (Ncd.calls kk b0 b1 b2 b3 b4 rB _ HB.out).mono ?_
  rintro e w7 ⟨rfl, hl_⟩
  have Y1 := lh (blk_below X1.out hl_)
  have Y3 := lh (blk_below X3.out hl_)
  have B7 := lh (below_step B6.out hl_)
  clear hl_ X1 X3 B6 c15 c16 c17 c18 c19
  have c15 : w7.cell? ⟨g1, 15, none⟩ = some (.string b0) := (blk_cell Y1.out 15).trans rfl
  cases rB with
  | false =>
   go_wp2_with (first | ((with_reducible refine gate_dst (N := 115) rfl ?_); refine lA Y3.out 50 (.tmp 3) hu50 ?_) | ((with_reducible refine gate_dst (N := 116) rfl ?_); refine lA Y1.out 50 (.tmp 1) hu50 ?_))
   ·rename_i hh
    go_ret
    refine ⟨?_, B7.out⟩
    have hr : rest2 v0 v1 v2 v3 v4 v5 o m ag b0 b1 b2 b3 b4 = false := by unfold rest2; rw [decide_eq_false_iff_not]; intro hz; simp [hz] at hh
    rw [← HR.out]; unfold partsV2; rw [hr]; rfl
   ·rename_i hh
    go_ret
    refine ⟨?_, B7.out⟩
    have hr : rest2 v0 v1 v2 v3 v4 v5 o m ag b0 b1 b2 b3 b4 = true := by
     unfold rest2
     rw [decide_eq_true_eq]
     simp at hh
     simp only [and_assoc, eq_comm (a := (0 : Int))] at hh
     exact hh
    rw [← HR.out]; unfold partsV2; rw [hr]; simp
  | true =>
   cases hz : b0.toList.isEmpty
   ·have hbne : ¬ b0.toList = [] := by intro h; rw [h] at hz; cases hz
    have HN := lh hbne
    clear hbne
    go_wp2_with (first | ((with_reducible refine gate_dst (N := 115) rfl ?_); refine lA Y3.out 50 (.tmp 3) hu50 ?_) | ((with_reducible refine gate_dst (N := 116) rfl ?_); refine lA Y1.out 50 (.tmp 1) hu50 ?_))
    all_goals (go_ret; refine ⟨?_, B7.out⟩; rw [← HR.out]; simp [partsV2, HN.out])
   ·have hb0 : b0.toList = [] := List.isEmpty_iff.1 hz
    have HZ := lh hb0
    clear hb0
    go_wp2_with (first | ((with_reducible refine gate_dst (N := 115) rfl ?_); refine lA Y3.out 50 (.tmp 3) hu50 ?_) | ((with_reducible refine gate_dst (N := 116) rfl ?_); refine lA Y1.out 50 (.tmp 1) hu50 ?_))
    ·rename_i hh
     go_ret
     refine ⟨?_, B7.out⟩
     have hr : rest2 v0 v1 v2 v3 v4 v5 o m ag b0 b1 b2 b3 b4 = false := by unfold rest2; rw [decide_eq_false_iff_not]; intro hz; simp [hz] at hh
     rw [← HR.out]; unfold partsV2; rw [hr]; rfl
    ·rename_i hh
     go_ret
     refine ⟨?_, B7.out⟩
     have hr : rest2 v0 v1 v2 v3 v4 v5 o m ag b0 b1 b2 b3 b4 = true := by
      unfold rest2
      rw [decide_eq_true_eq]
      simp at hh
      simp only [and_assoc, eq_comm (a := (0 : Int))] at hh
      simp only [eq_true HZ.out, true_and, and_true]; exact hh
     rw [← HR.out]; unfold partsV2; rw [hr]; simp [HZ.out]
def rest3 (v0 : Int) (v1 : Int) (v2 : Int) (v3 : ByteArray) (v4 : Bool) (v5 : Int) (o : Int) (m : ByteArray) (ag : Int) : Bool := decide (v0 = 0 ∧ v1 = 0 ∧ v2 = 0 ∧ v3.toList = [] ∧ v4 = false ∧ v5 = 0 ∧ o = 0 ∧ m.toList = [] ∧ ag = 0)
def partsV3 (v0 : Int) (v1 : Int) (v2 : Int) (v3 : ByteArray) (v4 : Bool) (v5 : Int) (o : Int) (m : ByteArray) (ag : Int) (a0 : ByteArray) (a1 : Int) (a2 : Int) (a3 : Bool) (a4 : Bool) (b0 : ByteArray) (b1 : Int) (b2 : Int) (b3 : Bool) (b4 : Bool) (rA rB : Bool) : Int := if rest3 v0 v1 v2 v3 v4 v5 o m ag = true then (if rA = true ∧ rB = true ∧ b0.toList = [] then 0 else -1) else -1
theorem parts_3 (kk : Nat) (rA rB : Bool) (v0 : Int) (v1 : Int) (v2 : Int) (v3 : ByteArray) (v4 : Bool) (v5 : Int) (o : Int) (m : ByteArray) (ag : Int) (a0 : ByteArray) (a1 : Int) (a2 : Int) (a3 : Bool) (a4 : Bool) (b0 : ByteArray) (b1 : Int) (b2 : Int) (b3 : Bool) (b4 : Bool) (w : World) (hA : Ncd.f kk a0 a1 a2 a3 a4 = some rA) (hB : Ncd.f kk b0 b1 b2 b3 b4 = some rB) (r : Int) (hR : partsV3 v0 v1 v2 v3 v4 v5 o m ag a0 a1 a2 a3 a4 b0 b1 b2 b3 b4 rA rB = r) : Calls Tryz.prog 56 #[.agg #[.int .i64 3, .int .i64 v0, .int .i64 v1, .int .i64 v2, .string v3, .bool v4, .int .i64 v5, .int .i64 o, .string m, .int .i64 ag, .string a0, .int .i64 a1, .int .i64 a2, .bool a3, .bool a4, .string b0, .int .i64 b1, .int .i64 b2, .bool b3, .bool b4]] w fun e w' => e = .returned (.int .i64 r) ∧ Below w.heap.size w w' := by
 have HA := lh hA
 have HB := lh hB
 have HR := lh hR
 clear hA hB hR
 have hu50 := Tryz.underlying50
 have hu46 := Tryz.underlying46
 have hu48 := Tryz.underlying48
 go_enter Tryz.func56, Tryz.ntmps56
 go_upto_region 3 with (first | ((with_reducible refine gate_dst (N := 1) rfl ?_); refine bX 1 #[.int .i64 3, .int .i64 v0, .int .i64 v1, .int .i64 v2, .string v3, .bool v4, .int .i64 v5, .int .i64 o, .string m, .int .i64 ag, .string a0, .int .i64 a1, .int .i64 a2, .bool a3, .bool a4, .string b0, .int .i64 b1, .int .i64 b2, .bool b3, .bool b4] 50 ?_; intro g1 hg_ w1 hb_ hl_; have z1 : w.heap.size ≤ g1 := hg_ ▸ Nat.le_refl _; have B1 := lh hl_; have H1 := lh hb_; clear hb_ hl_ hg_; have ck_ : w1.cell? ⟨g1, 0, none⟩ = some (.int .i64 3) := (blk_cell H1.out 0).trans rfl) | ((with_reducible refine gate_dst (N := 3) rfl ?_); refine bX 3 #[.int .i64 0, .int .i64 0, .int .i64 0, .int .i64 0, .string ⟨#[]⟩, .bool false, .int .i64 0, .int .i64 0, .string ⟨#[]⟩, .int .i64 0, .string ⟨#[]⟩, .int .i64 0, .int .i64 0, .bool false, .bool false, .string ⟨#[]⟩, .int .i64 0, .int .i64 0, .bool false, .bool false] 50 ?_; intro g3 hg_ w2 hb_ hl_; have n13 : g1 ≠ g3 := (by have := blk_lt H1.out; omega); have n31 : g3 ≠ g1 := n13.symm; have z3 : w.heap.size ≤ g3 := hg_ ▸ B1.out.size; have B2 := lh (below_step B1.out hl_); have G1 := lh (blk_below H1.out hl_); have G3 := lh hb_; clear hb_ hl_ hg_ ck_ H1 B1) | ((with_reducible refine gate_ (.store 50 (.tmp 3) (.tmp 7)) rfl ?_); refine sE G3.out 50 (.tmp 3) (.tmp 7) 0 (.agg #[.int .i64 3, .int .i64 0, .int .i64 0, .int .i64 0, .string ⟨#[]⟩, .bool false, .int .i64 0, .int .i64 0, .string ⟨#[]⟩, .int .i64 0, .string ⟨#[]⟩, .int .i64 0, .int .i64 0, .bool false, .bool false, .string ⟨#[]⟩, .int .i64 0, .int .i64 0, .bool false, .bool false]) #[.int .i64 3, .int .i64 0, .int .i64 0, .int .i64 0, .string ⟨#[]⟩, .bool false, .int .i64 0, .int .i64 0, .string ⟨#[]⟩, .int .i64 0, .string ⟨#[]⟩, .int .i64 0, .int .i64 0, .bool false, .bool false, .string ⟨#[]⟩, .int .i64 0, .int .i64 0, .bool false, .bool false] ?_; intro w3 hb_ hp_; have J3 := lh hb_; have J1 := lh (hp_.blk G1.out n13); have B3 := lh (hp_.below w z3 B2.out); clear hb_ hp_ G1 G3 B2; have ck_ : w3.cell? ⟨g1, 0, none⟩ = some (.int .i64 3) := (blk_cell J1.out 0).trans rfl))
 go_upto_region 12 with (first | ((with_reducible refine gate_dst (N := 49) rfl ?_); refine Nav rfl (t := 48) (p := .tmp 48) rfl (g := g1) (o' := 10) (e := 50) (cs := [.string a0, .int .i64 a1, .int .i64 a2, .bool a3, .bool a4]) ?ha J1.out ?hc hu48 ?hd ?hi ?_; (case ha => rfl); (case hc => rfl); (case hd => rfl); (case hi => kernel_rfl)) | ((with_reducible refine gate_ (.store 48 (.tmp 50) (.tmp 49)) rfl ?_); refine sE J3.out 48 (.tmp 50) (.tmp 49) 10 (.agg #[.string a0, .int .i64 a1, .int .i64 a2, .bool a3, .bool a4]) #[.int .i64 3, .int .i64 0, .int .i64 0, .int .i64 0, .string ⟨#[]⟩, .bool false, .int .i64 0, .int .i64 0, .string ⟨#[]⟩, .int .i64 0, .string a0, .int .i64 a1, .int .i64 a2, .bool a3, .bool a4, .string ⟨#[]⟩, .int .i64 0, .int .i64 0, .bool false, .bool false] ?_; intro w4 hb_ hp_; have I3 := lh hb_; have I1 := lh (hp_.blk J1.out n13); have B4 := lh (hp_.below w z3 B3.out); clear hb_ hp_ J1 J3 B3 ck_; have ck_ : w4.cell? ⟨g1, 0, none⟩ = some (.int .i64 3) := (blk_cell I1.out 0).trans rfl) | ((with_reducible refine gate_dst (N := 55) rfl ?_); refine Nav rfl (t := 48) (p := .tmp 54) rfl (g := g1) (o' := 15) (e := 50) (cs := [.string b0, .int .i64 b1, .int .i64 b2, .bool b3, .bool b4]) ?ha I1.out ?hc hu48 ?hd ?hi ?_; (case ha => rfl); (case hc => rfl); (case hd => rfl); (case hi => kernel_rfl)) | ((with_reducible refine gate_ (.store 48 (.tmp 56) (.tmp 55)) rfl ?_); refine sE I3.out 48 (.tmp 56) (.tmp 55) 15 (.agg #[.string b0, .int .i64 b1, .int .i64 b2, .bool b3, .bool b4]) #[.int .i64 3, .int .i64 0, .int .i64 0, .int .i64 0, .string ⟨#[]⟩, .bool false, .int .i64 0, .int .i64 0, .string ⟨#[]⟩, .int .i64 0, .string a0, .int .i64 a1, .int .i64 a2, .bool a3, .bool a4, .string b0, .int .i64 b1, .int .i64 b2, .bool b3, .bool b4] ?_; intro w5 hb_ hp_; have K3 := lh hb_; have K1 := lh (hp_.blk I1.out n13); have B5 := lh (hp_.below w z3 B4.out); clear hb_ hp_ I1 I3 B4 ck_))
 go_wp2_with (first | ((with_reducible refine gate_dst (N := 58) rfl ?_); refine Nav rfl (t := 48) (p := .tmp 57) rfl (g := g1) (o' := 10) (e := 50) (cs := [.string a0, .int .i64 a1, .int .i64 a2, .bool a3, .bool a4]) ?ha K1.out ?hc hu48 ?hd ?hi ?_; (case ha => rfl); (case hc => rfl); (case hd => rfl); (case hi => kernel_rfl)))
 refine (Ncd.calls kk a0 a1 a2 a3 a4 rA _ HA.out).mono ?_
 rintro e w6 ⟨rfl, hl_⟩
 have X1 := lh (blk_below K1.out hl_)
 have X3 := lh (blk_below K3.out hl_)
 have B6 := lh (below_step B5.out hl_)
 clear hl_ K1 K3 B5
 have c15 : w6.cell? ⟨g1, 15, none⟩ = some (.string b0) := (blk_cell X1.out 15).trans rfl
 have c16 : w6.cell? ⟨g1, 16, none⟩ = some (.int .i64 b1) := (blk_cell X1.out 16).trans rfl
 have c17 : w6.cell? ⟨g1, 17, none⟩ = some (.int .i64 b2) := (blk_cell X1.out 17).trans rfl
 have c18 : w6.cell? ⟨g1, 18, none⟩ = some (.bool b3) := (blk_cell X1.out 18).trans rfl
 have c19 : w6.cell? ⟨g1, 19, none⟩ = some (.bool b4) := (blk_cell X1.out 19).trans rfl
 cases rA with
 | false =>
  go_wp2_with (first | ((with_reducible refine gate_dst (N := 115) rfl ?_); refine lA X3.out 50 (.tmp 3) hu50 ?_) | ((with_reducible refine gate_dst (N := 116) rfl ?_); refine lA X1.out 50 (.tmp 1) hu50 ?_))
  ·rename_i hh
   go_ret
   refine ⟨?_, B6.out⟩
   have hr : rest3 v0 v1 v2 v3 v4 v5 o m ag = false := by unfold rest3; rw [decide_eq_false_iff_not]; intro hz; simp [hz] at hh
   rw [← HR.out]; unfold partsV3; rw [hr]; rfl
  ·rename_i hh
   go_ret
   refine ⟨?_, B6.out⟩
   have hr : rest3 v0 v1 v2 v3 v4 v5 o m ag = true := by
    unfold rest3
    rw [decide_eq_true_eq]
    simp at hh
    simp only [and_assoc, eq_comm (a := (0 : Int))] at hh
    exact hh
   rw [← HR.out]; unfold partsV3; rw [hr]; simp
 | true =>
  go_wp2_with (fail "")
  refine (Ncd.calls kk b0 b1 b2 b3 b4 rB _ HB.out).mono ?_
  rintro e w7 ⟨rfl, hl_⟩
  have Y1 := lh (blk_below X1.out hl_)
  have Y3 := lh (blk_below X3.out hl_)
  have B7 := lh (below_step B6.out hl_)
  clear hl_ X1 X3 B6 c15 c16 c17 c18 c19
  have c15 : w7.cell? ⟨g1, 15, none⟩ = some (.string b0) := (blk_cell Y1.out 15).trans rfl
  cases rB with
  | false =>
   go_wp2_with (first | ((with_reducible refine gate_dst (N := 115) rfl ?_); refine lA Y3.out 50 (.tmp 3) hu50 ?_) | ((with_reducible refine gate_dst (N := 116) rfl ?_); refine lA Y1.out 50 (.tmp 1) hu50 ?_))
   ·rename_i hh
    go_ret
    refine ⟨?_, B7.out⟩
    have hr : rest3 v0 v1 v2 v3 v4 v5 o m ag = false := by unfold rest3; rw [decide_eq_false_iff_not]; intro hz; simp [hz] at hh
    rw [← HR.out]; unfold partsV3; rw [hr]; rfl
   ·rename_i hh
    go_ret
    refine ⟨?_, B7.out⟩
    have hr : rest3 v0 v1 v2 v3 v4 v5 o m ag = true := by
     unfold rest3
     rw [decide_eq_true_eq]
     simp at hh
     simp only [and_assoc, eq_comm (a := (0 : Int))] at hh
     exact hh
    rw [← HR.out]; unfold partsV3; rw [hr]; simp
  | true =>
   cases hz : b0.toList.isEmpty
   ·have hbne : ¬ b0.toList = [] := by intro h; rw [h] at hz; cases hz
    have HN := lh hbne
    clear hbne
    go_wp2_with (first | ((with_reducible refine gate_dst (N := 115) rfl ?_); refine lA Y3.out 50 (.tmp 3) hu50 ?_) | ((with_reducible refine gate_dst (N := 116) rfl ?_); refine lA Y1.out 50 (.tmp 1) hu50 ?_))
    all_goals (go_ret; refine ⟨?_, B7.out⟩; rw [← HR.out]; simp [partsV3, HN.out])
   ·have hb0 : b0.toList = [] := List.isEmpty_iff.1 hz
    have HZ := lh hb0
    clear hb0
    go_wp2_with (first | ((with_reducible refine gate_dst (N := 115) rfl ?_); refine lA Y3.out 50 (.tmp 3) hu50 ?_) | ((with_reducible refine gate_dst (N := 116) rfl ?_); refine lA Y1.out 50 (.tmp 1) hu50 ?_))
    ·rename_i hh
     go_ret
     refine ⟨?_, B7.out⟩
     have hr : rest3 v0 v1 v2 v3 v4 v5 o m ag = false := by unfold rest3; rw [decide_eq_false_iff_not]; intro hz; simp [hz] at hh
     rw [← HR.out]; unfold partsV3; rw [hr]; rfl
    ·rename_i hh
     go_ret
     refine ⟨?_, B7.out⟩
     have hr : rest3 v0 v1 v2 v3 v4 v5 o m ag = true := by
      unfold rest3
      rw [decide_eq_true_eq]
      simp at hh
      simp only [and_assoc, eq_comm (a := (0 : Int))] at hh
      exact hh
     rw [← HR.out]; unfold partsV3; rw [hr]; simp [HZ.out]
def rest6 (v0 : Int) (v1 : Int) (v2 : Int) (v3 : ByteArray) (v4 : Bool) (v5 : Int) (o : Int) (a0 : ByteArray) (a1 : Int) (a2 : Int) (a3 : Bool) (a4 : Bool) (b0 : ByteArray) (b1 : Int) (b2 : Int) (b3 : Bool) (b4 : Bool) : Bool := decide (v0 = 0 ∧ v1 = 0 ∧ v2 = 0 ∧ v3.toList = [] ∧ v4 = false ∧ v5 = 0 ∧ o = 0 ∧ a0.toList = [] ∧ a1 = 0 ∧ a2 = 0 ∧ a3 = false ∧ a4 = false ∧ b0.toList = [] ∧ b1 = 0 ∧ b2 = 0 ∧ b3 = false ∧ b4 = false)
def partsV6 (v0 : Int) (v1 : Int) (v2 : Int) (v3 : ByteArray) (v4 : Bool) (v5 : Int) (o : Int) (m : ByteArray) (ag : Int) (a0 : ByteArray) (a1 : Int) (a2 : Int) (a3 : Bool) (a4 : Bool) (b0 : ByteArray) (b1 : Int) (b2 : Int) (b3 : Bool) (b4 : Bool) (rF : Bool) : Int := if rest6 v0 v1 v2 v3 v4 v5 o a0 a1 a2 a3 a4 b0 b1 b2 b3 b4 = true then (if rF = true ∧ 0 ≤ ag ∧ ag ≤ 30 then ag else -1) else -1
theorem parts_6 (rF : Bool) (v0 : Int) (v1 : Int) (v2 : Int) (v3 : ByteArray) (v4 : Bool) (v5 : Int) (o : Int) (m : ByteArray) (ag : Int) (a0 : ByteArray) (a1 : Int) (a2 : Int) (a3 : Bool) (a4 : Bool) (b0 : ByteArray) (b1 : Int) (b2 : Int) (b3 : Bool) (b4 : Bool) (w : World) (hF : Nce.f m = some rF) (r : Int) (hR : partsV6 v0 v1 v2 v3 v4 v5 o m ag a0 a1 a2 a3 a4 b0 b1 b2 b3 b4 rF = r) : Calls Tryz.prog 56 #[.agg #[.int .i64 6, .int .i64 v0, .int .i64 v1, .int .i64 v2, .string v3, .bool v4, .int .i64 v5, .int .i64 o, .string m, .int .i64 ag, .string a0, .int .i64 a1, .int .i64 a2, .bool a3, .bool a4, .string b0, .int .i64 b1, .int .i64 b2, .bool b3, .bool b4]] w fun e w' => e = .returned (.int .i64 r) ∧ Below w.heap.size w w' := by
 have HF := lh hF
 have HR := lh hR
 clear hF hR
 have hu50 := Tryz.underlying50
 have hu46 := Tryz.underlying46
 have hu48 := Tryz.underlying48
 go_enter Tryz.func56, Tryz.ntmps56
 go_upto_region 3 with (first | ((with_reducible refine gate_dst (N := 1) rfl ?_); refine bX 1 #[.int .i64 6, .int .i64 v0, .int .i64 v1, .int .i64 v2, .string v3, .bool v4, .int .i64 v5, .int .i64 o, .string m, .int .i64 ag, .string a0, .int .i64 a1, .int .i64 a2, .bool a3, .bool a4, .string b0, .int .i64 b1, .int .i64 b2, .bool b3, .bool b4] 50 ?_; intro g1 hg_ w1 hb_ hl_; have z1 : w.heap.size ≤ g1 := hg_ ▸ Nat.le_refl _; have B1 := lh hl_; have H1 := lh hb_; clear hb_ hl_ hg_; have ck_ : w1.cell? ⟨g1, 0, none⟩ = some (.int .i64 6) := (blk_cell H1.out 0).trans rfl) | ((with_reducible refine gate_dst (N := 3) rfl ?_); refine bX 3 #[.int .i64 0, .int .i64 0, .int .i64 0, .int .i64 0, .string ⟨#[]⟩, .bool false, .int .i64 0, .int .i64 0, .string ⟨#[]⟩, .int .i64 0, .string ⟨#[]⟩, .int .i64 0, .int .i64 0, .bool false, .bool false, .string ⟨#[]⟩, .int .i64 0, .int .i64 0, .bool false, .bool false] 50 ?_; intro g3 hg_ w2 hb_ hl_; have n13 : g1 ≠ g3 := (by have := blk_lt H1.out; omega); have n31 : g3 ≠ g1 := n13.symm; have z3 : w.heap.size ≤ g3 := hg_ ▸ B1.out.size; have B2 := lh (below_step B1.out hl_); have G1 := lh (blk_below H1.out hl_); have G3 := lh hb_; clear hb_ hl_ hg_ ck_ H1 B1) | ((with_reducible refine gate_ (.store 50 (.tmp 3) (.tmp 7)) rfl ?_); refine sE G3.out 50 (.tmp 3) (.tmp 7) 0 (.agg #[.int .i64 6, .int .i64 0, .int .i64 0, .int .i64 0, .string ⟨#[]⟩, .bool false, .int .i64 0, .int .i64 0, .string ⟨#[]⟩, .int .i64 0, .string ⟨#[]⟩, .int .i64 0, .int .i64 0, .bool false, .bool false, .string ⟨#[]⟩, .int .i64 0, .int .i64 0, .bool false, .bool false]) #[.int .i64 6, .int .i64 0, .int .i64 0, .int .i64 0, .string ⟨#[]⟩, .bool false, .int .i64 0, .int .i64 0, .string ⟨#[]⟩, .int .i64 0, .string ⟨#[]⟩, .int .i64 0, .int .i64 0, .bool false, .bool false, .string ⟨#[]⟩, .int .i64 0, .int .i64 0, .bool false, .bool false] ?_; intro w3 hb_ hp_; have J3 := lh hb_; have J1 := lh (hp_.blk G1.out n13); have B3 := lh (hp_.below w z3 B2.out); clear hb_ hp_ G1 G3 B2; have ck_ : w3.cell? ⟨g1, 0, none⟩ = some (.int .i64 6) := (blk_cell J1.out 0).trans rfl))
 go_upto_region 23 with (fail)
 have D1 := lh J1.out
 have D3 := lh J3.out
 have B4 := lh B3.out
 clear J1 J3 B3 ck_
 have c8 : w3.cell? ⟨g1, 8, none⟩ = some (.string m) := (blk_cell D1.out 8).trans rfl
 have c9 : w3.cell? ⟨g1, 9, none⟩ = some (.int .i64 ag) := (blk_cell D1.out 9).trans rfl
 have f8 := blk_frozen D3.out 8
 have f9 := blk_frozen D3.out 9
 have q8 : w3.cell? ⟨g3, 8, none⟩ = some (.string ⟨#[]⟩) := (blk_cell D3.out 8).trans rfl
 have q9 : w3.cell? ⟨g3, 9, none⟩ = some (.int .i64 0) := (blk_cell D3.out 9).trans rfl
 go_region_with (fail)
 all_goals
  clear c8 c9 f8 f9 q8 q9
  obtain ⟨w5, hw_⟩ : ∃ x_ : World, x_ = ((w3.setCell ⟨g3, 8, none⟩ (.string m)).setCell ⟨g3, 9, none⟩ (.int .i64 ag)) := ⟨_, rfl⟩
  rw [← hw_]
  have s0_ := blk_put (cs' := #[.int .i64 6, .int .i64 0, .int .i64 0, .int .i64 0, .string ⟨#[]⟩, .bool false, .int .i64 0, .int .i64 0, .string m, .int .i64 0, .string ⟨#[]⟩, .int .i64 0, .int .i64 0, .bool false, .bool false, .string ⟨#[]⟩, .int .i64 0, .int .i64 0, .bool false, .bool false]) D3.out 8 (.string m) rfl
  have s1_ := blk_put (cs' := #[.int .i64 6, .int .i64 0, .int .i64 0, .int .i64 0, .string ⟨#[]⟩, .bool false, .int .i64 0, .int .i64 0, .string m, .int .i64 ag, .string ⟨#[]⟩, .int .i64 0, .int .i64 0, .bool false, .bool false, .string ⟨#[]⟩, .int .i64 0, .int .i64 0, .bool false, .bool false]) s0_ 9 (.int .i64 ag) rfl
  have I3 := lh (show w5.heap[g3]? = some (.cells #[.int .i64 6, .int .i64 0, .int .i64 0, .int .i64 0, .string ⟨#[]⟩, .bool false, .int .i64 0, .int .i64 0, .string m, .int .i64 ag, .string ⟨#[]⟩, .int .i64 0, .int .i64 0, .bool false, .bool false, .string ⟨#[]⟩, .int .i64 0, .int .i64 0, .bool false, .bool false] 50 (0, 0)) by rw [hw_]; exact s1_)
  have I1 := lh (show w5.heap[g1]? = some (.cells #[.int .i64 6, .int .i64 v0, .int .i64 v1, .int .i64 v2, .string v3, .bool v4, .int .i64 v5, .int .i64 o, .string m, .int .i64 ag, .string a0, .int .i64 a1, .int .i64 a2, .bool a3, .bool a4, .string b0, .int .i64 b1, .int .i64 b2, .bool b3, .bool b4] 50 (0, 0)) by rw [hw_]; exact (blk_far (blk_far D1.out n13 _) n13 _))
  have B6 := lh (show Below w.heap.size w w5 by rw [hw_]; exact ((B4.out.setCell z3 _).setCell z3 _))
  clear hw_ s0_ s1_
  clear D1 D3 B4
  have L1 := lh (blk_drew I1.out)
  have L3 := lh (blk_drew I3.out)
  have C6 := lh (pw_below_drewN B6.out 1)
  clear I1 I3 B6
  have c8 : w5.drew.cell? ⟨g1, 8, none⟩ = some (.string m) := (blk_cell L1.out 8).trans rfl
  go_wp2_with (fail)
  refine (Nce.calls m rF _ HF.out).mono ?_
  rintro e w6 ⟨rfl, hl_⟩
  have X1 := lh (blk_below L1.out hl_)
  have X3 := lh (blk_below L3.out hl_)
  have B7 := lh (below_step C6.out hl_)
  clear hl_ L1 L3 C6 c8
  have c9 : w6.cell? ⟨g1, 9, none⟩ = some (.int .i64 ag) := (blk_cell X1.out 9).trans rfl
  cases rF with
  | false =>
   go_wp2_with (first | ((with_reducible refine gate_dst (N := 115) rfl ?_); refine lA X3.out 50 (.tmp 3) hu50 ?_) | ((with_reducible refine gate_dst (N := 116) rfl ?_); refine lA X1.out 50 (.tmp 1) hu50 ?_))
   ·rename_i hh
    go_ret
    refine ⟨?_, B7.out⟩
    have hr : rest6 v0 v1 v2 v3 v4 v5 o a0 a1 a2 a3 a4 b0 b1 b2 b3 b4 = false := by unfold rest6; rw [decide_eq_false_iff_not]; intro hz; simp [hz] at hh
    rw [← HR.out]; unfold partsV6; rw [hr]; rfl
   ·rename_i hh
    go_ret
    refine ⟨?_, B7.out⟩
    have hr : rest6 v0 v1 v2 v3 v4 v5 o a0 a1 a2 a3 a4 b0 b1 b2 b3 b4 = true := by
     unfold rest6
     rw [decide_eq_true_eq]
     simp at hh
     simp only [and_assoc, eq_comm (a := (0 : Int))] at hh
     exact hh
    rw [← HR.out]; unfold partsV6; rw [hr]; simp
  | true =>
   by_cases h1 : 0 ≤ ag
   ·have d1 : decide (0 ≤ ag) = true := decide_eq_true h1
    by_cases h2 : ag ≤ 30
    ·have d2 : decide (ag ≤ 30) = true := decide_eq_true h2
     have HC := lh (show True ∧ 0 ≤ ag ∧ ag ≤ 30 from ⟨trivial, h1, h2⟩)
     clear h1 h2
     go_wp2_with (first | ((with_reducible refine gate_dst (N := 115) rfl ?_); refine lA X3.out 50 (.tmp 3) hu50 ?_) | ((with_reducible refine gate_dst (N := 116) rfl ?_); refine lA X1.out 50 (.tmp 1) hu50 ?_))
     ·rename_i hh
      go_ret
      refine ⟨?_, B7.out⟩
      have hr : rest6 v0 v1 v2 v3 v4 v5 o a0 a1 a2 a3 a4 b0 b1 b2 b3 b4 = false := by unfold rest6; rw [decide_eq_false_iff_not]; intro hz; simp [hz] at hh
      rw [← HR.out]; unfold partsV6; rw [hr]; rfl
     ·rename_i hh
      go_ret
      refine ⟨?_, B7.out⟩
      have hr : rest6 v0 v1 v2 v3 v4 v5 o a0 a1 a2 a3 a4 b0 b1 b2 b3 b4 = true := by
       unfold rest6
       rw [decide_eq_true_eq]
       simp at hh
       simp only [and_assoc, eq_comm (a := (0 : Int))] at hh
       exact hh
      rw [← HR.out]; unfold partsV6; rw [hr]; simp only [if_true]; rw [if_pos HC.out]; rfl
    ·have d2 : decide (ag ≤ 30) = false := decide_eq_false h2
     have HC := lh (show ¬ (True ∧ 0 ≤ ag ∧ ag ≤ 30) from fun h => h2 h.2.2)
     clear h1 h2
     go_wp2_with (first | ((with_reducible refine gate_dst (N := 115) rfl ?_); refine lA X3.out 50 (.tmp 3) hu50 ?_) | ((with_reducible refine gate_dst (N := 116) rfl ?_); refine lA X1.out 50 (.tmp 1) hu50 ?_))
     ·rename_i hh
      go_ret
      refine ⟨?_, B7.out⟩
      have hr : rest6 v0 v1 v2 v3 v4 v5 o a0 a1 a2 a3 a4 b0 b1 b2 b3 b4 = false := by unfold rest6; rw [decide_eq_false_iff_not]; intro hz; simp [hz] at hh
      rw [← HR.out]; unfold partsV6; rw [hr]; rfl
     ·rename_i hh
      go_ret
      refine ⟨?_, B7.out⟩
      have hr : rest6 v0 v1 v2 v3 v4 v5 o a0 a1 a2 a3 a4 b0 b1 b2 b3 b4 = true := by
       unfold rest6
       rw [decide_eq_true_eq]
       simp at hh
       simp only [and_assoc, eq_comm (a := (0 : Int))] at hh
       exact hh
      rw [← HR.out]; unfold partsV6; rw [hr]; simp only [if_true]; rw [if_neg HC.out]; rfl
   ·have d1 : decide (0 ≤ ag) = false := decide_eq_false h1
    have HC := lh (show ¬ (True ∧ 0 ≤ ag ∧ ag ≤ 30) from fun h => h1 h.2.1)
    clear h1
    go_wp2_with (first | ((with_reducible refine gate_dst (N := 115) rfl ?_); refine lA X3.out 50 (.tmp 3) hu50 ?_) | ((with_reducible refine gate_dst (N := 116) rfl ?_); refine lA X1.out 50 (.tmp 1) hu50 ?_))
    ·rename_i hh
     go_ret
     refine ⟨?_, B7.out⟩
     have hr : rest6 v0 v1 v2 v3 v4 v5 o a0 a1 a2 a3 a4 b0 b1 b2 b3 b4 = false := by unfold rest6; rw [decide_eq_false_iff_not]; intro hz; simp [hz] at hh
     rw [← HR.out]; unfold partsV6; rw [hr]; rfl
    ·rename_i hh
     go_ret
     refine ⟨?_, B7.out⟩
     have hr : rest6 v0 v1 v2 v3 v4 v5 o a0 a1 a2 a3 a4 b0 b1 b2 b3 b4 = true := by
      unfold rest6
      rw [decide_eq_true_eq]
      simp at hh
      simp only [and_assoc, eq_comm (a := (0 : Int))] at hh
      exact hh
     rw [← HR.out]; unfold partsV6; rw [hr]; simp only [if_true]; rw [if_neg HC.out]; rfl
end
end Go.Proofs.YtejbbceidnaloaaGreatDoor.P
