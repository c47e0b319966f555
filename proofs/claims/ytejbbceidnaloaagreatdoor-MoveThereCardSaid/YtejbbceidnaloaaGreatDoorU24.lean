import Derived.Test.YtejbbceidnaloaaGreatDoorU23
import Derived.Lib.DecodeN
namespace Go.Proofs.YtejbbceidnaloaaGreatDoor.P
open Go.RowKit Go.Proofs.YtejbbceidnaloaaGreatDoorW.PrintWords Go.Proofs.YtejbbceidnaloaaGreatDoorW.PrintLast Go.Proofs.YtejbbceidnaloaaGreatDoorW.PrintMore
set_option linter.unusedVariables false
set_option linter.unusedSimpArgs false
section
attribute [local go_sem] max2_int min2_int max_two min_two max_three min_three max_four min_four
def mcp.f (a0 : ByteArray) (a1 : Int) (a2 : Int) : Option (ByteArray × Int) := (strings_CutPrefix.f a0 (⟨#[61]⟩ : ByteArray)).bind fun bt101 => (if bt101.2 = true then ((Nbg.f bt101.1).bind fun bt103 => (if bt103.2.1 = 0 then ((msh.f bt103.1 a1 a2).bind fun bt108 => ((tree_Print_g.f bt108.1).bind fun bt112 => (if (bt112.1.size : Int) ≥ 1024 then (some ((⟨#[]⟩ : ByteArray), 2)) else (if 1 + bt112.1.size ≤ 9223372036854775807 then (some ((⟨#[61]⟩ : ByteArray) ++ bt112.1, 0)) else (none))))) else (some ((⟨#[]⟩ : ByteArray), bt103.2.1)))) else (some (a0, 0)))
set_option maxHeartbeats 8000000 in
set_option maxRecDepth 100000 in
theorem mcp.calls (a0 : ByteArray) (a1 : Int) (a2 : Int) (r1 : ByteArray) (r2 : Int) (w : World) (hG : GL w) (h : mcp.f a0 a1 a2 = some (r1, r2)) :
 Calls Tryz.prog 41 #[.string a0, .int .i64 a1, .int .i64 a2] w fun e w' => e = .returned (.tuple #[.string r1, .int .i64 r2]) ∧ Below w.heap.size w w' := by
 have HB := aM (Below.refl w.heap.size w)
 have H := h
 unfold mcp.f at H
 clear h
 replace H := Option.bind_eq_some_iff.mp H
 obtain ⟨⟨t101, t102⟩, A40, H⟩ := H
 try dsimp only at H
 have A4 := aM A40
 clear A40
 by_cases c5 : t102 = true
 ·subst c5
  rw [if_pos rfl] at H
  replace H := Option.bind_eq_some_iff.mp H
  obtain ⟨⟨t103, t104, t105⟩, A60, H⟩ := H
  try dsimp only at H
  have A6 := aM A60
  clear A60
  by_cases c7 : t104 = 0
  ·rw [if_pos c7] at H
   obtain ⟨c7b0, c7b1⟩ := bqT c7
   clear c7
   replace H := Option.bind_eq_some_iff.mp H
   obtain ⟨⟨t108, t109⟩, A80, H⟩ := H
   try dsimp only at H
   have A8 := aM A80
   clear A80
   replace H := Option.bind_eq_some_iff.mp H
   obtain ⟨⟨t112, t113⟩, A90, H⟩ := H
   try dsimp only at H
   have A9 := aM A90
   clear A90
   by_cases c10 : (t112.size : Int) ≥ 1024
   ·rw [if_pos c10] at H
    have c10b0 : decide (1024 ≤ (t112.size : Int)) = true := decide_eq_true c10
    have c10b1 : decide (1024 ≤ t112.size) = true := decide_eq_true (by omega)
    clear c10
    simp only [Option.some.injEq, Prod.mk.injEq] at H
    obtain ⟨rfl, rfl⟩ := H
    go_enter Tryz.func41, Tryz.ntmps41
    go_wp2_with (first | ((with_reducible refine gate_callee (f := 64) rfl ?_); refine gL 17 Tryz.func64 #[.string a0, .string (⟨#[61]⟩ : ByteArray)] ?_; (with_reducible refine (strings_CutPrefix.calls a0 (⟨#[61]⟩ : ByteArray) t101 true _ A4.out).mono ?_); rintro e w' ⟨rfl, ⟨nd, rfl⟩⟩; refine ⟨_, rfl, ?_⟩) | ((with_reducible refine gate_callee (f := 21) rfl ?_); refine gL 25 Tryz.func21 #[.string t101] ?_; (with_reducible refine (Nbg.calls t101 t103 t104 t105 _ ?side1 A6.out).mono ?_); (case side1 => exact GL.below hG bE); rintro e w11 ⟨v106, rfl, ho0, hb⟩; refine ⟨_, rfl, ?_⟩; have HO107 := aM (Kd.R_lower ho0 (below_size bE)); replace HB := aM (below_step bE hb); (try clear hb); (try clear ho0); obtain ⟨Ao12, co12, eo12⟩ := Kd.R_slice HO107.out; subst eo12) | ((with_reducible refine gate_callee (f := 37) rfl ?_); refine gL 36 Tryz.func37 #[.slice Ao12 t103.length co12, .int .i64 a1, .int .i64 a2] ?_; (with_reducible refine (msh.calls _ _ t103 a1 a2 t108 t109 _ ?side1 ?side2 A8.out).mono ?_); (case side1 => repeat (first | exact (Kd.R_reads' HO107.out).2.2 | (with_reducible refine Kd.C_alloc ?_ _) | (with_reducible refine Kd.C_drewN ?_ _) | (with_reducible refine Kd.C_drew ?_))); (case side2 => exact (Kd.R_reads' HO107.out).2.1); rintro e w13 ⟨v110, rfl, ho0, hb⟩; refine ⟨_, rfl, ?_⟩; have HO111 := aM (Kd.R_lower (Kd.R_new' ho0 (Kd.R_lt (by (with_reducible repeat (first | apply Kd.R_alloc | apply Kd.R_drewN | apply Kd.R_drew)); exact HO107.out))) (below_size bE)); replace HO107 := aM (Kd.R_elder' (by (with_reducible repeat (first | apply Kd.R_alloc | apply Kd.R_drewN | apply Kd.R_drew)); exact HO107.out) (Kd.R_base ho0) hb); replace HB := aM (below_step bE hb); (try clear hb); (try clear ho0); obtain ⟨Ao14, co14, eo14⟩ := Kd.R_slice HO111.out; subst eo14) | ((with_reducible refine gate_callee (f := 26) rfl ?_); refine gL 41 Tryz.func26 #[.slice Ao14 t108.length co14] ?_; (with_reducible refine (tree_Print_g.calls _ _ t108 t112 t113 _ ?side3 ?side1 ?side2 A9.out).mono ?_); (case side1 => repeat (first | exact (Kd.R_reads' HO111.out).2.2 | (with_reducible refine Kd.C_alloc ?_ _) | (with_reducible refine Kd.C_drewN ?_ _) | (with_reducible refine Kd.C_drew ?_))); (case side2 => exact (Kd.R_reads' HO111.out).2.1); (case side3 => exact GL.below hG bE); rintro e w15 ⟨rfl, hb⟩; refine ⟨_, rfl, ?_⟩; replace HO107 := aM (Kd.R_below (by (with_reducible repeat (first | apply Kd.R_alloc | apply Kd.R_drewN | apply Kd.R_drew)); exact HO107.out) hb); replace HO111 := aM (Kd.R_below (by (with_reducible repeat (first | apply Kd.R_alloc | apply Kd.R_drewN | apply Kd.R_drew)); exact HO111.out) hb); replace HB := aM (below_step bE hb); (try clear hb)))
    go_ret2
    exact ⟨eR, bE⟩
   ·rw [if_neg c10] at H
    have c10b0 : decide (1024 ≤ (t112.size : Int)) = false := decide_eq_false c10
    have c10b1 : decide (1024 ≤ t112.size) = false := decide_eq_false (by omega)
    clear c10
    by_cases c16 : 1 + t112.size ≤ 9223372036854775807
    ·rw [if_pos c16] at H
     have c16b0 := eq_true c16
     have c16b1 : decide (1 + t112.size ≤ 9223372036854775807) = true := decide_eq_true c16
     try have c16b2 : (9223372036854775807 < 1 + t112.size) = False := eq_false (Nat.not_lt.2 c16)
     simp only [Option.some.injEq, Prod.mk.injEq] at H
     obtain ⟨rfl, rfl⟩ := H
     go_enter Tryz.func41, Tryz.ntmps41
     go_wp2_with (first | ((with_reducible refine gate_callee (f := 64) rfl ?_); refine gL 17 Tryz.func64 #[.string a0, .string (⟨#[61]⟩ : ByteArray)] ?_; (with_reducible refine (strings_CutPrefix.calls a0 (⟨#[61]⟩ : ByteArray) t101 true _ A4.out).mono ?_); rintro e w' ⟨rfl, ⟨nd, rfl⟩⟩; refine ⟨_, rfl, ?_⟩) | ((with_reducible refine gate_callee (f := 21) rfl ?_); refine gL 25 Tryz.func21 #[.string t101] ?_; (with_reducible refine (Nbg.calls t101 t103 t104 t105 _ ?side1 A6.out).mono ?_); (case side1 => exact GL.below hG bE); rintro e w17 ⟨v106, rfl, ho0, hb⟩; refine ⟨_, rfl, ?_⟩; have HO107 := aM (Kd.R_lower ho0 (below_size bE)); replace HB := aM (below_step bE hb); (try clear hb); (try clear ho0); obtain ⟨Ao18, co18, eo18⟩ := Kd.R_slice HO107.out; subst eo18) | ((with_reducible refine gate_callee (f := 37) rfl ?_); refine gL 36 Tryz.func37 #[.slice Ao18 t103.length co18, .int .i64 a1, .int .i64 a2] ?_; (with_reducible refine (msh.calls _ _ t103 a1 a2 t108 t109 _ ?side1 ?side2 A8.out).mono ?_); (case side1 => repeat (first | exact (Kd.R_reads' HO107.out).2.2 | (with_reducible refine Kd.C_alloc ?_ _) | (with_reducible refine Kd.C_drewN ?_ _) | (with_reducible refine Kd.C_drew ?_))); (case side2 => exact (Kd.R_reads' HO107.out).2.1); rintro e w19 ⟨v110, rfl, ho0, hb⟩; refine ⟨_, rfl, ?_⟩; have HO111 := aM (Kd.R_lower (Kd.R_new' ho0 (Kd.R_lt (by (with_reducible repeat (first | apply Kd.R_alloc | apply Kd.R_drewN | apply Kd.R_drew)); exact HO107.out))) (below_size bE)); replace HO107 := aM (Kd.R_elder' (by (with_reducible repeat (first | apply Kd.R_alloc | apply Kd.R_drewN | apply Kd.R_drew)); exact HO107.out) (Kd.R_base ho0) hb); replace HB := aM (below_step bE hb); (try clear hb); (try clear ho0); obtain ⟨Ao20, co20, eo20⟩ := Kd.R_slice HO111.out; subst eo20) | ((with_reducible refine gate_callee (f := 26) rfl ?_); refine gL 41 Tryz.func26 #[.slice Ao20 t108.length co20] ?_; (with_reducible refine (tree_Print_g.calls _ _ t108 t112 t113 _ ?side3 ?side1 ?side2 A9.out).mono ?_); (case side1 => repeat (first | exact (Kd.R_reads' HO111.out).2.2 | (with_reducible refine Kd.C_alloc ?_ _) | (with_reducible refine Kd.C_drewN ?_ _) | (with_reducible refine Kd.C_drew ?_))); (case side2 => exact (Kd.R_reads' HO111.out).2.1); (case side3 => exact GL.below hG bE); rintro e w21 ⟨rfl, hb⟩; refine ⟨_, rfl, ?_⟩; replace HO107 := aM (Kd.R_below (by (with_reducible repeat (first | apply Kd.R_alloc | apply Kd.R_drewN | apply Kd.R_drew)); exact HO107.out) hb); replace HO111 := aM (Kd.R_below (by (with_reducible repeat (first | apply Kd.R_alloc | apply Kd.R_drewN | apply Kd.R_drew)); exact HO111.out) hb); replace HB := aM (below_step bE hb); (try clear hb)))
     go_ret2
     exact ⟨eR, bE⟩
    ·rw [if_neg c16] at H
     exact absurd H (by simp)
  ·rw [if_neg c7] at H
   obtain ⟨c7b0, c7b1⟩ := bqF c7
   simp only [Option.some.injEq, Prod.mk.injEq] at H
   obtain ⟨rfl, rfl⟩ := H
   go_enter Tryz.func41, Tryz.ntmps41
   go_wp2_with (first | ((with_reducible refine gate_callee (f := 64) rfl ?_); refine gL 17 Tryz.func64 #[.string a0, .string (⟨#[61]⟩ : ByteArray)] ?_; (with_reducible refine (strings_CutPrefix.calls a0 (⟨#[61]⟩ : ByteArray) t101 true _ A4.out).mono ?_); rintro e w' ⟨rfl, ⟨nd, rfl⟩⟩; refine ⟨_, rfl, ?_⟩) | ((with_reducible refine gate_callee (f := 21) rfl ?_); refine gL 25 Tryz.func21 #[.string t101] ?_; (with_reducible refine (Nbg.calls t101 t103 t104 t105 _ ?side1 A6.out).mono ?_); (case side1 => exact GL.below hG bE); rintro e w22 ⟨v106, rfl, ho0, hb⟩; refine ⟨_, rfl, ?_⟩; have HO107 := aM (Kd.R_lower ho0 (below_size bE)); replace HB := aM (below_step bE hb); (try clear hb); (try clear ho0)))
   go_ret2
   exact ⟨eR, bE⟩
 ·replace c5 := Bool.eq_false_iff.mpr c5
  subst c5
  rw [if_neg Bool.false_ne_true] at H
  simp only [Option.some.injEq, Prod.mk.injEq] at H
  obtain ⟨rfl, rfl⟩ := H
  go_enter Tryz.func41, Tryz.ntmps41
  go_wp2_with (first | ((with_reducible refine gate_callee (f := 64) rfl ?_); refine gL 17 Tryz.func64 #[.string a0, .string (⟨#[61]⟩ : ByteArray)] ?_; (with_reducible refine (strings_CutPrefix.calls a0 (⟨#[61]⟩ : ByteArray) t101 false _ A4.out).mono ?_); rintro e w' ⟨rfl, ⟨nd, rfl⟩⟩; refine ⟨_, rfl, ?_⟩))
  go_ret2
  exact ⟨eR, bE⟩
end
section
attribute [local go_sem] max2_int min2_int max_two min_two max_three min_three max_four min_four
def ab6.f  : Option (Bool) := (mcp.f (⟨#[61, 65, 49]⟩ : ByteArray) 1 0).bind fun bt101 => (if bt101.2 = 0 then (some (bt101.1.toList == ([61, 65, 50] : List UInt8))) else (some false))
set_option maxHeartbeats 8000000 in
set_option maxRecDepth 100000 in
theorem ab6.calls  (r : Bool) (w : World) (hG : GL w) (h : ab6.f  = some r) :
 Calls Tryz.prog 39 #[] w fun e w' => e = .returned (.bool r) ∧ Below w.heap.size w w' := by
 have HB := aM (Below.refl w.heap.size w)
 have H := h
 unfold ab6.f at H
 clear h
 replace H := Option.bind_eq_some_iff.mp H
 obtain ⟨⟨t101, t102⟩, A10, H⟩ := H
 try dsimp only at H
 have A1 := aM A10
 clear A10
 by_cases c2 : t102 = 0
 ·rw [if_pos c2] at H
  obtain ⟨c2b0, c2b1⟩ := bqT c2
  clear c2
  obtain rfl := Option.some.inj H
  go_enter Tryz.func39, Tryz.ntmps39
  go_wp2_with (first | ((with_reducible refine gate_callee (f := 41) rfl ?_); refine gL 4 Tryz.func41 #[.string (⟨#[61, 65, 49]⟩ : ByteArray), .int .i64 1, .int .i64 0] ?_; (with_reducible refine (mcp.calls (⟨#[61, 65, 49]⟩ : ByteArray) 1 0 t101 t102 _ ?side1 A1.out).mono ?_); (case side1 => exact GL.below hG bE); rintro e w3 ⟨rfl, hb⟩; refine ⟨_, rfl, ?_⟩; replace HB := aM (below_step bE hb); (try clear hb)))
  go_ret
  exact ⟨eR, bE⟩
 ·rw [if_neg c2] at H
  obtain ⟨c2b0, c2b1⟩ := bqF c2
  obtain rfl := Option.some.inj H
  go_enter Tryz.func39, Tryz.ntmps39
  go_wp2_with (first | ((with_reducible refine gate_callee (f := 41) rfl ?_); refine gL 4 Tryz.func41 #[.string (⟨#[61, 65, 49]⟩ : ByteArray), .int .i64 1, .int .i64 0] ?_; (with_reducible refine (mcp.calls (⟨#[61, 65, 49]⟩ : ByteArray) 1 0 t101 t102 _ ?side1 A1.out).mono ?_); (case side1 => exact GL.below hG bE); rintro e w4 ⟨rfl, hb⟩; refine ⟨_, rfl, ?_⟩; replace HB := aM (below_step bE hb); (try clear hb)))
  go_ret
  exact ⟨eR, bE⟩
end
theorem quot_at (c : UInt8) (r : List UInt8) (h : (quotL (c :: r)).2.2 ≠ 0) : (quotL (c :: r)).2.1 ≤ (c :: r).length := by
 unfold quotL at h ⊢
 cases hq : qend ((c :: r).drop 1) with
 | none => simp
 | some e =>
  rw [hq] at h
  simp only at h ⊢
  cases hb : badAt ((c :: r).take (e + 2)) with
  | some i =>
   have := badAt_le _ _ hb
   rw [List.length_take] at this
   simp only; omega
  | none => rw [hb] at h; exact absurd rfl h
theorem next_at (c : UInt8) (r : List UInt8) (h : (nextL (c :: r)).2.2.2 ≠ 0) : (nextL (c :: r)).2.2.1 ≤ (c :: r).length := by
 rw [nextL] at h ⊢
 split
 ·exact num_le _
 rename_i hd
 rw [if_neg hd] at h
 split
 ·rename_i h34
  rw [if_pos h34] at h
  exact quot_at c r h
 ·split
  ·exact runL_le _ _
  ·have hpre : ∀ L, (beginsL (c :: r) L).length ≤ (c :: r).length := by
    intro L
    obtain ⟨q, hq⟩ := begins_pre (c :: r) L
    have := congrArg List.length hq
    rw [List.length_append] at this
    omega
   split
   ·split
    ·simp
    ·exact hpre _
   ·split
    ·exact hpre _
    ·split <;> simp
theorem scan_at : ∀ (n : Nat) (l : List UInt8) (k p : Nat) (c q : Int), l.length ≤ n → scanL k p l = .error (c, q) → (p : Int) ≤ q ∧ q ≤ ((p + l.length : Nat) : Int)
 | n, l, 0, p, c, q, hn, h => by cases h
 | n, [], k + 1, p, c, q, hn, h => by cases h
 | 0, d :: r, k + 1, p, c, q, hn, h => by simp at hn
 | n + 1, d :: r, k + 1, p, c, q, hn, h => by
  simp only [List.length_cons] at hn
  rw [scanL] at h
  split at h
  ·have := scan_at n r k (p + 1) c q (by omega) h
   rw [List.length_cons]; omega
  ·split at h
   ·rename_i h0
    have hl := next_len d r h0
    split at h
    ·cases h
    ·rename_i e he
     cases h
     have := scan_at n _ k _ c q (by rw [List.length_drop, List.length_cons]; omega) he
     rw [List.length_drop] at this
     omega
   ·rename_i h0
    have := next_at d r h0
    cases h
    omega
theorem toks_at : ∀ (n : Nat) (l : List UInt8) (k p : Nat) (ts : List S39), l.length ≤ n → scanL k p l = .ok ts → ∀ t ∈ ts, (p : Int) ≤ t.f2 ∧ t.f2 ≤ ((p + l.length : Nat) : Int)
 | n, l, 0, p, ts, hn, h => by cases h; intro t ht; cases ht
 | n, [], k + 1, p, ts, hn, h => by cases h; intro t ht; cases ht
 | 0, c :: r, k + 1, p, ts, hn, h => by simp at hn
 | n + 1, c :: r, k + 1, p, ts, hn, h => by
  simp only [List.length_cons] at hn
  rw [scanL] at h
  split at h
  ·intro t ht
   have := toks_at n r k (p + 1) ts (by omega) h t ht
   rw [List.length_cons]; omega
  ·split at h
   ·rename_i h0
    have hl := next_len c r h0
    split at h
    ·rename_i us hu
     cases h
     intro t ht
     rcases List.mem_cons.1 ht with rfl | ht
     ·show (p : Int) ≤ (p : Int) ∧ (p : Int) ≤ _
      omega
     ·have := toks_at n _ k _ us (by rw [List.length_drop, List.length_cons]; omega) hu t ht
      rw [List.length_drop] at this
      omega
    ·cases h
   ·cases h
theorem fail_at {ts : List S39} {n : Nat} (h : ∀ t ∈ ts, (0 : Int) ≤ t.f2 ∧ t.f2 ≤ (n : Int)) (i : Int) : 0 ≤ failAt ts (n : Int) i ∧ failAt ts (n : Int) i ≤ n := by
 unfold failAt
 split
 ·rcases tokA_mem (ts := ts) i with e | e
  ·rw [e]
   show (0 : Int) ≤ 0 ∧ (0 : Int) ≤ n
   omega
  ·exact h _ e
 ·omega
theorem parse_cases (l : List UInt8) : ((parseL l).2.1 = 0 ∧ (parseL l).2.2 = 0 ∧ chk (parseL l).1 = 0) ∨ ((parseL l).2.1 ≠ 0 ∧ (parseL l).1 = [] ∧ 0 ≤ (parseL l).2.2 ∧ (parseL l).2.2 ≤ l.length) := by
 unfold parseL
 by_cases hl : 1024 < l.length
 ·rw [if_pos hl]
  exact .inr ⟨by decide, rfl, by show (0 : Int) ≤ 0; omega, by show (0 : Int) ≤ _; omega⟩
 rw [if_neg hl]
 cases hsc : scanL l.length 0 l with
 | error q =>
  obtain ⟨c, p⟩ := q
  have h1 := scan_er _ l _ _ c p (Nat.le_refl _) hsc
  have h2 := scan_at _ l _ _ c p (Nat.le_refl _) hsc
  rw [Nat.zero_add] at h2
  exact .inr ⟨h1, rfl, h2.1, h2.2⟩
 | ok ts =>
  simp only
  have ht := toks_at _ l _ _ ts (Nat.le_refl _) hsc
  rw [Nat.zero_add] at ht
  cases hw : wholeX ts (l.length : Int) with
  | error q =>
   obtain ⟨c, p⟩ := q
   have hf := wholeX_f ts (l.length : Int)
   rw [hw] at hf
   obtain ⟨hc, i, hi⟩ := whole_er theO ts _ _ c p hf
   have hp := fail_at (n := l.length) ht i
   rw [← hi] at hp
   exact .inr ⟨by show c ≠ 0; omega, rfl, hp.1, hp.2⟩
  | ok t =>
   simp only
   by_cases hc : chk t = 0
   ·rw [if_pos hc]
    exact .inl ⟨rfl, rfl, hc⟩
   ·rw [if_neg hc]
    exact .inr ⟨hc, rfl, by show (0 : Int) ≤ 0; omega, by show (0 : Int) ≤ _; omega⟩
section
set_option maxRecDepth 100000
theorem able6_true : ab6.f = some true := by kernel_rfl
theorem mv_zero (r : S48) (h : refR r = true) : mvR 0 0 r = (r, true) := by
 obtain ⟨s, a, b, p, q⟩ := r
 have hr : 0 ≤ a ∧ a < 65536 ∧ 0 ≤ b ∧ b < 256 := by
  unfold refR refB at h
  simp only [Bool.and_eq_true, decide_eq_true_eq] at h
  omega
 have hR : Nag.f 0 a b = some true := by
  unfold Nag.f Nbr.f Ncg.f Nbu.f
  simp [hr.1, hr.2.1, hr.2.2.1, hr.2.2.2]
 have hw : wrap64 (a + 0) = a ∧ wrap64 (b + 0) = b := by unfold wrap64; omega
 have hS : Nad.f 100 0 a b 0 0 = some (0, a, b, true) := by
  unfold Nad.f
  rw [hR, Option.bind_some, if_pos rfl, if_neg (by decide), if_neg (by decide), if_neg (by decide), show decide ((0 : Int) > 256) = false from rfl, Nad.j0, if_neg (by decide), hw.1, hw.2, hR]
  rfl
 unfold mvR
 simp only [ite_self, hS]
theorem sh_zero (n : S50) (h : 0 ≤ partsS n) : shN 0 0 n = n := by
 have hg := good_of n h
 generalize partsS n = z at hg
 cases hg with
 | cell r hr => unfold shN; rw [if_pos (show (nCell r).f0 = 2 from rfl), show (nCell r).f5 = r from rfl, mv_zero r hr]; rfl
 | area r s hr hs he => unfold shN; rw [if_neg (by show ¬ (3 : Int) = 2; decide), if_pos (show (nArea r s).f0 = 3 from rfl), show (nArea r s).f5 = r from rfl, show (nArea r s).f6 = s from rfl, mv_zero r hr, mv_zero s hs]; rfl
 | _ => rfl
theorem sh_all {l : List S50} (h : chk l = 0) : l.map (shN 0 0) = l := by
 obtain ⟨d, hd, -, -⟩ := Ncn (l := l) (K := 600) (by rw [chk_f, h])
 have hg := hd.good
 clear hd h
 induction l with
 | nil => rfl
 | cons x r ih => rw [List.map_cons, sh_zero x (hg x (List.mem_cons_self ..)), ih (fun n hn => hg n (List.mem_cons_of_mem _ hn))]
end
noncomputable def eqS (x y : S50) : Bool := @decide (x = y) (Classical.propDecidable _)
theorem eqS_iff {x y : S50} : eqS x y = true ↔ x = y := by unfold eqS; exact @decide_eq_true_iff _ (Classical.propDecidable _)
theorem toList_eq {a b : ByteArray} : a.toList = b.toList ↔ a = b := by
 rw [ByteArray.toList_eq, ByteArray.toList_eq]
 exact ⟨fun h => lb_ext h, fun h => by rw [h]⟩
def eqSB (x y : S50) : Bool := x.f0 == y.f0 && ((x.f1.f0 == y.f1.f0 && ((x.f1.f1.f0 == y.f1.f1.f0 && (x.f1.f1.f1 == y.f1.f1.f1)) && (x.f1.f2.toList == y.f1.f2.toList && (x.f1.f3 == y.f1.f3 && (x.f1.f4 == y.f1.f4))))) && (x.f2 == y.f2 && (x.f3.toList == y.f3.toList && (x.f4 == y.f4 && ((x.f5.f0.toList == y.f5.f0.toList && (x.f5.f1 == y.f5.f1 && (x.f5.f2 == y.f5.f2 && (x.f5.f3 == y.f5.f3 && (x.f5.f4 == y.f5.f4))))) && ((x.f6.f0.toList == y.f6.f0.toList && (x.f6.f1 == y.f6.f1 && (x.f6.f2 == y.f6.f2 && (x.f6.f3 == y.f6.f3 && (x.f6.f4 == y.f6.f4)))))))))))
theorem eqSB_iff {x y : S50} : eqSB x y = true ↔ x = y := by
 unfold eqSB
 simp only [Bool.and_eq_true, beq_iff_eq, toList_eq]
 constructor
 ·rintro ⟨h0, ⟨h1, ⟨h2, h3⟩, h4, h5, h6⟩, h7, h8, h9, ⟨h10, h11, h12, h13, h14⟩, h15, h16, h17, h18, h19⟩
  obtain ⟨x0, ⟨x1, ⟨x2, x3⟩, x4, x5, x6⟩, x7, x8, x9, ⟨x10, x11, x12, x13, x14⟩, ⟨x15, x16, x17, x18, x19⟩⟩ := x
  obtain ⟨y0, ⟨y1, ⟨y2, y3⟩, y4, y5, y6⟩, y7, y8, y9, ⟨y10, y11, y12, y13, y14⟩, ⟨y15, y16, y17, y18, y19⟩⟩ := y
  simp only at h0 h1 h2 h3 h4 h5 h6 h7 h8 h9 h10 h11 h12 h13 h14 h15 h16 h17 h18 h19
  subst h0 h1 h2 h3 h4 h5 h6 h7 h8 h9 h10 h11 h12 h13 h14 h15 h16 h17 h18 h19
  rfl
 ·rintro rfl
  simp
theorem eq50V (d : Nat) (w : World) (x y : S50) : (Op.equalIn (d + 4) 50 (.agg (cs50 x).toArray) (.agg (cs50 y).toArray)).run Tryz.prog w = .ok (eqS x y) w := by
 refine (eqA50 d w x.f0 y.f0 x.f1.f0 y.f1.f0 x.f1.f1.f0 y.f1.f1.f0 x.f1.f1.f1 y.f1.f1.f1 x.f1.f2 y.f1.f2 x.f1.f3 y.f1.f3 x.f1.f4 y.f1.f4 x.f2 y.f2 x.f3 y.f3 x.f4 y.f4 x.f5.f0 y.f5.f0 x.f5.f1 y.f5.f1 x.f5.f2 y.f5.f2 x.f5.f3 y.f5.f3 x.f5.f4 y.f5.f4 x.f6.f0 y.f6.f0 x.f6.f1 y.f6.f1 x.f6.f2 y.f6.f2 x.f6.f3 y.f6.f3 x.f6.f4 y.f6.f4).trans ?_
 congr 1
 exact (Bool.eq_iff_iff.2 (eqSB_iff.trans eqS_iff.symm))
theorem neq50 {o : Oper} {a : Act} (x y : S50) (w : World) (ho : o.op = .binOp .neq 50 (.tmp 20) (.tmp 24) 50) (hx : a.eval (.tmp 20) = .agg (cs50 x).toArray) (hy : a.eval (.tmp 24) = .agg (cs50 y).toArray) :
 (execOp a.eval o).run Tryz.prog w = .ok (.value (.bool (!eqS x y))) w := by
 unfold execOp
 simp only [ho, hx, hy, Sem.run_bind, Sem.run_pure]
 rw [run_eqGuard_agg (hm := Tryz.eqGuardType50)]
 simp only [Result.andThen]
 rw [run_neq_struct, eq50V 9996 w x y]
 rfl
def eqRows : List S50 → List S50 → Bool
 | [], [] => true
 | x :: l, y :: m => eqSB x y && eqRows l m
 | _, _ => false
theorem eqRows_iff : ∀ {l m : List S50}, eqRows l m = true ↔ l = m
 | [], [] => by simp [eqRows]
 | [], y :: m => by simp [eqRows]
 | x :: l, [] => by simp [eqRows]
 | x :: l, y :: m => by
  rw [eqRows, Bool.and_eq_true, eqSB_iff, eqRows_iff]
  simp
theorem eqRows_dec (l m : List S50) : eqRows l m = @decide (l = m) (Classical.propDecidable _) := by
 rw [Bool.eq_iff_iff, eqRows_iff]
 exact (@decide_eq_true_iff _ (Classical.propDecidable _)).symm
section
set_option maxRecDepth 100000
set_option maxHeartbeats 4000000
theorem same40_any (A1 A2 : Option Addr) (c1 c2 : Nat) (l1 l2 : List S50) (w : World) (hC1 : Kd.C k50 w A1 l1.length l1) (hC2 : Kd.C k50 w A2 l2.length l2) (hl : l1.length ≤ 1000000000000) : Calls Tryz.prog 40 #[.slice A1 l1.length c1, .slice A2 l2.length c2] w fun e w' => e = .returned (.bool (@decide (l1 = l2) (Classical.propDecidable _))) ∧ Below w.heap.size w w' := by
 have HC1 := lh hC1
 have HC2 := lh hC2
 have HL := lh hl
 have hu50 := Tryz.underlying50
 obtain ⟨r, hr⟩ : ∃ r : Bool, r = @decide (l1 = l2) (Classical.propDecidable _) := ⟨_, rfl⟩
 rw [← hr]
 have HR := lh hr
 clear hC1 hC2 hl hr
 by_cases hne : l1.length = l2.length
 ·have HNE := lh hne
  rw [← hne]
  clear hne
  go_enter Tryz.func40, Tryz.ntmps40
  go_wp2_with (fail)
  go_loopw [5] (fun v5 w' => ∃ i : Nat, i ≤ l1.length ∧ v5 = .int .i64 i ∧ Hid (∀ j, j < i → rd_T50 l1 (j : Int) = rd_T50 l2 (j : Int)) ∧ Hid (Below w.heap.size w w')) (fun v5 _ => l1.length - (intOf v5).toNat)
  case atStart => exact ⟨0, Nat.zero_le _, rfl, lh (fun j hj => by omega), lh (Below.refl _ _)⟩
  case round =>
   obtain ⟨i, hi, rfl, HE, HB⟩ := hrel
   by_cases hlt : i < l1.length
   ·obtain ⟨ad1, q1, rfl, hq1, hk1, hx0⟩ := Kd.C_get (Kd.C_below HC1.out HB.out) z50 (i : Int) (by omega) (by omega)
    obtain ⟨ad2, q2, rfl, hq2, hk2, hy0⟩ := Kd.C_get (Kd.C_below HC2.out HB.out) z50 (i : Int) (by omega) (by have := HNE.out; omega)
    obtain rfl := k50_open hk1
    obtain rfl := k50_open hk2
    have HX := lh hx0
    have HY := lh hy0
    obtain ⟨x, hxx⟩ : ∃ x_ : S50, x_ = rd_T50 l1 (i : Int) := ⟨_, rfl⟩
    obtain ⟨y, hyy⟩ : ∃ x_ : S50, x_ = rd_T50 l2 (i : Int) := ⟨_, rfl⟩
    have HXX := lh hxx
    have HYY := lh hyy
    have hx : ∀ (j : Nat) v, (cs50 x)[j]? = some v → wr.cell? ((ad1.add (i * 20)).add j) = some v := fun j v hv => by rw [add_add]; exact HX.out j v (by rw [hxx] at hv; exact hv)
    have hy : ∀ (j : Nat) v, (cs50 y)[j]? = some v → wr.cell? ((ad2.add (i * 20)).add j) = some v := fun j v hv => by rw [add_add]; exact HY.out j v (by rw [hyy] at hv; exact hv)
    clear hx0 hy0 hxx hyy hk1 hk2 hq1 hq2 HX HY
    have HI := lh hi
    have hlen2 : i < l2.length := by have := HNE.out; omega
    go_upto_region 6 with (fail)
    refine start_ (n := 9) (S := fun w' => (∀ (j : Nat) v, (cs50 x)[j]? = some v → w'.cell? ((ad1.add (i * 20)).add j) = some v) ∧ ∀ (j : Nat) v, (cs50 y)[j]? = some v → w'.cell? ((ad2.add (i * 20)).add j) = some v) (ds := []) #[false, false, false, false, false, false, false, false, false] (by kernel_rfl) rfl rfl ⟨hx, hy⟩ (fun hHeld => ?_)
    refine pP 0 17 ?_
    refine pP 1 18 ?_
    refine pP 2 19 ?_
    refine pP 4 21 ?_
    refine pP 5 22 ?_
    refine pP 6 23 ?_
    refine take_ (i := 3) (N := some 20) (v := ?_) (a' := ?_) #[true, true, true, true, true, true, true, false, false] rfl rfl (by kernel_rfl) (fun _ _ _ h => h) (Or.inl ⟨by rfl, ?_⟩) hHeld ?_ ?_
    rotate_left
    ·rintro w' ⟨s0, s1⟩
     refine Nbw (t := 50) (p := .tmp 19) (ad := ad1.add (i * 20)) (cs := cs50 x) ?_ ?_ s0 hu50 rfl ?_
     ·rfl
     ·rfl
     ·kernel_rfl
    rotate_left
    ·simp only [Act.put, List.setIfInBounds_toArray, List.set_cons_zero, List.set_cons_succ, i64_w, i32_w]
     rfl
    refine take_ (i := 7) (N := some 24) (v := ?_) (a' := ?_) #[true, true, true, true, true, true, true, true, false] rfl rfl (by kernel_rfl) (fun _ _ _ h => h) (Or.inl ⟨by rfl, ?_⟩) hHeld ?_ ?_
    rotate_left
    ·rintro w' ⟨s0, s1⟩
     refine Nbw (t := 50) (p := .tmp 23) (ad := ad2.add (i * 20)) (cs := cs50 y) ?_ ?_ s1 hu50 rfl ?_
     ·rfl
     ·rfl
     ·kernel_rfl
    rotate_left
    ·simp only [Act.put, List.setIfInBounds_toArray, List.set_cons_zero, List.set_cons_succ, i64_w, i32_w]
     rfl
    refine pure_ (i := 8) (N := some 25) (v := ?_) (a' := ?_) #[true, true, true, true, true, true, true, true, true] rfl rfl (by kernel_rfl) (fun _ _ _ h => h) (Or.inl ⟨by rfl, ?_⟩) ?_ ?_
    rotate_left
    ·intro w'
     refine neq50 x y w' ?_ ?_ ?_
     ·rfl
     ·rfl
     ·rfl
    rotate_left
    ·simp only [Act.put, List.setIfInBounds_toArray, List.set_cons_zero, List.set_cons_succ, i64_w, i32_w]
     rfl
    refine done_ (by kernel_rfl) ?_
    cases hb : eqS x y with
    | true =>
     have hxy := eqS_iff.1 hb
     have HXY := lh (show rd_T50 l1 (i : Int) = rd_T50 l2 (i : Int) by rw [← HXX.out, ← HYY.out, hxy])
     have hw1 : wrap64 ((i : Int) + 1) = (i : Int) + 1 := wr1 (by omega) (by have := HL.out; omega)
     have HB2 := lh (show Below w.heap.size w wr.drew from HB.out.drew)
     clear hxy hx hy
     go_wp2_with (fail)
     rw [hw1]
     clear hw1
     go_roundw
     case rel => exact ⟨i + 1, Nat.succ_le_of_lt hlt, rfl, lh (fun j hj => by rcases Nat.lt_succ_iff_lt_or_eq.1 hj with h | rfl; exact HE.out j h; exact HXY.out), HB2⟩
     case measure => simp only [intOf]; omega
    | false =>
     have hxy : ¬ x = y := fun h => by rw [eqS_iff.2 h] at hb; cases hb
     have HRF := lh (show r = false by rw [HR.out]; exact @decide_eq_false _ (Classical.propDecidable _) (fun hh => hxy (by rw [HXX.out, HYY.out, hh])))
     have HB2 := lh (show Below w.heap.size w wr.drew from HB.out.drew)
     clear hxy hx hy
     go_wp2_with (fail)
     go_ret
     exact ⟨by rw [HRF.out]; rfl, HB2.out⟩
   ·obtain rfl : i = l1.length := by omega
    have HRT := lh (show r = true by
     rw [HR.out]
     refine @decide_eq_true _ (Classical.propDecidable _) (List.ext_getElem HNE.out fun j h1 h2 => ?_)
     have := HE.out j h1
     unfold rd_T50 at this
     simpa [List.getD, h1, h2] using this)
    clear hi hlt
    go_wp2_with (fail)
    go_ret
    exact ⟨by rw [HRT.out]; rfl, HB.out⟩
 ·have HRF := lh (show r = false by rw [HR.out]; exact @decide_eq_false _ (Classical.propDecidable _) (fun hh => hne (by rw [hh])))
  have hb : ((l1.length : Int) != (l2.length : Int)) = true := by rw [bne_iff_ne]; omega
  clear hne
  go_enter Tryz.func40, Tryz.ntmps40
  go_wp2_with (fail)
  go_ret
  exact ⟨by rw [HRF.out]; rfl, Below.refl _ _⟩
def law6_same_h.f (l0 : List (S50)) (l1 : List (S50)) : Option Bool := if l0.length ≤ 1000000000000 then some (eqRows l0 l1) else none
theorem law6_same_h.calls (A0 : Option Addr) (c0 : Nat) (l0 : List (S50)) (A1 : Option Addr) (c1 : Nat) (l1 : List (S50)) (r : Bool) (w : World) (hr0 : Kd.C k50 w A0 l0.length l0) (hc0 : l0.length ≤ c0) (hr1 : Kd.C k50 w A1 l1.length l1) (hc1 : l1.length ≤ c1) (h : law6_same_h.f l0 l1 = some r) :
 Calls Tryz.prog 40 #[.slice A0 l0.length c0, .slice A1 l1.length c1] w fun e w' => e = .returned (.bool r) ∧ Below w.heap.size w w' := by
 unfold law6_same_h.f at h
 split at h
 ·rename_i hl
  obtain rfl := Option.some.inj h
  rw [eqRows_dec]
  exact same40_any A0 A1 c0 c1 l0 l1 w hr0 hr1 hl
 ·cases h
def able6_g.f : Option Bool := some true
theorem able6_g.calls (r : Bool) (w : World) (hG : GL w) (h : able6_g.f = some r) : Calls Tryz.prog 39 #[] w fun e w' => e = .returned (.bool r) ∧ Below w.heap.size w w' := by
 obtain rfl := Option.some.inj h
 exact ab6.calls true w hG able6_true
end
def inR (a b : Int) : Prop := 0 ≤ a ∧ a < 65536 ∧ 0 ≤ b ∧ b < 256
instance (a b : Int) : Decidable (inR a b) := by unfold inR; infer_instance
theorem right_in (a b : Int) : Nag.f 0 a b = some (decide (inR a b)) := by
 unfold Nag.f Nbr.f Ncg.f Nbu.f inR
 by_cases h1 : 0 ≤ a <;> by_cases h2 : a < 65536 <;> by_cases h3 : 0 ≤ b <;> by_cases h4 : b < 256 <;> simp [h1, h2, h3, h4]
theorem shift_in {a b x y : Int} (h : inR a b) (hx : -1000000000 ≤ x ∧ x ≤ 1000000000) (hy : -1000000000 ≤ y ∧ y ≤ 1000000000) : Nad.f 100 0 a b x y = some (if inR (a + x) (b + y) then (0, a + x, b + y, true) else (0, 0, 0, false)) := by
 have hw : wrap64 (a + x) = a + x ∧ wrap64 (b + y) = b + y := by unfold inR at h; unfold wrap64; omega
 have hj : ∀ z : Bool, (z = true → ¬ inR (a + x) (b + y)) → Nad.j0 100 x y z 0 a b = some (if inR (a + x) (b + y) then (0, a + x, b + y, true) else (0, 0, 0, false)) := by
  intro z hz
  rw [Nad.j0]
  by_cases ht : z = true
  ·rw [if_pos ht, if_neg (hz ht)]
  ·rw [if_neg ht, hw.1, hw.2, right_in, Option.bind_some]
   by_cases hi : inR (a + x) (b + y)
   ·rw [if_pos (decide_eq_true hi), if_pos hi]
   ·rw [if_neg (by simpa using hi), if_neg hi]
 unfold Nad.f
 rw [right_in, Option.bind_some, if_pos (decide_eq_true h)]
 have hn : ∀ z : Bool, (z = true → (x < -65536 ∨ 65536 < x ∨ y < -256 ∨ 256 < y)) → z = true → ¬ inR (a + x) (b + y) := by
  intro z h1 h2
  have := h1 h2
  unfold inR at h ⊢
  omega
 generalize (if inR (a + x) (b + y) then ((0 : Int), a + x, b + y, true) else (0, 0, 0, false)) = R at hj ⊢
 repeat' split
 all_goals (apply hj; apply hn; intro hz; first | omega | (have := of_decide_eq_true hz; omega))
theorem mv_in {r : S48} (h : refR r = true) {x y : Int} (hx : -1000000000 ≤ x ∧ x ≤ 1000000000) (hy : -1000000000 ≤ y ∧ y ≤ 1000000000) :
 mvR x y r = (if inR (r.f1 + if r.f3 = true then 0 else x) (r.f2 + if r.f4 = true then 0 else y) then (⟨r.f0, r.f1 + (if r.f3 = true then 0 else x), r.f2 + (if r.f4 = true then 0 else y), r.f3, r.f4⟩, true) else (⟨r.f0, 0, 0, r.f3, r.f4⟩, false)) := by
 have hr : inR r.f1 r.f2 := by
  unfold refR refB at h
  simp only [Bool.and_eq_true, decide_eq_true_eq] at h
  exact h.2
 unfold mvR
 rw [shift_in hr (by split <;> omega) (by split <;> omega)]
 by_cases hi : inR (r.f1 + if r.f3 = true then 0 else x) (r.f2 + if r.f4 = true then 0 else y)
 ·rw [if_pos hi, if_pos hi]
 ·rw [if_neg hi, if_neg hi]
theorem parts_cell {r : S48} (h : refR r = true) : partsS (nCell r) = 0 := by
 have h : refB r.f0 r.f1 r.f2 = true := h
 have hz : refB zR.f0 zR.f1 zR.f2 = true := by kernel_rfl
 unfold partsS partsF
 rw [if_neg (by show ¬ (2 : Int) = 1; decide), if_pos (show (nCell r).f0 = 2 from rfl)]
 show partsV2 _ _ _ _ _ _ _ _ _ r.f0 r.f1 r.f2 r.f3 r.f4 _ _ _ _ _ (refB r.f0 r.f1 r.f2) _ = 0
 rw [h]
 kernel_rfl
theorem parts_area {r s : S48} (h : refR r = true) (hs : refR s = true) (he : s.f0 = eB) : partsS (nArea r s) = 0 := by
 obtain ⟨s0, s1, s2, s3, s4⟩ := s
 obtain rfl : s0 = eB := he
 have h : refB r.f0 r.f1 r.f2 = true := h
 have hs : refB eB s1 s2 = true := hs
 unfold partsS partsF
 rw [if_neg (by show ¬ (3 : Int) = 1; decide), if_neg (by show ¬ (3 : Int) = 2; decide), if_pos (show (nArea r ⟨eB, s1, s2, s3, s4⟩).f0 = 3 from rfl)]
 show partsV3 _ _ _ _ _ _ _ _ _ r.f0 r.f1 r.f2 r.f3 r.f4 eB s1 s2 s3 s4 (refB r.f0 r.f1 r.f2) (refB eB s1 s2) = 0
 rw [h, hs]
 kernel_rfl
theorem ref_in {r : S48} (h : refR r = true) {a b : Int} (hi : inR a b) : refR ⟨r.f0, a, b, r.f3, r.f4⟩ = true := by
 unfold refR refB at h ⊢
 simp only [Bool.and_eq_true, decide_eq_true_eq] at h ⊢
 exact ⟨h.1, hi⟩
theorem lost_parts : partsS lostN = 0 := by kernel_rfl
theorem sh_parts {n : S50} (h : 0 ≤ partsS n) {x y : Int} (hx : -1000000000 ≤ x ∧ x ≤ 1000000000) (hy : -1000000000 ≤ y ∧ y ≤ 1000000000) : partsS (shN x y n) = partsS n := by
 have hg := good_of n h
 generalize hz : partsS n = z at hg
 cases hg with
 | cell r hr =>
  obtain ⟨A, B, hAB⟩ : ∃ A B, mvR x y r = (if inR A B then (⟨r.f0, A, B, r.f3, r.f4⟩, true) else (⟨r.f0, 0, 0, r.f3, r.f4⟩, false)) := ⟨_, _, mv_in hr hx hy⟩
  unfold shN
  rw [if_pos (show (nCell r).f0 = 2 from rfl), show (nCell r).f5 = r from rfl, hAB]
  by_cases hi : inR A B
  ·rw [if_pos hi, if_pos rfl]
   exact parts_cell (ref_in hr hi)
  ·rw [if_neg hi, if_neg (show ¬ (false : Bool) = true by decide)]
   exact lost_parts
 | area r s hr hs he =>
  obtain ⟨A, B, hAB⟩ : ∃ A B, mvR x y r = (if inR A B then (⟨r.f0, A, B, r.f3, r.f4⟩, true) else (⟨r.f0, 0, 0, r.f3, r.f4⟩, false)) := ⟨_, _, mv_in hr hx hy⟩
  obtain ⟨C, D, hCD⟩ : ∃ A B, mvR x y s = (if inR A B then (⟨s.f0, A, B, s.f3, s.f4⟩, true) else (⟨s.f0, 0, 0, s.f3, s.f4⟩, false)) := ⟨_, _, mv_in hs hx hy⟩
  unfold shN
  rw [if_neg (by show ¬ (3 : Int) = 2; decide), if_pos (show (nArea r s).f0 = 3 from rfl), show (nArea r s).f5 = r from rfl, show (nArea r s).f6 = s from rfl, hAB, hCD]
  by_cases h1 : inR A B
  ·by_cases h2 : inR C D
   ·rw [if_pos h1, if_pos h2, if_pos ⟨rfl, rfl⟩]
    exact parts_area (ref_in hr h1) (ref_in hs h2) he
   ·rw [if_neg h2, if_neg (show ¬ (_ ∧ (false : Bool) = true) from fun h => absurd h.2 (by decide))]
    exact lost_parts
  ·rw [if_neg h1, if_neg (show ¬ ((false : Bool) = true ∧ _) from fun h => absurd h.1 (by decide))]
   exact lost_parts
 | _ => exact hz
theorem Tre.map {f : S50 → S50} {p : List S50} {d : Nat} (h : Tre p d) : (∀ n ∈ p, partsS (f n) = partsS n) → Tre (p.map f) d := by
 induction h using Tre.rec (motive_2 := fun c p d _ => (∀ n ∈ p, partsS (f n) = partsS n) → Frs c (p.map f) d) with
 | node n c p d h1 h2 ih =>
  intro hf
  exact .node (f n) c (p.map f) d (by rw [hf n (List.mem_cons_self ..)]; exact h1) (ih fun m hm => hf m (List.mem_cons_of_mem _ hm))
 | nil => exact .nil
 | cons p q c d e h1 h2 i1 i2 =>
  rename_i hf
  rw [List.map_append]
  exact .cons _ _ c d e (i1 fun m hm => hf m (List.mem_append_left _ hm)) (i2 fun m hm => hf m (List.mem_append_right _ hm))
theorem chk_shift {l : List S50} (h : chk l = 0) {x y : Int} (hx : -1000000000 ≤ x ∧ x ≤ 1000000000) (hy : -1000000000 ≤ y ∧ y ≤ 1000000000) : chk (l.map (shN x y)) = 0 := by
 obtain ⟨d, hd, hd2, hl⟩ := Ncn (l := l) (K := 600) (by rw [chk_f, h])
 have hm := hd.map (f := shN x y) (fun n hn => sh_parts (hd.good n hn) hx hy)
 have := check_tre hm (by rw [List.length_map]; exact hl) (Nat.le_refl 600)
 rw [chk_f, if_pos hd2] at this
 exact Option.some.inj this
theorem sh_two {n : S50} (h : 0 ≤ partsS n) {a b c d : Int} (ha : -100000 ≤ a ∧ a ≤ 100000) (hb : -100000 ≤ b ∧ b ≤ 100000) (hc : -100000 ≤ c ∧ c ≤ 100000) (hd : -100000 ≤ d ∧ d ≤ 100000) (hk : (shN a b n).f0 = n.f0) : shN c d (shN a b n) = shN (a + c) (b + d) n := by
 have hg := good_of n h
 generalize partsS n = z at hg
 have key : ∀ r : S48, refR r = true → (mvR a b r).2 = true → refR (mvR a b r).1 = true ∧ mvR c d (mvR a b r).1 = mvR (a + c) (b + d) r := by
  intro r hr h1
  rw [mv_in hr (by omega) (by omega)] at h1 ⊢
  by_cases hi : inR (r.f1 + if r.f3 = true then 0 else a) (r.f2 + if r.f4 = true then 0 else b)
  ·rw [if_pos hi]
   have hr2 := ref_in hr hi
   refine ⟨hr2, ?_⟩
   rw [mv_in hr2 (by omega) (by omega), mv_in hr (by omega) (by omega)]
   simp only
   rw [show (r.f1 + if r.f3 = true then 0 else a) + (if r.f3 = true then 0 else c) = r.f1 + (if r.f3 = true then 0 else a + c) by split <;> omega, show (r.f2 + if r.f4 = true then 0 else b) + (if r.f4 = true then 0 else d) = r.f2 + (if r.f4 = true then 0 else b + d) by split <;> omega]
  ·rw [if_neg hi] at h1
   cases h1
 cases hg with
 | cell r hr =>
  have e1 : shN a b (nCell r) = if (mvR a b r).2 = true then nCell (mvR a b r).1 else lostN := rfl
  rw [e1] at hk ⊢
  by_cases h1 : (mvR a b r).2 = true
  ·obtain ⟨k1, k2⟩ := key r hr h1
   rw [if_pos h1]
   show (if (mvR c d (mvR a b r).1).2 = true then nCell (mvR c d (mvR a b r).1).1 else lostN) = if (mvR (a + c) (b + d) r).2 = true then nCell (mvR (a + c) (b + d) r).1 else lostN
   rw [k2]
  ·rw [if_neg h1] at hk
   cases hk
 | area r s hr hs he =>
  have e1 : ∀ x y (r s : S48), shN x y (nArea r s) = if (mvR x y r).2 = true ∧ (mvR x y s).2 = true then nArea (mvR x y r).1 (mvR x y s).1 else lostN := fun _ _ _ _ => rfl
  rw [e1] at hk ⊢
  by_cases h1 : (mvR a b r).2 = true ∧ (mvR a b s).2 = true
  ·obtain ⟨k1, k2⟩ := key r hr h1.1
   obtain ⟨k3, k4⟩ := key s hs h1.2
   rw [if_pos h1, e1, e1, k2, k4]
  ·rw [if_neg h1] at hk
   cases hk
 | _ => rfl
theorem rd_map {l : List S50} {f : S50 → S50} {i : Nat} (hi : i < l.length) : rd_T50 (l.map f) (i : Int) = f (rd_T50 l (i : Int)) := by
 unfold rd_T50
 simp [List.getD, hi]
theorem rd_mem {l : List S50} {i : Nat} (hi : i < l.length) : rd_T50 l (i : Int) ∈ l := by
 unfold rd_T50
 simp [List.getD, hi]
theorem shift_any {a b : Int} (h : inR a b) (x y : Int) : Nad.f 100 0 a b x y = some (if inR (a + x) (b + y) then (0, a + x, b + y, true) else (0, 0, 0, false)) := by
 have hj : ∀ z : Bool, (z = true → ¬ inR (a + x) (b + y)) → (z = false → -65536 ≤ x ∧ x ≤ 65536 ∧ -256 ≤ y ∧ y ≤ 256) → Nad.j0 100 x y z 0 a b = some (if inR (a + x) (b + y) then (0, a + x, b + y, true) else (0, 0, 0, false)) := by
  intro z hz hz2
  rw [Nad.j0]
  by_cases ht : z = true
  ·rw [if_pos ht, if_neg (hz ht)]
  ·have hb := hz2 (by simpa using ht)
   have hw : wrap64 (a + x) = a + x ∧ wrap64 (b + y) = b + y := by unfold inR at h; unfold wrap64; omega
   rw [if_neg ht, hw.1, hw.2, right_in, Option.bind_some]
   by_cases hi : inR (a + x) (b + y)
   ·rw [if_pos (decide_eq_true hi), if_pos hi]
   ·rw [if_neg (by simpa using hi), if_neg hi]
 have hn : (x < -65536 ∨ 65536 < x ∨ y < -256 ∨ 256 < y) → ¬ inR (a + x) (b + y) := by
  intro h1
  unfold inR at h ⊢
  omega
 unfold Nad.f
 rw [right_in, Option.bind_some, if_pos (decide_eq_true h)]
 by_cases h1 : x < -65536
 ·rw [if_pos h1]; exact hj _ (fun _ => hn (Or.inl h1)) (fun h => by cases h)
 by_cases h2 : x > 65536
 ·rw [if_neg h1, if_pos h2]; exact hj _ (fun _ => hn (Or.inr (Or.inl h2))) (fun h => by cases h)
 by_cases h3 : y < -256
 ·rw [if_neg h1, if_neg h2, if_pos h3]; exact hj _ (fun _ => hn (Or.inr (Or.inr (Or.inl h3)))) (fun h => by cases h)
 rw [if_neg h1, if_neg h2, if_neg h3]
 exact hj _ (fun hz => hn (Or.inr (Or.inr (Or.inr (by have := of_decide_eq_true hz; omega))))) (fun hz => by have := of_decide_eq_false hz; omega)
theorem mv_any {r : S48} (h : refR r = true) (x y : Int) :
 mvR x y r = (if inR (r.f1 + if r.f3 = true then 0 else x) (r.f2 + if r.f4 = true then 0 else y) then (⟨r.f0, r.f1 + (if r.f3 = true then 0 else x), r.f2 + (if r.f4 = true then 0 else y), r.f3, r.f4⟩, true) else (⟨r.f0, 0, 0, r.f3, r.f4⟩, false)) := by
 have hr : inR r.f1 r.f2 := by
  unfold refR refB at h
  simp only [Bool.and_eq_true, decide_eq_true_eq] at h
  exact h.2
 unfold mvR
 rw [shift_any hr]
 by_cases hi : inR (r.f1 + if r.f3 = true then 0 else x) (r.f2 + if r.f4 = true then 0 else y)
 ·rw [if_pos hi, if_pos hi]
 ·rw [if_neg hi, if_neg hi]
theorem sh_partsA {n : S50} (h : 0 ≤ partsS n) (x y : Int) : partsS (shN x y n) = partsS n := by
 have hg := good_of n h
 generalize hz : partsS n = z at hg
 cases hg with
 | cell r hr =>
  obtain ⟨A, B, hAB⟩ : ∃ A B, mvR x y r = (if inR A B then (⟨r.f0, A, B, r.f3, r.f4⟩, true) else (⟨r.f0, 0, 0, r.f3, r.f4⟩, false)) := ⟨_, _, mv_any hr x y⟩
  unfold shN
  rw [if_pos (show (nCell r).f0 = 2 from rfl), show (nCell r).f5 = r from rfl, hAB]
  by_cases hi : inR A B
  ·rw [if_pos hi, if_pos rfl]
   exact parts_cell (ref_in hr hi)
  ·rw [if_neg hi, if_neg (show ¬ (false : Bool) = true by decide)]
   exact lost_parts
 | area r s hr hs he =>
  obtain ⟨A, B, hAB⟩ : ∃ A B, mvR x y r = (if inR A B then (⟨r.f0, A, B, r.f3, r.f4⟩, true) else (⟨r.f0, 0, 0, r.f3, r.f4⟩, false)) := ⟨_, _, mv_any hr x y⟩
  obtain ⟨C, D, hCD⟩ : ∃ A B, mvR x y s = (if inR A B then (⟨s.f0, A, B, s.f3, s.f4⟩, true) else (⟨s.f0, 0, 0, s.f3, s.f4⟩, false)) := ⟨_, _, mv_any hs x y⟩
  unfold shN
  rw [if_neg (by show ¬ (3 : Int) = 2; decide), if_pos (show (nArea r s).f0 = 3 from rfl), show (nArea r s).f5 = r from rfl, show (nArea r s).f6 = s from rfl, hAB, hCD]
  by_cases h1 : inR A B
  ·by_cases h2 : inR C D
   ·rw [if_pos h1, if_pos h2, if_pos ⟨rfl, rfl⟩]
    exact parts_area (ref_in hr h1) (ref_in hs h2) he
   ·rw [if_neg h2, if_neg (show ¬ (_ ∧ (false : Bool) = true) from fun h => absurd h.2 (by decide))]
    exact lost_parts
  ·rw [if_neg h1, if_neg (show ¬ ((false : Bool) = true ∧ _) from fun h => absurd h.1 (by decide))]
   exact lost_parts
 | _ => exact hz
theorem chk_shiftA {l : List S50} (h : chk l = 0) (x y : Int) : chk (l.map (shN x y)) = 0 := by
 obtain ⟨d, hd, hd2, hl⟩ := Ncn (l := l) (K := 600) (by rw [chk_f, h])
 have hm := hd.map (f := shN x y) (fun n hn => sh_partsA (hd.good n hn) x y)
 have := check_tre hm (by rw [List.length_map]; exact hl) (Nat.le_refl 600)
 rw [chk_f, if_pos hd2] at this
 exact Option.some.inj this
def MV (x y : Int) (r q : S48) : Prop := q.f0 = r.f0 ∧ q.f3 = r.f3 ∧ q.f4 = r.f4 ∧ (if r.f3 = true then q.f1 = r.f1 else wrap64 (q.f1 - r.f1) = x) ∧ (if r.f4 = true then q.f2 = r.f2 else wrap64 (q.f2 - r.f2) = y)
theorem mv_kept {r : S48} (h : refR r = true) {x y : Int} (hx : -9223372036854775808 ≤ x ∧ x ≤ 9223372036854775807) (hy : -9223372036854775808 ≤ y ∧ y ≤ 9223372036854775807) (hk : (mvR x y r).2 = true) : MV x y r (mvR x y r).1 := by
 rw [mv_any h] at hk ⊢
 by_cases hi : inR (r.f1 + if r.f3 = true then 0 else x) (r.f2 + if r.f4 = true then 0 else y)
 ·rw [if_pos hi]
  refine ⟨rfl, rfl, rfl, ?_, ?_⟩
  ·show if r.f3 = true then r.f1 + (if r.f3 = true then 0 else x) = r.f1 else wrap64 (r.f1 + (if r.f3 = true then 0 else x) - r.f1) = x
   split
   ·omega
   ·rw [show r.f1 + x - r.f1 = x by omega]; unfold wrap64; omega
  ·show if r.f4 = true then r.f2 + (if r.f4 = true then 0 else y) = r.f2 else wrap64 (r.f2 + (if r.f4 = true then 0 else y) - r.f2) = y
   split
   ·omega
   ·rw [show r.f2 + y - r.f2 = y by omega]; unfold wrap64; omega
 ·rw [if_neg hi] at hk
  cases hk
theorem sh_what {n : S50} (h : 0 ≤ partsS n) {x y : Int} (hx : -9223372036854775808 ≤ x ∧ x ≤ 9223372036854775807) (hy : -9223372036854775808 ≤ y ∧ y ≤ 9223372036854775807) :
 ((n.f0 = 2 ∨ n.f0 = 3) ∧ shN x y n = lostN) ∨ (n.f0 = 2 ∧ ∃ q, MV x y n.f5 q ∧ shN x y n = { n with f5 := q }) ∨ (n.f0 = 3 ∧ ∃ q p, MV x y n.f5 q ∧ MV x y n.f6 p ∧ shN x y n = { n with f5 := q, f6 := p }) ∨ (n.f0 ≠ 2 ∧ n.f0 ≠ 3 ∧ shN x y n = n) := by
 have hg := good_of n h
 generalize partsS n = z at hg
 cases hg with
 | cell r hr =>
  by_cases hk : (mvR x y r).2 = true
  ·exact Or.inr (Or.inl ⟨rfl, (mvR x y r).1, mv_kept hr hx hy hk, by unfold shN; rw [if_pos (show (nCell r).f0 = 2 from rfl), if_pos (show (mvR x y (nCell r).f5).2 = true from hk)]; rfl⟩)
  ·exact Or.inl ⟨Or.inl rfl, by unfold shN; rw [if_pos (show (nCell r).f0 = 2 from rfl), if_neg (show ¬ (mvR x y (nCell r).f5).2 = true from hk)]⟩
 | area r s hr hs he =>
  by_cases hk : (mvR x y r).2 = true ∧ (mvR x y s).2 = true
  ·exact Or.inr (Or.inr (Or.inl ⟨rfl, (mvR x y r).1, (mvR x y s).1, mv_kept hr hx hy hk.1, mv_kept hs hx hy hk.2, by unfold shN; rw [if_neg (by show ¬ (3 : Int) = 2; decide), if_pos (show (nArea r s).f0 = 3 from rfl), if_pos (show (mvR x y (nArea r s).f5).2 = true ∧ (mvR x y (nArea r s).f6).2 = true from hk)]; rfl⟩))
  ·exact Or.inl ⟨Or.inr rfl, by unfold shN; rw [if_neg (by show ¬ (3 : Int) = 2; decide), if_pos (show (nArea r s).f0 = 3 from rfl), if_neg (show ¬ ((mvR x y (nArea r s).f5).2 = true ∧ (mvR x y (nArea r s).f6).2 = true) from hk)]⟩
 | val => exact Or.inr (Or.inr (Or.inr ⟨by show (1 : Int) ≠ 2; decide, by show (1 : Int) ≠ 3; decide, rfl⟩))
 | un => exact Or.inr (Or.inr (Or.inr ⟨by show (4 : Int) ≠ 2; decide, by show (4 : Int) ≠ 3; decide, rfl⟩))
 | bin => exact Or.inr (Or.inr (Or.inr ⟨by show (5 : Int) ≠ 2; decide, by show (5 : Int) ≠ 3; decide, rfl⟩))
 | call => exact Or.inr (Or.inr (Or.inr ⟨by show (6 : Int) ≠ 2; decide, by show (6 : Int) ≠ 3; decide, rfl⟩))
set_option maxRecDepth 100000 in
set_option maxHeartbeats 4000000 in
theorem mvd_go (s : ByteArray) (a b a2 b2 rows cols : Int) (p q : Bool) (w : World) (h1 : if p = true then a2 = a else wrap64 (a2 - a) = rows) (h2 : if q = true then b2 = b else wrap64 (b2 - b) = cols) :
 Calls Tryz.prog 43 #[.agg #[.string s, .int .i64 a, .int .i64 b, .bool p, .bool q], .agg #[.string s, .int .i64 a2, .int .i64 b2, .bool p, .bool q], .int .i64 rows, .int .i64 cols] w fun e w' => e = .returned (.bool true) ∧ Below w.heap.size w w' := by
 have hu48 := Tryz.underlying48
 have hs : (s.toList != s.toList) = false := by simp
 go_enter Tryz.func43, Tryz.ntmps43
 go_upto_region 1 with (first
  | ((with_reducible refine gate_dst (N := 4) rfl ?_); refine bX 4 #[.string s, .int .i64 a, .int .i64 b, .bool p, .bool q] 48 ?_; intro g4 hg_ w1 hb_ hl_; have B1 := lh hl_; have J1 := lh hb_; clear hb_ hl_ hg_)
  | ((with_reducible refine gate_dst (N := 5) rfl ?_); refine bX 5 #[.string s, .int .i64 a2, .int .i64 b2, .bool p, .bool q] 48 ?_; intro g5 hg_ w2 hb_ hl_; have B2 := lh (below_step B1.out hl_); have J2 := lh (blk_below J1.out hl_); have K2 := lh hb_; clear hb_ hl_ hg_ B1 J1))
 have f0 : w2.cell? ⟨g4, 0, none⟩ = some (.string s) := (blk_cell J2.out 0).trans rfl
 have f1 : w2.cell? ⟨g4, 1, none⟩ = some (.int .i64 a) := (blk_cell J2.out 1).trans rfl
 have f2 : w2.cell? ⟨g4, 2, none⟩ = some (.int .i64 b) := (blk_cell J2.out 2).trans rfl
 have f3 : w2.cell? ⟨g4, 3, none⟩ = some (.bool p) := (blk_cell J2.out 3).trans rfl
 have f4 : w2.cell? ⟨g4, 4, none⟩ = some (.bool q) := (blk_cell J2.out 4).trans rfl
 have e0 : w2.cell? ⟨g5, 0, none⟩ = some (.string s) := (blk_cell K2.out 0).trans rfl
 have e1 : w2.cell? ⟨g5, 1, none⟩ = some (.int .i64 a2) := (blk_cell K2.out 1).trans rfl
 have e2 : w2.cell? ⟨g5, 2, none⟩ = some (.int .i64 b2) := (blk_cell K2.out 2).trans rfl
 have e3 : w2.cell? ⟨g5, 3, none⟩ = some (.bool p) := (blk_cell K2.out 3).trans rfl
 have e4 : w2.cell? ⟨g5, 4, none⟩ = some (.bool q) := (blk_cell K2.out 4).trans rfl
 cases p <;> cases q
 all_goals
  simp only [if_true, Bool.false_eq_true, if_false] at h1 h2
  have b1 := (bqT h1).2
  have b2 := (bqT h2).1
  clear h1 h2 J2 K2
  go_wp2_with (fail)
  go_ret
  exact ⟨rfl, B2.out⟩
end Go.Proofs.YtejbbceidnaloaaGreatDoor.P
namespace Go.Proofs.YtejbbceidnaloaaGreatDoorW.PrintWords
open Go.RowKit
set_option linter.unusedVariables false
set_option linter.unusedSimpArgs false
section
variable {P : Program} {ops : Array Oper} {o : Oper} {a : Act} {Q : Exit → Act → World → Prop} {Kc : Act → World → Prop}
theorem box_step {W : World} (hw : Region.wanted o (yielded ops a.tmps) = true) {N : Tmp} (_hd : o.dst = some N) {cs : Array Value} {t : TypeId}
    (hrun : (execOp a.eval o).run P W = .ok (.value (.pointer (some ⟨W.heap.size, 0, none⟩))) (W.alloc (.cells cs t (0, 0))))
    (h : ∀ g, g = W.heap.size → ∀ w1, w1.heap[g]? = some (.cells cs t (0, 0)) → Below W.heap.size W w1 → Kc (a.put o.dst (.pointer (some ⟨g, 0, none⟩))) w1) : if Region.wanted o (yielded ops a.tmps) = true then Oper.wp P o a W Kc Q else Kc (a.put o.dst undef) W :=
  event_step hw hrun (h _ rfl _ (blk_new W _) (below_alloc (Below.refl _ _) _))
end
end Go.Proofs.YtejbbceidnaloaaGreatDoorW.PrintWords
