import Derived.Test.YtejbbceidnaloaaGreatDoorB8
set_option linter.unusedVariables false
set_option linter.unusedSimpArgs false
set_option maxRecDepth 100000
set_option maxHeartbeats 8000000
namespace Go.Proofs.YtejbbceidnaloaaGreatDoor.P
open Go.RowKit AW AL AM
def Na8.j0 : Nat → Bool → Int → Int → Option (Bool)
 | 0, _, _, _ => none
 | k + 1, x20, x102000, x102001 => if x20 = true then (some false) else ((Nbo.f x102000).bind fun t102 => ((Ncb.f k t102 (IntKind.u64.wrap (x102001))).bind fun t103 => (some (t103 == 1))))
def Na8.f (k : Nat) (a0_0 a0_1 : Int) : Option (Bool) := if a0_0 < (-1000000000000) then (Na8.j0 k true a0_0 a0_1) else (if a0_0 > 1000000000000 then (Na8.j0 k true a0_0 a0_1) else (if a0_1 < 1 then (Na8.j0 k true a0_0 a0_1) else (Na8.j0 k (decide (a0_1 > 1000000)) a0_0 a0_1)))
theorem Na8.calls (k : Nat) (a0_0 a0_1 : Int) (r : Bool) (w : World) (h : Na8.f k a0_0 a0_1 = some r) :
 Calls Tryz.prog 133 #[.agg #[.int .i64 a0_0, .int .i64 a0_1]] w fun e w' => e = .returned (.bool r) ∧ Below w.heap.size w w' := by
 have hu44 := Tryz.underlying44
 have HB := aM (Below.refl w.heap.size w)
 have H := h
 unfold Na8.f at H
 clear h
 have HC2 := aM H
 clear H
 go_enter Tryz.func133, Tryz.ntmps133
 go_upto_region 1 with (first | ((with_reducible refine gD 1 rfl ?_); refine bX 1 #[.int .i64 a0_0, .int .i64 a0_1] 44 ?_; intro gb101 hg w3 hbox hb; replace HB := bK w hbox hg hb; obtain ⟨BK101, GW101, HB⟩ := HB; have GE101 := GW101; clear hb hbox hg))
 repeat (go_quiet (first | ((with_reducible refine gD 1 rfl ?_); refine bX 1 #[.int .i64 a0_0, .int .i64 a0_1] 44 ?_; intro gb101 hg w3 hbox hb; replace HB := bK w hbox hg hb; obtain ⟨BK101, GW101, HB⟩ := HB; have GE101 := GW101; clear hb hbox hg)); go_upto_region 1 with (first | ((with_reducible refine gD 1 rfl ?_); refine bX 1 #[.int .i64 a0_0, .int .i64 a0_1] 44 ?_; intro gb101 hg w3 hbox hb; replace HB := bK w hbox hg hb; obtain ⟨BK101, GW101, HB⟩ := HB; have GE101 := GW101; clear hb hbox hg)))
 (try simp only [Act.put, List.setIfInBounds_toArray, List.set_cons_zero, List.set_cons_succ])
 go_cut [20] (fun v20 wc => ∃ (kq : Nat) (x20_1 : Bool), v20 = .bool x20_1 ∧ Nai (Na8.j0 kq x20_1 a0_0 a0_1 = some r) ∧ Nai (kq ≤ k) ∧ Nai (wc.heap[gb101]? = some (.cells #[.int .i64 a0_0, .int .i64 a0_1] 44 (0, 0))) ∧ Nai (Below w.heap.size w wc))
 case first =>
  have H := HC2.out
  clear HC2
  by_cases c4 : a0_0 < (-1000000000000)
  ·rw [if_pos c4] at H
   have c4b0 : decide (a0_0 < (-1000000000000)) = true := decide_eq_true c4
   clear c4
   (first | rw [c4b0] | (simp only [i64_w, i32_w]; rw [c4b0]) | skip)
   have H' := aM H
   clear H
   have hcz5_0 : w3.cell? ⟨gb101, 0, none⟩ = some (.int .i64 a0_0) := (Naa BK101.out 0).trans rfl
   have hcz5_1 : w3.cell? ⟨gb101, 1, none⟩ = some (.int .i64 a0_1) := (Naa BK101.out 1).trans rfl
   have hfz5_0 := Naf BK101.out 0
   have hfz5_1 := Naf BK101.out 1
   go_wp2
   repeat (go_quiet (fail); try go_wp2)
   go_meet
   case rel => exact ⟨_, (true), (by first | rfl | (simp; done) | (simp [*]; done)), H', ⟨by first | omega | exact Nat.le_refl _⟩, ⟨BK101.out⟩, ⟨bE⟩⟩
  ·rw [if_neg c4] at H
   have c4b0 : decide (a0_0 < (-1000000000000)) = false := decide_eq_false c4
   clear c4
   (first | rw [c4b0] | (simp only [i64_w, i32_w]; rw [c4b0]) | skip)
   by_cases c6 : a0_0 > 1000000000000
   ·rw [if_pos c6] at H
    have c6b0 : decide (1000000000000 < a0_0) = true := decide_eq_true c6
    clear c6
    have H' := aM H
    clear H
    have hcz7_0 : w3.cell? ⟨gb101, 0, none⟩ = some (.int .i64 a0_0) := (Naa BK101.out 0).trans rfl
    have hcz7_1 : w3.cell? ⟨gb101, 1, none⟩ = some (.int .i64 a0_1) := (Naa BK101.out 1).trans rfl
    have hfz7_0 := Naf BK101.out 0
    have hfz7_1 := Naf BK101.out 1
    go_wp2
    repeat (go_quiet (fail); try go_wp2)
    go_meet
    case rel => exact ⟨_, (true), (by first | rfl | (simp; done) | (simp [*]; done)), H', ⟨by first | omega | exact Nat.le_refl _⟩, ⟨BK101.out⟩, ⟨bE⟩⟩
   ·rw [if_neg c6] at H
    have c6b0 : decide (1000000000000 < a0_0) = false := decide_eq_false c6
    clear c6
    by_cases c8 : a0_1 < 1
    ·rw [if_pos c8] at H
     have c8b0 : decide (a0_1 < 1) = true := decide_eq_true c8
     clear c8
     have H' := aM H
     clear H
     have hcz9_0 : w3.cell? ⟨gb101, 0, none⟩ = some (.int .i64 a0_0) := (Naa BK101.out 0).trans rfl
     have hcz9_1 : w3.cell? ⟨gb101, 1, none⟩ = some (.int .i64 a0_1) := (Naa BK101.out 1).trans rfl
     have hfz9_0 := Naf BK101.out 0
     have hfz9_1 := Naf BK101.out 1
     go_wp2
     repeat (go_quiet (fail); try go_wp2)
     go_meet
     case rel => exact ⟨_, (true), (by first | rfl | (simp; done) | (simp [*]; done)), H', ⟨by first | omega | exact Nat.le_refl _⟩, ⟨BK101.out⟩, ⟨bE⟩⟩
    ·rw [if_neg c8] at H
     have c8b0 : decide (a0_1 < 1) = false := decide_eq_false c8
     clear c8
     have H' := aM H
     clear H
     have hcz10_0 : w3.cell? ⟨gb101, 0, none⟩ = some (.int .i64 a0_0) := (Naa BK101.out 0).trans rfl
     have hcz10_1 : w3.cell? ⟨gb101, 1, none⟩ = some (.int .i64 a0_1) := (Naa BK101.out 1).trans rfl
     have hfz10_0 := Naf BK101.out 0
     have hfz10_1 := Naf BK101.out 1
     go_wp2
     repeat (go_quiet (fail); try go_wp2)
     go_meet
     case rel => exact ⟨_, (decide (a0_1 > 1000000)), (by first | rfl | (simp; done) | (simp [*]; done)), H', ⟨by first | omega | exact Nat.le_refl _⟩, ⟨BK101.out⟩, ⟨bE⟩⟩
 case rest =>
  clear HC2
  try clear c1
  try clear p2
  try clear c4
  try clear c4b0
  try clear c6
  try clear c6b0
  try clear c8
  try clear c8b0
  try clear hcz10_0
  try clear hcz10_1
  try clear hcz5_0
  try clear hcz5_1
  try clear hcz7_0
  try clear hcz7_1
  try clear hcz9_0
  try clear hcz9_1
  try clear hfz10_0
  try clear hfz10_1
  try clear hfz5_0
  try clear hfz5_1
  try clear hfz7_0
  try clear hfz7_1
  try clear hfz9_0
  try clear hfz9_1
  obtain ⟨kq, x20_1, rfl, HA, HJ1, BK101, HB⟩ := hcut
  cases kq with
  | zero => exact absurd HA.out (by simp [Na8.j0])
  | succ kj1 =>
   have H := HA.out
   clear HA
   simp only [Na8.j0] at H
   by_cases c11 : x20_1 = true
   ·subst c11
    rw [if_pos rfl] at H
    obtain rfl := sI H
    go_wp2
    repeat (go_quiet (fail); try go_wp2)
    go_ret
    exact ⟨eR, bE⟩
   ·replace c11 := Bool.eq_false_iff.mpr c11
    subst c11
    rw [if_neg fT] at H
    replace H := bS H
    obtain ⟨t102, A120, H⟩ := H
    try dsimp only at H
    have A12 := aM A120
    clear A120
    replace H := bS H
    obtain ⟨t103, A130, H⟩ := H
    try dsimp only at H
    have A13 := aM A130
    clear A130
    obtain rfl := sI H
    have hcz14_0 : wc.cell? ⟨gb101, 0, none⟩ = some (.int .i64 a0_0) := (Naa BK101.out 0).trans rfl
    have hcz14_1 : wc.cell? ⟨gb101, 1, none⟩ = some (.int .i64 a0_1) := (Naa BK101.out 1).trans rfl
    have hfz14_0 := Naf BK101.out 0
    have hfz14_1 := Naf BK101.out 1
    go_wp2_with (first | (go_at_call 167; (with_reducible refine (Nbo.calls a0_0 t102 _ A12.out).mono ?_); rintro e w' ⟨rfl, ⟨nd, rfl⟩⟩; (try first | exact ⟨rfl, _, World.drewN_drewN _ _ _⟩ | exact ⟨rfl, _, Eq.trans (World.drewN_drewN _ _ _) (congrArg (World.drewN _) (Nat.add_assoc _ _ _))⟩)) | (go_at_call 166; (with_reducible refine (Ncb.calls kj1 t102 (IntKind.u64.wrap (a0_1)) t103 _ A13.out).mono ?_); rintro e w' ⟨rfl, ⟨nd, rfl⟩⟩; (try first | exact ⟨rfl, _, World.drewN_drewN _ _ _⟩ | exact ⟨rfl, _, Eq.trans (World.drewN_drewN _ _ _) (congrArg (World.drewN _) (Nat.add_assoc _ _ _))⟩)))
    repeat (go_quiet (first | (go_at_call 167; (with_reducible refine (Nbo.calls a0_0 t102 _ A12.out).mono ?_); rintro e w' ⟨rfl, ⟨nd, rfl⟩⟩; (try first | exact ⟨rfl, _, World.drewN_drewN _ _ _⟩ | exact ⟨rfl, _, Eq.trans (World.drewN_drewN _ _ _) (congrArg (World.drewN _) (Nat.add_assoc _ _ _))⟩)) | (go_at_call 166; (with_reducible refine (Ncb.calls kj1 t102 (IntKind.u64.wrap (a0_1)) t103 _ A13.out).mono ?_); rintro e w' ⟨rfl, ⟨nd, rfl⟩⟩; (try first | exact ⟨rfl, _, World.drewN_drewN _ _ _⟩ | exact ⟨rfl, _, Eq.trans (World.drewN_drewN _ _ _) (congrArg (World.drewN _) (Nat.add_assoc _ _ _))⟩))); try go_wp2_with (first | (go_at_call 167; (with_reducible refine (Nbo.calls a0_0 t102 _ A12.out).mono ?_); rintro e w' ⟨rfl, ⟨nd, rfl⟩⟩; (try first | exact ⟨rfl, _, World.drewN_drewN _ _ _⟩ | exact ⟨rfl, _, Eq.trans (World.drewN_drewN _ _ _) (congrArg (World.drewN _) (Nat.add_assoc _ _ _))⟩)) | (go_at_call 166; (with_reducible refine (Ncb.calls kj1 t102 (IntKind.u64.wrap (a0_1)) t103 _ A13.out).mono ?_); rintro e w' ⟨rfl, ⟨nd, rfl⟩⟩; (try first | exact ⟨rfl, _, World.drewN_drewN _ _ _⟩ | exact ⟨rfl, _, Eq.trans (World.drewN_drewN _ _ _) (congrArg (World.drewN _) (Nat.add_assoc _ _ _))⟩))))
    go_ret
    exact ⟨eR, bE⟩
def Naw.l0 : Nat → ByteArray → Int → Int → Option (Bool)
 | 0, _, _, _ => none
 | k + 1, x0, x5, x6 => if x6 < x5 then (if 0 ≤ x6 then (if x6 < (x0.size : Int) then (if (bt x0 x6) < 32 then (some false) else (if (bt x0 x6) > 126 then (some false) else (Naw.l0 k x0 x5 (wrap64 (x6 + 1))))) else (none)) else (none)) else (some true)
def Naw.f (k : Nat) (a0 : ByteArray) : Option (Bool) := Naw.l0 k a0 (a0.size : Int) 0
theorem Naw.calls (k : Nat) (a0 : ByteArray) (r : Bool) (w : World) (h : Naw.f k a0 = some r) :
 Calls Tryz.prog 134 #[.string a0] w fun e w' => e = .returned (.bool r) ∧ Na9 w w' := by
 have H := h
 unfold Naw.f at H
 clear h
 have H' := aM H
 clear H
 go_enter Tryz.func134, Tryz.ntmps134
 go_wp2
 go_loopg [6] k (fun kq v6 w' => ∃ (x6_1 : Int), v6 = .int .i64 x6_1 ∧ Nai (Naw.l0 kq a0 (a0.size : Int) x6_1 = some r) ∧ Nai (kq ≤ k) ∧ Na9 w w')
 case atStart => exact ⟨(0), (by first | rfl | (simp; done) | (simp [*]; done)), H', ⟨Nat.le_refl _⟩, dE⟩
 case round =>
  clear H'
  try clear c1
  obtain ⟨x6_1, rfl, HA, HK1, ⟨m1, rfl⟩⟩ := hrel
  cases gk with
  | zero => exact absurd HA.out (by simp [Naw.l0])
  | succ k1 =>
   have H := HA.out
   clear HA
   simp only [Naw.l0] at H
   by_cases c2 : x6_1 < (a0.size : Int)
   ·rw [if_pos c2] at H
    have c2b0 : decide (x6_1 < (a0.size : Int)) = true := decide_eq_true c2
    clear c2
    by_cases c3 : 0 ≤ x6_1
    ·rw [if_pos c3] at H
     have c3b0 : decide (0 ≤ x6_1) = true := decide_eq_true c3
     clear c3
     by_cases c4 : x6_1 < (a0.size : Int)
     ·rw [if_pos c4] at H
      have c4b0 : decide (x6_1 < (a0.size : Int)) = true := decide_eq_true c4
      clear c4
      by_cases c6 : (bt a0 x6_1) < 32
      ·rw [if_pos c6] at H
       have c6b0 : decide ((bt a0 x6_1) < 32) = true := decide_eq_true c6
       clear c6
       obtain rfl := sI H
       have p5 : 0 ≤ (x6_1 : Int) := of_decide_eq_true (by first | (with_reducible assumption) | assumption)
       have q5 : x6_1 < (a0.size : Int) := of_decide_eq_true (by first | (with_reducible assumption) | assumption)
       have hx5 := bt_at a0 x6_1
       replace p5 := eq_true p5
       replace q5 := eq_true q5
       go_wp2
       go_ret
       exact ⟨eR, dE⟩
      ·rw [if_neg c6] at H
       have c6b0 : decide ((bt a0 x6_1) < 32) = false := decide_eq_false c6
       clear c6
       by_cases c8 : (bt a0 x6_1) > 126
       ·rw [if_pos c8] at H
        have c8b0 : decide (126 < (bt a0 x6_1)) = true := decide_eq_true c8
        clear c8
        obtain rfl := sI H
        have p5 : 0 ≤ (x6_1 : Int) := of_decide_eq_true (by first | (with_reducible assumption) | assumption)
        have q5 : x6_1 < (a0.size : Int) := of_decide_eq_true (by first | (with_reducible assumption) | assumption)
        have hx5 := bt_at a0 x6_1
        replace p5 := eq_true p5
        replace q5 := eq_true q5
        have p7 : 0 ≤ (x6_1 : Int) := of_decide_eq_true (by first | (with_reducible assumption) | assumption)
        have q7 : x6_1 < (a0.size : Int) := of_decide_eq_true (by first | (with_reducible assumption) | assumption)
        have hx7 := bt_at a0 x6_1
        replace p7 := eq_true p7
        replace q7 := eq_true q7
        go_wp2
        go_ret
        exact ⟨eR, dE⟩
       ·rw [if_neg c8] at H
        have c8b0 : decide (126 < (bt a0 x6_1)) = false := decide_eq_false c8
        clear c8
        have H' := aM H
        clear H
        have p5 : 0 ≤ (x6_1 : Int) := of_decide_eq_true (by first | (with_reducible assumption) | assumption)
        have q5 : x6_1 < (a0.size : Int) := of_decide_eq_true (by first | (with_reducible assumption) | assumption)
        have hx5 := bt_at a0 x6_1
        replace p5 := eq_true p5
        replace q5 := eq_true q5
        have p7 : 0 ≤ (x6_1 : Int) := of_decide_eq_true (by first | (with_reducible assumption) | assumption)
        have q7 : x6_1 < (a0.size : Int) := of_decide_eq_true (by first | (with_reducible assumption) | assumption)
        have hx7 := bt_at a0 x6_1
        replace p7 := eq_true p7
        replace q7 := eq_true q7
        go_wp2
        go_roundg k1
        case measure => have := HK1.out; omega
        case rel => exact ⟨(wrap64 (x6_1 + 1)), (by first | rfl | (simp; done) | (simp [*]; done)), H', ⟨by have := HK1.out; omega⟩, dE⟩
     ·rw [if_neg c4] at H
      exact absurd H (by simp)
    ·rw [if_neg c3] at H
     exact absurd H (by simp)
   ·rw [if_neg c2] at H
    have c2b0 : decide (x6_1 < (a0.size : Int)) = false := decide_eq_false c2
    clear c2
    obtain rfl := sI H
    go_wp2
    go_ret
    exact ⟨eR, dE⟩
section
attribute [local go_sem high] eqA46
def Nb3.f (k : Nat) (a0_0 a0_1 a0_2 : Int) (a0_3 : ByteArray) (a0_4 : Bool) (a0_5 : Int) : Option (Bool) := if a0_0 = 0 then (some (a0_0 == 0 && ((a0_1 == 0 && (a0_2 == 0)) && (a0_3.toList == ([] : List UInt8) && (!a0_4 && (a0_5 == 0)))))) else (if a0_0 = 1 then ((Na8.f k a0_1 a0_2).bind fun t102 => (if t102 = true then (some (a0_0 == 1 && (a0_3.toList == ([] : List UInt8) && (!a0_4 && (a0_5 == 0))))) else (some false))) else (if a0_0 = 2 then (if (a0_3.size : Int) ≤ 256 then ((Naw.f k a0_3).bind fun t103 => (if t103 = true then (some (a0_0 == 2 && ((a0_1 == 0 && (a0_2 == 0)) && (!a0_4 && (a0_5 == 0))))) else (some false))) else (some false)) else (if a0_0 = 3 then (some (a0_0 == 3 && ((a0_1 == 0 && (a0_2 == 0)) && (a0_3.toList == ([] : List UInt8) && (a0_5 == 0))))) else (if a0_0 = 4 then (if a0_5 ≥ 1 then (if a0_5 ≤ 8 then (some (a0_0 == 4 && ((a0_1 == 0 && (a0_2 == 0)) && (a0_3.toList == ([] : List UInt8) && (!a0_4))))) else (some false)) else (some false)) else (some false)))))
theorem Nb3.calls (k : Nat) (a0_0 a0_1 a0_2 : Int) (a0_3 : ByteArray) (a0_4 : Bool) (a0_5 : Int) (r : Bool) (w : World) (h : Nb3.f k a0_0 a0_1 a0_2 a0_3 a0_4 a0_5 = some r) :
 Calls Tryz.prog 93 #[.agg #[.int .i64 a0_0, .int .i64 a0_1, .int .i64 a0_2, .string a0_3, .bool a0_4, .int .i64 a0_5]] w fun e w' => e = .returned (.bool r) ∧ Below w.heap.size w w' := by
 have hu46 := Tryz.underlying46
 have hu44 := Tryz.underlying44
 have HB := aM (Below.refl w.heap.size w)
 have H := h
 unfold Nb3.f at H
 clear h
 by_cases c2 : a0_0 = 0
 ·rw [if_pos c2] at H
  obtain ⟨c2b0, c2b1⟩ := bqT c2
  clear c2
  obtain rfl := sI H
  go_enter Tryz.func93, Tryz.ntmps93
  go_wp2_with (first | ((with_reducible refine gD 1 rfl ?_); refine bX 1 #[.int .i64 a0_0, .int .i64 a0_1, .int .i64 a0_2, .string a0_3, .bool a0_4, .int .i64 a0_5] 46 ?_; intro gb101 hg w3 hbox hb; replace HB := bK w hbox hg hb; obtain ⟨BK101, GW101, HB⟩ := HB; have GE101 := GW101; clear hb hbox hg; obtain ⟨hcz4_0, hcz4_1, hcz4_2, hcz4_3, hcz4_4, hcz4_5, hfz4_0, hfz4_1, hfz4_2, hfz4_3, hfz4_4, hfz4_5⟩ := bc6 BK101.out))
  go_ret
  exact ⟨eR, bE⟩
 ·rw [if_neg c2] at H
  obtain ⟨c2b0, c2b1⟩ := bqF c2
  by_cases c5 : a0_0 = 1
  ·rw [if_pos c5] at H
   obtain ⟨c5b0, c5b1⟩ := bqT c5
   clear c5
   replace H := bS H
   obtain ⟨t102, A60, H⟩ := H
   try dsimp only at H
   have A6 := aM A60
   clear A60
   by_cases c7 : t102 = true
   ·subst c7
    rw [if_pos rfl] at H
    obtain rfl := sI H
    go_enter Tryz.func93, Tryz.ntmps93
    go_wp2_with (first | ((with_reducible refine gD 1 rfl ?_); refine bX 1 #[.int .i64 a0_0, .int .i64 a0_1, .int .i64 a0_2, .string a0_3, .bool a0_4, .int .i64 a0_5] 46 ?_; intro gb101 hg w8 hbox hb; replace HB := bK w hbox hg hb; obtain ⟨BK101, GW101, HB⟩ := HB; have GE101 := GW101; clear hb hbox hg; obtain ⟨hcz9_0, hcz9_1, hcz9_2, hcz9_3, hcz9_4, hcz9_5, hfz9_0, hfz9_1, hfz9_2, hfz9_3, hfz9_4, hfz9_5⟩ := bc6 BK101.out) | ((with_reducible refine gC 133 rfl ?_); refine gL 14 Tryz.func133 #[.agg #[.int .i64 a0_1, .int .i64 a0_2]] ?_; (with_reducible refine (Na8.calls k a0_1 a0_2 true _ A6.out).mono ?_); rintro e w10 ⟨rfl, hb⟩; refine ⟨_, rfl, ?_⟩; replace BK101 := aM (Nad (g := gb101) (o := .cells #[.int .i64 a0_0, .int .i64 a0_1, .int .i64 a0_2, .string a0_3, .bool a0_4, .int .i64 a0_5] 46 (0, 0)) (bd BK101.out) hb); replace HB := aM (Nac bE hb); (try clear hb); obtain ⟨hcz11_0, hcz11_1, hcz11_2, hcz11_3, hcz11_4, hcz11_5, hfz11_0, hfz11_1, hfz11_2, hfz11_3, hfz11_4, hfz11_5⟩ := bc6 BK101.out))
    go_ret
    exact ⟨eR, bE⟩
   ·replace c7 := Bool.eq_false_iff.mpr c7
    subst c7
    rw [if_neg fT] at H
    obtain rfl := sI H
    go_enter Tryz.func93, Tryz.ntmps93
    go_wp2_with (first | ((with_reducible refine gD 1 rfl ?_); refine bX 1 #[.int .i64 a0_0, .int .i64 a0_1, .int .i64 a0_2, .string a0_3, .bool a0_4, .int .i64 a0_5] 46 ?_; intro gb101 hg w12 hbox hb; replace HB := bK w hbox hg hb; obtain ⟨BK101, GW101, HB⟩ := HB; have GE101 := GW101; clear hb hbox hg; obtain ⟨hcz13_0, hcz13_1, hcz13_2, hcz13_3, hcz13_4, hcz13_5, hfz13_0, hfz13_1, hfz13_2, hfz13_3, hfz13_4, hfz13_5⟩ := bc6 BK101.out) | ((with_reducible refine gC 133 rfl ?_); refine gL 14 Tryz.func133 #[.agg #[.int .i64 a0_1, .int .i64 a0_2]] ?_; (with_reducible refine (Na8.calls k a0_1 a0_2 false _ A6.out).mono ?_); rintro e w14 ⟨rfl, hb⟩; refine ⟨_, rfl, ?_⟩; replace BK101 := aM (Nad (g := gb101) (o := .cells #[.int .i64 a0_0, .int .i64 a0_1, .int .i64 a0_2, .string a0_3, .bool a0_4, .int .i64 a0_5] 46 (0, 0)) (bd BK101.out) hb); replace HB := aM (Nac bE hb); (try clear hb)))
    go_ret
    exact ⟨eR, bE⟩
  ·rw [if_neg c5] at H
   obtain ⟨c5b0, c5b1⟩ := bqF c5
   by_cases c15 : a0_0 = 2
   ·rw [if_pos c15] at H
    obtain ⟨c15b0, c15b1⟩ := bqT c15
    clear c15
    by_cases c16 : (a0_3.size : Int) ≤ 256
    ·rw [if_pos c16] at H
     have c16b0 : decide ((a0_3.size : Int) ≤ 256) = true := decide_eq_true c16
     have c16b1 : decide (a0_3.size ≤ 256) = true := decide_eq_true (by omega)
     clear c16
     replace H := bS H
     obtain ⟨t103, A170, H⟩ := H
     try dsimp only at H
     have A17 := aM A170
     clear A170
     by_cases c18 : t103 = true
     ·subst c18
      rw [if_pos rfl] at H
      obtain rfl := sI H
      go_enter Tryz.func93, Tryz.ntmps93
      go_wp2_with (first | ((with_reducible refine gD 1 rfl ?_); refine bX 1 #[.int .i64 a0_0, .int .i64 a0_1, .int .i64 a0_2, .string a0_3, .bool a0_4, .int .i64 a0_5] 46 ?_; intro gb101 hg w19 hbox hb; replace HB := bK w hbox hg hb; obtain ⟨BK101, GW101, HB⟩ := HB; have GE101 := GW101; clear hb hbox hg; obtain ⟨hcz20_0, hcz20_1, hcz20_2, hcz20_3, hcz20_4, hcz20_5, hfz20_0, hfz20_1, hfz20_2, hfz20_3, hfz20_4, hfz20_5⟩ := bc6 BK101.out) | (go_at_call 134; (with_reducible refine (Naw.calls k a0_3 true _ A17.out).mono ?_); rintro e w' ⟨rfl, ⟨nd, rfl⟩⟩))
      go_ret
      exact ⟨eR, bE⟩
     ·replace c18 := Bool.eq_false_iff.mpr c18
      subst c18
      rw [if_neg fT] at H
      obtain rfl := sI H
      go_enter Tryz.func93, Tryz.ntmps93
      go_wp2_with (first | ((with_reducible refine gD 1 rfl ?_); refine bX 1 #[.int .i64 a0_0, .int .i64 a0_1, .int .i64 a0_2, .string a0_3, .bool a0_4, .int .i64 a0_5] 46 ?_; intro gb101 hg w21 hbox hb; replace HB := bK w hbox hg hb; obtain ⟨BK101, GW101, HB⟩ := HB; have GE101 := GW101; clear hb hbox hg; obtain ⟨hcz22_0, hcz22_1, hcz22_2, hcz22_3, hcz22_4, hcz22_5, hfz22_0, hfz22_1, hfz22_2, hfz22_3, hfz22_4, hfz22_5⟩ := bc6 BK101.out) | (go_at_call 134; (with_reducible refine (Naw.calls k a0_3 false _ A17.out).mono ?_); rintro e w' ⟨rfl, ⟨nd, rfl⟩⟩))
      go_ret
      exact ⟨eR, bE⟩
    ·rw [if_neg c16] at H
     have c16b0 : decide ((a0_3.size : Int) ≤ 256) = false := decide_eq_false c16
     have c16b1 : decide (a0_3.size ≤ 256) = false := decide_eq_false (by omega)
     clear c16
     obtain rfl := sI H
     go_enter Tryz.func93, Tryz.ntmps93
     go_wp2_with (first | ((with_reducible refine gD 1 rfl ?_); refine bX 1 #[.int .i64 a0_0, .int .i64 a0_1, .int .i64 a0_2, .string a0_3, .bool a0_4, .int .i64 a0_5] 46 ?_; intro gb101 hg w23 hbox hb; replace HB := bK w hbox hg hb; obtain ⟨BK101, GW101, HB⟩ := HB; have GE101 := GW101; clear hb hbox hg; obtain ⟨hcz24_0, hcz24_1, hcz24_2, hcz24_3, hcz24_4, hcz24_5, hfz24_0, hfz24_1, hfz24_2, hfz24_3, hfz24_4, hfz24_5⟩ := bc6 BK101.out))
     go_ret
     exact ⟨eR, bE⟩
   ·rw [if_neg c15] at H
    obtain ⟨c15b0, c15b1⟩ := bqF c15
    by_cases c25 : a0_0 = 3
    ·rw [if_pos c25] at H
     obtain ⟨c25b0, c25b1⟩ := bqT c25
     clear c25
     obtain rfl := sI H
     go_enter Tryz.func93, Tryz.ntmps93
     go_wp2_with (first | ((with_reducible refine gD 1 rfl ?_); refine bX 1 #[.int .i64 a0_0, .int .i64 a0_1, .int .i64 a0_2, .string a0_3, .bool a0_4, .int .i64 a0_5] 46 ?_; intro gb101 hg w26 hbox hb; replace HB := bK w hbox hg hb; obtain ⟨BK101, GW101, HB⟩ := HB; have GE101 := GW101; clear hb hbox hg; obtain ⟨hcz27_0, hcz27_1, hcz27_2, hcz27_3, hcz27_4, hcz27_5, hfz27_0, hfz27_1, hfz27_2, hfz27_3, hfz27_4, hfz27_5⟩ := bc6 BK101.out))
     go_ret
     exact ⟨eR, bE⟩
    ·rw [if_neg c25] at H
     obtain ⟨c25b0, c25b1⟩ := bqF c25
     by_cases c28 : a0_0 = 4
     ·rw [if_pos c28] at H
      obtain ⟨c28b0, c28b1⟩ := bqT c28
      clear c28
      by_cases c29 : a0_5 ≥ 1
      ·rw [if_pos c29] at H
       have c29b0 : decide (1 ≤ a0_5) = true := decide_eq_true c29
       clear c29
       by_cases c30 : a0_5 ≤ 8
       ·rw [if_pos c30] at H
        have c30b0 : decide (a0_5 ≤ 8) = true := decide_eq_true c30
        clear c30
        obtain rfl := sI H
        go_enter Tryz.func93, Tryz.ntmps93
        go_wp2_with (first | ((with_reducible refine gD 1 rfl ?_); refine bX 1 #[.int .i64 a0_0, .int .i64 a0_1, .int .i64 a0_2, .string a0_3, .bool a0_4, .int .i64 a0_5] 46 ?_; intro gb101 hg w31 hbox hb; replace HB := bK w hbox hg hb; obtain ⟨BK101, GW101, HB⟩ := HB; have GE101 := GW101; clear hb hbox hg; obtain ⟨hcz32_0, hcz32_1, hcz32_2, hcz32_3, hcz32_4, hcz32_5, hfz32_0, hfz32_1, hfz32_2, hfz32_3, hfz32_4, hfz32_5⟩ := bc6 BK101.out))
        go_ret
        exact ⟨eR, bE⟩
       ·rw [if_neg c30] at H
        have c30b0 : decide (a0_5 ≤ 8) = false := decide_eq_false c30
        clear c30
        obtain rfl := sI H
        go_enter Tryz.func93, Tryz.ntmps93
        go_wp2_with (first | ((with_reducible refine gD 1 rfl ?_); refine bX 1 #[.int .i64 a0_0, .int .i64 a0_1, .int .i64 a0_2, .string a0_3, .bool a0_4, .int .i64 a0_5] 46 ?_; intro gb101 hg w33 hbox hb; replace HB := bK w hbox hg hb; obtain ⟨BK101, GW101, HB⟩ := HB; have GE101 := GW101; clear hb hbox hg; obtain ⟨hcz34_0, hcz34_1, hcz34_2, hcz34_3, hcz34_4, hcz34_5, hfz34_0, hfz34_1, hfz34_2, hfz34_3, hfz34_4, hfz34_5⟩ := bc6 BK101.out))
        go_ret
        exact ⟨eR, bE⟩
      ·rw [if_neg c29] at H
       have c29b0 : decide (1 ≤ a0_5) = false := decide_eq_false c29
       clear c29
       obtain rfl := sI H
       go_enter Tryz.func93, Tryz.ntmps93
       go_wp2_with (first | ((with_reducible refine gD 1 rfl ?_); refine bX 1 #[.int .i64 a0_0, .int .i64 a0_1, .int .i64 a0_2, .string a0_3, .bool a0_4, .int .i64 a0_5] 46 ?_; intro gb101 hg w35 hbox hb; replace HB := bK w hbox hg hb; obtain ⟨BK101, GW101, HB⟩ := HB; have GE101 := GW101; clear hb hbox hg; obtain ⟨hcz36_0, hcz36_1, hcz36_2, hcz36_3, hcz36_4, hcz36_5, hfz36_0, hfz36_1, hfz36_2, hfz36_3, hfz36_4, hfz36_5⟩ := bc6 BK101.out))
       go_ret
       exact ⟨eR, bE⟩
     ·rw [if_neg c28] at H
      obtain ⟨c28b0, c28b1⟩ := bqF c28
      obtain rfl := sI H
      go_enter Tryz.func93, Tryz.ntmps93
      go_wp2_with (first | ((with_reducible refine gD 1 rfl ?_); refine bX 1 #[.int .i64 a0_0, .int .i64 a0_1, .int .i64 a0_2, .string a0_3, .bool a0_4, .int .i64 a0_5] 46 ?_; intro gb101 hg w37 hbox hb; replace HB := bK w hbox hg hb; obtain ⟨BK101, GW101, HB⟩ := HB; have GE101 := GW101; clear hb hbox hg; obtain ⟨hcz38_0, hcz38_1, hcz38_2, hcz38_3, hcz38_4, hcz38_5, hfz38_0, hfz38_1, hfz38_2, hfz38_3, hfz38_4, hfz38_5⟩ := bc6 BK101.out))
      go_ret
      exact ⟨eR, bE⟩
end
def Ncr.f (a0 : Int) : Option (Bool) := if a0 ≥ 0 then (some (decide (a0 < 16))) else (some false)
theorem Ncr.calls (a0 : Int) (r : Bool) (w : World) (h : Ncr.f a0 = some r) :
 Calls Tryz.prog 102 #[.int .i64 a0] w fun e w' => e = .returned (.bool r) ∧ Na9 w w' := by
 have H := h
 unfold Ncr.f at H
 clear h
 by_cases c2 : a0 ≥ 0
 ·rw [if_pos c2] at H
  have c2b0 : decide (0 ≤ a0) = true := decide_eq_true c2
  clear c2
  obtain rfl := sI H
  go_enter Tryz.func102, Tryz.ntmps102
  go_wp2
  go_ret
  exact ⟨eR, dE⟩
 ·rw [if_neg c2] at H
  have c2b0 : decide (0 ≤ a0) = false := decide_eq_false c2
  clear c2
  obtain rfl := sI H
  go_enter Tryz.func102, Tryz.ntmps102
  go_wp2
  go_ret
  exact ⟨eR, dE⟩
def Ndx.f (a0 : Int) : Option (Bool) := if a0 ≥ 0 then (some (decide (a0 < 65536))) else (some false)
theorem Ndx.calls (a0 : Int) (r : Bool) (w : World) (h : Ndx.f a0 = some r) :
 Calls Tryz.prog 103 #[.int .i64 a0] w fun e w' => e = .returned (.bool r) ∧ Na9 w w' := by
 have H := h
 unfold Ndx.f at H
 clear h
 by_cases c2 : a0 ≥ 0
 ·rw [if_pos c2] at H
  have c2b0 : decide (0 ≤ a0) = true := decide_eq_true c2
  clear c2
  obtain rfl := sI H
  go_enter Tryz.func103, Tryz.ntmps103
  go_wp2
  go_ret
  exact ⟨eR, dE⟩
 ·rw [if_neg c2] at H
  have c2b0 : decide (0 ≤ a0) = false := decide_eq_false c2
  clear c2
  obtain rfl := sI H
  go_enter Tryz.func103, Tryz.ntmps103
  go_wp2
  go_ret
  exact ⟨eR, dE⟩
def Nc3.f (a0 : Int) : Option (Bool) := if a0 ≥ 0 then (some (decide (a0 < 256))) else (some false)
theorem Nc3.calls (a0 : Int) (r : Bool) (w : World) (h : Nc3.f a0 = some r) :
 Calls Tryz.prog 104 #[.int .i64 a0] w fun e w' => e = .returned (.bool r) ∧ Na9 w w' := by
 have H := h
 unfold Nc3.f at H
 clear h
 by_cases c2 : a0 ≥ 0
 ·rw [if_pos c2] at H
  have c2b0 : decide (0 ≤ a0) = true := decide_eq_true c2
  clear c2
  obtain rfl := sI H
  go_enter Tryz.func104, Tryz.ntmps104
  go_wp2
  go_ret
  exact ⟨eR, dE⟩
 ·rw [if_neg c2] at H
  have c2b0 : decide (0 ≤ a0) = false := decide_eq_false c2
  clear c2
  obtain rfl := sI H
  go_enter Tryz.func104, Tryz.ntmps104
  go_wp2
  go_ret
  exact ⟨eR, dE⟩
def Nbz.f (a0_0 a0_1 a0_2 : Int) : Option (Bool) := (Ncr.f a0_0).bind fun t102 => (if t102 = true then ((Ndx.f a0_1).bind fun t103 => (if t103 = true then ((Nc3.f a0_2).bind fun t104 => (some t104)) else (some false))) else (some false))
theorem Nbz.calls (a0_0 a0_1 a0_2 : Int) (r : Bool) (w : World) (h : Nbz.f a0_0 a0_1 a0_2 = some r) :
 Calls Tryz.prog 65 #[.agg #[.int .i64 a0_0, .int .i64 a0_1, .int .i64 a0_2]] w fun e w' => e = .returned (.bool r) ∧ Below w.heap.size w w' := by
 have hu64 := Tryz.underlying64
 have HB := aM (Below.refl w.heap.size w)
 have H := h
 unfold Nbz.f at H
 clear h
 replace H := bS H
 obtain ⟨t102, A20, H⟩ := H
 try dsimp only at H
 have A2 := aM A20
 clear A20
 by_cases c3 : t102 = true
 ·subst c3
  rw [if_pos rfl] at H
  replace H := bS H
  obtain ⟨t103, A40, H⟩ := H
  try dsimp only at H
  have A4 := aM A40
  clear A40
  by_cases c5 : t103 = true
  ·subst c5
   rw [if_pos rfl] at H
   replace H := bS H
   obtain ⟨t104, A60, H⟩ := H
   try dsimp only at H
   have A6 := aM A60
   clear A60
   obtain rfl := sI H
   go_enter Tryz.func65, Tryz.ntmps65
   go_wp2_with (first | ((with_reducible refine gD 1 rfl ?_); refine bX 1 #[.int .i64 a0_0, .int .i64 a0_1, .int .i64 a0_2] 64 ?_; intro gb101 hg w7 hbox hb; replace HB := bK w hbox hg hb; obtain ⟨BK101, GW101, HB⟩ := HB; have GE101 := GW101; clear hb hbox hg; obtain ⟨hcz8_0, hcz8_1, hcz8_2, hfz8_0, hfz8_1, hfz8_2⟩ := bc3 BK101.out) | ((with_reducible refine gC 102 rfl ?_); refine gL 5 Tryz.func102 #[.int .i64 a0_0] ?_; (with_reducible refine (Ncr.calls a0_0 true _ A2.out).mono ?_); rintro e w' ⟨rfl, ⟨nd, rfl⟩⟩; refine ⟨_, rfl, ?_⟩) | (go_at_call 103; (with_reducible refine (Ndx.calls a0_1 true _ A4.out).mono ?_); rintro e w' ⟨rfl, ⟨nd, rfl⟩⟩) | (go_at_call 104; (with_reducible refine (Nc3.calls a0_2 t104 _ A6.out).mono ?_); rintro e w' ⟨rfl, ⟨nd, rfl⟩⟩))
   go_ret
   exact ⟨eR, bE⟩
  ·replace c5 := Bool.eq_false_iff.mpr c5
   subst c5
   rw [if_neg fT] at H
   obtain rfl := sI H
   go_enter Tryz.func65, Tryz.ntmps65
   go_wp2_with (first | ((with_reducible refine gD 1 rfl ?_); refine bX 1 #[.int .i64 a0_0, .int .i64 a0_1, .int .i64 a0_2] 64 ?_; intro gb101 hg w9 hbox hb; replace HB := bK w hbox hg hb; obtain ⟨BK101, GW101, HB⟩ := HB; have GE101 := GW101; clear hb hbox hg; obtain ⟨hcz10_0, hcz10_1, hcz10_2, hfz10_0, hfz10_1, hfz10_2⟩ := bc3 BK101.out) | ((with_reducible refine gC 102 rfl ?_); refine gL 5 Tryz.func102 #[.int .i64 a0_0] ?_; (with_reducible refine (Ncr.calls a0_0 true _ A2.out).mono ?_); rintro e w' ⟨rfl, ⟨nd, rfl⟩⟩; refine ⟨_, rfl, ?_⟩) | (go_at_call 103; (with_reducible refine (Ndx.calls a0_1 false _ A4.out).mono ?_); rintro e w' ⟨rfl, ⟨nd, rfl⟩⟩))
   go_ret
   exact ⟨eR, bE⟩
 ·replace c3 := Bool.eq_false_iff.mpr c3
  subst c3
  rw [if_neg fT] at H
  obtain rfl := sI H
  go_enter Tryz.func65, Tryz.ntmps65
  go_wp2_with (first | ((with_reducible refine gD 1 rfl ?_); refine bX 1 #[.int .i64 a0_0, .int .i64 a0_1, .int .i64 a0_2] 64 ?_; intro gb101 hg w11 hbox hb; replace HB := bK w hbox hg hb; obtain ⟨BK101, GW101, HB⟩ := HB; have GE101 := GW101; clear hb hbox hg; obtain ⟨hcz12_0, hcz12_1, hcz12_2, hfz12_0, hfz12_1, hfz12_2⟩ := bc3 BK101.out) | ((with_reducible refine gC 102 rfl ?_); refine gL 5 Tryz.func102 #[.int .i64 a0_0] ?_; (with_reducible refine (Ncr.calls a0_0 false _ A2.out).mono ?_); rintro e w' ⟨rfl, ⟨nd, rfl⟩⟩; refine ⟨_, rfl, ?_⟩))
  go_ret
  exact ⟨eR, bE⟩
def Ndo.f (k : Nat) (a0_0 : ByteArray) (a0_1 a0_2 : Int) (a0_3 a0_4 : Bool) : Option (Bool) := if a0_0.toList = ([] : List UInt8) then ((Nbz.f 0 a0_1 a0_2).bind fun t102 => (some t102)) else ((Naj.f k a0_0).bind fun t103 => (if t103 = true then ((Nbz.f 0 a0_1 a0_2).bind fun t104 => (some t104)) else (some false)))
theorem Ndo.calls (k : Nat) (a0_0 : ByteArray) (a0_1 a0_2 : Int) (a0_3 a0_4 r : Bool) (w : World) (h : Ndo.f k a0_0 a0_1 a0_2 a0_3 a0_4 = some r) :
 Calls Tryz.prog 94 #[.agg #[.string a0_0, .int .i64 a0_1, .int .i64 a0_2, .bool a0_3, .bool a0_4]] w fun e w' => e = .returned (.bool r) ∧ Below w.heap.size w w' := by
 have hu48 := Tryz.underlying48
 have hu64 := Tryz.underlying64
 have HB := aM (Below.refl w.heap.size w)
 have H := h
 unfold Ndo.f at H
 clear h
 by_cases c2 : a0_0.toList = ([] : List UInt8)
 ·rw [if_pos c2] at H
  obtain ⟨c2b0, c2b1⟩ := bqT c2
  clear c2
  replace H := bS H
  obtain ⟨t102, A30, H⟩ := H
  try dsimp only at H
  have A3 := aM A30
  clear A30
  obtain rfl := sI H
  go_enter Tryz.func94, Tryz.ntmps94
  go_wp2_with (first | ((with_reducible refine gD 1 rfl ?_); refine bX 1 #[.string a0_0, .int .i64 a0_1, .int .i64 a0_2, .bool a0_3, .bool a0_4] 48 ?_; intro gb101 hg w4 hbox hb; replace HB := bK w hbox hg hb; obtain ⟨BK101, GW101, HB⟩ := HB; have GE101 := GW101; clear hb hbox hg; obtain ⟨hcz5_0, hcz5_1, hcz5_2, hcz5_3, hcz5_4, hfz5_0, hfz5_1, hfz5_2, hfz5_3, hfz5_4⟩ := bc5 BK101.out) | (go_at_call 65; (with_reducible refine (Nbz.calls 0 a0_1 a0_2 t102 _ A3.out).mono ?_); rintro e w6 ⟨rfl, hb⟩; replace BK101 := aM (Nad (g := gb101) (o := .cells #[.string a0_0, .int .i64 a0_1, .int .i64 a0_2, .bool a0_3, .bool a0_4] 48 (0, 0)) (bd BK101.out) hb); replace HB := aM (Nac bE hb); (try clear hb)))
  go_ret
  exact ⟨eR, bE⟩
 ·rw [if_neg c2] at H
  obtain ⟨c2b0, c2b1⟩ := bqF c2
  replace H := bS H
  obtain ⟨t103, A70, H⟩ := H
  try dsimp only at H
  have A7 := aM A70
  clear A70
  by_cases c8 : t103 = true
  ·subst c8
   rw [if_pos rfl] at H
   replace H := bS H
   obtain ⟨t104, A90, H⟩ := H
   try dsimp only at H
   have A9 := aM A90
   clear A90
   obtain rfl := sI H
   go_enter Tryz.func94, Tryz.ntmps94
   go_wp2_with (first | ((with_reducible refine gD 1 rfl ?_); refine bX 1 #[.string a0_0, .int .i64 a0_1, .int .i64 a0_2, .bool a0_3, .bool a0_4] 48 ?_; intro gb101 hg w10 hbox hb; replace HB := bK w hbox hg hb; obtain ⟨BK101, GW101, HB⟩ := HB; have GE101 := GW101; clear hb hbox hg; obtain ⟨hcz11_0, hcz11_1, hcz11_2, hcz11_3, hcz11_4, hfz11_0, hfz11_1, hfz11_2, hfz11_3, hfz11_4⟩ := bc5 BK101.out) | (go_at_call 135; (with_reducible refine (Naj.calls k a0_0 true _ A7.out).mono ?_); rintro e w' ⟨rfl, ⟨nd, rfl⟩⟩) | (go_at_call 65; (with_reducible refine (Nbz.calls 0 a0_1 a0_2 t104 _ A9.out).mono ?_); rintro e w12 ⟨rfl, hb⟩; replace BK101 := aM (Nad (g := gb101) (o := .cells #[.string a0_0, .int .i64 a0_1, .int .i64 a0_2, .bool a0_3, .bool a0_4] 48 (0, 0)) (bd BK101.out) hb); replace HB := aM (Nac bE hb); (try clear hb)))
   go_ret
   exact ⟨eR, bE⟩
  ·replace c8 := Bool.eq_false_iff.mpr c8
   subst c8
   rw [if_neg fT] at H
   obtain rfl := sI H
   go_enter Tryz.func94, Tryz.ntmps94
   go_wp2_with (first | ((with_reducible refine gD 1 rfl ?_); refine bX 1 #[.string a0_0, .int .i64 a0_1, .int .i64 a0_2, .bool a0_3, .bool a0_4] 48 ?_; intro gb101 hg w13 hbox hb; replace HB := bK w hbox hg hb; obtain ⟨BK101, GW101, HB⟩ := HB; have GE101 := GW101; clear hb hbox hg; obtain ⟨hcz14_0, hcz14_1, hcz14_2, hcz14_3, hcz14_4, hfz14_0, hfz14_1, hfz14_2, hfz14_3, hfz14_4⟩ := bc5 BK101.out) | (go_at_call 135; (with_reducible refine (Naj.calls k a0_0 false _ A7.out).mono ?_); rintro e w' ⟨rfl, ⟨nd, rfl⟩⟩))
   go_ret
   exact ⟨eR, bE⟩
end Go.Proofs.YtejbbceidnaloaaGreatDoor.P
