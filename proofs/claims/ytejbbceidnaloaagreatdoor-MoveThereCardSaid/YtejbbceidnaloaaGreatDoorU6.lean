import Derived.Test.YtejbbceidnaloaaGreatDoorU5
namespace Go.Proofs.YtejbbceidnaloaaGreatDoor.P
open Go.RowKit Go.Proofs.YtejbbceidnaloaaGreatDoorW.PrintWords Go.Proofs.YtejbbceidnaloaaGreatDoorW.PrintLast Go.Proofs.YtejbbceidnaloaaGreatDoorW.PrintMore
set_option linter.unusedVariables false
set_option linter.unusedSimpArgs false
section
attribute [local go_sem] max2_int min2_int max_two min_two max_three min_three max_four min_four
mutual
def Naa.j0 : Nat → ByteArray → Bool → Option (Bool)
 | 0, _, _ => none
 | k + 1, x0, x16 => if x16 = true then (some false) else (Naa.l0 k x0 (x0.size : Int) 0)
def Naa.l0 : Nat → ByteArray → Int → Int → Option (Bool)
 | 0, _, _, _ => none
 | k + 1, x0, x18, x19 => if x19 < x18 then (if 0 ≤ x19 then (if x19 < (x0.size : Int) then ((Nbq.f (bt x0 x19)).bind fun t102 => (if t102 = true then (Naa.l0 k x0 x18 (wrap64 (x19 + 1))) else ((Ncj.f (bt x0 x19)).bind fun t103 => (if t103 = true then (Naa.l0 k x0 x18 (wrap64 (x19 + 1))) else (some false))))) else (none)) else (none)) else (some true)
end
def Naa.f (k : Nat) (a0 : ByteArray) : Option (Bool) := if a0.toList = ([] : List UInt8) then (Naa.j0 k a0 true) else (if (a0.size : Int) > 16 then (Naa.j0 k a0 true) else (if 0 < (a0.size : Int) then ((Nbq.f (bt a0 0)).bind fun t101 => (Naa.j0 k a0 (!t101))) else (none)))
set_option maxHeartbeats 8000000 in
set_option maxRecDepth 100000 in
theorem Naa.calls (k : Nat) (a0 : ByteArray) (r : Bool) (w : World) (h : Naa.f k a0 = some r) :
 Calls Tryz.prog 135 #[.string a0] w fun e w' => e = .returned (.bool r) ∧ Drawn0 w w' := by
 have H := h
 unfold Naa.f at H
 clear h
 have HC2 := aM H
 clear H
 go_enter Tryz.func135, Tryz.ntmps135
 go_upto_region 1 with (fail)
 go_cut [16] (fun v16 wc => ∃ (kq : Nat) (x16_1 : Bool), v16 = .bool x16_1 ∧ Aside0 (Naa.j0 kq a0 x16_1 = some r) ∧ Aside0 (kq ≤ k) ∧ Drawn0 w wc)
 case first =>
  have H := HC2.out
  clear HC2
  by_cases c3 : a0.toList = ([] : List UInt8)
  ·rw [if_pos c3] at H
   obtain ⟨c3b0, c3b1⟩ := bqT c3
   clear c3
   (first | rw [c3b0] | (simp only [i64_w, i32_w]; rw [c3b0]) | skip)
   have H' := aM H
   clear H
   go_wp2
   go_meet
   case rel => exact ⟨_, (true), (by first | rfl | (simp; done) | (simp [*]; done)), H', ⟨by first | omega | exact Nat.le_refl _⟩, by repeat (first | exact Drawn0.refl _ | apply Drawn0.step)⟩
  ·rw [if_neg c3] at H
   obtain ⟨c3b0, c3b1⟩ := bqF c3
   (first | rw [c3b0] | (simp only [i64_w, i32_w]; rw [c3b0]) | skip)
   by_cases c4 : (a0.size : Int) > 16
   ·rw [if_pos c4] at H
    have c4b0 : decide (16 < (a0.size : Int)) = true := decide_eq_true c4
    have c4b1 : decide (16 < a0.size) = true := decide_eq_true (by omega)
    clear c4
    have H' := aM H
    clear H
    go_wp2
    go_meet
    case rel => exact ⟨_, (true), (by first | rfl | (simp; done) | (simp [*]; done)), H', ⟨by first | omega | exact Nat.le_refl _⟩, by repeat (first | exact Drawn0.refl _ | apply Drawn0.step)⟩
   ·rw [if_neg c4] at H
    have c4b0 : decide (16 < (a0.size : Int)) = false := decide_eq_false c4
    have c4b1 : decide (16 < a0.size) = false := decide_eq_false (by omega)
    clear c4
    by_cases c5 : 0 < (a0.size : Int)
    ·rw [if_pos c5] at H
     have c5b0 : decide (0 < (a0.size : Int)) = true := decide_eq_true c5
     have c5b1 : decide (0 < a0.size) = true := decide_eq_true (by omega)
     clear c5
     replace H := Option.bind_eq_some_iff.mp H
     obtain ⟨t101, A70, H⟩ := H
     try dsimp only at H
     have A7 := aM A70
     clear A70
     have H' := aM H
     clear H
     have p6 : 0 ≤ (0 : Int) := (by omega)
     have q6 : 0 < a0.size := (by have : (0 : Int) < (a0.size : Int) := of_decide_eq_true (by first | (with_reducible assumption) | assumption); omega)
     have hx6 : ∀ h : 0 < a0.size, ((a0[0]'h).toNat : Int) = bt a0 0 := bt_at a0 0
     clear p6
     have qi6 : (0 < (a0.size : Int)) = True := eq_true (of_decide_eq_true (by first | (with_reducible assumption) | assumption))
     replace q6 := eq_true q6
     go_wp2_with (first | (go_at_call 168; (with_reducible refine (Nbq.calls (bt a0 0) t101 _ A7.out).mono ?_); rintro e w' ⟨rfl, ⟨nd, rfl⟩⟩))
     go_meet
     case rel => exact ⟨_, (!t101), (by first | rfl | (simp; done) | (simp [*]; done)), H', ⟨by first | omega | exact Nat.le_refl _⟩, by repeat (first | exact Drawn0.refl _ | apply Drawn0.step)⟩
    ·rw [if_neg c5] at H
     exact absurd H (by simp)
 case rest =>
  clear HC2
  try clear c1
  try clear p2
  try clear c3
  try clear c3b0
  try clear c3b1
  try clear c4
  try clear c4b0
  try clear c4b1
  try clear c5
  try clear c5b0
  try clear c5b1
  try clear p6
  try clear q6
  try clear hx6
  try clear qi6
  try clear p6
  try clear q6
  obtain ⟨kq, x16_1, rfl, HA, HJ1, ⟨mc1, rfl⟩⟩ := hcut
  cases kq with
  | zero => exact absurd HA.out (by simp [Naa.j0])
  | succ kj1 =>
   have H := HA.out
   clear HA
   simp only [Naa.j0] at H
   by_cases c8 : x16_1 = true
   ·subst c8
    rw [if_pos rfl] at H
    obtain rfl := Option.some.inj H
    go_wp2
    go_ret
    exact ⟨by first | rfl | (simp; done) | (simp [*]; done), by repeat (first | exact Drawn0.refl _ | apply Drawn0.step)⟩
   ·replace c8 := Bool.eq_false_iff.mpr c8
    subst c8
    rw [if_neg Bool.false_ne_true] at H
    have H' := aM H
    clear H
    go_wp2
    go_loopg [19] kj1 (fun kq v19 w' => ∃ (x19_2 : Int), v19 = .int .i64 x19_2 ∧ Aside0 (Naa.l0 kq a0 (a0.size : Int) x19_2 = some r) ∧ Aside0 (kq ≤ kj1) ∧ Drawn0 w w')
    case atStart => exact ⟨(0), (by first | rfl | (simp; done) | (simp [*]; done)), H', ⟨Nat.le_refl _⟩, by repeat (first | exact Drawn0.refl _ | apply Drawn0.step)⟩
    case round =>
     clear H'
     try clear c1
     try clear p2
     try clear c3
     try clear c3b0
     try clear c3b1
     try clear c4
     try clear c4b0
     try clear c4b1
     try clear c5
     try clear c5b0
     try clear c5b1
     try clear p6
     try clear q6
     try clear hx6
     try clear qi6
     try clear c8
     try clear p2
     try clear p6
     try clear q6
     obtain ⟨x19_2, rfl, HA, HK2, ⟨m2, rfl⟩⟩ := hrel
     cases gk with
     | zero => exact absurd HA.out (by simp [Naa.l0])
     | succ k2 =>
      have H := HA.out
      clear HA
      simp only [Naa.l0] at H
      by_cases c9 : x19_2 < (a0.size : Int)
      ·rw [if_pos c9] at H
       have c9b0 : decide (x19_2 < (a0.size : Int)) = true := decide_eq_true c9
       clear c9
       by_cases c10 : 0 ≤ x19_2
       ·rw [if_pos c10] at H
        have c10b0 : decide (0 ≤ x19_2) = true := decide_eq_true c10
        clear c10
        by_cases c11 : x19_2 < (a0.size : Int)
        ·rw [if_pos c11] at H
         have c11b0 : decide (x19_2 < (a0.size : Int)) = true := decide_eq_true c11
         clear c11
         replace H := Option.bind_eq_some_iff.mp H
         obtain ⟨t102, A130, H⟩ := H
         try dsimp only at H
         have A13 := aM A130
         clear A130
         by_cases c14 : t102 = true
         ·subst c14
          rw [if_pos rfl] at H
          have H' := aM H
          clear H
          have p12 : 0 ≤ (x19_2 : Int) := of_decide_eq_true (by first | (with_reducible assumption) | assumption)
          have q12 : x19_2 < (a0.size : Int) := of_decide_eq_true (by first | (with_reducible assumption) | assumption)
          have hx12 := bt_at a0 x19_2
          replace p12 := eq_true p12
          replace q12 := eq_true q12
          go_wp2_with (first | ((with_reducible refine gate_callee (f := 168) rfl ?_); refine gL 25 Tryz.func168 #[.int .u8 (bt a0 x19_2)] ?_; (with_reducible refine (Nbq.calls (bt a0 x19_2) true _ A13.out).mono ?_); rintro e w' ⟨rfl, ⟨nd, rfl⟩⟩; refine ⟨_, rfl, ?_⟩))
          go_roundg k2
          case measure => have := HJ1.out; have := HK2.out; omega
          case rel => exact ⟨(wrap64 (x19_2 + 1)), (by first | rfl | (simp; done) | (simp [*]; done)), H', ⟨by have := HJ1.out; have := HK2.out; omega⟩, by repeat (first | exact Drawn0.refl _ | apply Drawn0.step)⟩
         ·replace c14 := Bool.eq_false_iff.mpr c14
          subst c14
          rw [if_neg Bool.false_ne_true] at H
          replace H := Option.bind_eq_some_iff.mp H
          obtain ⟨t103, A160, H⟩ := H
          try dsimp only at H
          have A16 := aM A160
          clear A160
          by_cases c17 : t103 = true
          ·subst c17
           rw [if_pos rfl] at H
           have H' := aM H
           clear H
           have p12 : 0 ≤ (x19_2 : Int) := of_decide_eq_true (by first | (with_reducible assumption) | assumption)
           have q12 : x19_2 < (a0.size : Int) := of_decide_eq_true (by first | (with_reducible assumption) | assumption)
           have hx12 := bt_at a0 x19_2
           replace p12 := eq_true p12
           replace q12 := eq_true q12
           go_wp2_with (first | ((with_reducible refine gate_callee (f := 168) rfl ?_); refine gL 25 Tryz.func168 #[.int .u8 (bt a0 x19_2)] ?_; (with_reducible refine (Nbq.calls (bt a0 x19_2) false _ A13.out).mono ?_); rintro e w' ⟨rfl, ⟨nd, rfl⟩⟩; refine ⟨_, rfl, ?_⟩; have p15 : 0 ≤ (x19_2 : Int) := of_decide_eq_true (by first | (with_reducible assumption) | assumption); have q15 : x19_2 < (a0.size : Int) := of_decide_eq_true (by first | (with_reducible assumption) | assumption); have hx15 := bt_at a0 x19_2; replace p15 := eq_true p15; replace q15 := eq_true q15) | (go_at_call 169; (with_reducible refine (Ncj.calls (bt a0 x19_2) true _ A16.out).mono ?_); rintro e w' ⟨rfl, ⟨nd, rfl⟩⟩))
           go_roundg k2
           case measure => have := HJ1.out; have := HK2.out; omega
           case rel => exact ⟨(wrap64 (x19_2 + 1)), (by first | rfl | (simp; done) | (simp [*]; done)), H', ⟨by have := HJ1.out; have := HK2.out; omega⟩, by repeat (first | exact Drawn0.refl _ | apply Drawn0.step)⟩
          ·replace c17 := Bool.eq_false_iff.mpr c17
           subst c17
           rw [if_neg Bool.false_ne_true] at H
           obtain rfl := Option.some.inj H
           have p12 : 0 ≤ (x19_2 : Int) := of_decide_eq_true (by first | (with_reducible assumption) | assumption)
           have q12 : x19_2 < (a0.size : Int) := of_decide_eq_true (by first | (with_reducible assumption) | assumption)
           have hx12 := bt_at a0 x19_2
           replace p12 := eq_true p12
           replace q12 := eq_true q12
           go_wp2_with (first | ((with_reducible refine gate_callee (f := 168) rfl ?_); refine gL 25 Tryz.func168 #[.int .u8 (bt a0 x19_2)] ?_; (with_reducible refine (Nbq.calls (bt a0 x19_2) false _ A13.out).mono ?_); rintro e w' ⟨rfl, ⟨nd, rfl⟩⟩; refine ⟨_, rfl, ?_⟩; have p15 : 0 ≤ (x19_2 : Int) := of_decide_eq_true (by first | (with_reducible assumption) | assumption); have q15 : x19_2 < (a0.size : Int) := of_decide_eq_true (by first | (with_reducible assumption) | assumption); have hx15 := bt_at a0 x19_2; replace p15 := eq_true p15; replace q15 := eq_true q15) | (go_at_call 169; (with_reducible refine (Ncj.calls (bt a0 x19_2) false _ A16.out).mono ?_); rintro e w' ⟨rfl, ⟨nd, rfl⟩⟩))
           go_ret
           exact ⟨by first | rfl | (simp; done) | (simp [*]; done), by repeat (first | exact Drawn0.refl _ | apply Drawn0.step)⟩
        ·rw [if_neg c11] at H
         exact absurd H (by simp)
       ·rw [if_neg c10] at H
        exact absurd H (by simp)
      ·rw [if_neg c9] at H
       have c9b0 : decide (x19_2 < (a0.size : Int)) = false := decide_eq_false c9
       clear c9
       obtain rfl := Option.some.inj H
       go_wp2
       go_ret
       exact ⟨by first | rfl | (simp; done) | (simp [*]; done), by repeat (first | exact Drawn0.refl _ | apply Drawn0.step)⟩
end
theorem tree_letter_f (c : Int) : Nbq.f c = some (letB c) := by
 unfold Nbq.f letB
 by_cases h1 : c ≥ 65 <;> by_cases h2 : c ≤ 90 <;> by_cases h3 : c ≥ 97 <;> simp [h1, h2, h3] <;> omega
theorem tree_digit_f (c : Int) : Ncj.f c = some (digB c) := by
 unfold Ncj.f digB
 by_cases h1 : c ≥ 48 <;> simp [h1]
def nameC (c : UInt8) : Bool := letB c.toNat || digB c.toNat
theorem bt_nat (s : ByteArray) (i : Nat) (h : i < s.size) : bt s (i : Int) = ((s.data.toList[i]'(by simpa using h)).toNat : Int) := by
 rw [← bt_at s i h, Array.getElem_toList]
 rfl
theorem sheet_l0 (s : ByteArray) (hs : s.size ≤ 1000) : ∀ (d i k : Nat), s.size - i = d → i ≤ s.size → d < k → Naa.l0 k s (s.size : Int) (i : Int) = some ((s.data.toList.drop i).all nameC) := by
 intro d
 induction d with
 | zero =>
  intro i k hd hi hk
  obtain ⟨k, rfl⟩ : ∃ y, k = y + 1 := ⟨k - 1, by omega⟩
  rw [Naa.l0, if_neg (by omega), List.drop_eq_nil_of_le (by simp; omega)]
  rfl
 | succ d ih =>
  intro i k hd hi hk
  obtain ⟨k, rfl⟩ : ∃ y, k = y + 1 := ⟨k - 1, by omega⟩
  have hlt : i < s.size := by omega
  have hw : wrap64 ((i : Int) + 1) = ((i + 1 : Nat) : Int) := by unfold wrap64; omega
  have hd' : s.data.toList.drop i = s.data.toList[i]'(by simpa using hlt) :: s.data.toList.drop (i + 1) := List.drop_eq_getElem_cons (by simpa using hlt)
  rw [Naa.l0, if_pos (by omega), if_pos (by omega), if_pos (by omega), tree_letter_f, bt_nat s i hlt, hw, hd', List.all_cons]
  simp only [Option.bind_some, tree_digit_f]
  rw [ih (i + 1) k (by omega) (by omega) (by omega)]
  unfold nameC
  cases letB ((s.data.toList[i]'(by simpa using hlt)).toNat : Int) <;> cases digB ((s.data.toList[i]'(by simpa using hlt)).toNat : Int) <;> simp
def sheetB (s : ByteArray) : Bool := decide (1 ≤ s.size ∧ s.size ≤ 16) && letB (bt s 0) && s.data.toList.all nameC
theorem toList_nil (s : ByteArray) : s.toList = [] ↔ s.size = 0 := by
 rw [ByteArray.toList_eq]
 constructor
 ·intro h
  have := congrArg List.length h
  simpa using this
 ·intro h
  apply List.eq_nil_of_length_eq_zero
  simpa using h
theorem sheetName_f (s : ByteArray) (k : Nat) : Naa.f (k + 18) s = some (sheetB s) := by
 unfold Naa.f sheetB
 by_cases h0 : s.size = 0
 ·rw [if_pos ((toList_nil s).mpr h0), Naa.j0]
  simp [h0]
 ·rw [if_neg (fun h => h0 ((toList_nil s).mp h))]
  by_cases h1 : 16 < s.size
  ·rw [if_pos (by omega), Naa.j0]
   have : ¬ s.size ≤ 16 := by omega
   simp [this]
  ·rw [if_neg (by omega), if_pos (by omega), tree_letter_f]
   simp only [Option.bind_some]
   rw [Naa.j0]
   have e : 1 ≤ s.size ∧ s.size ≤ 16 := by omega
   cases hl : letB (bt s 0)
   ·simp
   ·have := sheet_l0 s (by omega) s.size 0 (k + 17) (by omega) (by omega) (by omega)
    simp only [List.drop_zero] at this
    simp only [Bool.not_true, Bool.false_eq_true, if_false]
    rw [show (0 : Int) = ((0 : Nat) : Int) from rfl, this]
    simp [e]
theorem tree_sheetName_is (s : ByteArray) (w : World) : Calls Tryz.prog 135 #[.string s] w fun e w' => e = .returned (.bool (sheetB s)) ∧ Drawn0 w w' :=
 Naa.calls (0 + 18) s (sheetB s) w (sheetName_f s 0)
theorem nameC_ascii {c : UInt8} (h : nameC c = true) : c.toNat < 128 := by
 unfold nameC letB digB at h
 simp at h
 omega
def fnB (s : ByteArray) : Bool := sheetB s && decide (Lib.toUpperA s.data.toList = s.data.toList)
theorem functionName_any (s : ByteArray) (w : World) : Calls Tryz.prog 96 #[.string s] w fun e w' => e = .returned (.bool (fnB s)) ∧ Below w.heap.size w w' := by
 have hS := tree_sheetName_is s
 cases hb : sheetB s
 ·have hx : fnB s = false := by unfold fnB; rw [hb]; rfl
  rw [hb] at hS
  have HS := lh hS
  rw [hx]
  clear hS hx hb
  go_enter Tryz.func96, Tryz.ntmps96
  go_wp2_with fail
  refine (HS.out w).mono ?_
  rintro e w' ⟨rfl, ⟨m, rfl⟩⟩
  go_wp2_with fail
  go_ret
  exact ⟨rfl, pw_below_drewN (Below.refl _ _) _⟩
 ·have hx : fnB s = decide (Lib.toUpperA s.data.toList = s.data.toList) := by unfold fnB; rw [hb]; rfl
  have hsz : s.size ≤ 16 := by unfold sheetB at hb; simp at hb; omega
  have hal : ∀ (j : Nat) (b : UInt8), s.data.toList[j]? = some b → b.toNat < 128 := by
   intro j b hj
   unfold sheetB at hb
   simp only [Bool.and_eq_true, List.all_eq_true] at hb
   exact nameC_ascii (hb.2 b (List.mem_of_getElem? hj))
  rw [hb] at hS
  have HS := lh hS
  have HU := lh fun w => Tryz.strings_ToUpper_ascii s w (by omega) hal
  rw [hx]
  clear hS hx hb hal
  go_enter Tryz.func96, Tryz.ntmps96
  go_wp2_with fail
  refine (HS.out w).mono ?_
  rintro e w' ⟨rfl, ⟨m, rfl⟩⟩
  go_wp2_with fail
  refine (HU.out _).mono ?_
  rintro e w' ⟨rfl, hB⟩
  go_wp2_with fail
  go_ret
  refine ⟨?_, (pw_below_drewN (Below.refl _ _) _).trans hB⟩
  show Ending.returned (Value.bool (Lib.toUpperA s.data.toList == s.toList)) = _
  rw [ByteArray.toList_eq]
  congr 2
  exact (Bool.beq_eq_decide_eq _ _)
def Nce.f (a0 : ByteArray) : Option (Bool) := some (fnB a0)
theorem Nce.calls (a0 : ByteArray) (r : Bool) (w : World) (h : Nce.f a0 = some r) :
 Calls Tryz.prog 96 #[.string a0] w fun e w' => e = .returned (.bool r) ∧ Below w.heap.size w w' := by
 obtain rfl := Option.some.inj h
 exact functionName_any a0 w
section
attribute [local go_sem] max2_int min2_int max_two min_two max_three min_three max_four min_four
theorem eqA44 (d : Nat) (w : World) (x0 y0 : Int) (x1 y1 : Int) :
 (Op.equalIn (d + 2) 44 (.agg #[.int .i64 x0, .int .i64 x1]) (.agg #[.int .i64 y0, .int .i64 y1])).run Tryz.prog w = .ok (x0 == y0 && (x1 == y1)) w := by
 refine eqA_of Tryz.underlying44 (by kernel_rfl) ?_
 refine eqf_cons (by rfl) (by go_simp; rfl) (by go_simp; rfl) (by go_simp) ?_
 exact eqf_last (by rfl) (by go_simp; rfl) (by go_simp; rfl) (by go_simp)
theorem eqA46 (d : Nat) (w : World) (x0 y0 : Int) (x1 y1 : Int) (x2 y2 : Int) (x3 y3 : ByteArray) (x4 y4 : Bool) (x5 y5 : Int) :
 (Op.equalIn (d + 3) 46 (.agg #[.int .i64 x0, .int .i64 x1, .int .i64 x2, .string x3, .bool x4, .int .i64 x5]) (.agg #[.int .i64 y0, .int .i64 y1, .int .i64 y2, .string y3, .bool y4, .int .i64 y5])).run Tryz.prog w = .ok (x0 == y0 && ((x1 == y1 && (x2 == y2)) && (x3.toList == y3.toList && (x4 == y4 && (x5 == y5))))) w := by
 refine eqA_of Tryz.underlying46 (by kernel_rfl) ?_
 refine eqf_cons (by rfl) (by go_simp; rfl) (by go_simp; rfl) (by go_simp) ?_
 refine eqf_cons (by rfl) (by go_simp) (by go_simp) (eqA44 (d + 0) w _ _ _ _) ?_
 refine eqf_cons (by rfl) (by go_simp; rfl) (by go_simp; rfl) (by go_simp) ?_
 refine eqf_cons (by rfl) (by go_simp; rfl) (by go_simp; rfl) (by go_simp) ?_
 exact eqf_last (by rfl) (by go_simp; rfl) (by go_simp; rfl) (by go_simp)
end
section
attribute [local go_sem] max2_int min2_int max_two min_two max_three min_three max_four min_four
def Nbv.l0 : Nat → Int → Int → Option (Int)
 | 0, _, _ => none
 | k + 1, x0, x1 => if x1 > 0 then (if x1 = 0 then (none) else (Nbv.l0 k x1 (Int.tmod x0 x1))) else (some x0)
def Nbv.f (k : Nat) (a0 : Int) (a1 : Int) : Option (Int) := Nbv.l0 k a0 a1
set_option maxHeartbeats 8000000 in
set_option maxRecDepth 100000 in
theorem Nbv.calls (k : Nat) (a0 : Int) (a1 : Int) (r : Int) (w : World) (h : Nbv.f k a0 a1 = some r) :
 Calls Tryz.prog 166 #[.int .u64 a0, .int .u64 a1] w fun e w' => e = .returned (.int .u64 r) ∧ Drawn0 w w' := by
 have H := h
 unfold Nbv.f at H
 clear h
 have H' := aM H
 clear H
 go_enter Tryz.func166, Tryz.ntmps166
 go_wp2
 repeat (go_quiet (fail); try go_wp2)
 go_loopg [0, 1] k (fun kq v0 v1 w' => ∃ (x0_1 : Int) (x1_1 : Int), v0 = .int .u64 x0_1 ∧ v1 = .int .u64 x1_1 ∧ Aside0 (Nbv.l0 kq x0_1 x1_1 = some r) ∧ Aside0 (kq ≤ k) ∧ Drawn0 w w')
 case atStart => exact ⟨(a0), (a1), (by first | rfl | (simp; done) | (simp [*]; done)), (by first | rfl | (simp; done) | (simp [*]; done)), H', ⟨Nat.le_refl _⟩, by repeat (first | exact Drawn0.refl _ | apply Drawn0.step)⟩
 case round =>
  clear H'
  try clear c1
  try clear p2
  obtain ⟨x0_1, x1_1, rfl, rfl, HA, HK1, ⟨m1, rfl⟩⟩ := hrel
  cases gk with
  | zero => exact absurd HA.out (by simp [Nbv.l0])
  | succ k1 =>
   have H := HA.out
   clear HA
   simp only [Nbv.l0] at H
   by_cases c3 : x1_1 > 0
   ·rw [if_pos c3] at H
    have c3b0 : decide (0 < x1_1) = true := decide_eq_true c3
    clear c3
    by_cases c4 : x1_1 = 0
    ·rw [if_pos c4] at H
     exact absurd H (by simp)
    ·rw [if_neg c4] at H
     obtain ⟨c4b0, c4b1⟩ := bqF c4
     have H' := aM H
     clear H
     go_wp2
     repeat (go_quiet (fail); try go_wp2)
     go_roundg k1
     case measure => have := HK1.out; omega
     case rel => exact ⟨(x1_1), (Int.tmod x0_1 x1_1), (by first | rfl | (simp; done) | (simp [*]; done)), (by first | rfl | (simp; done) | (simp [*]; done)), H', ⟨by have := HK1.out; omega⟩, by repeat (first | exact Drawn0.refl _ | apply Drawn0.step)⟩
   ·rw [if_neg c3] at H
    have c3b0 : decide (0 < x1_1) = false := decide_eq_false c3
    clear c3
    obtain rfl := Option.some.inj H
    go_wp2
    repeat (go_quiet (fail); try go_wp2)
    go_ret
    exact ⟨by first | rfl | (simp; done) | (simp [*]; done), by repeat (first | exact Drawn0.refl _ | apply Drawn0.step)⟩
end
section
attribute [local go_sem] max2_int min2_int max_two min_two max_three min_three max_four min_four
def Nbf.f (a0 : Int) : Option (Int) := if a0 < 0 then (some (IntKind.u64.wrap (-(IntKind.u64.wrap (a0))))) else (some (IntKind.u64.wrap (a0)))
set_option maxHeartbeats 8000000 in
set_option maxRecDepth 100000 in
theorem Nbf.calls (a0 : Int) (r : Int) (w : World) (h : Nbf.f a0 = some r) :
 Calls Tryz.prog 167 #[.int .i64 a0] w fun e w' => e = .returned (.int .u64 r) ∧ Drawn0 w w' := by
 have H := h
 unfold Nbf.f at H
 clear h
 by_cases c2 : a0 < 0
 ·rw [if_pos c2] at H
  have c2b0 : decide (a0 < 0) = true := decide_eq_true c2
  clear c2
  obtain rfl := Option.some.inj H
  go_enter Tryz.func167, Tryz.ntmps167
  go_wp2
  go_ret
  exact ⟨by first | rfl | (simp; done) | (simp [*]; done), by repeat (first | exact Drawn0.refl _ | apply Drawn0.step)⟩
 ·rw [if_neg c2] at H
  have c2b0 : decide (a0 < 0) = false := decide_eq_false c2
  clear c2
  obtain rfl := Option.some.inj H
  go_enter Tryz.func167, Tryz.ntmps167
  go_wp2
  go_ret
  exact ⟨by first | rfl | (simp; done) | (simp [*]; done), by repeat (first | exact Drawn0.refl _ | apply Drawn0.step)⟩
end
section
attribute [local go_sem] max2_int min2_int max_two min_two max_three min_three max_four min_four
def Nar.j0 : Nat → Bool → Int → Int → Option (Bool)
 | 0, _, _, _ => none
 | k + 1, x20, x102000, x102001 => if x20 = true then (some false) else ((Nbf.f x102000).bind fun t102 => ((Nbv.f k t102 (IntKind.u64.wrap (x102001))).bind fun t103 => (some (t103 == 1))))
def Nar.f (k : Nat) (a0_0 : Int) (a0_1 : Int) : Option (Bool) := if a0_0 < (-1000000000000) then (Nar.j0 k true a0_0 a0_1) else (if a0_0 > 1000000000000 then (Nar.j0 k true a0_0 a0_1) else (if a0_1 < 1 then (Nar.j0 k true a0_0 a0_1) else (Nar.j0 k (decide (a0_1 > 1000000)) a0_0 a0_1)))
set_option maxHeartbeats 8000000 in
set_option maxRecDepth 100000 in
theorem Nar.calls (k : Nat) (a0_0 : Int) (a0_1 : Int) (r : Bool) (w : World) (h : Nar.f k a0_0 a0_1 = some r) :
 Calls Tryz.prog 133 #[.agg #[.int .i64 a0_0, .int .i64 a0_1]] w fun e w' => e = .returned (.bool r) ∧ Below w.heap.size w w' := by
 have hu44 := Tryz.underlying44
 have HB := aM (Below.refl w.heap.size w)
 have H := h
 unfold Nar.f at H
 clear h
 have HC2 := aM H
 clear H
 go_enter Tryz.func133, Tryz.ntmps133
 go_upto_region 1 with (first | ((with_reducible refine gate_dst (N := 1) rfl ?_); refine bX 1 #[.int .i64 a0_0, .int .i64 a0_1] 44 ?_; intro gb101 hg w3 hbox hb; have BK101 := aM (hbox); have GW101 := aM ((by rw [hg]; exact (below_size bE) : w.heap.size ≤ gb101)); have GE101 := GW101; replace HB := aM (below_step bE hb); clear hb hbox hg))
 repeat (go_quiet (first | ((with_reducible refine gate_dst (N := 1) rfl ?_); refine bX 1 #[.int .i64 a0_0, .int .i64 a0_1] 44 ?_; intro gb101 hg w3 hbox hb; have BK101 := aM (hbox); have GW101 := aM ((by rw [hg]; exact (below_size bE) : w.heap.size ≤ gb101)); have GE101 := GW101; replace HB := aM (below_step bE hb); clear hb hbox hg)); go_upto_region 1 with (first | ((with_reducible refine gate_dst (N := 1) rfl ?_); refine bX 1 #[.int .i64 a0_0, .int .i64 a0_1] 44 ?_; intro gb101 hg w3 hbox hb; have BK101 := aM (hbox); have GW101 := aM ((by rw [hg]; exact (below_size bE) : w.heap.size ≤ gb101)); have GE101 := GW101; replace HB := aM (below_step bE hb); clear hb hbox hg)))
 (try simp only [Act.put, List.setIfInBounds_toArray, List.set_cons_zero, List.set_cons_succ])
 go_cut [20] (fun v20 wc => ∃ (kq : Nat) (x20_1 : Bool), v20 = .bool x20_1 ∧ Aside0 (Nar.j0 kq x20_1 a0_0 a0_1 = some r) ∧ Aside0 (kq ≤ k) ∧ Aside0 (wc.heap[gb101]? = some (.cells #[.int .i64 a0_0, .int .i64 a0_1] 44 (0, 0))) ∧ Aside0 (Below w.heap.size w wc))
 case first =>
  have H := HC2.out
  clear HC2
  by_cases c4 : a0_0 < (-1000000000000)
  ·rw [if_pos c4] at H
   have c4b0 : decide (a0_0 < (-1000000000000)) = true := decide_eq_true c4
   clear c4
   (first | rw [c4b0] | (simp only [i64_w, i32_w]; rw [c4b0]) | skip)
   have H' := aM H
   clear H
   have hcz5_0 : w3.cell? ⟨gb101, 0, none⟩ = some (.int .i64 a0_0) := (blk_cell BK101.out 0).trans rfl
   have hcz5_1 : w3.cell? ⟨gb101, 1, none⟩ = some (.int .i64 a0_1) := (blk_cell BK101.out 1).trans rfl
   have hfz5_0 := blk_frozen BK101.out 0
   have hfz5_1 := blk_frozen BK101.out 1
   go_wp2
   repeat (go_quiet (fail); try go_wp2)
   go_meet
   case rel => exact ⟨_, (true), (by first | rfl | (simp; done) | (simp [*]; done)), H', ⟨by first | omega | exact Nat.le_refl _⟩, ⟨BK101.out⟩, ⟨bE⟩⟩
  ·rw [if_neg c4] at H
   have c4b0 : decide (a0_0 < (-1000000000000)) = false := decide_eq_false c4
   clear c4
   (first | rw [c4b0] | (simp only [i64_w, i32_w]; rw [c4b0]) | skip)
   by_cases c6 : a0_0 > 1000000000000
   ·rw [if_pos c6] at H
    have c6b0 : decide (1000000000000 < a0_0) = true := decide_eq_true c6
    clear c6
    have H' := aM H
    clear H
    have hcz7_0 : w3.cell? ⟨gb101, 0, none⟩ = some (.int .i64 a0_0) := (blk_cell BK101.out 0).trans rfl
    have hcz7_1 : w3.cell? ⟨gb101, 1, none⟩ = some (.int .i64 a0_1) := (blk_cell BK101.out 1).trans rfl
    have hfz7_0 := blk_frozen BK101.out 0
    have hfz7_1 := blk_frozen BK101.out 1
    go_wp2
    repeat (go_quiet (fail); try go_wp2)
    go_meet
    case rel => exact ⟨_, (true), (by first | rfl | (simp; done) | (simp [*]; done)), H', ⟨by first | omega | exact Nat.le_refl _⟩, ⟨BK101.out⟩, ⟨bE⟩⟩
   ·rw [if_neg c6] at H
    have c6b0 : decide (1000000000000 < a0_0) = false := decide_eq_false c6
    clear c6
    by_cases c8 : a0_1 < 1
    ·rw [if_pos c8] at H
     have c8b0 : decide (a0_1 < 1) = true := decide_eq_true c8
     clear c8
     have H' := aM H
     clear H
     have hcz9_0 : w3.cell? ⟨gb101, 0, none⟩ = some (.int .i64 a0_0) := (blk_cell BK101.out 0).trans rfl
     have hcz9_1 : w3.cell? ⟨gb101, 1, none⟩ = some (.int .i64 a0_1) := (blk_cell BK101.out 1).trans rfl
     have hfz9_0 := blk_frozen BK101.out 0
     have hfz9_1 := blk_frozen BK101.out 1
     go_wp2
     repeat (go_quiet (fail); try go_wp2)
     go_meet
     case rel => exact ⟨_, (true), (by first | rfl | (simp; done) | (simp [*]; done)), H', ⟨by first | omega | exact Nat.le_refl _⟩, ⟨BK101.out⟩, ⟨bE⟩⟩
    ·rw [if_neg c8] at H
     have c8b0 : decide (a0_1 < 1) = false := decide_eq_false c8
     clear c8
     have H' := aM H
     clear H
     have hcz10_0 : w3.cell? ⟨gb101, 0, none⟩ = some (.int .i64 a0_0) := (blk_cell BK101.out 0).trans rfl
     have hcz10_1 : w3.cell? ⟨gb101, 1, none⟩ = some (.int .i64 a0_1) := (blk_cell BK101.out 1).trans rfl
     have hfz10_0 := blk_frozen BK101.out 0
     have hfz10_1 := blk_frozen BK101.out 1
     go_wp2
     repeat (go_quiet (fail); try go_wp2)
     go_meet
     case rel => exact ⟨_, (decide (a0_1 > 1000000)), (by first | rfl | (simp; done) | (simp [*]; done)), H', ⟨by first | omega | exact Nat.le_refl _⟩, ⟨BK101.out⟩, ⟨bE⟩⟩
 case rest =>
  clear HC2
  try clear c1
  try clear p2
  try clear c4
  try clear c4b0
  try clear c6
  try clear c6b0
  try clear c8
  try clear c8b0
  try clear hcz10_0
  try clear hcz10_1
  try clear hcz5_0
  try clear hcz5_1
  try clear hcz7_0
  try clear hcz7_1
  try clear hcz9_0
  try clear hcz9_1
  try clear hfz10_0
  try clear hfz10_1
  try clear hfz5_0
  try clear hfz5_1
  try clear hfz7_0
  try clear hfz7_1
  try clear hfz9_0
  try clear hfz9_1
  obtain ⟨kq, x20_1, rfl, HA, HJ1, BK101, HB⟩ := hcut
  cases kq with
  | zero => exact absurd HA.out (by simp [Nar.j0])
  | succ kj1 =>
   have H := HA.out
   clear HA
   simp only [Nar.j0] at H
   by_cases c11 : x20_1 = true
   ·subst c11
    rw [if_pos rfl] at H
    obtain rfl := Option.some.inj H
    go_wp2
    repeat (go_quiet (fail); try go_wp2)
    go_ret
    exact ⟨eR, bE⟩
   ·replace c11 := Bool.eq_false_iff.mpr c11
    subst c11
    rw [if_neg Bool.false_ne_true] at H
    replace H := Option.bind_eq_some_iff.mp H
    obtain ⟨t102, A120, H⟩ := H
    try dsimp only at H
    have A12 := aM A120
    clear A120
    replace H := Option.bind_eq_some_iff.mp H
    obtain ⟨t103, A130, H⟩ := H
    try dsimp only at H
    have A13 := aM A130
    clear A130
    obtain rfl := Option.some.inj H
    have hcz14_0 : wc.cell? ⟨gb101, 0, none⟩ = some (.int .i64 a0_0) := (blk_cell BK101.out 0).trans rfl
    have hcz14_1 : wc.cell? ⟨gb101, 1, none⟩ = some (.int .i64 a0_1) := (blk_cell BK101.out 1).trans rfl
    have hfz14_0 := blk_frozen BK101.out 0
    have hfz14_1 := blk_frozen BK101.out 1
    go_wp2_with (first | (go_at_call 167; (with_reducible refine (Nbf.calls a0_0 t102 _ A12.out).mono ?_); rintro e w' ⟨rfl, ⟨nd, rfl⟩⟩; (try first | exact ⟨rfl, _, World.drewN_drewN _ _ _⟩ | exact ⟨rfl, _, Eq.trans (World.drewN_drewN _ _ _) (congrArg (World.drewN _) (Nat.add_assoc _ _ _))⟩)) | (go_at_call 166; (with_reducible refine (Nbv.calls kj1 t102 (IntKind.u64.wrap (a0_1)) t103 _ A13.out).mono ?_); rintro e w' ⟨rfl, ⟨nd, rfl⟩⟩; (try first | exact ⟨rfl, _, World.drewN_drewN _ _ _⟩ | exact ⟨rfl, _, Eq.trans (World.drewN_drewN _ _ _) (congrArg (World.drewN _) (Nat.add_assoc _ _ _))⟩)))
    repeat (go_quiet (first | (go_at_call 167; (with_reducible refine (Nbf.calls a0_0 t102 _ A12.out).mono ?_); rintro e w' ⟨rfl, ⟨nd, rfl⟩⟩; (try first | exact ⟨rfl, _, World.drewN_drewN _ _ _⟩ | exact ⟨rfl, _, Eq.trans (World.drewN_drewN _ _ _) (congrArg (World.drewN _) (Nat.add_assoc _ _ _))⟩)) | (go_at_call 166; (with_reducible refine (Nbv.calls kj1 t102 (IntKind.u64.wrap (a0_1)) t103 _ A13.out).mono ?_); rintro e w' ⟨rfl, ⟨nd, rfl⟩⟩; (try first | exact ⟨rfl, _, World.drewN_drewN _ _ _⟩ | exact ⟨rfl, _, Eq.trans (World.drewN_drewN _ _ _) (congrArg (World.drewN _) (Nat.add_assoc _ _ _))⟩))); try go_wp2_with (first | (go_at_call 167; (with_reducible refine (Nbf.calls a0_0 t102 _ A12.out).mono ?_); rintro e w' ⟨rfl, ⟨nd, rfl⟩⟩; (try first | exact ⟨rfl, _, World.drewN_drewN _ _ _⟩ | exact ⟨rfl, _, Eq.trans (World.drewN_drewN _ _ _) (congrArg (World.drewN _) (Nat.add_assoc _ _ _))⟩)) | (go_at_call 166; (with_reducible refine (Nbv.calls kj1 t102 (IntKind.u64.wrap (a0_1)) t103 _ A13.out).mono ?_); rintro e w' ⟨rfl, ⟨nd, rfl⟩⟩; (try first | exact ⟨rfl, _, World.drewN_drewN _ _ _⟩ | exact ⟨rfl, _, Eq.trans (World.drewN_drewN _ _ _) (congrArg (World.drewN _) (Nat.add_assoc _ _ _))⟩))))
    go_ret
    exact ⟨eR, bE⟩
end
section
attribute [local go_sem] max2_int min2_int max_two min_two max_three min_three max_four min_four
def Nak.l0 : Nat → ByteArray → Int → Int → Option (Bool)
 | 0, _, _, _ => none
 | k + 1, x0, x5, x6 => if x6 < x5 then (if 0 ≤ x6 then (if x6 < (x0.size : Int) then (if (bt x0 x6) < 32 then (some false) else (if (bt x0 x6) > 126 then (some false) else (Nak.l0 k x0 x5 (wrap64 (x6 + 1))))) else (none)) else (none)) else (some true)
def Nak.f (k : Nat) (a0 : ByteArray) : Option (Bool) := Nak.l0 k a0 (a0.size : Int) 0
set_option maxHeartbeats 8000000 in
set_option maxRecDepth 100000 in
theorem Nak.calls (k : Nat) (a0 : ByteArray) (r : Bool) (w : World) (h : Nak.f k a0 = some r) :
 Calls Tryz.prog 134 #[.string a0] w fun e w' => e = .returned (.bool r) ∧ Drawn0 w w' := by
 have H := h
 unfold Nak.f at H
 clear h
 have H' := aM H
 clear H
 go_enter Tryz.func134, Tryz.ntmps134
 go_wp2
 go_loopg [6] k (fun kq v6 w' => ∃ (x6_1 : Int), v6 = .int .i64 x6_1 ∧ Aside0 (Nak.l0 kq a0 (a0.size : Int) x6_1 = some r) ∧ Aside0 (kq ≤ k) ∧ Drawn0 w w')
 case atStart => exact ⟨(0), (by first | rfl | (simp; done) | (simp [*]; done)), H', ⟨Nat.le_refl _⟩, by repeat (first | exact Drawn0.refl _ | apply Drawn0.step)⟩
 case round =>
  clear H'
  try clear c1
  obtain ⟨x6_1, rfl, HA, HK1, ⟨m1, rfl⟩⟩ := hrel
  cases gk with
  | zero => exact absurd HA.out (by simp [Nak.l0])
  | succ k1 =>
   have H := HA.out
   clear HA
   simp only [Nak.l0] at H
   by_cases c2 : x6_1 < (a0.size : Int)
   ·rw [if_pos c2] at H
    have c2b0 : decide (x6_1 < (a0.size : Int)) = true := decide_eq_true c2
    clear c2
    by_cases c3 : 0 ≤ x6_1
    ·rw [if_pos c3] at H
     have c3b0 : decide (0 ≤ x6_1) = true := decide_eq_true c3
     clear c3
     by_cases c4 : x6_1 < (a0.size : Int)
     ·rw [if_pos c4] at H
      have c4b0 : decide (x6_1 < (a0.size : Int)) = true := decide_eq_true c4
      clear c4
      by_cases c6 : (bt a0 x6_1) < 32
      ·rw [if_pos c6] at H
       have c6b0 : decide ((bt a0 x6_1) < 32) = true := decide_eq_true c6
       clear c6
       obtain rfl := Option.some.inj H
       have p5 : 0 ≤ (x6_1 : Int) := of_decide_eq_true (by first | (with_reducible assumption) | assumption)
       have q5 : x6_1 < (a0.size : Int) := of_decide_eq_true (by first | (with_reducible assumption) | assumption)
       have hx5 := bt_at a0 x6_1
       replace p5 := eq_true p5
       replace q5 := eq_true q5
       go_wp2
       go_ret
       exact ⟨by first | rfl | (simp; done) | (simp [*]; done), by repeat (first | exact Drawn0.refl _ | apply Drawn0.step)⟩
      ·rw [if_neg c6] at H
       have c6b0 : decide ((bt a0 x6_1) < 32) = false := decide_eq_false c6
       clear c6
       by_cases c8 : (bt a0 x6_1) > 126
       ·rw [if_pos c8] at H
        have c8b0 : decide (126 < (bt a0 x6_1)) = true := decide_eq_true c8
        clear c8
        obtain rfl := Option.some.inj H
        have p5 : 0 ≤ (x6_1 : Int) := of_decide_eq_true (by first | (with_reducible assumption) | assumption)
        have q5 : x6_1 < (a0.size : Int) := of_decide_eq_true (by first | (with_reducible assumption) | assumption)
        have hx5 := bt_at a0 x6_1
        replace p5 := eq_true p5
        replace q5 := eq_true q5
        have p7 : 0 ≤ (x6_1 : Int) := of_decide_eq_true (by first | (with_reducible assumption) | assumption)
        have q7 : x6_1 < (a0.size : Int) := of_decide_eq_true (by first | (with_reducible assumption) | assumption)
        have hx7 := bt_at a0 x6_1
        replace p7 := eq_true p7
        replace q7 := eq_true q7
        go_wp2
        go_ret
        exact ⟨by first | rfl | (simp; done) | (simp [*]; done), by repeat (first | exact Drawn0.refl _ | apply Drawn0.step)⟩
       ·rw [if_neg c8] at H
        have c8b0 : decide (126 < (bt a0 x6_1)) = false := decide_eq_false c8
        clear c8
        have H' := aM H
        clear H
        have p5 : 0 ≤ (x6_1 : Int) := of_decide_eq_true (by first | (with_reducible assumption) | assumption)
        have q5 : x6_1 < (a0.size : Int) := of_decide_eq_true (by first | (with_reducible assumption) | assumption)
        have hx5 := bt_at a0 x6_1
        replace p5 := eq_true p5
        replace q5 := eq_true q5
        have p7 : 0 ≤ (x6_1 : Int) := of_decide_eq_true (by first | (with_reducible assumption) | assumption)
        have q7 : x6_1 < (a0.size : Int) := of_decide_eq_true (by first | (with_reducible assumption) | assumption)
        have hx7 := bt_at a0 x6_1
        replace p7 := eq_true p7
        replace q7 := eq_true q7
        go_wp2
        go_roundg k1
        case measure => have := HK1.out; omega
        case rel => exact ⟨(wrap64 (x6_1 + 1)), (by first | rfl | (simp; done) | (simp [*]; done)), H', ⟨by have := HK1.out; omega⟩, by repeat (first | exact Drawn0.refl _ | apply Drawn0.step)⟩
     ·rw [if_neg c4] at H
      exact absurd H (by simp)
    ·rw [if_neg c3] at H
     exact absurd H (by simp)
   ·rw [if_neg c2] at H
    have c2b0 : decide (x6_1 < (a0.size : Int)) = false := decide_eq_false c2
    clear c2
    obtain rfl := Option.some.inj H
    go_wp2
    go_ret
    exact ⟨by first | rfl | (simp; done) | (simp [*]; done), by repeat (first | exact Drawn0.refl _ | apply Drawn0.step)⟩
end
section
attribute [local go_sem] max2_int min2_int max_two min_two max_three min_three max_four min_four
attribute [local go_sem high] eqA46
def Nbn.f (k : Nat) (a0_0 : Int) (a0_1 : Int) (a0_2 : Int) (a0_3 : ByteArray) (a0_4 : Bool) (a0_5 : Int) : Option (Bool) := if a0_0 = 0 then (some (a0_0 == 0 && ((a0_1 == 0 && (a0_2 == 0)) && (a0_3.toList == ([] : List UInt8) && (!a0_4 && (a0_5 == 0)))))) else (if a0_0 = 1 then ((Nar.f k a0_1 a0_2).bind fun t102 => (if t102 = true then (some (a0_0 == 1 && (a0_3.toList == ([] : List UInt8) && (!a0_4 && (a0_5 == 0))))) else (some false))) else (if a0_0 = 2 then (if (a0_3.size : Int) ≤ 256 then ((Nak.f k a0_3).bind fun t103 => (if t103 = true then (some (a0_0 == 2 && ((a0_1 == 0 && (a0_2 == 0)) && (!a0_4 && (a0_5 == 0))))) else (some false))) else (some false)) else (if a0_0 = 3 then (some (a0_0 == 3 && ((a0_1 == 0 && (a0_2 == 0)) && (a0_3.toList == ([] : List UInt8) && (a0_5 == 0))))) else (if a0_0 = 4 then (if a0_5 ≥ 1 then (if a0_5 ≤ 8 then (some (a0_0 == 4 && ((a0_1 == 0 && (a0_2 == 0)) && (a0_3.toList == ([] : List UInt8) && (!a0_4))))) else (some false)) else (some false)) else (some false)))))
set_option maxHeartbeats 8000000 in
set_option maxRecDepth 100000 in
theorem Nbn.calls (k : Nat) (a0_0 : Int) (a0_1 : Int) (a0_2 : Int) (a0_3 : ByteArray) (a0_4 : Bool) (a0_5 : Int) (r : Bool) (w : World) (h : Nbn.f k a0_0 a0_1 a0_2 a0_3 a0_4 a0_5 = some r) :
 Calls Tryz.prog 93 #[.agg #[.int .i64 a0_0, .int .i64 a0_1, .int .i64 a0_2, .string a0_3, .bool a0_4, .int .i64 a0_5]] w fun e w' => e = .returned (.bool r) ∧ Below w.heap.size w w' := by
 have hu46 := Tryz.underlying46
 have hu44 := Tryz.underlying44
 have HB := aM (Below.refl w.heap.size w)
 have H := h
 unfold Nbn.f at H
 clear h
 by_cases c2 : a0_0 = 0
 ·rw [if_pos c2] at H
  obtain ⟨c2b0, c2b1⟩ := bqT c2
  clear c2
  obtain rfl := Option.some.inj H
  go_enter Tryz.func93, Tryz.ntmps93
  go_wp2_with (first | ((with_reducible refine gate_dst (N := 1) rfl ?_); refine bX 1 #[.int .i64 a0_0, .int .i64 a0_1, .int .i64 a0_2, .string a0_3, .bool a0_4, .int .i64 a0_5] 46 ?_; intro gb101 hg w3 hbox hb; have BK101 := aM (hbox); have GW101 := aM ((by rw [hg]; exact (below_size bE) : w.heap.size ≤ gb101)); have GE101 := GW101; replace HB := aM (below_step bE hb); clear hb hbox hg; obtain ⟨hcz4_0, hcz4_1, hcz4_2, hcz4_3, hcz4_4, hcz4_5, hfz4_0, hfz4_1, hfz4_2, hfz4_3, hfz4_4, hfz4_5⟩ := bc6 BK101.out))
  go_ret
  exact ⟨eR, bE⟩
 ·rw [if_neg c2] at H
  obtain ⟨c2b0, c2b1⟩ := bqF c2
  by_cases c5 : a0_0 = 1
  ·rw [if_pos c5] at H
   obtain ⟨c5b0, c5b1⟩ := bqT c5
   clear c5
   replace H := Option.bind_eq_some_iff.mp H
   obtain ⟨t102, A60, H⟩ := H
   try dsimp only at H
   have A6 := aM A60
   clear A60
   by_cases c7 : t102 = true
   ·subst c7
    rw [if_pos rfl] at H
    obtain rfl := Option.some.inj H
    go_enter Tryz.func93, Tryz.ntmps93
    go_wp2_with (first | ((with_reducible refine gate_dst (N := 1) rfl ?_); refine bX 1 #[.int .i64 a0_0, .int .i64 a0_1, .int .i64 a0_2, .string a0_3, .bool a0_4, .int .i64 a0_5] 46 ?_; intro gb101 hg w8 hbox hb; have BK101 := aM (hbox); have GW101 := aM ((by rw [hg]; exact (below_size bE) : w.heap.size ≤ gb101)); have GE101 := GW101; replace HB := aM (below_step bE hb); clear hb hbox hg; obtain ⟨hcz9_0, hcz9_1, hcz9_2, hcz9_3, hcz9_4, hcz9_5, hfz9_0, hfz9_1, hfz9_2, hfz9_3, hfz9_4, hfz9_5⟩ := bc6 BK101.out) | ((with_reducible refine gate_callee (f := 133) rfl ?_); refine gL 14 Tryz.func133 #[.agg #[.int .i64 a0_1, .int .i64 a0_2]] ?_; (with_reducible refine (Nar.calls k a0_1 a0_2 true _ A6.out).mono ?_); rintro e w10 ⟨rfl, hb⟩; refine ⟨_, rfl, ?_⟩; replace BK101 := aM (blk_below (g := gb101) (o := .cells #[.int .i64 a0_0, .int .i64 a0_1, .int .i64 a0_2, .string a0_3, .bool a0_4, .int .i64 a0_5] 46 (0, 0)) (bd BK101.out) hb); replace HB := aM (below_step bE hb); (try clear hb); obtain ⟨hcz11_0, hcz11_1, hcz11_2, hcz11_3, hcz11_4, hcz11_5, hfz11_0, hfz11_1, hfz11_2, hfz11_3, hfz11_4, hfz11_5⟩ := bc6 BK101.out))
    go_ret
    exact ⟨eR, bE⟩
   ·replace c7 := Bool.eq_false_iff.mpr c7
    subst c7
    rw [if_neg Bool.false_ne_true] at H
    obtain rfl := Option.some.inj H
    go_enter Tryz.func93, Tryz.ntmps93
    go_wp2_with (first | ((with_reducible refine gate_dst (N := 1) rfl ?_); refine bX 1 #[.int .i64 a0_0, .int .i64 a0_1, .int .i64 a0_2, .string a0_3, .bool a0_4, .int .i64 a0_5] 46 ?_; intro gb101 hg w12 hbox hb; have BK101 := aM (hbox); have GW101 := aM ((by rw [hg]; exact (below_size bE) : w.heap.size ≤ gb101)); have GE101 := GW101; replace HB := aM (below_step bE hb); clear hb hbox hg; obtain ⟨hcz13_0, hcz13_1, hcz13_2, hcz13_3, hcz13_4, hcz13_5, hfz13_0, hfz13_1, hfz13_2, hfz13_3, hfz13_4, hfz13_5⟩ := bc6 BK101.out) | ((with_reducible refine gate_callee (f := 133) rfl ?_); refine gL 14 Tryz.func133 #[.agg #[.int .i64 a0_1, .int .i64 a0_2]] ?_; (with_reducible refine (Nar.calls k a0_1 a0_2 false _ A6.out).mono ?_); rintro e w14 ⟨rfl, hb⟩; refine ⟨_, rfl, ?_⟩; replace BK101 := aM (blk_below (g := gb101) (o := .cells #[.int .i64 a0_0, .int .i64 a0_1, .int .i64 a0_2, .string a0_3, .bool a0_4, .int .i64 a0_5] 46 (0, 0)) (bd BK101.out) hb); replace HB := aM (below_step bE hb); (try clear hb)))
    go_ret
    exact ⟨eR, bE⟩
  ·rw [if_neg c5] at H
   obtain ⟨c5b0, c5b1⟩ := bqF c5
   by_cases c15 : a0_0 = 2
   ·rw [if_pos c15] at H
    obtain ⟨c15b0, c15b1⟩ := bqT c15
    clear c15
    by_cases c16 : (a0_3.size : Int) ≤ 256
    ·rw [if_pos c16] at H
     have c16b0 : decide ((a0_3.size : Int) ≤ 256) = true := decide_eq_true c16
     have c16b1 : decide (a0_3.size ≤ 256) = true := decide_eq_true (by omega)
     clear c16
     replace H := Option.bind_eq_some_iff.mp H
     obtain ⟨t103, A170, H⟩ := H
     try dsimp only at H
     have A17 := aM A170
     clear A170
     by_cases c18 : t103 = true
     ·subst c18
      rw [if_pos rfl] at H
      obtain rfl := Option.some.inj H
      go_enter Tryz.func93, Tryz.ntmps93
      go_wp2_with (first | ((with_reducible refine gate_dst (N := 1) rfl ?_); refine bX 1 #[.int .i64 a0_0, .int .i64 a0_1, .int .i64 a0_2, .string a0_3, .bool a0_4, .int .i64 a0_5] 46 ?_; intro gb101 hg w19 hbox hb; have BK101 := aM (hbox); have GW101 := aM ((by rw [hg]; exact (below_size bE) : w.heap.size ≤ gb101)); have GE101 := GW101; replace HB := aM (below_step bE hb); clear hb hbox hg; obtain ⟨hcz20_0, hcz20_1, hcz20_2, hcz20_3, hcz20_4, hcz20_5, hfz20_0, hfz20_1, hfz20_2, hfz20_3, hfz20_4, hfz20_5⟩ := bc6 BK101.out) | (go_at_call 134; (with_reducible refine (Nak.calls k a0_3 true _ A17.out).mono ?_); rintro e w' ⟨rfl, ⟨nd, rfl⟩⟩))
      go_ret
      exact ⟨eR, bE⟩
     ·replace c18 := Bool.eq_false_iff.mpr c18
      subst c18
      rw [if_neg Bool.false_ne_true] at H
      obtain rfl := Option.some.inj H
      go_enter Tryz.func93, Tryz.ntmps93
      go_wp2_with (first | ((with_reducible refine gate_dst (N := 1) rfl ?_); refine bX 1 #[.int .i64 a0_0, .int .i64 a0_1, .int .i64 a0_2, .string a0_3, .bool a0_4, .int .i64 a0_5] 46 ?_; intro gb101 hg w21 hbox hb; have BK101 := aM (hbox); have GW101 := aM ((by rw [hg]; exact (below_size bE) : w.heap.size ≤ gb101)); have GE101 := GW101; replace HB := aM (below_step bE hb); clear hb hbox hg; obtain ⟨hcz22_0, hcz22_1, hcz22_2, hcz22_3, hcz22_4, hcz22_5, hfz22_0, hfz22_1, hfz22_2, hfz22_3, hfz22_4, hfz22_5⟩ := bc6 BK101.out) | (go_at_call 134; (with_reducible refine (Nak.calls k a0_3 false _ A17.out).mono ?_); rintro e w' ⟨rfl, ⟨nd, rfl⟩⟩))
      go_ret
      exact ⟨eR, bE⟩
    ·rw [if_neg c16] at H
     have c16b0 : decide ((a0_3.size : Int) ≤ 256) = false := decide_eq_false c16
     have c16b1 : decide (a0_3.size ≤ 256) = false := decide_eq_false (by omega)
     clear c16
     obtain rfl := Option.some.inj H
     go_enter Tryz.func93, Tryz.ntmps93
     go_wp2_with (first | ((with_reducible refine gate_dst (N := 1) rfl ?_); refine bX 1 #[.int .i64 a0_0, .int .i64 a0_1, .int .i64 a0_2, .string a0_3, .bool a0_4, .int .i64 a0_5] 46 ?_; intro gb101 hg w23 hbox hb; have BK101 := aM (hbox); have GW101 := aM ((by rw [hg]; exact (below_size bE) : w.heap.size ≤ gb101)); have GE101 := GW101; replace HB := aM (below_step bE hb); clear hb hbox hg; obtain ⟨hcz24_0, hcz24_1, hcz24_2, hcz24_3, hcz24_4, hcz24_5, hfz24_0, hfz24_1, hfz24_2, hfz24_3, hfz24_4, hfz24_5⟩ := bc6 BK101.out))
     go_ret
     exact ⟨eR, bE⟩
   ·rw [if_neg c15] at H
    obtain ⟨c15b0, c15b1⟩ := bqF c15
    by_cases c25 : a0_0 = 3
    ·rw [if_pos c25] at H
     obtain ⟨c25b0, c25b1⟩ := bqT c25
     clear c25
     obtain rfl := Option.some.inj H
     go_enter Tryz.func93, Tryz.ntmps93
     go_wp2_with (first | ((with_reducible refine gate_dst (N := 1) rfl ?_); refine bX 1 #[.int .i64 a0_0, .int .i64 a0_1, .int .i64 a0_2, .string a0_3, .bool a0_4, .int .i64 a0_5] 46 ?_; intro gb101 hg w26 hbox hb; have BK101 := aM (hbox); have GW101 := aM ((by rw [hg]; exact (below_size bE) : w.heap.size ≤ gb101)); have GE101 := GW101; replace HB := aM (below_step bE hb); clear hb hbox hg; obtain ⟨hcz27_0, hcz27_1, hcz27_2, hcz27_3, hcz27_4, hcz27_5, hfz27_0, hfz27_1, hfz27_2, hfz27_3, hfz27_4, hfz27_5⟩ := bc6 BK101.out))
     go_ret
     exact ⟨eR, bE⟩
    ·rw [if_neg c25] at H
     obtain ⟨c25b0, c25b1⟩ := bqF c25
     by_cases c28 : a0_0 = 4
     ·rw [if_pos c28] at H
      obtain ⟨c28b0, c28b1⟩ := bqT c28
      clear c28
      by_cases c29 : a0_5 ≥ 1
      ·rw [if_pos c29] at H
       have c29b0 : decide (1 ≤ a0_5) = true := decide_eq_true c29
       clear c29
       by_cases c30 : a0_5 ≤ 8
       ·rw [if_pos c30] at H
        have c30b0 : decide (a0_5 ≤ 8) = true := decide_eq_true c30
        clear c30
        obtain rfl := Option.some.inj H
        go_enter Tryz.func93, Tryz.ntmps93
        go_wp2_with (first | ((with_reducible refine gate_dst (N := 1) rfl ?_); refine bX 1 #[.int .i64 a0_0, .int .i64 a0_1, .int .i64 a0_2, .string a0_3, .bool a0_4, .int .i64 a0_5] 46 ?_; intro gb101 hg w31 hbox hb; have BK101 := aM (hbox); have GW101 := aM ((by rw [hg]; exact (below_size bE) : w.heap.size ≤ gb101)); have GE101 := GW101; replace HB := aM (below_step bE hb); clear hb hbox hg; obtain ⟨hcz32_0, hcz32_1, hcz32_2, hcz32_3, hcz32_4, hcz32_5, hfz32_0, hfz32_1, hfz32_2, hfz32_3, hfz32_4, hfz32_5⟩ := bc6 BK101.out))
        go_ret
        exact ⟨eR, bE⟩
       ·rw [if_neg c30] at H
        have c30b0 : decide (a0_5 ≤ 8) = false := decide_eq_false c30
        clear c30
        obtain rfl := Option.some.inj H
        go_enter Tryz.func93, Tryz.ntmps93
        go_wp2_with (first | ((with_reducible refine gate_dst (N := 1) rfl ?_); refine bX 1 #[.int .i64 a0_0, .int .i64 a0_1, .int .i64 a0_2, .string a0_3, .bool a0_4, .int .i64 a0_5] 46 ?_; intro gb101 hg w33 hbox hb; have BK101 := aM (hbox); have GW101 := aM ((by rw [hg]; exact (below_size bE) : w.heap.size ≤ gb101)); have GE101 := GW101; replace HB := aM (below_step bE hb); clear hb hbox hg; obtain ⟨hcz34_0, hcz34_1, hcz34_2, hcz34_3, hcz34_4, hcz34_5, hfz34_0, hfz34_1, hfz34_2, hfz34_3, hfz34_4, hfz34_5⟩ := bc6 BK101.out))
        go_ret
        exact ⟨eR, bE⟩
      ·rw [if_neg c29] at H
       have c29b0 : decide (1 ≤ a0_5) = false := decide_eq_false c29
       clear c29
       obtain rfl := Option.some.inj H
       go_enter Tryz.func93, Tryz.ntmps93
       go_wp2_with (first | ((with_reducible refine gate_dst (N := 1) rfl ?_); refine bX 1 #[.int .i64 a0_0, .int .i64 a0_1, .int .i64 a0_2, .string a0_3, .bool a0_4, .int .i64 a0_5] 46 ?_; intro gb101 hg w35 hbox hb; have BK101 := aM (hbox); have GW101 := aM ((by rw [hg]; exact (below_size bE) : w.heap.size ≤ gb101)); have GE101 := GW101; replace HB := aM (below_step bE hb); clear hb hbox hg; obtain ⟨hcz36_0, hcz36_1, hcz36_2, hcz36_3, hcz36_4, hcz36_5, hfz36_0, hfz36_1, hfz36_2, hfz36_3, hfz36_4, hfz36_5⟩ := bc6 BK101.out))
       go_ret
       exact ⟨eR, bE⟩
     ·rw [if_neg c28] at H
      obtain ⟨c28b0, c28b1⟩ := bqF c28
      obtain rfl := Option.some.inj H
      go_enter Tryz.func93, Tryz.ntmps93
      go_wp2_with (first | ((with_reducible refine gate_dst (N := 1) rfl ?_); refine bX 1 #[.int .i64 a0_0, .int .i64 a0_1, .int .i64 a0_2, .string a0_3, .bool a0_4, .int .i64 a0_5] 46 ?_; intro gb101 hg w37 hbox hb; have BK101 := aM (hbox); have GW101 := aM ((by rw [hg]; exact (below_size bE) : w.heap.size ≤ gb101)); have GE101 := GW101; replace HB := aM (below_step bE hb); clear hb hbox hg; obtain ⟨hcz38_0, hcz38_1, hcz38_2, hcz38_3, hcz38_4, hcz38_5, hfz38_0, hfz38_1, hfz38_2, hfz38_3, hfz38_4, hfz38_5⟩ := bc6 BK101.out))
      go_ret
      exact ⟨eR, bE⟩
end
section
attribute [local go_sem] max2_int min2_int max_two min_two max_three min_three max_four min_four
def Nbr.f (a0 : Int) : Option (Bool) := if a0 ≥ 0 then (some (decide (a0 < 16))) else (some false)
set_option maxHeartbeats 8000000 in
set_option maxRecDepth 100000 in
theorem Nbr.calls (a0 : Int) (r : Bool) (w : World) (h : Nbr.f a0 = some r) :
 Calls Tryz.prog 102 #[.int .i64 a0] w fun e w' => e = .returned (.bool r) ∧ Drawn0 w w' := by
 have H := h
 unfold Nbr.f at H
 clear h
 by_cases c2 : a0 ≥ 0
 ·rw [if_pos c2] at H
  have c2b0 : decide (0 ≤ a0) = true := decide_eq_true c2
  clear c2
  obtain rfl := Option.some.inj H
  go_enter Tryz.func102, Tryz.ntmps102
  go_wp2
  go_ret
  exact ⟨by first | rfl | (simp; done) | (simp [*]; done), by repeat (first | exact Drawn0.refl _ | apply Drawn0.step)⟩
 ·rw [if_neg c2] at H
  have c2b0 : decide (0 ≤ a0) = false := decide_eq_false c2
  clear c2
  obtain rfl := Option.some.inj H
  go_enter Tryz.func102, Tryz.ntmps102
  go_wp2
  go_ret
  exact ⟨by first | rfl | (simp; done) | (simp [*]; done), by repeat (first | exact Drawn0.refl _ | apply Drawn0.step)⟩
end
section
attribute [local go_sem] max2_int min2_int max_two min_two max_three min_three max_four min_four
def Ncg.f (a0 : Int) : Option (Bool) := if a0 ≥ 0 then (some (decide (a0 < 65536))) else (some false)
set_option maxHeartbeats 8000000 in
set_option maxRecDepth 100000 in
theorem Ncg.calls (a0 : Int) (r : Bool) (w : World) (h : Ncg.f a0 = some r) :
 Calls Tryz.prog 103 #[.int .i64 a0] w fun e w' => e = .returned (.bool r) ∧ Drawn0 w w' := by
 have H := h
 unfold Ncg.f at H
 clear h
 by_cases c2 : a0 ≥ 0
 ·rw [if_pos c2] at H
  have c2b0 : decide (0 ≤ a0) = true := decide_eq_true c2
  clear c2
  obtain rfl := Option.some.inj H
  go_enter Tryz.func103, Tryz.ntmps103
  go_wp2
  go_ret
  exact ⟨by first | rfl | (simp; done) | (simp [*]; done), by repeat (first | exact Drawn0.refl _ | apply Drawn0.step)⟩
 ·rw [if_neg c2] at H
  have c2b0 : decide (0 ≤ a0) = false := decide_eq_false c2
  clear c2
  obtain rfl := Option.some.inj H
  go_enter Tryz.func103, Tryz.ntmps103
  go_wp2
  go_ret
  exact ⟨by first | rfl | (simp; done) | (simp [*]; done), by repeat (first | exact Drawn0.refl _ | apply Drawn0.step)⟩
end
section
attribute [local go_sem] max2_int min2_int max_two min_two max_three min_three max_four min_four
def Nbu.f (a0 : Int) : Option (Bool) := if a0 ≥ 0 then (some (decide (a0 < 256))) else (some false)
set_option maxHeartbeats 8000000 in
set_option maxRecDepth 100000 in
theorem Nbu.calls (a0 : Int) (r : Bool) (w : World) (h : Nbu.f a0 = some r) :
 Calls Tryz.prog 104 #[.int .i64 a0] w fun e w' => e = .returned (.bool r) ∧ Drawn0 w w' := by
 have H := h
 unfold Nbu.f at H
 clear h
 by_cases c2 : a0 ≥ 0
 ·rw [if_pos c2] at H
  have c2b0 : decide (0 ≤ a0) = true := decide_eq_true c2
  clear c2
  obtain rfl := Option.some.inj H
  go_enter Tryz.func104, Tryz.ntmps104
  go_wp2
  go_ret
  exact ⟨by first | rfl | (simp; done) | (simp [*]; done), by repeat (first | exact Drawn0.refl _ | apply Drawn0.step)⟩
 ·rw [if_neg c2] at H
  have c2b0 : decide (0 ≤ a0) = false := decide_eq_false c2
  clear c2
  obtain rfl := Option.some.inj H
  go_enter Tryz.func104, Tryz.ntmps104
  go_wp2
  go_ret
  exact ⟨by first | rfl | (simp; done) | (simp [*]; done), by repeat (first | exact Drawn0.refl _ | apply Drawn0.step)⟩
end
section
attribute [local go_sem] max2_int min2_int max_two min_two max_three min_three max_four min_four
def Nag.f (a0_0 : Int) (a0_1 : Int) (a0_2 : Int) : Option (Bool) := (Nbr.f a0_0).bind fun t102 => (if t102 = true then ((Ncg.f a0_1).bind fun t103 => (if t103 = true then ((Nbu.f a0_2).bind fun t104 => (some t104)) else (some false))) else (some false))
set_option maxHeartbeats 8000000 in
set_option maxRecDepth 100000 in
theorem Nag.calls (a0_0 : Int) (a0_1 : Int) (a0_2 : Int) (r : Bool) (w : World) (h : Nag.f a0_0 a0_1 a0_2 = some r) :
 Calls Tryz.prog 65 #[.agg #[.int .i64 a0_0, .int .i64 a0_1, .int .i64 a0_2]] w fun e w' => e = .returned (.bool r) ∧ Below w.heap.size w w' := by
 have hu64 := Tryz.underlying64
 have HB := aM (Below.refl w.heap.size w)
 have H := h
 unfold Nag.f at H
 clear h
 replace H := Option.bind_eq_some_iff.mp H
 obtain ⟨t102, A20, H⟩ := H
 try dsimp only at H
 have A2 := aM A20
 clear A20
 by_cases c3 : t102 = true
 ·subst c3
  rw [if_pos rfl] at H
  replace H := Option.bind_eq_some_iff.mp H
  obtain ⟨t103, A40, H⟩ := H
  try dsimp only at H
  have A4 := aM A40
  clear A40
  by_cases c5 : t103 = true
  ·subst c5
   rw [if_pos rfl] at H
   replace H := Option.bind_eq_some_iff.mp H
   obtain ⟨t104, A60, H⟩ := H
   try dsimp only at H
   have A6 := aM A60
   clear A60
   obtain rfl := Option.some.inj H
   go_enter Tryz.func65, Tryz.ntmps65
   go_wp2_with (first | ((with_reducible refine gate_dst (N := 1) rfl ?_); refine bX 1 #[.int .i64 a0_0, .int .i64 a0_1, .int .i64 a0_2] 64 ?_; intro gb101 hg w7 hbox hb; have BK101 := aM (hbox); have GW101 := aM ((by rw [hg]; exact (below_size bE) : w.heap.size ≤ gb101)); have GE101 := GW101; replace HB := aM (below_step bE hb); clear hb hbox hg; obtain ⟨hcz8_0, hcz8_1, hcz8_2, hfz8_0, hfz8_1, hfz8_2⟩ := bc3 BK101.out) | ((with_reducible refine gate_callee (f := 102) rfl ?_); refine gL 5 Tryz.func102 #[.int .i64 a0_0] ?_; (with_reducible refine (Nbr.calls a0_0 true _ A2.out).mono ?_); rintro e w' ⟨rfl, ⟨nd, rfl⟩⟩; refine ⟨_, rfl, ?_⟩) | (go_at_call 103; (with_reducible refine (Ncg.calls a0_1 true _ A4.out).mono ?_); rintro e w' ⟨rfl, ⟨nd, rfl⟩⟩) | (go_at_call 104; (with_reducible refine (Nbu.calls a0_2 t104 _ A6.out).mono ?_); rintro e w' ⟨rfl, ⟨nd, rfl⟩⟩))
   go_ret
   exact ⟨eR, bE⟩
  ·replace c5 := Bool.eq_false_iff.mpr c5
   subst c5
   rw [if_neg Bool.false_ne_true] at H
   obtain rfl := Option.some.inj H
   go_enter Tryz.func65, Tryz.ntmps65
   go_wp2_with (first | ((with_reducible refine gate_dst (N := 1) rfl ?_); refine bX 1 #[.int .i64 a0_0, .int .i64 a0_1, .int .i64 a0_2] 64 ?_; intro gb101 hg w9 hbox hb; have BK101 := aM (hbox); have GW101 := aM ((by rw [hg]; exact (below_size bE) : w.heap.size ≤ gb101)); have GE101 := GW101; replace HB := aM (below_step bE hb); clear hb hbox hg; obtain ⟨hcz10_0, hcz10_1, hcz10_2, hfz10_0, hfz10_1, hfz10_2⟩ := bc3 BK101.out) | ((with_reducible refine gate_callee (f := 102) rfl ?_); refine gL 5 Tryz.func102 #[.int .i64 a0_0] ?_; (with_reducible refine (Nbr.calls a0_0 true _ A2.out).mono ?_); rintro e w' ⟨rfl, ⟨nd, rfl⟩⟩; refine ⟨_, rfl, ?_⟩) | (go_at_call 103; (with_reducible refine (Ncg.calls a0_1 false _ A4.out).mono ?_); rintro e w' ⟨rfl, ⟨nd, rfl⟩⟩))
   go_ret
   exact ⟨eR, bE⟩
 ·replace c3 := Bool.eq_false_iff.mpr c3
  subst c3
  rw [if_neg Bool.false_ne_true] at H
  obtain rfl := Option.some.inj H
  go_enter Tryz.func65, Tryz.ntmps65
  go_wp2_with (first | ((with_reducible refine gate_dst (N := 1) rfl ?_); refine bX 1 #[.int .i64 a0_0, .int .i64 a0_1, .int .i64 a0_2] 64 ?_; intro gb101 hg w11 hbox hb; have BK101 := aM (hbox); have GW101 := aM ((by rw [hg]; exact (below_size bE) : w.heap.size ≤ gb101)); have GE101 := GW101; replace HB := aM (below_step bE hb); clear hb hbox hg; obtain ⟨hcz12_0, hcz12_1, hcz12_2, hfz12_0, hfz12_1, hfz12_2⟩ := bc3 BK101.out) | ((with_reducible refine gate_callee (f := 102) rfl ?_); refine gL 5 Tryz.func102 #[.int .i64 a0_0] ?_; (with_reducible refine (Nbr.calls a0_0 false _ A2.out).mono ?_); rintro e w' ⟨rfl, ⟨nd, rfl⟩⟩; refine ⟨_, rfl, ?_⟩))
  go_ret
  exact ⟨eR, bE⟩
end
end Go.Proofs.YtejbbceidnaloaaGreatDoor.P
