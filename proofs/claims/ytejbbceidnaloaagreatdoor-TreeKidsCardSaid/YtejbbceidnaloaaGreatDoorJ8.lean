import Derived.Test.YtejbbceidnaloaaGreatDoorJ7
set_option linter.unusedVariables false
set_option linter.unusedSimpArgs false
set_option maxRecDepth 100000
set_option maxHeartbeats 8000000
namespace Go.Proofs.YtejbbceidnaloaaGreatDoor.P
open Go.RowKit Go.Proofs.YtejbbceidnaloaaGreatDoorW.PrintWords Go.Proofs.YtejbbceidnaloaaGreatDoorW.PrintLast Go.Proofs.YtejbbceidnaloaaGreatDoorW.PrintMore
def Ncl.f (a0 : Int) : Option (Bool) := if a0 ≥ 65 then (if a0 ≤ 90 then (some true) else (if a0 ≥ 97 then (some (decide (a0 ≤ 122))) else (some false))) else (if a0 ≥ 97 then (some (decide (a0 ≤ 122))) else (some false))
theorem Ncl.calls (a0 : Int) (r : Bool) (w : World) (h : Ncl.f a0 = some r) :
 Calls Tryz.prog 168 #[.int .u8 a0] w fun e w' => e = .returned (.bool r) ∧ Na6 w w' := by
 have H := h
 unfold Ncl.f at H
 clear h
 by_cases c2 : a0 ≥ 65
 ·rw [if_pos c2] at H
  have c2b0 : decide (65 ≤ a0) = true := decide_eq_true c2
  clear c2
  by_cases c3 : a0 ≤ 90
  ·rw [if_pos c3] at H
   have c3b0 : decide (a0 ≤ 90) = true := decide_eq_true c3
   clear c3
   obtain rfl := Option.some.inj H
   go_enter Tryz.func168, Tryz.ntmps168
   go_wp2
   go_ret
   exact ⟨eR, dE⟩
  ·rw [if_neg c3] at H
   have c3b0 : decide (a0 ≤ 90) = false := decide_eq_false c3
   clear c3
   by_cases c4 : a0 ≥ 97
   ·rw [if_pos c4] at H
    have c4b0 : decide (97 ≤ a0) = true := decide_eq_true c4
    clear c4
    obtain rfl := Option.some.inj H
    go_enter Tryz.func168, Tryz.ntmps168
    go_wp2
    go_ret
    exact ⟨eR, dE⟩
   ·rw [if_neg c4] at H
    have c4b0 : decide (97 ≤ a0) = false := decide_eq_false c4
    clear c4
    obtain rfl := Option.some.inj H
    go_enter Tryz.func168, Tryz.ntmps168
    go_wp2
    go_ret
    exact ⟨eR, dE⟩
 ·rw [if_neg c2] at H
  have c2b0 : decide (65 ≤ a0) = false := decide_eq_false c2
  clear c2
  by_cases c5 : a0 ≥ 97
  ·rw [if_pos c5] at H
   have c5b0 : decide (97 ≤ a0) = true := decide_eq_true c5
   clear c5
   obtain rfl := Option.some.inj H
   go_enter Tryz.func168, Tryz.ntmps168
   go_wp2
   go_ret
   exact ⟨eR, dE⟩
  ·rw [if_neg c5] at H
   have c5b0 : decide (97 ≤ a0) = false := decide_eq_false c5
   clear c5
   obtain rfl := Option.some.inj H
   go_enter Tryz.func168, Tryz.ntmps168
   go_wp2
   go_ret
   exact ⟨eR, dE⟩
def Ndd.f (a0 : Int) : Option (Bool) := if a0 ≥ 48 then (some (decide (a0 ≤ 57))) else (some false)
theorem Ndd.calls (a0 : Int) (r : Bool) (w : World) (h : Ndd.f a0 = some r) :
 Calls Tryz.prog 169 #[.int .u8 a0] w fun e w' => e = .returned (.bool r) ∧ Na6 w w' := by
 have H := h
 unfold Ndd.f at H
 clear h
 by_cases c2 : a0 ≥ 48
 ·rw [if_pos c2] at H
  have c2b0 : decide (48 ≤ a0) = true := decide_eq_true c2
  clear c2
  obtain rfl := Option.some.inj H
  go_enter Tryz.func169, Tryz.ntmps169
  go_wp2
  go_ret
  exact ⟨eR, dE⟩
 ·rw [if_neg c2] at H
  have c2b0 : decide (48 ≤ a0) = false := decide_eq_false c2
  clear c2
  obtain rfl := Option.some.inj H
  go_enter Tryz.func169, Tryz.ntmps169
  go_wp2
  go_ret
  exact ⟨eR, dE⟩
mutual
def Nal.j0 : Nat → ByteArray → Bool → Option (Bool)
 | 0, _, _ => none
 | k + 1, x0, x16 => if x16 = true then (some false) else (Nal.l0 k x0 (x0.size : Int) 0)
def Nal.l0 : Nat → ByteArray → Int → Int → Option (Bool)
 | 0, _, _, _ => none
 | k + 1, x0, x18, x19 => if x19 < x18 then (if 0 ≤ x19 then (if x19 < (x0.size : Int) then ((Ncl.f (bt x0 x19)).bind fun t102 => (if t102 = true then (Nal.l0 k x0 x18 (wrap64 (x19 + 1))) else ((Ndd.f (bt x0 x19)).bind fun t103 => (if t103 = true then (Nal.l0 k x0 x18 (wrap64 (x19 + 1))) else (some false))))) else (none)) else (none)) else (some true)
end
def Nal.f (k : Nat) (a0 : ByteArray) : Option (Bool) := if a0.toList = ([] : List UInt8) then (Nal.j0 k a0 true) else (if (a0.size : Int) > 16 then (Nal.j0 k a0 true) else (if 0 < (a0.size : Int) then ((Ncl.f (bt a0 0)).bind fun t101 => (Nal.j0 k a0 (!t101))) else (none)))
theorem Nal.calls (k : Nat) (a0 : ByteArray) (r : Bool) (w : World) (h : Nal.f k a0 = some r) :
 Calls Tryz.prog 135 #[.string a0] w fun e w' => e = .returned (.bool r) ∧ Na6 w w' := by
 have H := h
 unfold Nal.f at H
 clear h
 have HC2 := aM H
 clear H
 go_enter Tryz.func135, Tryz.ntmps135
 go_upto_region 1 with (fail)
 go_cut [16] (fun v16 wc => ∃ (kq : Nat) (x16_1 : Bool), v16 = .bool x16_1 ∧ Naj (Nal.j0 kq a0 x16_1 = some r) ∧ Naj (kq ≤ k) ∧ Na6 w wc)
 case first =>
  have H := HC2.out
  clear HC2
  by_cases c3 : a0.toList = ([] : List UInt8)
  ·rw [if_pos c3] at H
   obtain ⟨c3b0, c3b1⟩ := bqT c3
   clear c3
   (first | rw [c3b0] | (simp only [i64_w, i32_w]; rw [c3b0]) | skip)
   have H' := aM H
   clear H
   go_wp2
   go_meet
   case rel => exact ⟨_, (true), (by first | rfl | (simp; done) | (simp [*]; done)), H', ⟨by first | omega | exact Nat.le_refl _⟩, dE⟩
  ·rw [if_neg c3] at H
   obtain ⟨c3b0, c3b1⟩ := bqF c3
   (first | rw [c3b0] | (simp only [i64_w, i32_w]; rw [c3b0]) | skip)
   by_cases c4 : (a0.size : Int) > 16
   ·rw [if_pos c4] at H
    have c4b0 : decide (16 < (a0.size : Int)) = true := decide_eq_true c4
    have c4b1 : decide (16 < a0.size) = true := decide_eq_true (by omega)
    clear c4
    have H' := aM H
    clear H
    go_wp2
    go_meet
    case rel => exact ⟨_, (true), (by first | rfl | (simp; done) | (simp [*]; done)), H', ⟨by first | omega | exact Nat.le_refl _⟩, dE⟩
   ·rw [if_neg c4] at H
    have c4b0 : decide (16 < (a0.size : Int)) = false := decide_eq_false c4
    have c4b1 : decide (16 < a0.size) = false := decide_eq_false (by omega)
    clear c4
    by_cases c5 : 0 < (a0.size : Int)
    ·rw [if_pos c5] at H
     have c5b0 : decide (0 < (a0.size : Int)) = true := decide_eq_true c5
     have c5b1 : decide (0 < a0.size) = true := decide_eq_true (by omega)
     clear c5
     replace H := Option.bind_eq_some_iff.mp H
     obtain ⟨t101, A70, H⟩ := H
     try dsimp only at H
     have A7 := aM A70
     clear A70
     have H' := aM H
     clear H
     have p6 : 0 ≤ (0 : Int) := (by omega)
     have q6 : 0 < a0.size := (by have : (0 : Int) < (a0.size : Int) := of_decide_eq_true (by first | (with_reducible assumption) | assumption); omega)
     have hx6 : ∀ h : 0 < a0.size, ((a0[0]'h).toNat : Int) = bt a0 0 := bt_at a0 0
     clear p6
     have qi6 : (0 < (a0.size : Int)) = True := eq_true (of_decide_eq_true (by first | (with_reducible assumption) | assumption))
     replace q6 := eq_true q6
     go_wp2_with (first | (go_at_call 168; (with_reducible refine (Ncl.calls (bt a0 0) t101 _ A7.out).mono ?_); rintro e w' ⟨rfl, ⟨nd, rfl⟩⟩))
     go_meet
     case rel => exact ⟨_, (!t101), (by first | rfl | (simp; done) | (simp [*]; done)), H', ⟨by first | omega | exact Nat.le_refl _⟩, dE⟩
    ·rw [if_neg c5] at H
     exact absurd H (by simp)
 case rest =>
  clear HC2
  try clear c1
  try clear p2
  try clear c3
  try clear c3b0
  try clear c3b1
  try clear c4
  try clear c4b0
  try clear c4b1
  try clear c5
  try clear c5b0
  try clear c5b1
  try clear p6
  try clear q6
  try clear hx6
  try clear qi6
  try clear p6
  try clear q6
  obtain ⟨kq, x16_1, rfl, HA, HJ1, ⟨mc1, rfl⟩⟩ := hcut
  cases kq with
  | zero => exact absurd HA.out (by simp [Nal.j0])
  | succ kj1 =>
   have H := HA.out
   clear HA
   simp only [Nal.j0] at H
   by_cases c8 : x16_1 = true
   ·subst c8
    rw [if_pos rfl] at H
    obtain rfl := Option.some.inj H
    go_wp2
    go_ret
    exact ⟨eR, dE⟩
   ·replace c8 := Bool.eq_false_iff.mpr c8
    subst c8
    rw [if_neg Bool.false_ne_true] at H
    have H' := aM H
    clear H
    go_wp2
    go_loopg [19] kj1 (fun kq v19 w' => ∃ (x19_2 : Int), v19 = .int .i64 x19_2 ∧ Naj (Nal.l0 kq a0 (a0.size : Int) x19_2 = some r) ∧ Naj (kq ≤ kj1) ∧ Na6 w w')
    case atStart => exact ⟨(0), (by first | rfl | (simp; done) | (simp [*]; done)), H', ⟨Nat.le_refl _⟩, dE⟩
    case round =>
     clear H'
     try clear c1
     try clear p2
     try clear c3
     try clear c3b0
     try clear c3b1
     try clear c4
     try clear c4b0
     try clear c4b1
     try clear c5
     try clear c5b0
     try clear c5b1
     try clear p6
     try clear q6
     try clear hx6
     try clear qi6
     try clear c8
     try clear p2
     try clear p6
     try clear q6
     obtain ⟨x19_2, rfl, HA, HK2, ⟨m2, rfl⟩⟩ := hrel
     cases gk with
     | zero => exact absurd HA.out (by simp [Nal.l0])
     | succ k2 =>
      have H := HA.out
      clear HA
      simp only [Nal.l0] at H
      by_cases c9 : x19_2 < (a0.size : Int)
      ·rw [if_pos c9] at H
       have c9b0 : decide (x19_2 < (a0.size : Int)) = true := decide_eq_true c9
       clear c9
       by_cases c10 : 0 ≤ x19_2
       ·rw [if_pos c10] at H
        have c10b0 : decide (0 ≤ x19_2) = true := decide_eq_true c10
        clear c10
        by_cases c11 : x19_2 < (a0.size : Int)
        ·rw [if_pos c11] at H
         have c11b0 : decide (x19_2 < (a0.size : Int)) = true := decide_eq_true c11
         clear c11
         replace H := Option.bind_eq_some_iff.mp H
         obtain ⟨t102, A130, H⟩ := H
         try dsimp only at H
         have A13 := aM A130
         clear A130
         by_cases c14 : t102 = true
         ·subst c14
          rw [if_pos rfl] at H
          have H' := aM H
          clear H
          have p12 : 0 ≤ (x19_2 : Int) := of_decide_eq_true (by first | (with_reducible assumption) | assumption)
          have q12 : x19_2 < (a0.size : Int) := of_decide_eq_true (by first | (with_reducible assumption) | assumption)
          have hx12 := bt_at a0 x19_2
          replace p12 := eq_true p12
          replace q12 := eq_true q12
          go_wp2_with (first | ((with_reducible refine gC 168 rfl ?_); refine gL 25 Tryz.func168 #[.int .u8 (bt a0 x19_2)] ?_; (with_reducible refine (Ncl.calls (bt a0 x19_2) true _ A13.out).mono ?_); rintro e w' ⟨rfl, ⟨nd, rfl⟩⟩; refine ⟨_, rfl, ?_⟩))
          go_roundg k2
          case measure => have := HJ1.out; have := HK2.out; omega
          case rel => exact ⟨(wrap64 (x19_2 + 1)), (by first | rfl | (simp; done) | (simp [*]; done)), H', ⟨by have := HJ1.out; have := HK2.out; omega⟩, dE⟩
         ·replace c14 := Bool.eq_false_iff.mpr c14
          subst c14
          rw [if_neg Bool.false_ne_true] at H
          replace H := Option.bind_eq_some_iff.mp H
          obtain ⟨t103, A160, H⟩ := H
          try dsimp only at H
          have A16 := aM A160
          clear A160
          by_cases c17 : t103 = true
          ·subst c17
           rw [if_pos rfl] at H
           have H' := aM H
           clear H
           have p12 : 0 ≤ (x19_2 : Int) := of_decide_eq_true (by first | (with_reducible assumption) | assumption)
           have q12 : x19_2 < (a0.size : Int) := of_decide_eq_true (by first | (with_reducible assumption) | assumption)
           have hx12 := bt_at a0 x19_2
           replace p12 := eq_true p12
           replace q12 := eq_true q12
           go_wp2_with (first | ((with_reducible refine gC 168 rfl ?_); refine gL 25 Tryz.func168 #[.int .u8 (bt a0 x19_2)] ?_; (with_reducible refine (Ncl.calls (bt a0 x19_2) false _ A13.out).mono ?_); rintro e w' ⟨rfl, ⟨nd, rfl⟩⟩; refine ⟨_, rfl, ?_⟩; have p15 : 0 ≤ (x19_2 : Int) := of_decide_eq_true (by first | (with_reducible assumption) | assumption); have q15 : x19_2 < (a0.size : Int) := of_decide_eq_true (by first | (with_reducible assumption) | assumption); have hx15 := bt_at a0 x19_2; replace p15 := eq_true p15; replace q15 := eq_true q15) | (go_at_call 169; (with_reducible refine (Ndd.calls (bt a0 x19_2) true _ A16.out).mono ?_); rintro e w' ⟨rfl, ⟨nd, rfl⟩⟩))
           go_roundg k2
           case measure => have := HJ1.out; have := HK2.out; omega
           case rel => exact ⟨(wrap64 (x19_2 + 1)), (by first | rfl | (simp; done) | (simp [*]; done)), H', ⟨by have := HJ1.out; have := HK2.out; omega⟩, dE⟩
          ·replace c17 := Bool.eq_false_iff.mpr c17
           subst c17
           rw [if_neg Bool.false_ne_true] at H
           obtain rfl := Option.some.inj H
           have p12 : 0 ≤ (x19_2 : Int) := of_decide_eq_true (by first | (with_reducible assumption) | assumption)
           have q12 : x19_2 < (a0.size : Int) := of_decide_eq_true (by first | (with_reducible assumption) | assumption)
           have hx12 := bt_at a0 x19_2
           replace p12 := eq_true p12
           replace q12 := eq_true q12
           go_wp2_with (first | ((with_reducible refine gC 168 rfl ?_); refine gL 25 Tryz.func168 #[.int .u8 (bt a0 x19_2)] ?_; (with_reducible refine (Ncl.calls (bt a0 x19_2) false _ A13.out).mono ?_); rintro e w' ⟨rfl, ⟨nd, rfl⟩⟩; refine ⟨_, rfl, ?_⟩; have p15 : 0 ≤ (x19_2 : Int) := of_decide_eq_true (by first | (with_reducible assumption) | assumption); have q15 : x19_2 < (a0.size : Int) := of_decide_eq_true (by first | (with_reducible assumption) | assumption); have hx15 := bt_at a0 x19_2; replace p15 := eq_true p15; replace q15 := eq_true q15) | (go_at_call 169; (with_reducible refine (Ndd.calls (bt a0 x19_2) false _ A16.out).mono ?_); rintro e w' ⟨rfl, ⟨nd, rfl⟩⟩))
           go_ret
           exact ⟨eR, dE⟩
        ·rw [if_neg c11] at H
         exact absurd H (by simp)
       ·rw [if_neg c10] at H
        exact absurd H (by simp)
      ·rw [if_neg c9] at H
       have c9b0 : decide (x19_2 < (a0.size : Int)) = false := decide_eq_false c9
       clear c9
       obtain rfl := Option.some.inj H
       go_wp2
       go_ret
       exact ⟨eR, dE⟩
theorem tree_letter_f (c : Int) : Ncl.f c = some (letB c) := by
 unfold Ncl.f letB
 by_cases h1 : c ≥ 65 <;> by_cases h2 : c ≤ 90 <;> by_cases h3 : c ≥ 97 <;> simp [h1, h2, h3] <;> omega
theorem tree_digit_f (c : Int) : Ndd.f c = some (digB c) := by
 unfold Ndd.f digB
 by_cases h1 : c ≥ 48 <;> simp [h1]
def nameC (c : UInt8) : Bool := letB c.toNat || digB c.toNat
theorem bt_nat (s : ByteArray) (i : Nat) (h : i < s.size) : bt s (i : Int) = ((s.data.toList[i]'(by simpa using h)).toNat : Int) := by
 rw [← bt_at s i h, Array.getElem_toList]
 rfl
theorem sheet_l0 (s : ByteArray) (hs : s.size ≤ 1000) : ∀ (d i k : Nat), s.size - i = d → i ≤ s.size → d < k → Nal.l0 k s (s.size : Int) (i : Int) = some ((s.data.toList.drop i).all nameC) := by
 intro d
 induction d with
 | zero =>
  intro i k hd hi hk
  obtain ⟨k, rfl⟩ : ∃ y, k = y + 1 := ⟨k - 1, by omega⟩
  rw [Nal.l0, if_neg (by omega), List.drop_eq_nil_of_le (by simp; omega)]
  rfl
 | succ d ih =>
  intro i k hd hi hk
  obtain ⟨k, rfl⟩ : ∃ y, k = y + 1 := ⟨k - 1, by omega⟩
  have hlt : i < s.size := by omega
  have hw : wrap64 ((i : Int) + 1) = ((i + 1 : Nat) : Int) := by unfold wrap64; omega
  have hd' : s.data.toList.drop i = s.data.toList[i]'(by simpa using hlt) :: s.data.toList.drop (i + 1) := List.drop_eq_getElem_cons (by simpa using hlt)
  rw [Nal.l0, if_pos (by omega), if_pos (by omega), if_pos (by omega), tree_letter_f, bt_nat s i hlt, hw, hd', List.all_cons]
  simp only [Option.bind_some, tree_digit_f]
  rw [ih (i + 1) k (by omega) (by omega) (by omega)]
  unfold nameC
  cases letB ((s.data.toList[i]'(by simpa using hlt)).toNat : Int) <;> cases digB ((s.data.toList[i]'(by simpa using hlt)).toNat : Int) <;> simp
def Ndx (s : ByteArray) : Bool := decide (1 ≤ s.size ∧ s.size ≤ 16) && letB (bt s 0) && s.data.toList.all nameC
theorem Nd1 (s : ByteArray) : s.toList = [] ↔ s.size = 0 := by
 rw [ByteArray.toList_eq]
 constructor
 ·intro h
  have := congrArg List.length h
  simpa using this
 ·intro h
  apply List.eq_nil_of_length_eq_zero
  simpa using h
theorem sheetName_f (s : ByteArray) (k : Nat) : Nal.f (k + 18) s = some (Ndx s) := by
 unfold Nal.f Ndx
 by_cases h0 : s.size = 0
 ·rw [if_pos ((Nd1 s).mpr h0), Nal.j0]
  simp [h0]
 ·rw [if_neg (fun h => h0 ((Nd1 s).mp h))]
  by_cases h1 : 16 < s.size
  ·rw [if_pos (by omega), Nal.j0]
   have : ¬ s.size ≤ 16 := by omega
   simp [this]
  ·rw [if_neg (by omega), if_pos (by omega), tree_letter_f]
   simp only [Option.bind_some]
   rw [Nal.j0]
   have e : 1 ≤ s.size ∧ s.size ≤ 16 := by omega
   cases hl : letB (bt s 0)
   ·simp
   ·have := sheet_l0 s (by omega) s.size 0 (k + 17) (by omega) (by omega) (by omega)
    simp only [List.drop_zero] at this
    simp only [Bool.not_true, Bool.false_eq_true, if_false]
    rw [show (0 : Int) = ((0 : Nat) : Int) from rfl, this]
    simp [e]
theorem Nek (s : ByteArray) (w : World) : Calls Tryz.prog 135 #[.string s] w fun e w' => e = .returned (.bool (Ndx s)) ∧ Na6 w w' :=
 Nal.calls (0 + 18) s (Ndx s) w (sheetName_f s 0)
theorem nameC_ascii {c : UInt8} (h : nameC c = true) : c.toNat < 128 := by
 unfold nameC letB digB at h
 simp at h
 omega
def fnB (s : ByteArray) : Bool := Ndx s && decide (Lib.toUpperA s.data.toList = s.data.toList)
theorem Neu (s : ByteArray) (w : World) : Calls Tryz.prog 96 #[.string s] w fun e w' => e = .returned (.bool (fnB s)) ∧ Below w.heap.size w w' := by
 have hS := Nek s
 cases hb : Ndx s
 ·have hx : fnB s = false := by unfold fnB; rw [hb]; rfl
  rw [hb] at hS
  have HS := lh hS
  rw [hx]
  clear hS hx hb
  go_enter Tryz.func96, Tryz.ntmps96
  go_wp2_with fail
  refine (HS.out w).mono ?_
  rintro e w' ⟨rfl, ⟨m, rfl⟩⟩
  go_wp2_with fail
  go_ret
  exact ⟨rfl, Naz (Below.refl _ _) _⟩
 ·have hx : fnB s = decide (Lib.toUpperA s.data.toList = s.data.toList) := by unfold fnB; rw [hb]; rfl
  have hsz : s.size ≤ 16 := by unfold Ndx at hb; simp at hb; omega
  have hal : ∀ (j : Nat) (b : UInt8), s.data.toList[j]? = some b → b.toNat < 128 := by
   intro j b hj
   unfold Ndx at hb
   simp only [Bool.and_eq_true, List.all_eq_true] at hb
   exact nameC_ascii (hb.2 b (List.mem_of_getElem? hj))
  rw [hb] at hS
  have HS := lh hS
  have HU := lh fun w => Tryz.strings_ToUpper_ascii s w (by omega) hal
  rw [hx]
  clear hS hx hb hal
  go_enter Tryz.func96, Tryz.ntmps96
  go_wp2_with fail
  refine (HS.out w).mono ?_
  rintro e w' ⟨rfl, ⟨m, rfl⟩⟩
  go_wp2_with fail
  refine (HU.out _).mono ?_
  rintro e w' ⟨rfl, hB⟩
  go_wp2_with fail
  go_ret
  refine ⟨?_, (Naz (Below.refl _ _) _).trans hB⟩
  show Ending.returned (Value.bool (Lib.toUpperA s.data.toList == s.toList)) = _
  rw [ByteArray.toList_eq]
  congr 2
  exact (Bool.beq_eq_decide_eq _ _)
theorem eqA44 (d : Nat) (w : World) (x0 y0 x1 y1 : Int) :
 (Op.equalIn (d + 2) 44 (.agg #[.int .i64 x0, .int .i64 x1]) (.agg #[.int .i64 y0, .int .i64 y1])).run Tryz.prog w = .ok (x0 == y0 && (x1 == y1)) w := by
 refine eqA_of Tryz.underlying44 (by kernel_rfl) ?_
 refine Nc0 (by rfl) (by go_simp; rfl) (by go_simp; rfl) (by go_simp) ?_
 exact eqf_last (by rfl) (by go_simp; rfl) (by go_simp; rfl) (by go_simp)
theorem eqA46 (d : Nat) (w : World) (x0 y0 x1 y1 x2 y2 : Int) (x3 y3 : ByteArray) (x4 y4 : Bool) (x5 y5 : Int) :
 (Op.equalIn (d + 3) 46 (.agg #[.int .i64 x0, .int .i64 x1, .int .i64 x2, .string x3, .bool x4, .int .i64 x5]) (.agg #[.int .i64 y0, .int .i64 y1, .int .i64 y2, .string y3, .bool y4, .int .i64 y5])).run Tryz.prog w = .ok (x0 == y0 && ((x1 == y1 && (x2 == y2)) && (x3.toList == y3.toList && (x4 == y4 && (x5 == y5))))) w := by
 refine eqA_of Tryz.underlying46 (by kernel_rfl) ?_
 refine Nc0 (by rfl) (by go_simp; rfl) (by go_simp; rfl) (by go_simp) ?_
 refine Nc0 (by rfl) (by go_simp) (by go_simp) (eqA44 (d + 0) w _ _ _ _) ?_
 refine Nc0 (by rfl) (by go_simp; rfl) (by go_simp; rfl) (by go_simp) ?_
 refine Nc0 (by rfl) (by go_simp; rfl) (by go_simp; rfl) (by go_simp) ?_
 exact eqf_last (by rfl) (by go_simp; rfl) (by go_simp; rfl) (by go_simp)
def Ncs.l0 : Nat → Int → Int → Option (Int)
 | 0, _, _ => none
 | k + 1, x0, x1 => if x1 > 0 then (if x1 = 0 then (none) else (Ncs.l0 k x1 (Int.tmod x0 x1))) else (some x0)
def Ncs.f (k : Nat) (a0 a1 : Int) : Option (Int) := Ncs.l0 k a0 a1
theorem Ncs.calls (k : Nat) (a0 a1 r : Int) (w : World) (h : Ncs.f k a0 a1 = some r) :
 Calls Tryz.prog 166 #[.int .u64 a0, .int .u64 a1] w fun e w' => e = .returned (.int .u64 r) ∧ Na6 w w' := by
 have H := h
 unfold Ncs.f at H
 clear h
 have H' := aM H
 clear H
 go_enter Tryz.func166, Tryz.ntmps166
 go_wp2
 repeat (go_quiet (fail); try go_wp2)
 go_loopg [0, 1] k (fun kq v0 v1 w' => ∃ (x0_1 : Int) (x1_1 : Int), v0 = .int .u64 x0_1 ∧ v1 = .int .u64 x1_1 ∧ Naj (Ncs.l0 kq x0_1 x1_1 = some r) ∧ Naj (kq ≤ k) ∧ Na6 w w')
 case atStart => exact ⟨(a0), (a1), (by first | rfl | (simp; done) | (simp [*]; done)), (by first | rfl | (simp; done) | (simp [*]; done)), H', ⟨Nat.le_refl _⟩, dE⟩
 case round =>
  clear H'
  try clear c1
  try clear p2
  obtain ⟨x0_1, x1_1, rfl, rfl, HA, HK1, ⟨m1, rfl⟩⟩ := hrel
  cases gk with
  | zero => exact absurd HA.out (by simp [Ncs.l0])
  | succ k1 =>
   have H := HA.out
   clear HA
   simp only [Ncs.l0] at H
   by_cases c3 : x1_1 > 0
   ·rw [if_pos c3] at H
    have c3b0 : decide (0 < x1_1) = true := decide_eq_true c3
    clear c3
    by_cases c4 : x1_1 = 0
    ·rw [if_pos c4] at H
     exact absurd H (by simp)
    ·rw [if_neg c4] at H
     obtain ⟨c4b0, c4b1⟩ := bqF c4
     have H' := aM H
     clear H
     go_wp2
     repeat (go_quiet (fail); try go_wp2)
     go_roundg k1
     case measure => have := HK1.out; omega
     case rel => exact ⟨(x1_1), (Int.tmod x0_1 x1_1), (by first | rfl | (simp; done) | (simp [*]; done)), (by first | rfl | (simp; done) | (simp [*]; done)), H', ⟨by have := HK1.out; omega⟩, dE⟩
   ·rw [if_neg c3] at H
    have c3b0 : decide (0 < x1_1) = false := decide_eq_false c3
    clear c3
    obtain rfl := Option.some.inj H
    go_wp2
    repeat (go_quiet (fail); try go_wp2)
    go_ret
    exact ⟨eR, dE⟩
def Nb0.f (a0 : Int) : Option (Int) := if a0 < 0 then (some (IntKind.u64.wrap (-(IntKind.u64.wrap (a0))))) else (some (IntKind.u64.wrap (a0)))
theorem Nb0.calls (a0 r : Int) (w : World) (h : Nb0.f a0 = some r) :
 Calls Tryz.prog 167 #[.int .i64 a0] w fun e w' => e = .returned (.int .u64 r) ∧ Na6 w w' := by
 have H := h
 unfold Nb0.f at H
 clear h
 by_cases c2 : a0 < 0
 ·rw [if_pos c2] at H
  have c2b0 : decide (a0 < 0) = true := decide_eq_true c2
  clear c2
  obtain rfl := Option.some.inj H
  go_enter Tryz.func167, Tryz.ntmps167
  go_wp2
  go_ret
  exact ⟨eR, dE⟩
 ·rw [if_neg c2] at H
  have c2b0 : decide (a0 < 0) = false := decide_eq_false c2
  clear c2
  obtain rfl := Option.some.inj H
  go_enter Tryz.func167, Tryz.ntmps167
  go_wp2
  go_ret
  exact ⟨eR, dE⟩
def Nbj.j0 : Nat → Bool → Int → Int → Option (Bool)
 | 0, _, _, _ => none
 | k + 1, x20, x102000, x102001 => if x20 = true then (some false) else ((Nb0.f x102000).bind fun t102 => ((Ncs.f k t102 (IntKind.u64.wrap (x102001))).bind fun t103 => (some (t103 == 1))))
def Nbj.f (k : Nat) (a0_0 a0_1 : Int) : Option (Bool) := if a0_0 < (-1000000000000) then (Nbj.j0 k true a0_0 a0_1) else (if a0_0 > 1000000000000 then (Nbj.j0 k true a0_0 a0_1) else (if a0_1 < 1 then (Nbj.j0 k true a0_0 a0_1) else (Nbj.j0 k (decide (a0_1 > 1000000)) a0_0 a0_1)))
theorem Nbj.calls (k : Nat) (a0_0 a0_1 : Int) (r : Bool) (w : World) (h : Nbj.f k a0_0 a0_1 = some r) :
 Calls Tryz.prog 133 #[.agg #[.int .i64 a0_0, .int .i64 a0_1]] w fun e w' => e = .returned (.bool r) ∧ Below w.heap.size w w' := by
 have hu44 := Tryz.underlying44
 have HB := aM (Below.refl w.heap.size w)
 have H := h
 unfold Nbj.f at H
 clear h
 have HC2 := aM H
 clear H
 go_enter Tryz.func133, Tryz.ntmps133
 go_upto_region 1 with (first | ((with_reducible refine gD 1 rfl ?_); refine bX 1 #[.int .i64 a0_0, .int .i64 a0_1] 44 ?_; intro gb101 hg w3 hbox hb; replace HB := bK w hbox hg hb; obtain ⟨BK101, GW101, HB⟩ := HB; have GE101 := GW101; clear hb hbox hg))
 repeat (go_quiet (first | ((with_reducible refine gD 1 rfl ?_); refine bX 1 #[.int .i64 a0_0, .int .i64 a0_1] 44 ?_; intro gb101 hg w3 hbox hb; replace HB := bK w hbox hg hb; obtain ⟨BK101, GW101, HB⟩ := HB; have GE101 := GW101; clear hb hbox hg)); go_upto_region 1 with (first | ((with_reducible refine gD 1 rfl ?_); refine bX 1 #[.int .i64 a0_0, .int .i64 a0_1] 44 ?_; intro gb101 hg w3 hbox hb; replace HB := bK w hbox hg hb; obtain ⟨BK101, GW101, HB⟩ := HB; have GE101 := GW101; clear hb hbox hg)))
 (try simp only [Act.put, List.setIfInBounds_toArray, List.set_cons_zero, List.set_cons_succ])
 go_cut [20] (fun v20 wc => ∃ (kq : Nat) (x20_1 : Bool), v20 = .bool x20_1 ∧ Naj (Nbj.j0 kq x20_1 a0_0 a0_1 = some r) ∧ Naj (kq ≤ k) ∧ Naj (wc.heap[gb101]? = some (.cells #[.int .i64 a0_0, .int .i64 a0_1] 44 (0, 0))) ∧ Naj (Below w.heap.size w wc))
 case first =>
  have H := HC2.out
  clear HC2
  by_cases c4 : a0_0 < (-1000000000000)
  ·rw [if_pos c4] at H
   have c4b0 : decide (a0_0 < (-1000000000000)) = true := decide_eq_true c4
   clear c4
   (first | rw [c4b0] | (simp only [i64_w, i32_w]; rw [c4b0]) | skip)
   have H' := aM H
   clear H
   have hcz5_0 : w3.cell? ⟨gb101, 0, none⟩ = some (.int .i64 a0_0) := (Naa BK101.out 0).trans rfl
   have hcz5_1 : w3.cell? ⟨gb101, 1, none⟩ = some (.int .i64 a0_1) := (Naa BK101.out 1).trans rfl
   have hfz5_0 := Nae BK101.out 0
   have hfz5_1 := Nae BK101.out 1
   go_wp2
   repeat (go_quiet (fail); try go_wp2)
   go_meet
   case rel => exact ⟨_, (true), (by first | rfl | (simp; done) | (simp [*]; done)), H', ⟨by first | omega | exact Nat.le_refl _⟩, ⟨BK101.out⟩, ⟨bE⟩⟩
  ·rw [if_neg c4] at H
   have c4b0 : decide (a0_0 < (-1000000000000)) = false := decide_eq_false c4
   clear c4
   (first | rw [c4b0] | (simp only [i64_w, i32_w]; rw [c4b0]) | skip)
   by_cases c6 : a0_0 > 1000000000000
   ·rw [if_pos c6] at H
    have c6b0 : decide (1000000000000 < a0_0) = true := decide_eq_true c6
    clear c6
    have H' := aM H
    clear H
    have hcz7_0 : w3.cell? ⟨gb101, 0, none⟩ = some (.int .i64 a0_0) := (Naa BK101.out 0).trans rfl
    have hcz7_1 : w3.cell? ⟨gb101, 1, none⟩ = some (.int .i64 a0_1) := (Naa BK101.out 1).trans rfl
    have hfz7_0 := Nae BK101.out 0
    have hfz7_1 := Nae BK101.out 1
    go_wp2
    repeat (go_quiet (fail); try go_wp2)
    go_meet
    case rel => exact ⟨_, (true), (by first | rfl | (simp; done) | (simp [*]; done)), H', ⟨by first | omega | exact Nat.le_refl _⟩, ⟨BK101.out⟩, ⟨bE⟩⟩
   ·rw [if_neg c6] at H
    have c6b0 : decide (1000000000000 < a0_0) = false := decide_eq_false c6
    clear c6
    by_cases c8 : a0_1 < 1
    ·rw [if_pos c8] at H
     have c8b0 : decide (a0_1 < 1) = true := decide_eq_true c8
     clear c8
     have H' := aM H
     clear H
     have hcz9_0 : w3.cell? ⟨gb101, 0, none⟩ = some (.int .i64 a0_0) := (Naa BK101.out 0).trans rfl
     have hcz9_1 : w3.cell? ⟨gb101, 1, none⟩ = some (.int .i64 a0_1) := (Naa BK101.out 1).trans rfl
     have hfz9_0 := Nae BK101.out 0
     have hfz9_1 := Nae BK101.out 1
     go_wp2
     repeat (go_quiet (fail); try go_wp2)
     go_meet
     case rel => exact ⟨_, (true), (by first | rfl | (simp; done) | (simp [*]; done)), H', ⟨by first | omega | exact Nat.le_refl _⟩, ⟨BK101.out⟩, ⟨bE⟩⟩
    ·rw [if_neg c8] at H
     have c8b0 : decide (a0_1 < 1) = false := decide_eq_false c8
     clear c8
     have H' := aM H
     clear H
     have hcz10_0 : w3.cell? ⟨gb101, 0, none⟩ = some (.int .i64 a0_0) := (Naa BK101.out 0).trans rfl
     have hcz10_1 : w3.cell? ⟨gb101, 1, none⟩ = some (.int .i64 a0_1) := (Naa BK101.out 1).trans rfl
     have hfz10_0 := Nae BK101.out 0
     have hfz10_1 := Nae BK101.out 1
     go_wp2
     repeat (go_quiet (fail); try go_wp2)
     go_meet
     case rel => exact ⟨_, (decide (a0_1 > 1000000)), (by first | rfl | (simp; done) | (simp [*]; done)), H', ⟨by first | omega | exact Nat.le_refl _⟩, ⟨BK101.out⟩, ⟨bE⟩⟩
 case rest =>
  clear HC2
  try clear c1
  try clear p2
  try clear c4
  try clear c4b0
  try clear c6
  try clear c6b0
  try clear c8
  try clear c8b0
  try clear hcz10_0
  try clear hcz10_1
  try clear hcz5_0
  try clear hcz5_1
  try clear hcz7_0
  try clear hcz7_1
  try clear hcz9_0
  try clear hcz9_1
  try clear hfz10_0
  try clear hfz10_1
  try clear hfz5_0
  try clear hfz5_1
  try clear hfz7_0
  try clear hfz7_1
  try clear hfz9_0
  try clear hfz9_1
  obtain ⟨kq, x20_1, rfl, HA, HJ1, BK101, HB⟩ := hcut
  cases kq with
  | zero => exact absurd HA.out (by simp [Nbj.j0])
  | succ kj1 =>
   have H := HA.out
   clear HA
   simp only [Nbj.j0] at H
   by_cases c11 : x20_1 = true
   ·subst c11
    rw [if_pos rfl] at H
    obtain rfl := Option.some.inj H
    go_wp2
    repeat (go_quiet (fail); try go_wp2)
    go_ret
    exact ⟨eR, bE⟩
   ·replace c11 := Bool.eq_false_iff.mpr c11
    subst c11
    rw [if_neg Bool.false_ne_true] at H
    replace H := Option.bind_eq_some_iff.mp H
    obtain ⟨t102, A120, H⟩ := H
    try dsimp only at H
    have A12 := aM A120
    clear A120
    replace H := Option.bind_eq_some_iff.mp H
    obtain ⟨t103, A130, H⟩ := H
    try dsimp only at H
    have A13 := aM A130
    clear A130
    obtain rfl := Option.some.inj H
    have hcz14_0 : wc.cell? ⟨gb101, 0, none⟩ = some (.int .i64 a0_0) := (Naa BK101.out 0).trans rfl
    have hcz14_1 : wc.cell? ⟨gb101, 1, none⟩ = some (.int .i64 a0_1) := (Naa BK101.out 1).trans rfl
    have hfz14_0 := Nae BK101.out 0
    have hfz14_1 := Nae BK101.out 1
    go_wp2_with (first | (go_at_call 167; (with_reducible refine (Nb0.calls a0_0 t102 _ A12.out).mono ?_); rintro e w' ⟨rfl, ⟨nd, rfl⟩⟩; (try first | exact ⟨rfl, _, World.drewN_drewN _ _ _⟩ | exact ⟨rfl, _, Eq.trans (World.drewN_drewN _ _ _) (congrArg (World.drewN _) (Nat.add_assoc _ _ _))⟩)) | (go_at_call 166; (with_reducible refine (Ncs.calls kj1 t102 (IntKind.u64.wrap (a0_1)) t103 _ A13.out).mono ?_); rintro e w' ⟨rfl, ⟨nd, rfl⟩⟩; (try first | exact ⟨rfl, _, World.drewN_drewN _ _ _⟩ | exact ⟨rfl, _, Eq.trans (World.drewN_drewN _ _ _) (congrArg (World.drewN _) (Nat.add_assoc _ _ _))⟩)))
    repeat (go_quiet (first | (go_at_call 167; (with_reducible refine (Nb0.calls a0_0 t102 _ A12.out).mono ?_); rintro e w' ⟨rfl, ⟨nd, rfl⟩⟩; (try first | exact ⟨rfl, _, World.drewN_drewN _ _ _⟩ | exact ⟨rfl, _, Eq.trans (World.drewN_drewN _ _ _) (congrArg (World.drewN _) (Nat.add_assoc _ _ _))⟩)) | (go_at_call 166; (with_reducible refine (Ncs.calls kj1 t102 (IntKind.u64.wrap (a0_1)) t103 _ A13.out).mono ?_); rintro e w' ⟨rfl, ⟨nd, rfl⟩⟩; (try first | exact ⟨rfl, _, World.drewN_drewN _ _ _⟩ | exact ⟨rfl, _, Eq.trans (World.drewN_drewN _ _ _) (congrArg (World.drewN _) (Nat.add_assoc _ _ _))⟩))); try go_wp2_with (first | (go_at_call 167; (with_reducible refine (Nb0.calls a0_0 t102 _ A12.out).mono ?_); rintro e w' ⟨rfl, ⟨nd, rfl⟩⟩; (try first | exact ⟨rfl, _, World.drewN_drewN _ _ _⟩ | exact ⟨rfl, _, Eq.trans (World.drewN_drewN _ _ _) (congrArg (World.drewN _) (Nat.add_assoc _ _ _))⟩)) | (go_at_call 166; (with_reducible refine (Ncs.calls kj1 t102 (IntKind.u64.wrap (a0_1)) t103 _ A13.out).mono ?_); rintro e w' ⟨rfl, ⟨nd, rfl⟩⟩; (try first | exact ⟨rfl, _, World.drewN_drewN _ _ _⟩ | exact ⟨rfl, _, Eq.trans (World.drewN_drewN _ _ _) (congrArg (World.drewN _) (Nat.add_assoc _ _ _))⟩))))
    go_ret
    exact ⟨eR, bE⟩
def Na7.l0 : Nat → ByteArray → Int → Int → Option (Bool)
 | 0, _, _, _ => none
 | k + 1, x0, x5, x6 => if x6 < x5 then (if 0 ≤ x6 then (if x6 < (x0.size : Int) then (if (bt x0 x6) < 32 then (some false) else (if (bt x0 x6) > 126 then (some false) else (Na7.l0 k x0 x5 (wrap64 (x6 + 1))))) else (none)) else (none)) else (some true)
def Na7.f (k : Nat) (a0 : ByteArray) : Option (Bool) := Na7.l0 k a0 (a0.size : Int) 0
theorem Na7.calls (k : Nat) (a0 : ByteArray) (r : Bool) (w : World) (h : Na7.f k a0 = some r) :
 Calls Tryz.prog 134 #[.string a0] w fun e w' => e = .returned (.bool r) ∧ Na6 w w' := by
 have H := h
 unfold Na7.f at H
 clear h
 have H' := aM H
 clear H
 go_enter Tryz.func134, Tryz.ntmps134
 go_wp2
 go_loopg [6] k (fun kq v6 w' => ∃ (x6_1 : Int), v6 = .int .i64 x6_1 ∧ Naj (Na7.l0 kq a0 (a0.size : Int) x6_1 = some r) ∧ Naj (kq ≤ k) ∧ Na6 w w')
 case atStart => exact ⟨(0), (by first | rfl | (simp; done) | (simp [*]; done)), H', ⟨Nat.le_refl _⟩, dE⟩
 case round =>
  clear H'
  try clear c1
  obtain ⟨x6_1, rfl, HA, HK1, ⟨m1, rfl⟩⟩ := hrel
  cases gk with
  | zero => exact absurd HA.out (by simp [Na7.l0])
  | succ k1 =>
   have H := HA.out
   clear HA
   simp only [Na7.l0] at H
   by_cases c2 : x6_1 < (a0.size : Int)
   ·rw [if_pos c2] at H
    have c2b0 : decide (x6_1 < (a0.size : Int)) = true := decide_eq_true c2
    clear c2
    by_cases c3 : 0 ≤ x6_1
    ·rw [if_pos c3] at H
     have c3b0 : decide (0 ≤ x6_1) = true := decide_eq_true c3
     clear c3
     by_cases c4 : x6_1 < (a0.size : Int)
     ·rw [if_pos c4] at H
      have c4b0 : decide (x6_1 < (a0.size : Int)) = true := decide_eq_true c4
      clear c4
      by_cases c6 : (bt a0 x6_1) < 32
      ·rw [if_pos c6] at H
       have c6b0 : decide ((bt a0 x6_1) < 32) = true := decide_eq_true c6
       clear c6
       obtain rfl := Option.some.inj H
       have p5 : 0 ≤ (x6_1 : Int) := of_decide_eq_true (by first | (with_reducible assumption) | assumption)
       have q5 : x6_1 < (a0.size : Int) := of_decide_eq_true (by first | (with_reducible assumption) | assumption)
       have hx5 := bt_at a0 x6_1
       replace p5 := eq_true p5
       replace q5 := eq_true q5
       go_wp2
       go_ret
       exact ⟨eR, dE⟩
      ·rw [if_neg c6] at H
       have c6b0 : decide ((bt a0 x6_1) < 32) = false := decide_eq_false c6
       clear c6
       by_cases c8 : (bt a0 x6_1) > 126
       ·rw [if_pos c8] at H
        have c8b0 : decide (126 < (bt a0 x6_1)) = true := decide_eq_true c8
        clear c8
        obtain rfl := Option.some.inj H
        have p5 : 0 ≤ (x6_1 : Int) := of_decide_eq_true (by first | (with_reducible assumption) | assumption)
        have q5 : x6_1 < (a0.size : Int) := of_decide_eq_true (by first | (with_reducible assumption) | assumption)
        have hx5 := bt_at a0 x6_1
        replace p5 := eq_true p5
        replace q5 := eq_true q5
        have p7 : 0 ≤ (x6_1 : Int) := of_decide_eq_true (by first | (with_reducible assumption) | assumption)
        have q7 : x6_1 < (a0.size : Int) := of_decide_eq_true (by first | (with_reducible assumption) | assumption)
        have hx7 := bt_at a0 x6_1
        replace p7 := eq_true p7
        replace q7 := eq_true q7
        go_wp2
        go_ret
        exact ⟨eR, dE⟩
       ·rw [if_neg c8] at H
        have c8b0 : decide (126 < (bt a0 x6_1)) = false := decide_eq_false c8
        clear c8
        have H' := aM H
        clear H
        have p5 : 0 ≤ (x6_1 : Int) := of_decide_eq_true (by first | (with_reducible assumption) | assumption)
        have q5 : x6_1 < (a0.size : Int) := of_decide_eq_true (by first | (with_reducible assumption) | assumption)
        have hx5 := bt_at a0 x6_1
        replace p5 := eq_true p5
        replace q5 := eq_true q5
        have p7 : 0 ≤ (x6_1 : Int) := of_decide_eq_true (by first | (with_reducible assumption) | assumption)
        have q7 : x6_1 < (a0.size : Int) := of_decide_eq_true (by first | (with_reducible assumption) | assumption)
        have hx7 := bt_at a0 x6_1
        replace p7 := eq_true p7
        replace q7 := eq_true q7
        go_wp2
        go_roundg k1
        case measure => have := HK1.out; omega
        case rel => exact ⟨(wrap64 (x6_1 + 1)), (by first | rfl | (simp; done) | (simp [*]; done)), H', ⟨by have := HK1.out; omega⟩, dE⟩
     ·rw [if_neg c4] at H
      exact absurd H (by simp)
    ·rw [if_neg c3] at H
     exact absurd H (by simp)
   ·rw [if_neg c2] at H
    have c2b0 : decide (x6_1 < (a0.size : Int)) = false := decide_eq_false c2
    clear c2
    obtain rfl := Option.some.inj H
    go_wp2
    go_ret
    exact ⟨eR, dE⟩
end Go.Proofs.YtejbbceidnaloaaGreatDoor.P
