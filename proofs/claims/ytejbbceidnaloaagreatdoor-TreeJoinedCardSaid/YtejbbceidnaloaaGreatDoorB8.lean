import Derived.Test.YtejbbceidnaloaaGreatDoorB4
import Derived.Test.YtejbbceidnaloaaGreatDoorB3
import Derived.LoopTactic
import Derived.Outline
set_option linter.unusedVariables false
set_option linter.unusedSimpArgs false
set_option maxRecDepth 100000
set_option maxHeartbeats 8000000
namespace Go.Proofs.YtejbbceidnaloaaGreatDoor.P
open Go.RowKit AW AL
def digB (c : Int) : Bool := decide (48 ≤ c) && decide (c ≤ 57)
theorem Ncs (c : Int) (w : World) : Calls Tryz.prog 85 #[.int .u8 c] w fun e w' => e = .returned (.bool (digB c)) ∧ w = w' := by
 by_cases h : 48 ≤ c
 ·have hd : decide (48 ≤ c) = true := decide_eq_true h
  have hx : digB c = decide (c ≤ 57) := by unfold digB; rw [hd]; rfl
  rw [hx]; clear hx
  go_enter Tryz.func85, Tryz.ntmps85
  go_wp2
  go_ret
  exact ⟨rfl, rfl⟩
 ·have hd : decide (48 ≤ c) = false := decide_eq_false h
  have hx : digB c = false := by unfold digB; rw [hd]; rfl
  rw [hx]; clear hx
  go_enter Tryz.func85, Tryz.ntmps85
  go_wp2
  go_ret
  exact ⟨rfl, rfl⟩
def runL (p : Int → Bool) : List UInt8 → Nat
 | [] => 0
 | c :: r => if p c.toNat = true then runL p r + 1 else 0
theorem Ndw (p : Int → Bool) : ∀ l, runL p l ≤ l.length
 | [] => Nat.le_refl _
 | c :: r => by unfold runL; have := Ndw p r; split <;> simp <;> omega
theorem runL_stop (p : Int → Bool) : ∀ (l : List UInt8) (k : Nat) (h : k < l.length), (∀ j, (hj : j < k) → p (l[j]'(by omega)).toNat = true) → p l[k].toNat = false → runL p l = k
 | c :: r, 0, h, _, h2 => by simp at h2; simp [runL, h2]
 | c :: r, k + 1, h, h1, h2 => by
  have hc := h1 0 (by omega)
  simp at hc
  have ih := runL_stop p r k (by simpa using h) (fun j hj => by have := h1 (j + 1) (by omega); simpa using this) (by simpa using h2)
  simp [runL, hc, ih]
theorem runL_all (p : Int → Bool) : ∀ (l : List UInt8), (∀ j, (hj : j < l.length) → p (l[j]).toNat = true) → runL p l = l.length
 | [], _ => rfl
 | c :: r, h => by
  have hc := h 0 (by simp)
  simp at hc
  have ih := runL_all p r (fun j hj => by have := h (j + 1) (by simp; omega); simpa using this)
  simp [runL, hc, ih]
def runN (p : Int → Bool) (s : ByteArray) : Nat := runL p s.data.toList
theorem run_digit (s : ByteArray) (w : World) (hs : s.size ≤ 140737488355328) : Calls Tryz.prog 89 #[.string s, .func (.func 85) #[] #[]] w fun e w' => e = .returned (.int .i64 (runN digB s : Nat)) ∧ w = w' := by
 go_enter Tryz.func89, Tryz.ntmps89
 go_wp2_with fail
 go_loop [5, 8] (fun _ i => ∃ k : Nat, k ≤ s.size ∧ i = .int .i64 k ∧ Hid (∀ j, (hj : j < k) → (hk : j < s.size) → digB (s[j]).toNat = true)) (fun _ i => s.size - (intOf i).toNat)
 case atStart => exact ⟨0, by omega, rfl, lh (fun j hj => by omega)⟩
 case round =>
  obtain ⟨k, hk, rfl, hall⟩ := hrel
  by_cases hlt : k < s.size
  ·cases hp : digB (s[k]).toNat with
   | true =>
    have HP := lh hp
    clear hp
    go_wp2_with fail
    refine (Ncs _ w).mono ?_
    rintro e w' ⟨rfl, rfl⟩
    rw [HP.out]
    go_wp2_with fail
    go_round
    case rel =>
     refine ⟨k + 1, by omega, by go_num, lh (fun j hj hk => ?_)⟩
     rcases Nat.lt_or_ge j k with h | h
     ·exact hall.out j h hk
     ·obtain rfl : j = k := by omega
      exact HP.out
    case measure => simp [intOf]; omega
   | false =>
    have HP := lh hp
    clear hp
    have hr : runN digB s = k := runL_stop digB s.data.toList k (by simpa using hlt) (fun j hj => by have := hall.out j hj (by omega); rw [Array.getElem_toList]; exact this) (by rw [Array.getElem_toList]; exact HP.out)
    have HR := lh hr
    clear hr
    go_wp2_with fail
    refine (Ncs _ w).mono ?_
    rintro e w' ⟨rfl, rfl⟩
    rw [HP.out]
    go_wp2_with fail
    go_ret
    exact ⟨by rw [HR.out]; rfl, rfl⟩
  ·have hr : runN digB s = s.size := by
    have := runL_all digB s.data.toList (fun j hj => by have := hall.out j (by simp at hj; omega) (by simpa using hj); rw [Array.getElem_toList]; exact this)
    unfold runN; rw [this]; simp
   have HR := lh hr
   clear hr
   go_wp2_with fail
   go_ret
   exact ⟨by rw [HR.out]; rfl, rfl⟩
def letB (c : Int) : Bool := (decide (65 ≤ c) && decide (c ≤ 90)) || (decide (97 ≤ c) && decide (c ≤ 122))
theorem Nc5 (c : Int) (w : World) : Calls Tryz.prog 88 #[.int .u8 c] w fun e w' => e = .returned (.bool (letB c)) ∧ w = w' := by
 cases h1 : decide (65 ≤ c) <;> cases h2 : decide (c ≤ 90) <;> cases h3 : decide (97 ≤ c) <;> cases h4 : decide (c ≤ 122) <;>
  (have hx : letB c = (decide (65 ≤ c) && decide (c ≤ 90) || decide (97 ≤ c) && decide (c ≤ 122)) := rfl
   rw [h1, h2, h3, h4] at hx
   simp only [Bool.and_true, Bool.and_false, Bool.or_true, Bool.or_false, Bool.true_and, Bool.false_and, Bool.true_or, Bool.false_or] at hx
   rw [hx]; clear hx
   go_enter Tryz.func88, Tryz.ntmps88
   go_wp2
   go_ret
   exact ⟨rfl, rfl⟩)
def wordB (c : Int) : Bool := letB c || digB c || c == 36
theorem word_any (c : Int) (w : World) : Calls Tryz.prog 90 #[.int .u8 c] w fun e w' => e = .returned (.bool (wordB c)) ∧ w = w' := by
 cases h1 : letB c
 ·cases h2 : digB c
  ·have hx : wordB c = (c == 36) := by unfold wordB; rw [h1, h2]; rfl
   rw [hx]
   have H1 := lh h1
   have H2 := lh h2
   clear hx h1 h2
   go_enter Tryz.func90, Tryz.ntmps90
   go_wp2_with (first | (go_at_call 88; refine (Nc5 _ _).mono ?_; rintro e w' ⟨rfl, rfl⟩; rw [H1.out]) | (go_at_call 85; refine (Ncs _ _).mono ?_; rintro e w' ⟨rfl, rfl⟩; rw [H2.out]))
   go_ret
   exact ⟨rfl, rfl⟩
  ·have hx : wordB c = true := by unfold wordB; rw [h1, h2]; rfl
   rw [hx]
   have H1 := lh h1
   have H2 := lh h2
   clear hx h1 h2
   go_enter Tryz.func90, Tryz.ntmps90
   go_wp2_with (first | (go_at_call 88; refine (Nc5 _ _).mono ?_; rintro e w' ⟨rfl, rfl⟩; rw [H1.out]) | (go_at_call 85; refine (Ncs _ _).mono ?_; rintro e w' ⟨rfl, rfl⟩; rw [H2.out]))
   go_ret
   exact ⟨rfl, rfl⟩
 ·have hx : wordB c = true := by unfold wordB; rw [h1]; rfl
  rw [hx]
  have H1 := lh h1
  clear hx h1
  go_enter Tryz.func90, Tryz.ntmps90
  go_wp2_with (first | (go_at_call 88; refine (Nc5 _ _).mono ?_; rintro e w' ⟨rfl, rfl⟩; rw [H1.out]))
  go_ret
  exact ⟨rfl, rfl⟩
theorem run_word (s : ByteArray) (w : World) (hs : s.size ≤ 140737488355328) : Calls Tryz.prog 89 #[.string s, .func (.func 90) #[] #[]] w fun e w' => e = .returned (.int .i64 (runN wordB s : Nat)) ∧ w = w' := by
 go_enter Tryz.func89, Tryz.ntmps89
 go_wp2_with fail
 go_loop [5, 8] (fun _ i => ∃ k : Nat, k ≤ s.size ∧ i = .int .i64 k ∧ Hid (∀ j, (hj : j < k) → (hk : j < s.size) → wordB (s[j]).toNat = true)) (fun _ i => s.size - (intOf i).toNat)
 case atStart => exact ⟨0, by omega, rfl, lh (fun j hj => by omega)⟩
 case round =>
  obtain ⟨k, hk, rfl, hall⟩ := hrel
  by_cases hlt : k < s.size
  ·cases hp : wordB (s[k]).toNat with
   | true =>
    have HP := lh hp
    clear hp
    go_wp2_with fail
    refine (word_any _ w).mono ?_
    rintro e w' ⟨rfl, rfl⟩
    rw [HP.out]
    go_wp2_with fail
    go_round
    case rel =>
     refine ⟨k + 1, by omega, by go_num, lh (fun j hj hk => ?_)⟩
     rcases Nat.lt_or_ge j k with h | h
     ·exact hall.out j h hk
     ·obtain rfl : j = k := by omega
      exact HP.out
    case measure => simp [intOf]; omega
   | false =>
    have HP := lh hp
    clear hp
    have hr : runN wordB s = k := runL_stop wordB s.data.toList k (by simpa using hlt) (fun j hj => by have := hall.out j hj (by omega); rw [Array.getElem_toList]; exact this) (by rw [Array.getElem_toList]; exact HP.out)
    have HR := lh hr
    clear hr
    go_wp2_with fail
    refine (word_any _ w).mono ?_
    rintro e w' ⟨rfl, rfl⟩
    rw [HP.out]
    go_wp2_with fail
    go_ret
    exact ⟨by rw [HR.out]; rfl, rfl⟩
  ·have hr : runN wordB s = s.size := by
    have := runL_all wordB s.data.toList (fun j hj => by have := hall.out j (by simp at hj; omega) (by simpa using hj); rw [Array.getElem_toList]; exact this)
    unfold runN; rw [this]; simp
   have HR := lh hr
   clear hr
   go_wp2_with fail
   go_ret
   exact ⟨by rw [HR.out]; rfl, rfl⟩
def numN (s : ByteArray) : Nat :=
 if runN digB s < s.size ∧ bt s (runN digB s : Nat) = 46 ∧ 0 < runN digB (s.extract (runN digB s + 1) s.size) then runN digB s + 1 + runN digB (s.extract (runN digB s + 1) s.size) else runN digB s
theorem runN_le (p : Int → Bool) (s : ByteArray) : runN p s ≤ s.size := by
 have := Ndw p s.data.toList
 unfold runN; simpa using this
theorem number_any (s : ByteArray) (w : World) (hs : s.size ≤ 140737488355328) : Calls Tryz.prog 86 #[.string s] w fun e w' => e = .returned (.int .i64 (numN s : Nat)) ∧ w = w' := by
 have hf : numN s = if runN digB s < s.size ∧ bt s (runN digB s : Nat) = 46 ∧ 0 < runN digB (s.extract (runN digB s + 1) s.size) then runN digB s + 1 + runN digB (s.extract (runN digB s + 1) s.size) else runN digB s := rfl
 have hr := run_digit s w hs
 have hl := runN_le digB s
 have hb := fun h : runN digB s < s.size => bt_at s (runN digB s) h
 generalize hn : runN digB s = n at *
 have HR := lh hr
 clear hr hn
 by_cases h1 : n < s.size
 ·have hb1 := hb h1
  clear hb
  by_cases h2 : bt s (n : Nat) = 46
  ·have hr2 := run_digit (s.extract (n + 1) s.size) w (by rw [ByteArray.size_extract]; omega)
   have hl2 := runN_le digB (s.extract (n + 1) s.size)
   rw [ByteArray.size_extract] at hl2
   generalize hm : runN digB (s.extract (n + 1) s.size) = m at *
   have HR2 := lh hr2
   clear hr2 hm
   have hbb : ((s[n]'h1).toNat : Int) = 46 := hb1.trans h2
   have HF := lh hf
   have e46 : s[n]'h1 = 46 := by
    apply UInt8.toNat_inj.mp
    have : (s[n]'h1).toNat = 46 := by omega
    rw [this]; rfl
   clear hf hb1 hbb
   go_enter Tryz.func86, Tryz.ntmps86
   go_wp2_with fail
   refine (HR.out).mono ?_
   rintro e w' ⟨rfl, rfl⟩
   go_wp2_with fail
   refine (HR2.out).mono ?_
   rintro e w' ⟨rfl, rfl⟩
   by_cases h3 : 0 < m
   ·have hF : numN s = n + 1 + m := by rw [HF.out, if_pos ⟨h1, h2, h3⟩]
    have HF2 := lh hF
    clear hF
    go_wp2_with fail
    go_ret
    exact ⟨by rw [HF2.out]; push_cast; rfl, rfl⟩
   ·have hF : numN s = n := by rw [HF.out, if_neg (fun h => h3 h.2.2)]
    have HF2 := lh hF
    clear hF
    go_wp2_with fail
    go_ret
    exact ⟨by rw [HF2.out]; rfl, rfl⟩
  ·have hF : numN s = n := by rw [hf, if_neg (fun h => h2 h.2.1)]
   have HF2 := lh hF
   have e46 : ((s[n]'h1) == 46) = false := by
    rw [beq_eq_false_iff_ne]
    intro h
    apply h2
    rw [← hb1]
    show (((s[n]'h1).toNat : Nat) : Int) = 46
    rw [h]; rfl
   have e46' : (((s[n]'h1).toNat : Int) == 46) = false := by
    rw [beq_eq_false_iff_ne]
    intro h
    exact h2 (hb1.symm.trans h)
   clear hf hb1 hF
   go_enter Tryz.func86, Tryz.ntmps86
   go_wp2_with fail
   refine (HR.out).mono ?_
   rintro e w' ⟨rfl, rfl⟩
   go_wp2_with fail
   go_ret
   exact ⟨by rw [HF2.out]; rfl, rfl⟩
 ·have hF : numN s = n := by rw [hf, if_neg (fun h => h1 h.1)]
  have HF2 := lh hF
  clear hf hb hF
  go_enter Tryz.func86, Tryz.ntmps86
  go_wp2_with fail
  refine (HR.out).mono ?_
  rintro e w' ⟨rfl, rfl⟩
  go_wp2_with fail
  go_ret
  exact ⟨by rw [HF2.out]; rfl, rfl⟩
end Go.Proofs.YtejbbceidnaloaaGreatDoor.P
namespace Go.Proofs.YtejbbceidnaloaaGreatDoor.P
open Go.RowKit AW AL AM
def Nb5.f (a0 : Int) : Option (Bool) := if a0 ≥ 65 then (if a0 ≤ 90 then (some true) else (if a0 ≥ 97 then (some (decide (a0 ≤ 122))) else (some false))) else (if a0 ≥ 97 then (some (decide (a0 ≤ 122))) else (some false))
theorem Nb5.calls (a0 : Int) (r : Bool) (w : World) (h : Nb5.f a0 = some r) :
 Calls Tryz.prog 168 #[.int .u8 a0] w fun e w' => e = .returned (.bool r) ∧ Na9 w w' := by
 have H := h
 unfold Nb5.f at H
 clear h
 by_cases c2 : a0 ≥ 65
 ·rw [if_pos c2] at H
  have c2b0 : decide (65 ≤ a0) = true := decide_eq_true c2
  clear c2
  by_cases c3 : a0 ≤ 90
  ·rw [if_pos c3] at H
   have c3b0 : decide (a0 ≤ 90) = true := decide_eq_true c3
   clear c3
   obtain rfl := sI H
   go_enter Tryz.func168, Tryz.ntmps168
   go_wp2
   go_ret
   exact ⟨eR, dE⟩
  ·rw [if_neg c3] at H
   have c3b0 : decide (a0 ≤ 90) = false := decide_eq_false c3
   clear c3
   by_cases c4 : a0 ≥ 97
   ·rw [if_pos c4] at H
    have c4b0 : decide (97 ≤ a0) = true := decide_eq_true c4
    clear c4
    obtain rfl := sI H
    go_enter Tryz.func168, Tryz.ntmps168
    go_wp2
    go_ret
    exact ⟨eR, dE⟩
   ·rw [if_neg c4] at H
    have c4b0 : decide (97 ≤ a0) = false := decide_eq_false c4
    clear c4
    obtain rfl := sI H
    go_enter Tryz.func168, Tryz.ntmps168
    go_wp2
    go_ret
    exact ⟨eR, dE⟩
 ·rw [if_neg c2] at H
  have c2b0 : decide (65 ≤ a0) = false := decide_eq_false c2
  clear c2
  by_cases c5 : a0 ≥ 97
  ·rw [if_pos c5] at H
   have c5b0 : decide (97 ≤ a0) = true := decide_eq_true c5
   clear c5
   obtain rfl := sI H
   go_enter Tryz.func168, Tryz.ntmps168
   go_wp2
   go_ret
   exact ⟨eR, dE⟩
  ·rw [if_neg c5] at H
   have c5b0 : decide (97 ≤ a0) = false := decide_eq_false c5
   clear c5
   obtain rfl := sI H
   go_enter Tryz.func168, Tryz.ntmps168
   go_wp2
   go_ret
   exact ⟨eR, dE⟩
def Nc1.f (a0 : Int) : Option (Bool) := if a0 ≥ 48 then (some (decide (a0 ≤ 57))) else (some false)
theorem Nc1.calls (a0 : Int) (r : Bool) (w : World) (h : Nc1.f a0 = some r) :
 Calls Tryz.prog 169 #[.int .u8 a0] w fun e w' => e = .returned (.bool r) ∧ Na9 w w' := by
 have H := h
 unfold Nc1.f at H
 clear h
 by_cases c2 : a0 ≥ 48
 ·rw [if_pos c2] at H
  have c2b0 : decide (48 ≤ a0) = true := decide_eq_true c2
  clear c2
  obtain rfl := sI H
  go_enter Tryz.func169, Tryz.ntmps169
  go_wp2
  go_ret
  exact ⟨eR, dE⟩
 ·rw [if_neg c2] at H
  have c2b0 : decide (48 ≤ a0) = false := decide_eq_false c2
  clear c2
  obtain rfl := sI H
  go_enter Tryz.func169, Tryz.ntmps169
  go_wp2
  go_ret
  exact ⟨eR, dE⟩
mutual
def Naj.j0 : Nat → ByteArray → Bool → Option (Bool)
 | 0, _, _ => none
 | k + 1, x0, x16 => if x16 = true then (some false) else (Naj.l0 k x0 (x0.size : Int) 0)
def Naj.l0 : Nat → ByteArray → Int → Int → Option (Bool)
 | 0, _, _, _ => none
 | k + 1, x0, x18, x19 => if x19 < x18 then (if 0 ≤ x19 then (if x19 < (x0.size : Int) then ((Nb5.f (bt x0 x19)).bind fun t102 => (if t102 = true then (Naj.l0 k x0 x18 (wrap64 (x19 + 1))) else ((Nc1.f (bt x0 x19)).bind fun t103 => (if t103 = true then (Naj.l0 k x0 x18 (wrap64 (x19 + 1))) else (some false))))) else (none)) else (none)) else (some true)
end
def Naj.f (k : Nat) (a0 : ByteArray) : Option (Bool) := if a0.toList = ([] : List UInt8) then (Naj.j0 k a0 true) else (if (a0.size : Int) > 16 then (Naj.j0 k a0 true) else (if 0 < (a0.size : Int) then ((Nb5.f (bt a0 0)).bind fun t101 => (Naj.j0 k a0 (!t101))) else (none)))
theorem Naj.calls (k : Nat) (a0 : ByteArray) (r : Bool) (w : World) (h : Naj.f k a0 = some r) :
 Calls Tryz.prog 135 #[.string a0] w fun e w' => e = .returned (.bool r) ∧ Na9 w w' := by
 have H := h
 unfold Naj.f at H
 clear h
 have HC2 := aM H
 clear H
 go_enter Tryz.func135, Tryz.ntmps135
 go_upto_region 1 with (fail)
 go_cut [16] (fun v16 wc => ∃ (kq : Nat) (x16_1 : Bool), v16 = .bool x16_1 ∧ Nai (Naj.j0 kq a0 x16_1 = some r) ∧ Nai (kq ≤ k) ∧ Na9 w wc)
 case first =>
  have H := HC2.out
  clear HC2
  by_cases c3 : a0.toList = ([] : List UInt8)
  ·rw [if_pos c3] at H
   obtain ⟨c3b0, c3b1⟩ := bqT c3
   clear c3
   (first | rw [c3b0] | (simp only [i64_w, i32_w]; rw [c3b0]) | skip)
   have H' := aM H
   clear H
   go_wp2
   go_meet
   case rel => exact ⟨_, (true), (by first | rfl | (simp; done) | (simp [*]; done)), H', ⟨by first | omega | exact Nat.le_refl _⟩, dE⟩
  ·rw [if_neg c3] at H
   obtain ⟨c3b0, c3b1⟩ := bqF c3
   (first | rw [c3b0] | (simp only [i64_w, i32_w]; rw [c3b0]) | skip)
   by_cases c4 : (a0.size : Int) > 16
   ·rw [if_pos c4] at H
    have c4b0 : decide (16 < (a0.size : Int)) = true := decide_eq_true c4
    have c4b1 : decide (16 < a0.size) = true := decide_eq_true (by omega)
    clear c4
    have H' := aM H
    clear H
    go_wp2
    go_meet
    case rel => exact ⟨_, (true), (by first | rfl | (simp; done) | (simp [*]; done)), H', ⟨by first | omega | exact Nat.le_refl _⟩, dE⟩
   ·rw [if_neg c4] at H
    have c4b0 : decide (16 < (a0.size : Int)) = false := decide_eq_false c4
    have c4b1 : decide (16 < a0.size) = false := decide_eq_false (by omega)
    clear c4
    by_cases c5 : 0 < (a0.size : Int)
    ·rw [if_pos c5] at H
     have c5b0 : decide (0 < (a0.size : Int)) = true := decide_eq_true c5
     have c5b1 : decide (0 < a0.size) = true := decide_eq_true (by omega)
     clear c5
     replace H := bS H
     obtain ⟨t101, A70, H⟩ := H
     try dsimp only at H
     have A7 := aM A70
     clear A70
     have H' := aM H
     clear H
     have p6 : 0 ≤ (0 : Int) := (by omega)
     have q6 : 0 < a0.size := (by have : (0 : Int) < (a0.size : Int) := of_decide_eq_true (by first | (with_reducible assumption) | assumption); omega)
     have hx6 : ∀ h : 0 < a0.size, ((a0[0]'h).toNat : Int) = bt a0 0 := bt_at a0 0
     clear p6
     have qi6 : (0 < (a0.size : Int)) = True := eq_true (of_decide_eq_true (by first | (with_reducible assumption) | assumption))
     replace q6 := eq_true q6
     go_wp2_with (first | (go_at_call 168; (with_reducible refine (Nb5.calls (bt a0 0) t101 _ A7.out).mono ?_); rintro e w' ⟨rfl, ⟨nd, rfl⟩⟩))
     go_meet
     case rel => exact ⟨_, (!t101), (by first | rfl | (simp; done) | (simp [*]; done)), H', ⟨by first | omega | exact Nat.le_refl _⟩, dE⟩
    ·rw [if_neg c5] at H
     exact absurd H (by simp)
 case rest =>
  clear HC2
  try clear c1
  try clear p2
  try clear c3
  try clear c3b0
  try clear c3b1
  try clear c4
  try clear c4b0
  try clear c4b1
  try clear c5
  try clear c5b0
  try clear c5b1
  try clear p6
  try clear q6
  try clear hx6
  try clear qi6
  try clear p6
  try clear q6
  obtain ⟨kq, x16_1, rfl, HA, HJ1, ⟨mc1, rfl⟩⟩ := hcut
  cases kq with
  | zero => exact absurd HA.out (by simp [Naj.j0])
  | succ kj1 =>
   have H := HA.out
   clear HA
   simp only [Naj.j0] at H
   by_cases c8 : x16_1 = true
   ·subst c8
    rw [if_pos rfl] at H
    obtain rfl := sI H
    go_wp2
    go_ret
    exact ⟨eR, dE⟩
   ·replace c8 := Bool.eq_false_iff.mpr c8
    subst c8
    rw [if_neg fT] at H
    have H' := aM H
    clear H
    go_wp2
    go_loopg [19] kj1 (fun kq v19 w' => ∃ (x19_2 : Int), v19 = .int .i64 x19_2 ∧ Nai (Naj.l0 kq a0 (a0.size : Int) x19_2 = some r) ∧ Nai (kq ≤ kj1) ∧ Na9 w w')
    case atStart => exact ⟨(0), (by first | rfl | (simp; done) | (simp [*]; done)), H', ⟨Nat.le_refl _⟩, dE⟩
    case round =>
     clear H'
     try clear c1
     try clear p2
     try clear c3
     try clear c3b0
     try clear c3b1
     try clear c4
     try clear c4b0
     try clear c4b1
     try clear c5
     try clear c5b0
     try clear c5b1
     try clear p6
     try clear q6
     try clear hx6
     try clear qi6
     try clear c8
     try clear p2
     try clear p6
     try clear q6
     obtain ⟨x19_2, rfl, HA, HK2, ⟨m2, rfl⟩⟩ := hrel
     cases gk with
     | zero => exact absurd HA.out (by simp [Naj.l0])
     | succ k2 =>
      have H := HA.out
      clear HA
      simp only [Naj.l0] at H
      by_cases c9 : x19_2 < (a0.size : Int)
      ·rw [if_pos c9] at H
       have c9b0 : decide (x19_2 < (a0.size : Int)) = true := decide_eq_true c9
       clear c9
       by_cases c10 : 0 ≤ x19_2
       ·rw [if_pos c10] at H
        have c10b0 : decide (0 ≤ x19_2) = true := decide_eq_true c10
        clear c10
        by_cases c11 : x19_2 < (a0.size : Int)
        ·rw [if_pos c11] at H
         have c11b0 : decide (x19_2 < (a0.size : Int)) = true := decide_eq_true c11
         clear c11
         replace H := bS H
         obtain ⟨t102, A130, H⟩ := H
         try dsimp only at H
         have A13 := aM A130
         clear A130
         by_cases c14 : t102 = true
         ·subst c14
          rw [if_pos rfl] at H
          have H' := aM H
          clear H
          have p12 : 0 ≤ (x19_2 : Int) := of_decide_eq_true (by first | (with_reducible assumption) | assumption)
          have q12 : x19_2 < (a0.size : Int) := of_decide_eq_true (by first | (with_reducible assumption) | assumption)
          have hx12 := bt_at a0 x19_2
          replace p12 := eq_true p12
          replace q12 := eq_true q12
          go_wp2_with (first | ((with_reducible refine gC 168 rfl ?_); refine gL 25 Tryz.func168 #[.int .u8 (bt a0 x19_2)] ?_; (with_reducible refine (Nb5.calls (bt a0 x19_2) true _ A13.out).mono ?_); rintro e w' ⟨rfl, ⟨nd, rfl⟩⟩; refine ⟨_, rfl, ?_⟩))
          go_roundg k2
          case measure => have := HJ1.out; have := HK2.out; omega
          case rel => exact ⟨(wrap64 (x19_2 + 1)), (by first | rfl | (simp; done) | (simp [*]; done)), H', ⟨by have := HJ1.out; have := HK2.out; omega⟩, dE⟩
         ·replace c14 := Bool.eq_false_iff.mpr c14
          subst c14
          rw [if_neg fT] at H
          replace H := bS H
          obtain ⟨t103, A160, H⟩ := H
          try dsimp only at H
          have A16 := aM A160
          clear A160
          by_cases c17 : t103 = true
          ·subst c17
           rw [if_pos rfl] at H
           have H' := aM H
           clear H
           have p12 : 0 ≤ (x19_2 : Int) := of_decide_eq_true (by first | (with_reducible assumption) | assumption)
           have q12 : x19_2 < (a0.size : Int) := of_decide_eq_true (by first | (with_reducible assumption) | assumption)
           have hx12 := bt_at a0 x19_2
           replace p12 := eq_true p12
           replace q12 := eq_true q12
           go_wp2_with (first | ((with_reducible refine gC 168 rfl ?_); refine gL 25 Tryz.func168 #[.int .u8 (bt a0 x19_2)] ?_; (with_reducible refine (Nb5.calls (bt a0 x19_2) false _ A13.out).mono ?_); rintro e w' ⟨rfl, ⟨nd, rfl⟩⟩; refine ⟨_, rfl, ?_⟩; have p15 : 0 ≤ (x19_2 : Int) := of_decide_eq_true (by first | (with_reducible assumption) | assumption); have q15 : x19_2 < (a0.size : Int) := of_decide_eq_true (by first | (with_reducible assumption) | assumption); have hx15 := bt_at a0 x19_2; replace p15 := eq_true p15; replace q15 := eq_true q15) | (go_at_call 169; (with_reducible refine (Nc1.calls (bt a0 x19_2) true _ A16.out).mono ?_); rintro e w' ⟨rfl, ⟨nd, rfl⟩⟩))
           go_roundg k2
           case measure => have := HJ1.out; have := HK2.out; omega
           case rel => exact ⟨(wrap64 (x19_2 + 1)), (by first | rfl | (simp; done) | (simp [*]; done)), H', ⟨by have := HJ1.out; have := HK2.out; omega⟩, dE⟩
          ·replace c17 := Bool.eq_false_iff.mpr c17
           subst c17
           rw [if_neg fT] at H
           obtain rfl := sI H
           have p12 : 0 ≤ (x19_2 : Int) := of_decide_eq_true (by first | (with_reducible assumption) | assumption)
           have q12 : x19_2 < (a0.size : Int) := of_decide_eq_true (by first | (with_reducible assumption) | assumption)
           have hx12 := bt_at a0 x19_2
           replace p12 := eq_true p12
           replace q12 := eq_true q12
           go_wp2_with (first | ((with_reducible refine gC 168 rfl ?_); refine gL 25 Tryz.func168 #[.int .u8 (bt a0 x19_2)] ?_; (with_reducible refine (Nb5.calls (bt a0 x19_2) false _ A13.out).mono ?_); rintro e w' ⟨rfl, ⟨nd, rfl⟩⟩; refine ⟨_, rfl, ?_⟩; have p15 : 0 ≤ (x19_2 : Int) := of_decide_eq_true (by first | (with_reducible assumption) | assumption); have q15 : x19_2 < (a0.size : Int) := of_decide_eq_true (by first | (with_reducible assumption) | assumption); have hx15 := bt_at a0 x19_2; replace p15 := eq_true p15; replace q15 := eq_true q15) | (go_at_call 169; (with_reducible refine (Nc1.calls (bt a0 x19_2) false _ A16.out).mono ?_); rintro e w' ⟨rfl, ⟨nd, rfl⟩⟩))
           go_ret
           exact ⟨eR, dE⟩
        ·rw [if_neg c11] at H
         exact absurd H (by simp)
       ·rw [if_neg c10] at H
        exact absurd H (by simp)
      ·rw [if_neg c9] at H
       have c9b0 : decide (x19_2 < (a0.size : Int)) = false := decide_eq_false c9
       clear c9
       obtain rfl := sI H
       go_wp2
       go_ret
       exact ⟨eR, dE⟩
theorem tree_letter_f (c : Int) : Nb5.f c = some (letB c) := by
 unfold Nb5.f letB
 by_cases h1 : c ≥ 65 <;> by_cases h2 : c ≤ 90 <;> by_cases h3 : c ≥ 97 <;> simp [h1, h2, h3] <;> omega
theorem tree_digit_f (c : Int) : Nc1.f c = some (digB c) := by
 unfold Nc1.f digB
 by_cases h1 : c ≥ 48 <;> simp [h1]
def nameC (c : UInt8) : Bool := letB c.toNat || digB c.toNat
theorem bt_nat (s : ByteArray) (i : Nat) (h : i < s.size) : bt s (i : Int) = ((s.data.toList[i]'(by simpa using h)).toNat : Int) := by
 rw [← bt_at s i h, Array.getElem_toList]
 rfl
theorem sheet_l0 (s : ByteArray) (hs : s.size ≤ 1000) : ∀ (d i k : Nat), s.size - i = d → i ≤ s.size → d < k → Naj.l0 k s (s.size : Int) (i : Int) = some ((s.data.toList.drop i).all nameC) := by
 intro d
 induction d with
 | zero =>
  intro i k hd hi hk
  obtain ⟨k, rfl⟩ : ∃ y, k = y + 1 := ⟨k - 1, by omega⟩
  rw [Naj.l0, if_neg (by omega), List.drop_eq_nil_of_le (by simp; omega)]
  rfl
 | succ d ih =>
  intro i k hd hi hk
  obtain ⟨k, rfl⟩ : ∃ y, k = y + 1 := ⟨k - 1, by omega⟩
  have hlt : i < s.size := by omega
  have hw : wrap64 ((i : Int) + 1) = ((i + 1 : Nat) : Int) := by unfold wrap64; omega
  have hd' : s.data.toList.drop i = s.data.toList[i]'(by simpa using hlt) :: s.data.toList.drop (i + 1) := List.drop_eq_getElem_cons (by simpa using hlt)
  rw [Naj.l0, if_pos (by omega), if_pos (by omega), if_pos (by omega), tree_letter_f, bt_nat s i hlt, hw, hd', List.all_cons]
  simp only [Option.bind_some, tree_digit_f]
  rw [ih (i + 1) k (by omega) (by omega) (by omega)]
  unfold nameC
  cases letB ((s.data.toList[i]'(by simpa using hlt)).toNat : Int) <;> cases digB ((s.data.toList[i]'(by simpa using hlt)).toNat : Int) <;> simp
def Nd5 (s : ByteArray) : Bool := decide (1 ≤ s.size ∧ s.size ≤ 16) && letB (bt s 0) && s.data.toList.all nameC
theorem Ndq (s : ByteArray) : s.toList = [] ↔ s.size = 0 := by
 rw [ByteArray.toList_eq]
 constructor
 ·intro h
  have := congrArg List.length h
  simpa using this
 ·intro h
  apply List.eq_nil_of_length_eq_zero
  simpa using h
theorem sheetName_f (s : ByteArray) (k : Nat) : Naj.f (k + 18) s = some (Nd5 s) := by
 unfold Naj.f Nd5
 by_cases h0 : s.size = 0
 ·rw [if_pos ((Ndq s).mpr h0), Naj.j0]
  simp [h0]
 ·rw [if_neg (fun h => h0 ((Ndq s).mp h))]
  by_cases h1 : 16 < s.size
  ·rw [if_pos (by omega), Naj.j0]
   have : ¬ s.size ≤ 16 := by omega
   simp [this]
  ·rw [if_neg (by omega), if_pos (by omega), tree_letter_f]
   simp only [Option.bind_some]
   rw [Naj.j0]
   have e : 1 ≤ s.size ∧ s.size ≤ 16 := by omega
   cases hl : letB (bt s 0)
   ·simp
   ·have := sheet_l0 s (by omega) s.size 0 (k + 17) (by omega) (by omega) (by omega)
    simp only [List.drop_zero] at this
    simp only [Bool.not_true, Bool.false_eq_true, if_false]
    rw [show (0 : Int) = ((0 : Nat) : Int) from rfl, this]
    simp [e]
theorem Nea (s : ByteArray) (w : World) : Calls Tryz.prog 135 #[.string s] w fun e w' => e = .returned (.bool (Nd5 s)) ∧ Na9 w w' :=
 Naj.calls (0 + 18) s (Nd5 s) w (sheetName_f s 0)
theorem nameC_ascii {c : UInt8} (h : nameC c = true) : c.toNat < 128 := by
 unfold nameC letB digB at h
 simp at h
 omega
def fnB (s : ByteArray) : Bool := Nd5 s && decide (Lib.toUpperA s.data.toList = s.data.toList)
theorem Nek (s : ByteArray) (w : World) : Calls Tryz.prog 96 #[.string s] w fun e w' => e = .returned (.bool (fnB s)) ∧ Below w.heap.size w w' := by
 have hS := Nea s
 cases hb : Nd5 s
 ·have hx : fnB s = false := by unfold fnB; rw [hb]; rfl
  rw [hb] at hS
  have HS := lh hS
  rw [hx]
  clear hS hx hb
  go_enter Tryz.func96, Tryz.ntmps96
  go_wp2_with fail
  refine (HS.out w).mono ?_
  rintro e w' ⟨rfl, ⟨m, rfl⟩⟩
  go_wp2_with fail
  go_ret
  exact ⟨rfl, Nas (Below.refl _ _) _⟩
 ·have hx : fnB s = decide (Lib.toUpperA s.data.toList = s.data.toList) := by unfold fnB; rw [hb]; rfl
  have hsz : s.size ≤ 16 := by unfold Nd5 at hb; simp at hb; omega
  have hal : ∀ (j : Nat) (b : UInt8), s.data.toList[j]? = some b → b.toNat < 128 := by
   intro j b hj
   unfold Nd5 at hb
   simp only [Bool.and_eq_true, List.all_eq_true] at hb
   exact nameC_ascii (hb.2 b (List.mem_of_getElem? hj))
  rw [hb] at hS
  have HS := lh hS
  have HU := lh fun w => Tryz.strings_ToUpper_ascii s w (by omega) hal
  rw [hx]
  clear hS hx hb hal
  go_enter Tryz.func96, Tryz.ntmps96
  go_wp2_with fail
  refine (HS.out w).mono ?_
  rintro e w' ⟨rfl, ⟨m, rfl⟩⟩
  go_wp2_with fail
  refine (HU.out _).mono ?_
  rintro e w' ⟨rfl, hB⟩
  go_wp2_with fail
  go_ret
  refine ⟨?_, (Nas (Below.refl _ _) _).trans hB⟩
  show Ending.returned (Value.bool (Lib.toUpperA s.data.toList == s.toList)) = _
  rw [ByteArray.toList_eq]
  congr 2
  exact (Bool.beq_eq_decide_eq _ _)
theorem eqA44 (d : Nat) (w : World) (x0 y0 x1 y1 : Int) :
 (Op.equalIn (d + 2) 44 (.agg #[.int .i64 x0, .int .i64 x1]) (.agg #[.int .i64 y0, .int .i64 y1])).run Tryz.prog w = .ok (x0 == y0 && (x1 == y1)) w := by
 refine eqA_of Tryz.underlying44 (by kernel_rfl) ?_
 refine Ncj (by rfl) (by go_simp; rfl) (by go_simp; rfl) (by go_simp) ?_
 exact eqf_last (by rfl) (by go_simp; rfl) (by go_simp; rfl) (by go_simp)
theorem eqA46 (d : Nat) (w : World) (x0 y0 x1 y1 x2 y2 : Int) (x3 y3 : ByteArray) (x4 y4 : Bool) (x5 y5 : Int) :
 (Op.equalIn (d + 3) 46 (.agg #[.int .i64 x0, .int .i64 x1, .int .i64 x2, .string x3, .bool x4, .int .i64 x5]) (.agg #[.int .i64 y0, .int .i64 y1, .int .i64 y2, .string y3, .bool y4, .int .i64 y5])).run Tryz.prog w = .ok (x0 == y0 && ((x1 == y1 && (x2 == y2)) && (x3.toList == y3.toList && (x4 == y4 && (x5 == y5))))) w := by
 refine eqA_of Tryz.underlying46 (by kernel_rfl) ?_
 refine Ncj (by rfl) (by go_simp; rfl) (by go_simp; rfl) (by go_simp) ?_
 refine Ncj (by rfl) (by go_simp) (by go_simp) (eqA44 (d + 0) w _ _ _ _) ?_
 refine Ncj (by rfl) (by go_simp; rfl) (by go_simp; rfl) (by go_simp) ?_
 refine Ncj (by rfl) (by go_simp; rfl) (by go_simp; rfl) (by go_simp) ?_
 exact eqf_last (by rfl) (by go_simp; rfl) (by go_simp; rfl) (by go_simp)
def Ncb.l0 : Nat → Int → Int → Option (Int)
 | 0, _, _ => none
 | k + 1, x0, x1 => if x1 > 0 then (if x1 = 0 then (none) else (Ncb.l0 k x1 (Int.tmod x0 x1))) else (some x0)
def Ncb.f (k : Nat) (a0 a1 : Int) : Option (Int) := Ncb.l0 k a0 a1
theorem Ncb.calls (k : Nat) (a0 a1 r : Int) (w : World) (h : Ncb.f k a0 a1 = some r) :
 Calls Tryz.prog 166 #[.int .u64 a0, .int .u64 a1] w fun e w' => e = .returned (.int .u64 r) ∧ Na9 w w' := by
 have H := h
 unfold Ncb.f at H
 clear h
 have H' := aM H
 clear H
 go_enter Tryz.func166, Tryz.ntmps166
 go_wp2
 repeat (go_quiet (fail); try go_wp2)
 go_loopg [0, 1] k (fun kq v0 v1 w' => ∃ (x0_1 : Int) (x1_1 : Int), v0 = .int .u64 x0_1 ∧ v1 = .int .u64 x1_1 ∧ Nai (Ncb.l0 kq x0_1 x1_1 = some r) ∧ Nai (kq ≤ k) ∧ Na9 w w')
 case atStart => exact ⟨(a0), (a1), (by first | rfl | (simp; done) | (simp [*]; done)), (by first | rfl | (simp; done) | (simp [*]; done)), H', ⟨Nat.le_refl _⟩, dE⟩
 case round =>
  clear H'
  try clear c1
  try clear p2
  obtain ⟨x0_1, x1_1, rfl, rfl, HA, HK1, ⟨m1, rfl⟩⟩ := hrel
  cases gk with
  | zero => exact absurd HA.out (by simp [Ncb.l0])
  | succ k1 =>
   have H := HA.out
   clear HA
   simp only [Ncb.l0] at H
   by_cases c3 : x1_1 > 0
   ·rw [if_pos c3] at H
    have c3b0 : decide (0 < x1_1) = true := decide_eq_true c3
    clear c3
    by_cases c4 : x1_1 = 0
    ·rw [if_pos c4] at H
     exact absurd H (by simp)
    ·rw [if_neg c4] at H
     obtain ⟨c4b0, c4b1⟩ := bqF c4
     have H' := aM H
     clear H
     go_wp2
     repeat (go_quiet (fail); try go_wp2)
     go_roundg k1
     case measure => have := HK1.out; omega
     case rel => exact ⟨(x1_1), (Int.tmod x0_1 x1_1), (by first | rfl | (simp; done) | (simp [*]; done)), (by first | rfl | (simp; done) | (simp [*]; done)), H', ⟨by have := HK1.out; omega⟩, dE⟩
   ·rw [if_neg c3] at H
    have c3b0 : decide (0 < x1_1) = false := decide_eq_false c3
    clear c3
    obtain rfl := sI H
    go_wp2
    repeat (go_quiet (fail); try go_wp2)
    go_ret
    exact ⟨eR, dE⟩
def Nbo.f (a0 : Int) : Option (Int) := if a0 < 0 then (some (IntKind.u64.wrap (-(IntKind.u64.wrap (a0))))) else (some (IntKind.u64.wrap (a0)))
theorem Nbo.calls (a0 r : Int) (w : World) (h : Nbo.f a0 = some r) :
 Calls Tryz.prog 167 #[.int .i64 a0] w fun e w' => e = .returned (.int .u64 r) ∧ Na9 w w' := by
 have H := h
 unfold Nbo.f at H
 clear h
 by_cases c2 : a0 < 0
 ·rw [if_pos c2] at H
  have c2b0 : decide (a0 < 0) = true := decide_eq_true c2
  clear c2
  obtain rfl := sI H
  go_enter Tryz.func167, Tryz.ntmps167
  go_wp2
  go_ret
  exact ⟨eR, dE⟩
 ·rw [if_neg c2] at H
  have c2b0 : decide (a0 < 0) = false := decide_eq_false c2
  clear c2
  obtain rfl := sI H
  go_enter Tryz.func167, Tryz.ntmps167
  go_wp2
  go_ret
  exact ⟨eR, dE⟩
end Go.Proofs.YtejbbceidnaloaaGreatDoor.P
