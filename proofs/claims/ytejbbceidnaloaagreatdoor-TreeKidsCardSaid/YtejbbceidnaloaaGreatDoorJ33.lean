import Derived.Test.YtejbbceidnaloaaGreatDoorJ32
set_option linter.unusedVariables false
set_option linter.unusedSimpArgs false
set_option maxRecDepth 100000
set_option maxHeartbeats 8000000
namespace Go.Proofs.YtejbbceidnaloaaGreatDoor.P
open Go.RowKit Go.Proofs.YtejbbceidnaloaaGreatDoorW.PrintWords Go.Proofs.YtejbbceidnaloaaGreatDoorW.PrintLast Go.Proofs.YtejbbceidnaloaaGreatDoorW.PrintMore
def Nbu.f (k : Nat) (a0_0 a0_1 a0_2 : Int) (a0_3 : ByteArray) (a0_4 : Bool) (a0_5 : Int) : Option (Bool) := (Nbf.f k a0_0 a0_1 a0_2 a0_3 a0_4 a0_5).bind fun t102 => (if t102 = true then (if a0_0 = 0 then (some false) else (if a0_0 = 1 then (if a0_1 ≥ 0 then (if a0_2 = 0 then (none) else (some (((1000000 : Int) % a0_2) == 0))) else (some false)) else (some true))) else (some false))
theorem Nbu.calls (k : Nat) (a0_0 a0_1 a0_2 : Int) (a0_3 : ByteArray) (a0_4 : Bool) (a0_5 : Int) (r : Bool) (w : World) (h : Nbu.f k a0_0 a0_1 a0_2 a0_3 a0_4 a0_5 = some r) :
 Calls Tryz.prog 127 #[.agg #[.int .i64 a0_0, .int .i64 a0_1, .int .i64 a0_2, .string a0_3, .bool a0_4, .int .i64 a0_5]] w fun e w' => e = .returned (.bool r) ∧ Below w.heap.size w w' := by
 have hu46 := Tryz.underlying46
 have HB := aM (Below.refl w.heap.size w)
 have H := h
 unfold Nbu.f at H
 clear h
 replace H := Option.bind_eq_some_iff.mp H
 obtain ⟨t102, A20, H⟩ := H
 try dsimp only at H
 have A2 := aM A20
 clear A20
 by_cases c3 : t102 = true
 ·subst c3
  rw [if_pos rfl] at H
  by_cases c4 : a0_0 = 0
  ·rw [if_pos c4] at H
   obtain ⟨c4b0, c4b1⟩ := bqT c4
   clear c4
   obtain rfl := Option.some.inj H
   go_enter Tryz.func127, Tryz.ntmps127
   go_wp2_with (first | ((with_reducible refine gD 1 rfl ?_); refine bX 1 #[.int .i64 a0_0, .int .i64 a0_1, .int .i64 a0_2, .string a0_3, .bool a0_4, .int .i64 a0_5] 46 ?_; intro gb101 hg w5 hbox hb; replace HB := bK w hbox hg hb; obtain ⟨BK101, GW101, HB⟩ := HB; have GE101 := GW101; clear hb hbox hg; obtain ⟨hcz6_0, hcz6_1, hcz6_2, hcz6_3, hcz6_4, hcz6_5, hfz6_0, hfz6_1, hfz6_2, hfz6_3, hfz6_4, hfz6_5⟩ := bc6 BK101.out) | ((with_reducible refine gC 155 rfl ?_); refine gL 5 Tryz.func155 #[.agg #[.int .i64 a0_0, .int .i64 a0_1, .int .i64 a0_2, .string a0_3, .bool a0_4, .int .i64 a0_5]] ?_; (with_reducible refine (Nbf.calls k a0_0 a0_1 a0_2 a0_3 a0_4 a0_5 true _ A2.out).mono ?_); rintro e w7 ⟨rfl, hb⟩; refine ⟨_, rfl, ?_⟩; replace BK101 := aM (Nad BK101.out hb); replace HB := aM (Nac bE hb); (try clear hb); obtain ⟨hcz8_0, hcz8_1, hcz8_2, hcz8_3, hcz8_4, hcz8_5, hfz8_0, hfz8_1, hfz8_2, hfz8_3, hfz8_4, hfz8_5⟩ := bc6 BK101.out))
   go_ret
   exact ⟨eR, bE⟩
  ·rw [if_neg c4] at H
   obtain ⟨c4b0, c4b1⟩ := bqF c4
   by_cases c9 : a0_0 = 1
   ·rw [if_pos c9] at H
    obtain ⟨c9b0, c9b1⟩ := bqT c9
    clear c9
    by_cases c10 : a0_1 ≥ 0
    ·rw [if_pos c10] at H
     have c10b0 : decide (0 ≤ a0_1) = true := decide_eq_true c10
     clear c10
     by_cases c11 : a0_2 = 0
     ·rw [if_pos c11] at H
      exact absurd H (by simp)
     ·rw [if_neg c11] at H
      obtain ⟨c11b0, c11b1⟩ := bqF c11
      obtain rfl := Option.some.inj H
      go_enter Tryz.func127, Tryz.ntmps127
      go_wp2_with (first | ((with_reducible refine gD 1 rfl ?_); refine bX 1 #[.int .i64 a0_0, .int .i64 a0_1, .int .i64 a0_2, .string a0_3, .bool a0_4, .int .i64 a0_5] 46 ?_; intro gb101 hg w12 hbox hb; replace HB := bK w hbox hg hb; obtain ⟨BK101, GW101, HB⟩ := HB; have GE101 := GW101; clear hb hbox hg; obtain ⟨hcz13_0, hcz13_1, hcz13_2, hcz13_3, hcz13_4, hcz13_5, hfz13_0, hfz13_1, hfz13_2, hfz13_3, hfz13_4, hfz13_5⟩ := bc6 BK101.out) | ((with_reducible refine gC 155 rfl ?_); refine gL 5 Tryz.func155 #[.agg #[.int .i64 a0_0, .int .i64 a0_1, .int .i64 a0_2, .string a0_3, .bool a0_4, .int .i64 a0_5]] ?_; (with_reducible refine (Nbf.calls k a0_0 a0_1 a0_2 a0_3 a0_4 a0_5 true _ A2.out).mono ?_); rintro e w14 ⟨rfl, hb⟩; refine ⟨_, rfl, ?_⟩; replace BK101 := aM (Nad BK101.out hb); replace HB := aM (Nac bE hb); (try clear hb); obtain ⟨hcz15_0, hcz15_1, hcz15_2, hcz15_3, hcz15_4, hcz15_5, hfz15_0, hfz15_1, hfz15_2, hfz15_3, hfz15_4, hfz15_5⟩ := bc6 BK101.out))
      go_ret
      exact ⟨eR, bE⟩
    ·rw [if_neg c10] at H
     have c10b0 : decide (0 ≤ a0_1) = false := decide_eq_false c10
     clear c10
     obtain rfl := Option.some.inj H
     go_enter Tryz.func127, Tryz.ntmps127
     go_wp2_with (first | ((with_reducible refine gD 1 rfl ?_); refine bX 1 #[.int .i64 a0_0, .int .i64 a0_1, .int .i64 a0_2, .string a0_3, .bool a0_4, .int .i64 a0_5] 46 ?_; intro gb101 hg w16 hbox hb; replace HB := bK w hbox hg hb; obtain ⟨BK101, GW101, HB⟩ := HB; have GE101 := GW101; clear hb hbox hg; obtain ⟨hcz17_0, hcz17_1, hcz17_2, hcz17_3, hcz17_4, hcz17_5, hfz17_0, hfz17_1, hfz17_2, hfz17_3, hfz17_4, hfz17_5⟩ := bc6 BK101.out) | ((with_reducible refine gC 155 rfl ?_); refine gL 5 Tryz.func155 #[.agg #[.int .i64 a0_0, .int .i64 a0_1, .int .i64 a0_2, .string a0_3, .bool a0_4, .int .i64 a0_5]] ?_; (with_reducible refine (Nbf.calls k a0_0 a0_1 a0_2 a0_3 a0_4 a0_5 true _ A2.out).mono ?_); rintro e w18 ⟨rfl, hb⟩; refine ⟨_, rfl, ?_⟩; replace BK101 := aM (Nad BK101.out hb); replace HB := aM (Nac bE hb); (try clear hb); obtain ⟨hcz19_0, hcz19_1, hcz19_2, hcz19_3, hcz19_4, hcz19_5, hfz19_0, hfz19_1, hfz19_2, hfz19_3, hfz19_4, hfz19_5⟩ := bc6 BK101.out))
     go_ret
     exact ⟨eR, bE⟩
   ·rw [if_neg c9] at H
    obtain ⟨c9b0, c9b1⟩ := bqF c9
    obtain rfl := Option.some.inj H
    go_enter Tryz.func127, Tryz.ntmps127
    go_wp2_with (first | ((with_reducible refine gD 1 rfl ?_); refine bX 1 #[.int .i64 a0_0, .int .i64 a0_1, .int .i64 a0_2, .string a0_3, .bool a0_4, .int .i64 a0_5] 46 ?_; intro gb101 hg w20 hbox hb; replace HB := bK w hbox hg hb; obtain ⟨BK101, GW101, HB⟩ := HB; have GE101 := GW101; clear hb hbox hg; obtain ⟨hcz21_0, hcz21_1, hcz21_2, hcz21_3, hcz21_4, hcz21_5, hfz21_0, hfz21_1, hfz21_2, hfz21_3, hfz21_4, hfz21_5⟩ := bc6 BK101.out) | ((with_reducible refine gC 155 rfl ?_); refine gL 5 Tryz.func155 #[.agg #[.int .i64 a0_0, .int .i64 a0_1, .int .i64 a0_2, .string a0_3, .bool a0_4, .int .i64 a0_5]] ?_; (with_reducible refine (Nbf.calls k a0_0 a0_1 a0_2 a0_3 a0_4 a0_5 true _ A2.out).mono ?_); rintro e w22 ⟨rfl, hb⟩; refine ⟨_, rfl, ?_⟩; replace BK101 := aM (Nad BK101.out hb); replace HB := aM (Nac bE hb); (try clear hb); obtain ⟨hcz23_0, hcz23_1, hcz23_2, hcz23_3, hcz23_4, hcz23_5, hfz23_0, hfz23_1, hfz23_2, hfz23_3, hfz23_4, hfz23_5⟩ := bc6 BK101.out))
    go_ret
    exact ⟨eR, bE⟩
 ·replace c3 := Bool.eq_false_iff.mpr c3
  subst c3
  rw [if_neg Bool.false_ne_true] at H
  obtain rfl := Option.some.inj H
  go_enter Tryz.func127, Tryz.ntmps127
  go_wp2_with (first | ((with_reducible refine gD 1 rfl ?_); refine bX 1 #[.int .i64 a0_0, .int .i64 a0_1, .int .i64 a0_2, .string a0_3, .bool a0_4, .int .i64 a0_5] 46 ?_; intro gb101 hg w24 hbox hb; replace HB := bK w hbox hg hb; obtain ⟨BK101, GW101, HB⟩ := HB; have GE101 := GW101; clear hb hbox hg; obtain ⟨hcz25_0, hcz25_1, hcz25_2, hcz25_3, hcz25_4, hcz25_5, hfz25_0, hfz25_1, hfz25_2, hfz25_3, hfz25_4, hfz25_5⟩ := bc6 BK101.out) | ((with_reducible refine gC 155 rfl ?_); refine gL 5 Tryz.func155 #[.agg #[.int .i64 a0_0, .int .i64 a0_1, .int .i64 a0_2, .string a0_3, .bool a0_4, .int .i64 a0_5]] ?_; (with_reducible refine (Nbf.calls k a0_0 a0_1 a0_2 a0_3 a0_4 a0_5 false _ A2.out).mono ?_); rintro e w26 ⟨rfl, hb⟩; refine ⟨_, rfl, ?_⟩; replace BK101 := aM (Nad BK101.out hb); replace HB := aM (Nac bE hb); (try clear hb)))
  go_ret
  exact ⟨eR, bE⟩
def okC (b : Bool) (i : Nat) (c : Int) : Bool := decide (65 ≤ c ∧ c ≤ 90) || (b && decide (97 ≤ c ∧ c ≤ 122)) || decide (0 < i ∧ 48 ≤ c ∧ c ≤ 57)
def latR (b : Bool) : Nat → List UInt8 → Bool
  | _, [] => true
  | i, c :: r => okC b i c.toNat && latR b (i + 1) r
theorem latin_go (s : ByteArray) (b : Bool) (w : World) : Calls Tryz.prog 130 #[.string s, .bool b] w fun e w' => e = .returned (.bool (decide (1 ≤ s.size ∧ s.size ≤ 16) && latR b 0 s.data.toList)) ∧ Na6 w w' := by
  obtain ⟨R, hR⟩ : ∃ R, R = (decide (1 ≤ s.size ∧ s.size ≤ 16) && latR b 0 s.data.toList) := ⟨_, rfl⟩
  rw [← hR]
  by_cases h1 : (s.size : Int) < 1
  · have HR := lh (show R = false by rw [hR, decide_eq_false (by omega)]; rfl)
    have d1 : decide ((s.size : Int) < 1) = true := decide_eq_true h1
    clear hR h1
    go_enter Tryz.func130, Tryz.ntmps130
    go_wp2_with (fail)
    go_ret
    exact ⟨by rw [HR.out]; rfl, Na6.refl _⟩
  have d1 : decide ((s.size : Int) < 1) = false := decide_eq_false h1
  by_cases h2 : (s.size : Int) > 16
  · have HR := lh (show R = false by rw [hR, decide_eq_false (by omega)]; rfl)
    have d2 : decide ((s.size : Int) > 16) = true := decide_eq_true h2
    clear hR h1 h2
    go_enter Tryz.func130, Tryz.ntmps130
    go_wp2_with (fail)
    go_ret
    exact ⟨by rw [HR.out]; rfl, Na6.refl _⟩
  have d2 : decide ((s.size : Int) > 16) = false := decide_eq_false h2
  have HR := lh (show R = latR b 0 (s.data.toList.drop 0) by rw [hR, decide_eq_true (by omega)]; simp)
  have HZ := lh (show s.size ≤ 16 by omega)
  clear hR h1 h2
  go_enter Tryz.func130, Tryz.ntmps130
  go_wp2_with (fail)
  clear d1 d2
  go_loopw [5] (fun v5 w' => ∃ i : Nat, i ≤ s.size ∧ v5 = .int .i64 i ∧ Hid (R = latR b i (s.data.toList.drop i)) ∧ Hid (Na6 w w')) (fun v5 _ => s.size - (intOf v5).toNat)
  case atStart => exact ⟨0, Nat.zero_le _, rfl, HR, lh (Na6.refl _)⟩
  case round =>
    obtain ⟨i, hi, rfl, HV, HB⟩ := hrel
    by_cases hlt : i < s.size
    · have hbt : ((s[i]'hlt).toNat : Int) = ((s.data.toList[i]'(by simpa using hlt)).toNat : Int) := by rw [← bt_nat s i hlt]; exact bt_at s i hlt
      have HK := lh (show R = (okC b i (((s[i]'hlt).toNat : Int)) && latR b (i + 1) (s.data.toList.drop (i + 1))) by
        rw [HV.out, show s.data.toList.drop i = s.data.toList[i]'(by simpa using hlt) :: s.data.toList.drop (i + 1) from List.drop_eq_getElem_cons (by simpa using hlt), latR, hbt])
      have hw1 : wrap64 ((i : Int) + 1) = ((i + 1 : Nat) : Int) := by have := HZ.out; unfold wrap64; omega
      have HI := lh hlt
      clear hbt
      rcases (by omega : ((s[i]'hlt).toNat : Int) < 48 ∨ (48 ≤ ((s[i]'hlt).toNat : Int) ∧ ((s[i]'hlt).toNat : Int) ≤ 57) ∨ (57 < ((s[i]'hlt).toNat : Int) ∧ ((s[i]'hlt).toNat : Int) < 65) ∨ (65 ≤ ((s[i]'hlt).toNat : Int) ∧ ((s[i]'hlt).toNat : Int) ≤ 90) ∨ (90 < ((s[i]'hlt).toNat : Int) ∧ ((s[i]'hlt).toNat : Int) < 97) ∨ (97 ≤ ((s[i]'hlt).toNat : Int) ∧ ((s[i]'hlt).toNat : Int) ≤ 122) ∨ 122 < ((s[i]'hlt).toNat : Int)) with h | h | h | h | h | h | h
      · have e0 : decide (((s[i]'hlt).toNat : Int) ≥ 65) = false := decide_eq_false (by omega)
        have e1 : decide (((s[i]'hlt).toNat : Int) ≤ 90) = true := decide_eq_true (by omega)
        have e2 : decide (((s[i]'hlt).toNat : Int) ≥ 97) = false := decide_eq_false (by omega)
        have e3 : decide (((s[i]'hlt).toNat : Int) ≤ 122) = true := decide_eq_true (by omega)
        have e4 : decide (((s[i]'hlt).toNat : Int) ≥ 48) = false := decide_eq_false (by omega)
        have e5 : decide (((s[i]'hlt).toNat : Int) ≤ 57) = true := decide_eq_true (by omega)
        cases b with
        | true =>
          by_cases h0 : (i : Int) > 0
          · have e6 : decide ((i : Int) > 0) = true := decide_eq_true h0
            have HO := lh (show okC true i (((s[i]'hlt).toNat : Int)) = false by unfold okC; simp; omega)
            go_wp2_with (fail)
            go_ret
            exact ⟨by rw [HK.out, HO.out]; rfl, HB.out⟩
          · have e6 : decide ((i : Int) > 0) = false := decide_eq_false h0
            have HO := lh (show okC true i (((s[i]'hlt).toNat : Int)) = false by unfold okC; simp; omega)
            go_wp2_with (fail)
            go_ret
            exact ⟨by rw [HK.out, HO.out]; rfl, HB.out⟩
        | false =>
          by_cases h0 : (i : Int) > 0
          · have e6 : decide ((i : Int) > 0) = true := decide_eq_true h0
            have HO := lh (show okC false i (((s[i]'hlt).toNat : Int)) = false by unfold okC; simp; omega)
            go_wp2_with (fail)
            go_ret
            exact ⟨by rw [HK.out, HO.out]; rfl, HB.out⟩
          · have e6 : decide ((i : Int) > 0) = false := decide_eq_false h0
            have HO := lh (show okC false i (((s[i]'hlt).toNat : Int)) = false by unfold okC; simp; omega)
            go_wp2_with (fail)
            go_ret
            exact ⟨by rw [HK.out, HO.out]; rfl, HB.out⟩
      · have e0 : decide (((s[i]'hlt).toNat : Int) ≥ 65) = false := decide_eq_false (by omega)
        have e1 : decide (((s[i]'hlt).toNat : Int) ≤ 90) = true := decide_eq_true (by omega)
        have e2 : decide (((s[i]'hlt).toNat : Int) ≥ 97) = false := decide_eq_false (by omega)
        have e3 : decide (((s[i]'hlt).toNat : Int) ≤ 122) = true := decide_eq_true (by omega)
        have e4 : decide (((s[i]'hlt).toNat : Int) ≥ 48) = true := decide_eq_true (by omega)
        have e5 : decide (((s[i]'hlt).toNat : Int) ≤ 57) = true := decide_eq_true (by omega)
        cases b with
        | true =>
          by_cases h0 : (i : Int) > 0
          · have e6 : decide ((i : Int) > 0) = true := decide_eq_true h0
            have HO := lh (show okC true i (((s[i]'hlt).toNat : Int)) = true by unfold okC; simp; omega)
            go_wp2_with (fail)
            rw [hw1]
            clear hw1 hi
            go_roundw
            case rel => exact ⟨i + 1, by have := HI.out; omega, rfl, lh (by rw [HK.out, HO.out]; rfl), HB⟩
            case measure => simp only [intOf]; have := HI.out; omega
          · have e6 : decide ((i : Int) > 0) = false := decide_eq_false h0
            have HO := lh (show okC true i (((s[i]'hlt).toNat : Int)) = false by unfold okC; simp; omega)
            go_wp2_with (fail)
            go_ret
            exact ⟨by rw [HK.out, HO.out]; rfl, HB.out⟩
        | false =>
          by_cases h0 : (i : Int) > 0
          · have e6 : decide ((i : Int) > 0) = true := decide_eq_true h0
            have HO := lh (show okC false i (((s[i]'hlt).toNat : Int)) = true by unfold okC; simp; omega)
            go_wp2_with (fail)
            rw [hw1]
            clear hw1 hi
            go_roundw
            case rel => exact ⟨i + 1, by have := HI.out; omega, rfl, lh (by rw [HK.out, HO.out]; rfl), HB⟩
            case measure => simp only [intOf]; have := HI.out; omega
          · have e6 : decide ((i : Int) > 0) = false := decide_eq_false h0
            have HO := lh (show okC false i (((s[i]'hlt).toNat : Int)) = false by unfold okC; simp; omega)
            go_wp2_with (fail)
            go_ret
            exact ⟨by rw [HK.out, HO.out]; rfl, HB.out⟩
      · have e0 : decide (((s[i]'hlt).toNat : Int) ≥ 65) = false := decide_eq_false (by omega)
        have e1 : decide (((s[i]'hlt).toNat : Int) ≤ 90) = true := decide_eq_true (by omega)
        have e2 : decide (((s[i]'hlt).toNat : Int) ≥ 97) = false := decide_eq_false (by omega)
        have e3 : decide (((s[i]'hlt).toNat : Int) ≤ 122) = true := decide_eq_true (by omega)
        have e4 : decide (((s[i]'hlt).toNat : Int) ≥ 48) = true := decide_eq_true (by omega)
        have e5 : decide (((s[i]'hlt).toNat : Int) ≤ 57) = false := decide_eq_false (by omega)
        cases b with
        | true =>
          by_cases h0 : (i : Int) > 0
          · have e6 : decide ((i : Int) > 0) = true := decide_eq_true h0
            have HO := lh (show okC true i (((s[i]'hlt).toNat : Int)) = false by unfold okC; simp; omega)
            go_wp2_with (fail)
            go_ret
            exact ⟨by rw [HK.out, HO.out]; rfl, HB.out⟩
          · have e6 : decide ((i : Int) > 0) = false := decide_eq_false h0
            have HO := lh (show okC true i (((s[i]'hlt).toNat : Int)) = false by unfold okC; simp; omega)
            go_wp2_with (fail)
            go_ret
            exact ⟨by rw [HK.out, HO.out]; rfl, HB.out⟩
        | false =>
          by_cases h0 : (i : Int) > 0
          · have e6 : decide ((i : Int) > 0) = true := decide_eq_true h0
            have HO := lh (show okC false i (((s[i]'hlt).toNat : Int)) = false by unfold okC; simp; omega)
            go_wp2_with (fail)
            go_ret
            exact ⟨by rw [HK.out, HO.out]; rfl, HB.out⟩
          · have e6 : decide ((i : Int) > 0) = false := decide_eq_false h0
            have HO := lh (show okC false i (((s[i]'hlt).toNat : Int)) = false by unfold okC; simp; omega)
            go_wp2_with (fail)
            go_ret
            exact ⟨by rw [HK.out, HO.out]; rfl, HB.out⟩
      · have e0 : decide (((s[i]'hlt).toNat : Int) ≥ 65) = true := decide_eq_true (by omega)
        have e1 : decide (((s[i]'hlt).toNat : Int) ≤ 90) = true := decide_eq_true (by omega)
        have e2 : decide (((s[i]'hlt).toNat : Int) ≥ 97) = false := decide_eq_false (by omega)
        have e3 : decide (((s[i]'hlt).toNat : Int) ≤ 122) = true := decide_eq_true (by omega)
        have e4 : decide (((s[i]'hlt).toNat : Int) ≥ 48) = true := decide_eq_true (by omega)
        have e5 : decide (((s[i]'hlt).toNat : Int) ≤ 57) = false := decide_eq_false (by omega)
        have HO := lh (show okC b i (((s[i]'hlt).toNat : Int)) = true by unfold okC; simp; omega)
        go_wp2_with (fail)
        rw [hw1]
        clear hw1 hi
        go_roundw
        case rel => exact ⟨i + 1, by have := HI.out; omega, rfl, lh (by rw [HK.out, HO.out]; rfl), HB⟩
        case measure => simp only [intOf]; have := HI.out; omega
      · have e0 : decide (((s[i]'hlt).toNat : Int) ≥ 65) = true := decide_eq_true (by omega)
        have e1 : decide (((s[i]'hlt).toNat : Int) ≤ 90) = false := decide_eq_false (by omega)
        have e2 : decide (((s[i]'hlt).toNat : Int) ≥ 97) = false := decide_eq_false (by omega)
        have e3 : decide (((s[i]'hlt).toNat : Int) ≤ 122) = true := decide_eq_true (by omega)
        have e4 : decide (((s[i]'hlt).toNat : Int) ≥ 48) = true := decide_eq_true (by omega)
        have e5 : decide (((s[i]'hlt).toNat : Int) ≤ 57) = false := decide_eq_false (by omega)
        cases b with
        | true =>
          by_cases h0 : (i : Int) > 0
          · have e6 : decide ((i : Int) > 0) = true := decide_eq_true h0
            have HO := lh (show okC true i (((s[i]'hlt).toNat : Int)) = false by unfold okC; simp; omega)
            go_wp2_with (fail)
            go_ret
            exact ⟨by rw [HK.out, HO.out]; rfl, HB.out⟩
          · have e6 : decide ((i : Int) > 0) = false := decide_eq_false h0
            have HO := lh (show okC true i (((s[i]'hlt).toNat : Int)) = false by unfold okC; simp; omega)
            go_wp2_with (fail)
            go_ret
            exact ⟨by rw [HK.out, HO.out]; rfl, HB.out⟩
        | false =>
          by_cases h0 : (i : Int) > 0
          · have e6 : decide ((i : Int) > 0) = true := decide_eq_true h0
            have HO := lh (show okC false i (((s[i]'hlt).toNat : Int)) = false by unfold okC; simp; omega)
            go_wp2_with (fail)
            go_ret
            exact ⟨by rw [HK.out, HO.out]; rfl, HB.out⟩
          · have e6 : decide ((i : Int) > 0) = false := decide_eq_false h0
            have HO := lh (show okC false i (((s[i]'hlt).toNat : Int)) = false by unfold okC; simp; omega)
            go_wp2_with (fail)
            go_ret
            exact ⟨by rw [HK.out, HO.out]; rfl, HB.out⟩
      · have e0 : decide (((s[i]'hlt).toNat : Int) ≥ 65) = true := decide_eq_true (by omega)
        have e1 : decide (((s[i]'hlt).toNat : Int) ≤ 90) = false := decide_eq_false (by omega)
        have e2 : decide (((s[i]'hlt).toNat : Int) ≥ 97) = true := decide_eq_true (by omega)
        have e3 : decide (((s[i]'hlt).toNat : Int) ≤ 122) = true := decide_eq_true (by omega)
        have e4 : decide (((s[i]'hlt).toNat : Int) ≥ 48) = true := decide_eq_true (by omega)
        have e5 : decide (((s[i]'hlt).toNat : Int) ≤ 57) = false := decide_eq_false (by omega)
        cases b with
        | true =>
          have HO := lh (show okC true i (((s[i]'hlt).toNat : Int)) = true by unfold okC; simp; omega)
          go_wp2_with (fail)
          rw [hw1]
          clear hw1 hi
          go_roundw
          case rel => exact ⟨i + 1, by have := HI.out; omega, rfl, lh (by rw [HK.out, HO.out]; rfl), HB⟩
          case measure => simp only [intOf]; have := HI.out; omega
        | false =>
          by_cases h0 : (i : Int) > 0
          · have e6 : decide ((i : Int) > 0) = true := decide_eq_true h0
            have HO := lh (show okC false i (((s[i]'hlt).toNat : Int)) = false by unfold okC; simp; omega)
            go_wp2_with (fail)
            go_ret
            exact ⟨by rw [HK.out, HO.out]; rfl, HB.out⟩
          · have e6 : decide ((i : Int) > 0) = false := decide_eq_false h0
            have HO := lh (show okC false i (((s[i]'hlt).toNat : Int)) = false by unfold okC; simp; omega)
            go_wp2_with (fail)
            go_ret
            exact ⟨by rw [HK.out, HO.out]; rfl, HB.out⟩
      · have e0 : decide (((s[i]'hlt).toNat : Int) ≥ 65) = true := decide_eq_true (by omega)
        have e1 : decide (((s[i]'hlt).toNat : Int) ≤ 90) = false := decide_eq_false (by omega)
        have e2 : decide (((s[i]'hlt).toNat : Int) ≥ 97) = true := decide_eq_true (by omega)
        have e3 : decide (((s[i]'hlt).toNat : Int) ≤ 122) = false := decide_eq_false (by omega)
        have e4 : decide (((s[i]'hlt).toNat : Int) ≥ 48) = true := decide_eq_true (by omega)
        have e5 : decide (((s[i]'hlt).toNat : Int) ≤ 57) = false := decide_eq_false (by omega)
        cases b with
        | true =>
          by_cases h0 : (i : Int) > 0
          · have e6 : decide ((i : Int) > 0) = true := decide_eq_true h0
            have HO := lh (show okC true i (((s[i]'hlt).toNat : Int)) = false by unfold okC; simp; omega)
            go_wp2_with (fail)
            go_ret
            exact ⟨by rw [HK.out, HO.out]; rfl, HB.out⟩
          · have e6 : decide ((i : Int) > 0) = false := decide_eq_false h0
            have HO := lh (show okC true i (((s[i]'hlt).toNat : Int)) = false by unfold okC; simp; omega)
            go_wp2_with (fail)
            go_ret
            exact ⟨by rw [HK.out, HO.out]; rfl, HB.out⟩
        | false =>
          by_cases h0 : (i : Int) > 0
          · have e6 : decide ((i : Int) > 0) = true := decide_eq_true h0
            have HO := lh (show okC false i (((s[i]'hlt).toNat : Int)) = false by unfold okC; simp; omega)
            go_wp2_with (fail)
            go_ret
            exact ⟨by rw [HK.out, HO.out]; rfl, HB.out⟩
          · have e6 : decide ((i : Int) > 0) = false := decide_eq_false h0
            have HO := lh (show okC false i (((s[i]'hlt).toNat : Int)) = false by unfold okC; simp; omega)
            go_wp2_with (fail)
            go_ret
            exact ⟨by rw [HK.out, HO.out]; rfl, HB.out⟩
    · obtain rfl : i = s.size := by omega
      clear hi hlt
      go_wp2_with (fail)
      go_ret
      exact ⟨by rw [HV.out, List.drop_eq_nil_of_le (by simp)]; rfl, HB.out⟩
def Nbe.f (k : Nat) (s : ByteArray) (b : Bool) : Option Bool := some (decide (1 ≤ s.size ∧ s.size ≤ 16) && latR b 0 s.data.toList)
theorem Nbe.calls (k : Nat) (a0 : ByteArray) (a1 r : Bool) (w : World) (h : Nbe.f k a0 a1 = some r) : Calls Tryz.prog 130 #[.string a0, .bool a1] w fun e w' => e = .returned (.bool r) ∧ Na6 w w' := by
  rw [← Option.some.inj h]
  exact latin_go a0 a1 w
def Na1.f (k : Nat) (a0_0 : ByteArray) (a0_1 a0_2 : Int) (a0_3 a0_4 : Bool) : Option (Bool) := if a0_1 < 0 then (some false) else (if a0_1 ≥ 65536 then (some false) else (if a0_2 < 0 then (some false) else (if a0_2 ≥ 256 then (some false) else (if a0_0.toList = ([] : List UInt8) then (some true) else ((Nbe.f k a0_0 true).bind fun t102 => (some t102))))))
theorem Na1.calls (k : Nat) (a0_0 : ByteArray) (a0_1 a0_2 : Int) (a0_3 a0_4 r : Bool) (w : World) (h : Na1.f k a0_0 a0_1 a0_2 a0_3 a0_4 = some r) :
 Calls Tryz.prog 128 #[.agg #[.string a0_0, .int .i64 a0_1, .int .i64 a0_2, .bool a0_3, .bool a0_4]] w fun e w' => e = .returned (.bool r) ∧ Below w.heap.size w w' := by
 have hu48 := Tryz.underlying48
 have HB := aM (Below.refl w.heap.size w)
 have H := h
 unfold Na1.f at H
 clear h
 by_cases c2 : a0_1 < 0
 ·rw [if_pos c2] at H
  have c2b0 : decide (a0_1 < 0) = true := decide_eq_true c2
  clear c2
  obtain rfl := Option.some.inj H
  go_enter Tryz.func128, Tryz.ntmps128
  go_wp2_with (first | ((with_reducible refine gD 1 rfl ?_); refine bX 1 #[.string a0_0, .int .i64 a0_1, .int .i64 a0_2, .bool a0_3, .bool a0_4] 48 ?_; intro gb101 hg w3 hbox hb; replace HB := bK w hbox hg hb; obtain ⟨BK101, GW101, HB⟩ := HB; have GE101 := GW101; clear hb hbox hg; obtain ⟨hcz4_0, hcz4_1, hcz4_2, hcz4_3, hcz4_4, hfz4_0, hfz4_1, hfz4_2, hfz4_3, hfz4_4⟩ := bc5 BK101.out))
  go_ret
  exact ⟨eR, bE⟩
 ·rw [if_neg c2] at H
  have c2b0 : decide (a0_1 < 0) = false := decide_eq_false c2
  clear c2
  by_cases c5 : a0_1 ≥ 65536
  ·rw [if_pos c5] at H
   have c5b0 : decide (65536 ≤ a0_1) = true := decide_eq_true c5
   clear c5
   obtain rfl := Option.some.inj H
   go_enter Tryz.func128, Tryz.ntmps128
   go_wp2_with (first | ((with_reducible refine gD 1 rfl ?_); refine bX 1 #[.string a0_0, .int .i64 a0_1, .int .i64 a0_2, .bool a0_3, .bool a0_4] 48 ?_; intro gb101 hg w6 hbox hb; replace HB := bK w hbox hg hb; obtain ⟨BK101, GW101, HB⟩ := HB; have GE101 := GW101; clear hb hbox hg; obtain ⟨hcz7_0, hcz7_1, hcz7_2, hcz7_3, hcz7_4, hfz7_0, hfz7_1, hfz7_2, hfz7_3, hfz7_4⟩ := bc5 BK101.out))
   go_ret
   exact ⟨eR, bE⟩
  ·rw [if_neg c5] at H
   have c5b0 : decide (65536 ≤ a0_1) = false := decide_eq_false c5
   clear c5
   by_cases c8 : a0_2 < 0
   ·rw [if_pos c8] at H
    have c8b0 : decide (a0_2 < 0) = true := decide_eq_true c8
    clear c8
    obtain rfl := Option.some.inj H
    go_enter Tryz.func128, Tryz.ntmps128
    go_wp2_with (first | ((with_reducible refine gD 1 rfl ?_); refine bX 1 #[.string a0_0, .int .i64 a0_1, .int .i64 a0_2, .bool a0_3, .bool a0_4] 48 ?_; intro gb101 hg w9 hbox hb; replace HB := bK w hbox hg hb; obtain ⟨BK101, GW101, HB⟩ := HB; have GE101 := GW101; clear hb hbox hg; obtain ⟨hcz10_0, hcz10_1, hcz10_2, hcz10_3, hcz10_4, hfz10_0, hfz10_1, hfz10_2, hfz10_3, hfz10_4⟩ := bc5 BK101.out))
    go_ret
    exact ⟨eR, bE⟩
   ·rw [if_neg c8] at H
    have c8b0 : decide (a0_2 < 0) = false := decide_eq_false c8
    clear c8
    by_cases c11 : a0_2 ≥ 256
    ·rw [if_pos c11] at H
     have c11b0 : decide (256 ≤ a0_2) = true := decide_eq_true c11
     clear c11
     obtain rfl := Option.some.inj H
     go_enter Tryz.func128, Tryz.ntmps128
     go_wp2_with (first | ((with_reducible refine gD 1 rfl ?_); refine bX 1 #[.string a0_0, .int .i64 a0_1, .int .i64 a0_2, .bool a0_3, .bool a0_4] 48 ?_; intro gb101 hg w12 hbox hb; replace HB := bK w hbox hg hb; obtain ⟨BK101, GW101, HB⟩ := HB; have GE101 := GW101; clear hb hbox hg; obtain ⟨hcz13_0, hcz13_1, hcz13_2, hcz13_3, hcz13_4, hfz13_0, hfz13_1, hfz13_2, hfz13_3, hfz13_4⟩ := bc5 BK101.out))
     go_ret
     exact ⟨eR, bE⟩
    ·rw [if_neg c11] at H
     have c11b0 : decide (256 ≤ a0_2) = false := decide_eq_false c11
     clear c11
     by_cases c14 : a0_0.toList = ([] : List UInt8)
     ·rw [if_pos c14] at H
      obtain ⟨c14b0, c14b1⟩ := bqT c14
      clear c14
      obtain rfl := Option.some.inj H
      go_enter Tryz.func128, Tryz.ntmps128
      go_wp2_with (first | ((with_reducible refine gD 1 rfl ?_); refine bX 1 #[.string a0_0, .int .i64 a0_1, .int .i64 a0_2, .bool a0_3, .bool a0_4] 48 ?_; intro gb101 hg w15 hbox hb; replace HB := bK w hbox hg hb; obtain ⟨BK101, GW101, HB⟩ := HB; have GE101 := GW101; clear hb hbox hg; obtain ⟨hcz16_0, hcz16_1, hcz16_2, hcz16_3, hcz16_4, hfz16_0, hfz16_1, hfz16_2, hfz16_3, hfz16_4⟩ := bc5 BK101.out))
      go_ret
      exact ⟨eR, bE⟩
     ·rw [if_neg c14] at H
      obtain ⟨c14b0, c14b1⟩ := bqF c14
      replace H := Option.bind_eq_some_iff.mp H
      obtain ⟨t102, A170, H⟩ := H
      try dsimp only at H
      have A17 := aM A170
      clear A170
      obtain rfl := Option.some.inj H
      go_enter Tryz.func128, Tryz.ntmps128
      go_wp2_with (first | ((with_reducible refine gD 1 rfl ?_); refine bX 1 #[.string a0_0, .int .i64 a0_1, .int .i64 a0_2, .bool a0_3, .bool a0_4] 48 ?_; intro gb101 hg w18 hbox hb; replace HB := bK w hbox hg hb; obtain ⟨BK101, GW101, HB⟩ := HB; have GE101 := GW101; clear hb hbox hg; obtain ⟨hcz19_0, hcz19_1, hcz19_2, hcz19_3, hcz19_4, hfz19_0, hfz19_1, hfz19_2, hfz19_3, hfz19_4⟩ := bc5 BK101.out) | (go_at_call 130; (with_reducible refine (Nbe.calls k a0_0 true t102 _ A17.out).mono ?_); rintro e w' ⟨rfl, ⟨nd, rfl⟩⟩))
      go_ret
      exact ⟨eR, bE⟩
def Nb5.f (a0 : Int) : Option (Bool) := if a0 ≥ 11 then (if a0 ≤ 16 then (some true) else (if a0 ≥ 21 then (some (decide (a0 ≤ 26))) else (some false))) else (if a0 ≥ 21 then (some (decide (a0 ≤ 26))) else (some false))
theorem Nb5.calls (a0 : Int) (r : Bool) (w : World) (h : Nb5.f a0 = some r) :
 Calls Tryz.prog 129 #[.int .i64 a0] w fun e w' => e = .returned (.bool r) ∧ Na6 w w' := by
 have H := h
 unfold Nb5.f at H
 clear h
 by_cases c2 : a0 ≥ 11
 ·rw [if_pos c2] at H
  have c2b0 : decide (11 ≤ a0) = true := decide_eq_true c2
  clear c2
  by_cases c3 : a0 ≤ 16
  ·rw [if_pos c3] at H
   have c3b0 : decide (a0 ≤ 16) = true := decide_eq_true c3
   clear c3
   obtain rfl := Option.some.inj H
   go_enter Tryz.func129, Tryz.ntmps129
   go_wp2
   go_ret
   exact ⟨eR, dE⟩
  ·rw [if_neg c3] at H
   have c3b0 : decide (a0 ≤ 16) = false := decide_eq_false c3
   clear c3
   by_cases c4 : a0 ≥ 21
   ·rw [if_pos c4] at H
    have c4b0 : decide (21 ≤ a0) = true := decide_eq_true c4
    clear c4
    obtain rfl := Option.some.inj H
    go_enter Tryz.func129, Tryz.ntmps129
    go_wp2
    go_ret
    exact ⟨eR, dE⟩
   ·rw [if_neg c4] at H
    have c4b0 : decide (21 ≤ a0) = false := decide_eq_false c4
    clear c4
    obtain rfl := Option.some.inj H
    go_enter Tryz.func129, Tryz.ntmps129
    go_wp2
    go_ret
    exact ⟨eR, dE⟩
 ·rw [if_neg c2] at H
  have c2b0 : decide (11 ≤ a0) = false := decide_eq_false c2
  clear c2
  by_cases c5 : a0 ≥ 21
  ·rw [if_pos c5] at H
   have c5b0 : decide (21 ≤ a0) = true := decide_eq_true c5
   clear c5
   obtain rfl := Option.some.inj H
   go_enter Tryz.func129, Tryz.ntmps129
   go_wp2
   go_ret
   exact ⟨eR, dE⟩
  ·rw [if_neg c5] at H
   have c5b0 : decide (21 ≤ a0) = false := decide_eq_false c5
   clear c5
   obtain rfl := Option.some.inj H
   go_enter Tryz.func129, Tryz.ntmps129
   go_wp2
   go_ret
   exact ⟨eR, dE⟩
end Go.Proofs.YtejbbceidnaloaaGreatDoor.P
