import Derived.Test.YtejbbceidnaloaaGreatDoorJ8
set_option linter.unusedVariables false
set_option linter.unusedSimpArgs false
set_option maxRecDepth 100000
set_option maxHeartbeats 8000000
namespace Go.Proofs.YtejbbceidnaloaaGreatDoor.P
open Go.RowKit Go.Proofs.YtejbbceidnaloaaGreatDoorW.PrintWords Go.Proofs.YtejbbceidnaloaaGreatDoorW.PrintLast Go.Proofs.YtejbbceidnaloaaGreatDoorW.PrintMore
section
attribute [local go_sem high] eqA46
def Ncj.f (k : Nat) (a0_0 a0_1 a0_2 : Int) (a0_3 : ByteArray) (a0_4 : Bool) (a0_5 : Int) : Option (Bool) := if a0_0 = 0 then (some (a0_0 == 0 && ((a0_1 == 0 && (a0_2 == 0)) && (a0_3.toList == ([] : List UInt8) && (!a0_4 && (a0_5 == 0)))))) else (if a0_0 = 1 then ((Nbj.f k a0_1 a0_2).bind fun t102 => (if t102 = true then (some (a0_0 == 1 && (a0_3.toList == ([] : List UInt8) && (!a0_4 && (a0_5 == 0))))) else (some false))) else (if a0_0 = 2 then (if (a0_3.size : Int) ≤ 256 then ((Na7.f k a0_3).bind fun t103 => (if t103 = true then (some (a0_0 == 2 && ((a0_1 == 0 && (a0_2 == 0)) && (!a0_4 && (a0_5 == 0))))) else (some false))) else (some false)) else (if a0_0 = 3 then (some (a0_0 == 3 && ((a0_1 == 0 && (a0_2 == 0)) && (a0_3.toList == ([] : List UInt8) && (a0_5 == 0))))) else (if a0_0 = 4 then (if a0_5 ≥ 1 then (if a0_5 ≤ 8 then (some (a0_0 == 4 && ((a0_1 == 0 && (a0_2 == 0)) && (a0_3.toList == ([] : List UInt8) && (!a0_4))))) else (some false)) else (some false)) else (some false)))))
theorem Ncj.calls (k : Nat) (a0_0 a0_1 a0_2 : Int) (a0_3 : ByteArray) (a0_4 : Bool) (a0_5 : Int) (r : Bool) (w : World) (h : Ncj.f k a0_0 a0_1 a0_2 a0_3 a0_4 a0_5 = some r) :
 Calls Tryz.prog 93 #[.agg #[.int .i64 a0_0, .int .i64 a0_1, .int .i64 a0_2, .string a0_3, .bool a0_4, .int .i64 a0_5]] w fun e w' => e = .returned (.bool r) ∧ Below w.heap.size w w' := by
 have hu46 := Tryz.underlying46
 have hu44 := Tryz.underlying44
 have HB := aM (Below.refl w.heap.size w)
 have H := h
 unfold Ncj.f at H
 clear h
 by_cases c2 : a0_0 = 0
 ·rw [if_pos c2] at H
  obtain ⟨c2b0, c2b1⟩ := bqT c2
  clear c2
  obtain rfl := Option.some.inj H
  go_enter Tryz.func93, Tryz.ntmps93
  go_wp2_with (first | ((with_reducible refine gD 1 rfl ?_); refine bX 1 #[.int .i64 a0_0, .int .i64 a0_1, .int .i64 a0_2, .string a0_3, .bool a0_4, .int .i64 a0_5] 46 ?_; intro gb101 hg w3 hbox hb; replace HB := bK w hbox hg hb; obtain ⟨BK101, GW101, HB⟩ := HB; have GE101 := GW101; clear hb hbox hg; obtain ⟨hcz4_0, hcz4_1, hcz4_2, hcz4_3, hcz4_4, hcz4_5, hfz4_0, hfz4_1, hfz4_2, hfz4_3, hfz4_4, hfz4_5⟩ := bc6 BK101.out))
  go_ret
  exact ⟨eR, bE⟩
 ·rw [if_neg c2] at H
  obtain ⟨c2b0, c2b1⟩ := bqF c2
  by_cases c5 : a0_0 = 1
  ·rw [if_pos c5] at H
   obtain ⟨c5b0, c5b1⟩ := bqT c5
   clear c5
   replace H := Option.bind_eq_some_iff.mp H
   obtain ⟨t102, A60, H⟩ := H
   try dsimp only at H
   have A6 := aM A60
   clear A60
   by_cases c7 : t102 = true
   ·subst c7
    rw [if_pos rfl] at H
    obtain rfl := Option.some.inj H
    go_enter Tryz.func93, Tryz.ntmps93
    go_wp2_with (first | ((with_reducible refine gD 1 rfl ?_); refine bX 1 #[.int .i64 a0_0, .int .i64 a0_1, .int .i64 a0_2, .string a0_3, .bool a0_4, .int .i64 a0_5] 46 ?_; intro gb101 hg w8 hbox hb; replace HB := bK w hbox hg hb; obtain ⟨BK101, GW101, HB⟩ := HB; have GE101 := GW101; clear hb hbox hg; obtain ⟨hcz9_0, hcz9_1, hcz9_2, hcz9_3, hcz9_4, hcz9_5, hfz9_0, hfz9_1, hfz9_2, hfz9_3, hfz9_4, hfz9_5⟩ := bc6 BK101.out) | ((with_reducible refine gC 133 rfl ?_); refine gL 14 Tryz.func133 #[.agg #[.int .i64 a0_1, .int .i64 a0_2]] ?_; (with_reducible refine (Nbj.calls k a0_1 a0_2 true _ A6.out).mono ?_); rintro e w10 ⟨rfl, hb⟩; refine ⟨_, rfl, ?_⟩; replace BK101 := aM (Nad (g := gb101) (o := .cells #[.int .i64 a0_0, .int .i64 a0_1, .int .i64 a0_2, .string a0_3, .bool a0_4, .int .i64 a0_5] 46 (0, 0)) (bd BK101.out) hb); replace HB := aM (Nac bE hb); (try clear hb); obtain ⟨hcz11_0, hcz11_1, hcz11_2, hcz11_3, hcz11_4, hcz11_5, hfz11_0, hfz11_1, hfz11_2, hfz11_3, hfz11_4, hfz11_5⟩ := bc6 BK101.out))
    go_ret
    exact ⟨eR, bE⟩
   ·replace c7 := Bool.eq_false_iff.mpr c7
    subst c7
    rw [if_neg Bool.false_ne_true] at H
    obtain rfl := Option.some.inj H
    go_enter Tryz.func93, Tryz.ntmps93
    go_wp2_with (first | ((with_reducible refine gD 1 rfl ?_); refine bX 1 #[.int .i64 a0_0, .int .i64 a0_1, .int .i64 a0_2, .string a0_3, .bool a0_4, .int .i64 a0_5] 46 ?_; intro gb101 hg w12 hbox hb; replace HB := bK w hbox hg hb; obtain ⟨BK101, GW101, HB⟩ := HB; have GE101 := GW101; clear hb hbox hg; obtain ⟨hcz13_0, hcz13_1, hcz13_2, hcz13_3, hcz13_4, hcz13_5, hfz13_0, hfz13_1, hfz13_2, hfz13_3, hfz13_4, hfz13_5⟩ := bc6 BK101.out) | ((with_reducible refine gC 133 rfl ?_); refine gL 14 Tryz.func133 #[.agg #[.int .i64 a0_1, .int .i64 a0_2]] ?_; (with_reducible refine (Nbj.calls k a0_1 a0_2 false _ A6.out).mono ?_); rintro e w14 ⟨rfl, hb⟩; refine ⟨_, rfl, ?_⟩; replace BK101 := aM (Nad (g := gb101) (o := .cells #[.int .i64 a0_0, .int .i64 a0_1, .int .i64 a0_2, .string a0_3, .bool a0_4, .int .i64 a0_5] 46 (0, 0)) (bd BK101.out) hb); replace HB := aM (Nac bE hb); (try clear hb)))
    go_ret
    exact ⟨eR, bE⟩
  ·rw [if_neg c5] at H
   obtain ⟨c5b0, c5b1⟩ := bqF c5
   by_cases c15 : a0_0 = 2
   ·rw [if_pos c15] at H
    obtain ⟨c15b0, c15b1⟩ := bqT c15
    clear c15
    by_cases c16 : (a0_3.size : Int) ≤ 256
    ·rw [if_pos c16] at H
     have c16b0 : decide ((a0_3.size : Int) ≤ 256) = true := decide_eq_true c16
     have c16b1 : decide (a0_3.size ≤ 256) = true := decide_eq_true (by omega)
     clear c16
     replace H := Option.bind_eq_some_iff.mp H
     obtain ⟨t103, A170, H⟩ := H
     try dsimp only at H
     have A17 := aM A170
     clear A170
     by_cases c18 : t103 = true
     ·subst c18
      rw [if_pos rfl] at H
      obtain rfl := Option.some.inj H
      go_enter Tryz.func93, Tryz.ntmps93
      go_wp2_with (first | ((with_reducible refine gD 1 rfl ?_); refine bX 1 #[.int .i64 a0_0, .int .i64 a0_1, .int .i64 a0_2, .string a0_3, .bool a0_4, .int .i64 a0_5] 46 ?_; intro gb101 hg w19 hbox hb; replace HB := bK w hbox hg hb; obtain ⟨BK101, GW101, HB⟩ := HB; have GE101 := GW101; clear hb hbox hg; obtain ⟨hcz20_0, hcz20_1, hcz20_2, hcz20_3, hcz20_4, hcz20_5, hfz20_0, hfz20_1, hfz20_2, hfz20_3, hfz20_4, hfz20_5⟩ := bc6 BK101.out) | (go_at_call 134; (with_reducible refine (Na7.calls k a0_3 true _ A17.out).mono ?_); rintro e w' ⟨rfl, ⟨nd, rfl⟩⟩))
      go_ret
      exact ⟨eR, bE⟩
     ·replace c18 := Bool.eq_false_iff.mpr c18
      subst c18
      rw [if_neg Bool.false_ne_true] at H
      obtain rfl := Option.some.inj H
      go_enter Tryz.func93, Tryz.ntmps93
      go_wp2_with (first | ((with_reducible refine gD 1 rfl ?_); refine bX 1 #[.int .i64 a0_0, .int .i64 a0_1, .int .i64 a0_2, .string a0_3, .bool a0_4, .int .i64 a0_5] 46 ?_; intro gb101 hg w21 hbox hb; replace HB := bK w hbox hg hb; obtain ⟨BK101, GW101, HB⟩ := HB; have GE101 := GW101; clear hb hbox hg; obtain ⟨hcz22_0, hcz22_1, hcz22_2, hcz22_3, hcz22_4, hcz22_5, hfz22_0, hfz22_1, hfz22_2, hfz22_3, hfz22_4, hfz22_5⟩ := bc6 BK101.out) | (go_at_call 134; (with_reducible refine (Na7.calls k a0_3 false _ A17.out).mono ?_); rintro e w' ⟨rfl, ⟨nd, rfl⟩⟩))
      go_ret
      exact ⟨eR, bE⟩
    ·rw [if_neg c16] at H
     have c16b0 : decide ((a0_3.size : Int) ≤ 256) = false := decide_eq_false c16
     have c16b1 : decide (a0_3.size ≤ 256) = false := decide_eq_false (by omega)
     clear c16
     obtain rfl := Option.some.inj H
     go_enter Tryz.func93, Tryz.ntmps93
     go_wp2_with (first | ((with_reducible refine gD 1 rfl ?_); refine bX 1 #[.int .i64 a0_0, .int .i64 a0_1, .int .i64 a0_2, .string a0_3, .bool a0_4, .int .i64 a0_5] 46 ?_; intro gb101 hg w23 hbox hb; replace HB := bK w hbox hg hb; obtain ⟨BK101, GW101, HB⟩ := HB; have GE101 := GW101; clear hb hbox hg; obtain ⟨hcz24_0, hcz24_1, hcz24_2, hcz24_3, hcz24_4, hcz24_5, hfz24_0, hfz24_1, hfz24_2, hfz24_3, hfz24_4, hfz24_5⟩ := bc6 BK101.out))
     go_ret
     exact ⟨eR, bE⟩
   ·rw [if_neg c15] at H
    obtain ⟨c15b0, c15b1⟩ := bqF c15
    by_cases c25 : a0_0 = 3
    ·rw [if_pos c25] at H
     obtain ⟨c25b0, c25b1⟩ := bqT c25
     clear c25
     obtain rfl := Option.some.inj H
     go_enter Tryz.func93, Tryz.ntmps93
     go_wp2_with (first | ((with_reducible refine gD 1 rfl ?_); refine bX 1 #[.int .i64 a0_0, .int .i64 a0_1, .int .i64 a0_2, .string a0_3, .bool a0_4, .int .i64 a0_5] 46 ?_; intro gb101 hg w26 hbox hb; replace HB := bK w hbox hg hb; obtain ⟨BK101, GW101, HB⟩ := HB; have GE101 := GW101; clear hb hbox hg; obtain ⟨hcz27_0, hcz27_1, hcz27_2, hcz27_3, hcz27_4, hcz27_5, hfz27_0, hfz27_1, hfz27_2, hfz27_3, hfz27_4, hfz27_5⟩ := bc6 BK101.out))
     go_ret
     exact ⟨eR, bE⟩
    ·rw [if_neg c25] at H
     obtain ⟨c25b0, c25b1⟩ := bqF c25
     by_cases c28 : a0_0 = 4
     ·rw [if_pos c28] at H
      obtain ⟨c28b0, c28b1⟩ := bqT c28
      clear c28
      by_cases c29 : a0_5 ≥ 1
      ·rw [if_pos c29] at H
       have c29b0 : decide (1 ≤ a0_5) = true := decide_eq_true c29
       clear c29
       by_cases c30 : a0_5 ≤ 8
       ·rw [if_pos c30] at H
        have c30b0 : decide (a0_5 ≤ 8) = true := decide_eq_true c30
        clear c30
        obtain rfl := Option.some.inj H
        go_enter Tryz.func93, Tryz.ntmps93
        go_wp2_with (first | ((with_reducible refine gD 1 rfl ?_); refine bX 1 #[.int .i64 a0_0, .int .i64 a0_1, .int .i64 a0_2, .string a0_3, .bool a0_4, .int .i64 a0_5] 46 ?_; intro gb101 hg w31 hbox hb; replace HB := bK w hbox hg hb; obtain ⟨BK101, GW101, HB⟩ := HB; have GE101 := GW101; clear hb hbox hg; obtain ⟨hcz32_0, hcz32_1, hcz32_2, hcz32_3, hcz32_4, hcz32_5, hfz32_0, hfz32_1, hfz32_2, hfz32_3, hfz32_4, hfz32_5⟩ := bc6 BK101.out))
        go_ret
        exact ⟨eR, bE⟩
       ·rw [if_neg c30] at H
        have c30b0 : decide (a0_5 ≤ 8) = false := decide_eq_false c30
        clear c30
        obtain rfl := Option.some.inj H
        go_enter Tryz.func93, Tryz.ntmps93
        go_wp2_with (first | ((with_reducible refine gD 1 rfl ?_); refine bX 1 #[.int .i64 a0_0, .int .i64 a0_1, .int .i64 a0_2, .string a0_3, .bool a0_4, .int .i64 a0_5] 46 ?_; intro gb101 hg w33 hbox hb; replace HB := bK w hbox hg hb; obtain ⟨BK101, GW101, HB⟩ := HB; have GE101 := GW101; clear hb hbox hg; obtain ⟨hcz34_0, hcz34_1, hcz34_2, hcz34_3, hcz34_4, hcz34_5, hfz34_0, hfz34_1, hfz34_2, hfz34_3, hfz34_4, hfz34_5⟩ := bc6 BK101.out))
        go_ret
        exact ⟨eR, bE⟩
      ·rw [if_neg c29] at H
       have c29b0 : decide (1 ≤ a0_5) = false := decide_eq_false c29
       clear c29
       obtain rfl := Option.some.inj H
       go_enter Tryz.func93, Tryz.ntmps93
       go_wp2_with (first | ((with_reducible refine gD 1 rfl ?_); refine bX 1 #[.int .i64 a0_0, .int .i64 a0_1, .int .i64 a0_2, .string a0_3, .bool a0_4, .int .i64 a0_5] 46 ?_; intro gb101 hg w35 hbox hb; replace HB := bK w hbox hg hb; obtain ⟨BK101, GW101, HB⟩ := HB; have GE101 := GW101; clear hb hbox hg; obtain ⟨hcz36_0, hcz36_1, hcz36_2, hcz36_3, hcz36_4, hcz36_5, hfz36_0, hfz36_1, hfz36_2, hfz36_3, hfz36_4, hfz36_5⟩ := bc6 BK101.out))
       go_ret
       exact ⟨eR, bE⟩
     ·rw [if_neg c28] at H
      obtain ⟨c28b0, c28b1⟩ := bqF c28
      obtain rfl := Option.some.inj H
      go_enter Tryz.func93, Tryz.ntmps93
      go_wp2_with (first | ((with_reducible refine gD 1 rfl ?_); refine bX 1 #[.int .i64 a0_0, .int .i64 a0_1, .int .i64 a0_2, .string a0_3, .bool a0_4, .int .i64 a0_5] 46 ?_; intro gb101 hg w37 hbox hb; replace HB := bK w hbox hg hb; obtain ⟨BK101, GW101, HB⟩ := HB; have GE101 := GW101; clear hb hbox hg; obtain ⟨hcz38_0, hcz38_1, hcz38_2, hcz38_3, hcz38_4, hcz38_5, hfz38_0, hfz38_1, hfz38_2, hfz38_3, hfz38_4, hfz38_5⟩ := bc6 BK101.out))
      go_ret
      exact ⟨eR, bE⟩
end
def Nc4.f (a0 : Int) : Option (Bool) := if a0 ≥ 0 then (some (decide (a0 < 16))) else (some false)
theorem Nc4.calls (a0 : Int) (r : Bool) (w : World) (h : Nc4.f a0 = some r) :
 Calls Tryz.prog 102 #[.int .i64 a0] w fun e w' => e = .returned (.bool r) ∧ Na6 w w' := by
 have H := h
 unfold Nc4.f at H
 clear h
 by_cases c2 : a0 ≥ 0
 ·rw [if_pos c2] at H
  have c2b0 : decide (0 ≤ a0) = true := decide_eq_true c2
  clear c2
  obtain rfl := Option.some.inj H
  go_enter Tryz.func102, Tryz.ntmps102
  go_wp2
  go_ret
  exact ⟨eR, dE⟩
 ·rw [if_neg c2] at H
  have c2b0 : decide (0 ≤ a0) = false := decide_eq_false c2
  clear c2
  obtain rfl := Option.some.inj H
  go_enter Tryz.func102, Tryz.ntmps102
  go_wp2
  go_ret
  exact ⟨eR, dE⟩
def Nd6.f (a0 : Int) : Option (Bool) := if a0 ≥ 0 then (some (decide (a0 < 65536))) else (some false)
theorem Nd6.calls (a0 : Int) (r : Bool) (w : World) (h : Nd6.f a0 = some r) :
 Calls Tryz.prog 103 #[.int .i64 a0] w fun e w' => e = .returned (.bool r) ∧ Na6 w w' := by
 have H := h
 unfold Nd6.f at H
 clear h
 by_cases c2 : a0 ≥ 0
 ·rw [if_pos c2] at H
  have c2b0 : decide (0 ≤ a0) = true := decide_eq_true c2
  clear c2
  obtain rfl := Option.some.inj H
  go_enter Tryz.func103, Tryz.ntmps103
  go_wp2
  go_ret
  exact ⟨eR, dE⟩
 ·rw [if_neg c2] at H
  have c2b0 : decide (0 ≤ a0) = false := decide_eq_false c2
  clear c2
  obtain rfl := Option.some.inj H
  go_enter Tryz.func103, Tryz.ntmps103
  go_wp2
  go_ret
  exact ⟨eR, dE⟩
def Ndf.f (a0 : Int) : Option (Bool) := if a0 ≥ 0 then (some (decide (a0 < 256))) else (some false)
theorem Ndf.calls (a0 : Int) (r : Bool) (w : World) (h : Ndf.f a0 = some r) :
 Calls Tryz.prog 104 #[.int .i64 a0] w fun e w' => e = .returned (.bool r) ∧ Na6 w w' := by
 have H := h
 unfold Ndf.f at H
 clear h
 by_cases c2 : a0 ≥ 0
 ·rw [if_pos c2] at H
  have c2b0 : decide (0 ≤ a0) = true := decide_eq_true c2
  clear c2
  obtain rfl := Option.some.inj H
  go_enter Tryz.func104, Tryz.ntmps104
  go_wp2
  go_ret
  exact ⟨eR, dE⟩
 ·rw [if_neg c2] at H
  have c2b0 : decide (0 ≤ a0) = false := decide_eq_false c2
  clear c2
  obtain rfl := Option.some.inj H
  go_enter Tryz.func104, Tryz.ntmps104
  go_wp2
  go_ret
  exact ⟨eR, dE⟩
def Nce.f (a0_0 a0_1 a0_2 : Int) : Option (Bool) := (Nc4.f a0_0).bind fun t102 => (if t102 = true then ((Nd6.f a0_1).bind fun t103 => (if t103 = true then ((Ndf.f a0_2).bind fun t104 => (some t104)) else (some false))) else (some false))
theorem Nce.calls (a0_0 a0_1 a0_2 : Int) (r : Bool) (w : World) (h : Nce.f a0_0 a0_1 a0_2 = some r) :
 Calls Tryz.prog 65 #[.agg #[.int .i64 a0_0, .int .i64 a0_1, .int .i64 a0_2]] w fun e w' => e = .returned (.bool r) ∧ Below w.heap.size w w' := by
 have hu64 := Tryz.underlying64
 have HB := aM (Below.refl w.heap.size w)
 have H := h
 unfold Nce.f at H
 clear h
 replace H := Option.bind_eq_some_iff.mp H
 obtain ⟨t102, A20, H⟩ := H
 try dsimp only at H
 have A2 := aM A20
 clear A20
 by_cases c3 : t102 = true
 ·subst c3
  rw [if_pos rfl] at H
  replace H := Option.bind_eq_some_iff.mp H
  obtain ⟨t103, A40, H⟩ := H
  try dsimp only at H
  have A4 := aM A40
  clear A40
  by_cases c5 : t103 = true
  ·subst c5
   rw [if_pos rfl] at H
   replace H := Option.bind_eq_some_iff.mp H
   obtain ⟨t104, A60, H⟩ := H
   try dsimp only at H
   have A6 := aM A60
   clear A60
   obtain rfl := Option.some.inj H
   go_enter Tryz.func65, Tryz.ntmps65
   go_wp2_with (first | ((with_reducible refine gD 1 rfl ?_); refine bX 1 #[.int .i64 a0_0, .int .i64 a0_1, .int .i64 a0_2] 64 ?_; intro gb101 hg w7 hbox hb; replace HB := bK w hbox hg hb; obtain ⟨BK101, GW101, HB⟩ := HB; have GE101 := GW101; clear hb hbox hg; obtain ⟨hcz8_0, hcz8_1, hcz8_2, hfz8_0, hfz8_1, hfz8_2⟩ := bc3 BK101.out) | ((with_reducible refine gC 102 rfl ?_); refine gL 5 Tryz.func102 #[.int .i64 a0_0] ?_; (with_reducible refine (Nc4.calls a0_0 true _ A2.out).mono ?_); rintro e w' ⟨rfl, ⟨nd, rfl⟩⟩; refine ⟨_, rfl, ?_⟩) | (go_at_call 103; (with_reducible refine (Nd6.calls a0_1 true _ A4.out).mono ?_); rintro e w' ⟨rfl, ⟨nd, rfl⟩⟩) | (go_at_call 104; (with_reducible refine (Ndf.calls a0_2 t104 _ A6.out).mono ?_); rintro e w' ⟨rfl, ⟨nd, rfl⟩⟩))
   go_ret
   exact ⟨eR, bE⟩
  ·replace c5 := Bool.eq_false_iff.mpr c5
   subst c5
   rw [if_neg Bool.false_ne_true] at H
   obtain rfl := Option.some.inj H
   go_enter Tryz.func65, Tryz.ntmps65
   go_wp2_with (first | ((with_reducible refine gD 1 rfl ?_); refine bX 1 #[.int .i64 a0_0, .int .i64 a0_1, .int .i64 a0_2] 64 ?_; intro gb101 hg w9 hbox hb; replace HB := bK w hbox hg hb; obtain ⟨BK101, GW101, HB⟩ := HB; have GE101 := GW101; clear hb hbox hg; obtain ⟨hcz10_0, hcz10_1, hcz10_2, hfz10_0, hfz10_1, hfz10_2⟩ := bc3 BK101.out) | ((with_reducible refine gC 102 rfl ?_); refine gL 5 Tryz.func102 #[.int .i64 a0_0] ?_; (with_reducible refine (Nc4.calls a0_0 true _ A2.out).mono ?_); rintro e w' ⟨rfl, ⟨nd, rfl⟩⟩; refine ⟨_, rfl, ?_⟩) | (go_at_call 103; (with_reducible refine (Nd6.calls a0_1 false _ A4.out).mono ?_); rintro e w' ⟨rfl, ⟨nd, rfl⟩⟩))
   go_ret
   exact ⟨eR, bE⟩
 ·replace c3 := Bool.eq_false_iff.mpr c3
  subst c3
  rw [if_neg Bool.false_ne_true] at H
  obtain rfl := Option.some.inj H
  go_enter Tryz.func65, Tryz.ntmps65
  go_wp2_with (first | ((with_reducible refine gD 1 rfl ?_); refine bX 1 #[.int .i64 a0_0, .int .i64 a0_1, .int .i64 a0_2] 64 ?_; intro gb101 hg w11 hbox hb; replace HB := bK w hbox hg hb; obtain ⟨BK101, GW101, HB⟩ := HB; have GE101 := GW101; clear hb hbox hg; obtain ⟨hcz12_0, hcz12_1, hcz12_2, hfz12_0, hfz12_1, hfz12_2⟩ := bc3 BK101.out) | ((with_reducible refine gC 102 rfl ?_); refine gL 5 Tryz.func102 #[.int .i64 a0_0] ?_; (with_reducible refine (Nc4.calls a0_0 false _ A2.out).mono ?_); rintro e w' ⟨rfl, ⟨nd, rfl⟩⟩; refine ⟨_, rfl, ?_⟩))
  go_ret
  exact ⟨eR, bE⟩
def Ndz.f (k : Nat) (a0_0 : ByteArray) (a0_1 a0_2 : Int) (a0_3 a0_4 : Bool) : Option (Bool) := if a0_0.toList = ([] : List UInt8) then ((Nce.f 0 a0_1 a0_2).bind fun t102 => (some t102)) else ((Nal.f k a0_0).bind fun t103 => (if t103 = true then ((Nce.f 0 a0_1 a0_2).bind fun t104 => (some t104)) else (some false)))
theorem Ndz.calls (k : Nat) (a0_0 : ByteArray) (a0_1 a0_2 : Int) (a0_3 a0_4 r : Bool) (w : World) (h : Ndz.f k a0_0 a0_1 a0_2 a0_3 a0_4 = some r) :
 Calls Tryz.prog 94 #[.agg #[.string a0_0, .int .i64 a0_1, .int .i64 a0_2, .bool a0_3, .bool a0_4]] w fun e w' => e = .returned (.bool r) ∧ Below w.heap.size w w' := by
 have hu48 := Tryz.underlying48
 have hu64 := Tryz.underlying64
 have HB := aM (Below.refl w.heap.size w)
 have H := h
 unfold Ndz.f at H
 clear h
 by_cases c2 : a0_0.toList = ([] : List UInt8)
 ·rw [if_pos c2] at H
  obtain ⟨c2b0, c2b1⟩ := bqT c2
  clear c2
  replace H := Option.bind_eq_some_iff.mp H
  obtain ⟨t102, A30, H⟩ := H
  try dsimp only at H
  have A3 := aM A30
  clear A30
  obtain rfl := Option.some.inj H
  go_enter Tryz.func94, Tryz.ntmps94
  go_wp2_with (first | ((with_reducible refine gD 1 rfl ?_); refine bX 1 #[.string a0_0, .int .i64 a0_1, .int .i64 a0_2, .bool a0_3, .bool a0_4] 48 ?_; intro gb101 hg w4 hbox hb; replace HB := bK w hbox hg hb; obtain ⟨BK101, GW101, HB⟩ := HB; have GE101 := GW101; clear hb hbox hg; obtain ⟨hcz5_0, hcz5_1, hcz5_2, hcz5_3, hcz5_4, hfz5_0, hfz5_1, hfz5_2, hfz5_3, hfz5_4⟩ := bc5 BK101.out) | (go_at_call 65; (with_reducible refine (Nce.calls 0 a0_1 a0_2 t102 _ A3.out).mono ?_); rintro e w6 ⟨rfl, hb⟩; replace BK101 := aM (Nad (g := gb101) (o := .cells #[.string a0_0, .int .i64 a0_1, .int .i64 a0_2, .bool a0_3, .bool a0_4] 48 (0, 0)) (bd BK101.out) hb); replace HB := aM (Nac bE hb); (try clear hb)))
  go_ret
  exact ⟨eR, bE⟩
 ·rw [if_neg c2] at H
  obtain ⟨c2b0, c2b1⟩ := bqF c2
  replace H := Option.bind_eq_some_iff.mp H
  obtain ⟨t103, A70, H⟩ := H
  try dsimp only at H
  have A7 := aM A70
  clear A70
  by_cases c8 : t103 = true
  ·subst c8
   rw [if_pos rfl] at H
   replace H := Option.bind_eq_some_iff.mp H
   obtain ⟨t104, A90, H⟩ := H
   try dsimp only at H
   have A9 := aM A90
   clear A90
   obtain rfl := Option.some.inj H
   go_enter Tryz.func94, Tryz.ntmps94
   go_wp2_with (first | ((with_reducible refine gD 1 rfl ?_); refine bX 1 #[.string a0_0, .int .i64 a0_1, .int .i64 a0_2, .bool a0_3, .bool a0_4] 48 ?_; intro gb101 hg w10 hbox hb; replace HB := bK w hbox hg hb; obtain ⟨BK101, GW101, HB⟩ := HB; have GE101 := GW101; clear hb hbox hg; obtain ⟨hcz11_0, hcz11_1, hcz11_2, hcz11_3, hcz11_4, hfz11_0, hfz11_1, hfz11_2, hfz11_3, hfz11_4⟩ := bc5 BK101.out) | (go_at_call 135; (with_reducible refine (Nal.calls k a0_0 true _ A7.out).mono ?_); rintro e w' ⟨rfl, ⟨nd, rfl⟩⟩) | (go_at_call 65; (with_reducible refine (Nce.calls 0 a0_1 a0_2 t104 _ A9.out).mono ?_); rintro e w12 ⟨rfl, hb⟩; replace BK101 := aM (Nad (g := gb101) (o := .cells #[.string a0_0, .int .i64 a0_1, .int .i64 a0_2, .bool a0_3, .bool a0_4] 48 (0, 0)) (bd BK101.out) hb); replace HB := aM (Nac bE hb); (try clear hb)))
   go_ret
   exact ⟨eR, bE⟩
  ·replace c8 := Bool.eq_false_iff.mpr c8
   subst c8
   rw [if_neg Bool.false_ne_true] at H
   obtain rfl := Option.some.inj H
   go_enter Tryz.func94, Tryz.ntmps94
   go_wp2_with (first | ((with_reducible refine gD 1 rfl ?_); refine bX 1 #[.string a0_0, .int .i64 a0_1, .int .i64 a0_2, .bool a0_3, .bool a0_4] 48 ?_; intro gb101 hg w13 hbox hb; replace HB := bK w hbox hg hb; obtain ⟨BK101, GW101, HB⟩ := HB; have GE101 := GW101; clear hb hbox hg; obtain ⟨hcz14_0, hcz14_1, hcz14_2, hcz14_3, hcz14_4, hfz14_0, hfz14_1, hfz14_2, hfz14_3, hfz14_4⟩ := bc5 BK101.out) | (go_at_call 135; (with_reducible refine (Nal.calls k a0_0 false _ A7.out).mono ?_); rintro e w' ⟨rfl, ⟨nd, rfl⟩⟩))
   go_ret
   exact ⟨eR, bE⟩
theorem gcd_l0 : ∀ (k : Nat) (x y : Nat), y < k → Ncs.l0 k (x : Int) (y : Int) = some ((Nat.gcd x y : Nat) : Int)
 | 0, _, _, h => absurd h (Nat.not_lt_zero _)
 | k + 1, x, y, h => by
  rw [Ncs.l0]
  by_cases hy : y = 0
  ·subst hy
   rw [if_neg (by omega)]
   simp
  ·rw [if_pos (by omega), if_neg (by omega)]
   have e : Int.tmod (x : Int) (y : Int) = ((x % y : Nat) : Int) := rfl
   have hlt : x % y < y := Nat.mod_lt _ (by omega)
   rw [e, gcd_l0 k y (x % y) (by omega), Nat.gcd_comm x y, Nat.gcd_rec y x, Nat.gcd_comm]
theorem size_f (n : Int) (h1 : -1000000000000 ≤ n) (h2 : n ≤ 1000000000000) : Nb0.f n = some (n.natAbs : Int) := by
 unfold Nb0.f
 by_cases hn : n < 0
 ·rw [if_pos hn]
  simp only [IntKind.wrap]
  congr 1
  simp [IntKind.bits, IntKind.signed]
  omega
 ·rw [if_neg hn]
  simp only [IntKind.wrap]
  congr 1
  simp [IntKind.bits, IntKind.signed]
  omega
def numB (n d : Int) : Bool := decide (-1000000000000 ≤ n ∧ n ≤ 1000000000000 ∧ 1 ≤ d ∧ d ≤ 1000000 ∧ Nat.gcd n.natAbs d.natAbs = 1)
theorem Nfd (n d : Int) (k : Nat) (hk : 1000002 ≤ k) : Nbj.f k n d = some (numB n d) := by
 obtain ⟨k, rfl⟩ : ∃ y, k = y + 1 := ⟨k - 1, by omega⟩
 unfold Nbj.f
 by_cases h1 : n < -1000000000000
 ·rw [if_pos h1, Nbj.j0]; simp [numB]; omega
 rw [if_neg h1]
 by_cases h2 : n > 1000000000000
 ·rw [if_pos h2, Nbj.j0]; simp [numB]; omega
 rw [if_neg h2]
 by_cases h3 : d < 1
 ·rw [if_pos h3, Nbj.j0]; simp [numB]; omega
 rw [if_neg h3, Nbj.j0]
 by_cases h4 : d > 1000000
 ·rw [if_pos (by simpa using h4)]; simp [numB]; omega
 rw [if_neg (by simpa using h4), size_f n (by omega) (by omega)]
 have hw : IntKind.u64.wrap d = (d.natAbs : Int) := by
  simp only [IntKind.wrap]
  simp [IntKind.bits, IntKind.signed]
  omega
 simp only [Option.bind_some, hw]
 unfold Ncs.f
 rw [gcd_l0 k _ _ (by omega)]
 simp only [Option.bind_some, numB]
 congr 1
 have e : -1000000000000 ≤ n ∧ n ≤ 1000000000000 ∧ 1 ≤ d ∧ d ≤ 1000000 := by omega
 by_cases hg : Nat.gcd n.natAbs d.natAbs = 1
 ·simp [hg, e]
 ·have : ¬ (((Nat.gcd n.natAbs d.natAbs : Nat) : Int) = 1) := by omega
  simp [hg, this]
def plainC (c : UInt8) : Bool := decide (32 ≤ c.toNat ∧ c.toNat ≤ 126)
def Ne0 (s : ByteArray) : Bool := s.data.toList.all plainC
theorem plain_l0 (s : ByteArray) (hs : s.size ≤ 1000) : ∀ (d i k : Nat), s.size - i = d → i ≤ s.size → d < k → Na7.l0 k s (s.size : Int) (i : Int) = some ((s.data.toList.drop i).all plainC) := by
 intro d
 induction d with
 | zero =>
  intro i k hd hi hk
  obtain ⟨k, rfl⟩ : ∃ y, k = y + 1 := ⟨k - 1, by omega⟩
  rw [Na7.l0, if_neg (by omega), List.drop_eq_nil_of_le (by simp; omega)]
  rfl
 | succ d ih =>
  intro i k hd hi hk
  obtain ⟨k, rfl⟩ : ∃ y, k = y + 1 := ⟨k - 1, by omega⟩
  have hlt : i < s.size := by omega
  have hw : wrap64 ((i : Int) + 1) = ((i + 1 : Nat) : Int) := by unfold wrap64; omega
  have hd' : s.data.toList.drop i = s.data.toList[i]'(by simpa using hlt) :: s.data.toList.drop (i + 1) := List.drop_eq_getElem_cons (by simpa using hlt)
  rw [Na7.l0, if_pos (by omega), if_pos (by omega), if_pos (by omega), bt_nat s i hlt, hw, hd', List.all_cons, ih (i + 1) k (by omega) (by omega) (by omega)]
  unfold plainC
  by_cases h1 : (s.data.toList[i]'(by simpa using hlt)).toNat < 32
  ·have h1' : ¬ 32 ≤ (s.data.toList[i]'(by simpa using hlt)).toNat := by omega
   rw [if_pos (by omega)]
   rw [decide_eq_false (fun h => h1' h.1)]
   rfl
  ·rw [if_neg (by omega)]
   by_cases h2 : (s.data.toList[i]'(by simpa using hlt)).toNat > 126
   ·have h2' : ¬ (s.data.toList[i]'(by simpa using hlt)).toNat ≤ 126 := by omega
    rw [if_pos (by omega)]
    rw [decide_eq_false (fun h => h2' h.2)]
    rfl
   ·rw [if_neg (by omega)]
    have e : 32 ≤ (s.data.toList[i]'(by simpa using hlt)).toNat ∧ (s.data.toList[i]'(by simpa using hlt)).toNat ≤ 126 := by omega
    rw [decide_eq_true e]
    rfl
def valB (v0 v1 v2 : Int) (v3 : ByteArray) (v4 : Bool) (v5 : Int) : Bool :=
 (v0 == 0 && v1 == 0 && v2 == 0 && v3.toList == [] && !v4 && v5 == 0) ||
 (v0 == 1 && numB v1 v2 && v3.toList == [] && !v4 && v5 == 0) ||
 (v0 == 2 && v1 == 0 && v2 == 0 && decide (v3.size ≤ 256) && Ne0 v3 && !v4 && v5 == 0) ||
 (v0 == 3 && v1 == 0 && v2 == 0 && v3.toList == [] && v5 == 0) ||
 (v0 == 4 && v1 == 0 && v2 == 0 && v3.toList == [] && !v4 && decide (1 ≤ v5 ∧ v5 ≤ 8))
theorem Nc8 (v0 v1 v2 : Int) (v3 : ByteArray) (v4 : Bool) (v5 : Int) (k : Nat) (hk : 1000002 ≤ k) : Ncj.f k v0 v1 v2 v3 v4 v5 = some (valB v0 v1 v2 v3 v4 v5) := by
 unfold Ncj.f valB
 by_cases h0 : v0 = 0
 ·subst h0; simp [Bool.and_assoc]
 rw [if_neg h0]
 by_cases h1 : v0 = 1
 ·subst h1
  rw [if_pos rfl, Nfd _ _ k hk]
  cases numB v1 v2 <;> simp [Bool.and_assoc]
 rw [if_neg h1]
 by_cases h2 : v0 = 2
 ·subst h2
  rw [if_pos rfl]
  by_cases hs : v3.size ≤ 256
  ·rw [if_pos (by omega)]
   have hp : Na7.f k v3 = some (Ne0 v3) := by
    have := plain_l0 v3 (by omega) v3.size 0 k (by omega) (by omega) (by omega)
    unfold Na7.f
    rw [show (0 : Int) = ((0 : Nat) : Int) from rfl, this]
    rfl
   rw [hp]
   cases Ne0 v3 <;> simp [hs, Bool.and_assoc]
  ·rw [if_neg (by omega)]
   simp [hs]
 rw [if_neg h2]
 by_cases h3 : v0 = 3
 ·subst h3; simp [Bool.and_assoc]
 rw [if_neg h3]
 by_cases h4 : v0 = 4
 ·subst h4
  by_cases h5 : v5 ≥ 1 <;> by_cases h6 : v5 ≤ 8 <;> simp [h5, h6, Bool.and_assoc] <;> omega
 ·simp [h0, h1, h2, h3, h4]
def refB (s : ByteArray) (r c : Int) : Bool := (s.toList == [] || Ndx s) && decide (0 ≤ r ∧ r < 65536 ∧ 0 ≤ c ∧ c < 256)
theorem Ner (r c : Int) : Nce.f 0 r c = some (decide (0 ≤ r ∧ r < 65536 ∧ 0 ≤ c ∧ c < 256)) := by
 unfold Nce.f Nc4.f Nd6.f Ndf.f
 by_cases h1 : 0 ≤ r <;> by_cases h2 : r < 65536 <;> by_cases h3 : 0 ≤ c <;> by_cases h4 : c < 256 <;> simp [h1, h2, h3, h4]
theorem Ne4 (s : ByteArray) (r c : Int) (x y : Bool) (k : Nat) (hk : 18 ≤ k) : Ndz.f k s r c x y = some (refB s r c) := by
 obtain ⟨k, rfl⟩ : ∃ z, k = z + 18 := ⟨k - 18, by omega⟩
 unfold Ndz.f refB
 by_cases h0 : s.toList = []
 ·rw [if_pos h0, Ner]
  simp [h0]
 ·rw [if_neg h0, sheetName_f]
  have h0' : (s.toList == []) = false := beq_eq_false_iff_ne.2 h0
  cases Ndx s
  ·simp [h0']
  ·simp [h0', Ner]
theorem eqA48 (d : Nat) (w : World) (x0 y0 : ByteArray) (x1 y1 x2 y2 : Int) (x3 y3 x4 y4 : Bool) :
 (Op.equalIn (d + 2) 48 (.agg #[.string x0, .int .i64 x1, .int .i64 x2, .bool x3, .bool x4]) (.agg #[.string y0, .int .i64 y1, .int .i64 y2, .bool y3, .bool y4])).run Tryz.prog w = .ok (x0.toList == y0.toList && (x1 == y1 && (x2 == y2 && (x3 == y3 && (x4 == y4))))) w := by
 refine eqA_of Tryz.underlying48 (by kernel_rfl) ?_
 refine Nc0 (by rfl) (by go_simp; rfl) (by go_simp; rfl) (by go_simp) ?_
 refine Nc0 (by rfl) (by go_simp; rfl) (by go_simp; rfl) (by go_simp) ?_
 refine Nc0 (by rfl) (by go_simp; rfl) (by go_simp; rfl) (by go_simp) ?_
 refine Nc0 (by rfl) (by go_simp; rfl) (by go_simp; rfl) (by go_simp) ?_
 exact eqf_last (by rfl) (by go_simp; rfl) (by go_simp; rfl) (by go_simp)
theorem eqA50 (d : Nat) (w : World) (x0 y0 x1 y1 x2 y2 x3 y3 : Int) (x4 y4 : ByteArray) (x5 y5 : Bool) (x6 y6 x7 y7 : Int) (x8 y8 : ByteArray) (x9 y9 : Int) (x10 y10 : ByteArray) (x11 y11 x12 y12 : Int) (x13 y13 x14 y14 : Bool) (x15 y15 : ByteArray) (x16 y16 x17 y17 : Int) (x18 y18 x19 y19 : Bool) :
 (Op.equalIn (d + 4) 50 (.agg #[.int .i64 x0, .int .i64 x1, .int .i64 x2, .int .i64 x3, .string x4, .bool x5, .int .i64 x6, .int .i64 x7, .string x8, .int .i64 x9, .string x10, .int .i64 x11, .int .i64 x12, .bool x13, .bool x14, .string x15, .int .i64 x16, .int .i64 x17, .bool x18, .bool x19]) (.agg #[.int .i64 y0, .int .i64 y1, .int .i64 y2, .int .i64 y3, .string y4, .bool y5, .int .i64 y6, .int .i64 y7, .string y8, .int .i64 y9, .string y10, .int .i64 y11, .int .i64 y12, .bool y13, .bool y14, .string y15, .int .i64 y16, .int .i64 y17, .bool y18, .bool y19])).run Tryz.prog w = .ok (x0 == y0 && ((x1 == y1 && ((x2 == y2 && (x3 == y3)) && (x4.toList == y4.toList && (x5 == y5 && (x6 == y6))))) && (x7 == y7 && (x8.toList == y8.toList && (x9 == y9 && ((x10.toList == y10.toList && (x11 == y11 && (x12 == y12 && (x13 == y13 && (x14 == y14))))) && ((x15.toList == y15.toList && (x16 == y16 && (x17 == y17 && (x18 == y18 && (x19 == y19)))))))))))) w := by
 refine eqA_of Tryz.underlying50 (by kernel_rfl) ?_
 refine Nc0 (by rfl) (by go_simp; rfl) (by go_simp; rfl) (by go_simp) ?_
 refine Nc0 (by rfl) (by go_simp) (by go_simp) (eqA46 (d + 0) w _ _ _ _ _ _ _ _ _ _ _ _) ?_
 refine Nc0 (by rfl) (by go_simp; rfl) (by go_simp; rfl) (by go_simp) ?_
 refine Nc0 (by rfl) (by go_simp; rfl) (by go_simp; rfl) (by go_simp) ?_
 refine Nc0 (by rfl) (by go_simp; rfl) (by go_simp; rfl) (by go_simp) ?_
 refine Nc0 (by rfl) (by go_simp) (by go_simp) (eqA48 (d + 1) w _ _ _ _ _ _ _ _ _ _) ?_
 exact eqf_last (by rfl) (by go_simp) (by go_simp) (eqA48 (d + 1) w _ _ _ _ _ _ _ _ _ _)
end Go.Proofs.YtejbbceidnaloaaGreatDoor.P
