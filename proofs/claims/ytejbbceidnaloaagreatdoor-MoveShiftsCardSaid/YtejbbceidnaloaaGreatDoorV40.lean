import Derived.Test.YtejbbceidnaloaaGreatDoorV39
set_option linter.unusedVariables false
set_option linter.unusedSimpArgs false
set_option maxRecDepth 100000
set_option maxHeartbeats 8000000
namespace Go.Proofs.YtejbbceidnaloaaGreatDoor.P
open Go.RowKit AW AL AM
section
attribute [local go_sem high] eqA46
def Nbe.f (k : Nat) (a0_0 a0_1 a0_2 : Int) (a0_3 : ByteArray) (a0_4 : Bool) (a0_5 : Int) : Option (Bool) := if a0_0 = 0 then (some (a0_0 == 0 && ((a0_1 == 0 && (a0_2 == 0)) && (a0_3.toList == ([] : List UInt8) && (!a0_4 && (a0_5 == 0)))))) else (if a0_0 = 1 then ((Nam.f k a0_1 a0_2).bind fun t102 => (if t102 = true then (some (a0_0 == 1 && (a0_3.toList == ([] : List UInt8) && (!a0_4 && (a0_5 == 0))))) else (some false))) else (if a0_0 = 2 then ((Nao.f k a0_3).bind fun t103 => (if t103 = true then (if (a0_3.size : Int) ≤ 256 then (some (a0_0 == 2 && ((a0_1 == 0 && (a0_2 == 0)) && (!a0_4 && (a0_5 == 0))))) else (some false)) else (some false))) else (if a0_0 = 3 then (some (a0_0 == 3 && ((a0_1 == 0 && (a0_2 == 0)) && (a0_3.toList == ([] : List UInt8) && (a0_5 == 0))))) else (if a0_0 = 4 then (if a0_5 ≥ 1 then (if a0_5 ≤ 8 then (some (a0_0 == 4 && ((a0_1 == 0 && (a0_2 == 0)) && (a0_3.toList == ([] : List UInt8) && (!a0_4))))) else (some false)) else (some false)) else (some false)))))
theorem Nbe.calls (k : Nat) (a0_0 a0_1 a0_2 : Int) (a0_3 : ByteArray) (a0_4 : Bool) (a0_5 : Int) (r : Bool) (w : World) (h : Nbe.f k a0_0 a0_1 a0_2 a0_3 a0_4 a0_5 = some r) :
 Calls Tryz.prog 155 #[.agg #[.int .i64 a0_0, .int .i64 a0_1, .int .i64 a0_2, .string a0_3, .bool a0_4, .int .i64 a0_5]] w fun e w' => e = .returned (.bool r) ∧ Below w.heap.size w w' := by
 have hu46 := Tryz.underlying46
 have hu44 := Tryz.underlying44
 have HB := aM (Below.refl w.heap.size w)
 have H := h
 unfold Nbe.f at H
 clear h
 by_cases c2 : a0_0 = 0
 ·rw [if_pos c2] at H
  obtain ⟨c2b0, c2b1⟩ := bqT c2
  clear c2
  obtain rfl := sI H
  go_enter Tryz.func155, Tryz.ntmps155
  go_wp2_with (first | ((with_reducible refine gD 1 rfl ?_); (try (refine Nbm (by rfl) ?_; dsimp only)); refine bX 1 #[.int .i64 a0_0, .int .i64 a0_1, .int .i64 a0_2, .string a0_3, .bool a0_4, .int .i64 a0_5] 46 ?_; intro gb101 hg w3 hbox hb; replace HB := bK w hbox hg hb; obtain ⟨BK101, GW101, HB⟩ := HB; have GE101 := GW101; clear hb hbox hg; obtain ⟨hcz4_0, hcz4_1, hcz4_2, hcz4_3, hcz4_4, hcz4_5, hfz4_0, hfz4_1, hfz4_2, hfz4_3, hfz4_4, hfz4_5⟩ := bc6 BK101.out))
  go_ret
  exact ⟨eR, bE⟩
 ·rw [if_neg c2] at H
  obtain ⟨c2b0, c2b1⟩ := bqF c2
  by_cases c5 : a0_0 = 1
  ·rw [if_pos c5] at H
   obtain ⟨c5b0, c5b1⟩ := bqT c5
   clear c5
   replace H := bS H
   obtain ⟨t102, A60, H⟩ := H
   try dsimp only at H
   have A6 := aM A60
   clear A60
   by_cases c7 : t102 = true
   ·subst c7
    rw [if_pos rfl] at H
    obtain rfl := sI H
    go_enter Tryz.func155, Tryz.ntmps155
    go_wp2_with (first | ((with_reducible refine gD 1 rfl ?_); (try (refine Nbm (by rfl) ?_; dsimp only)); refine bX 1 #[.int .i64 a0_0, .int .i64 a0_1, .int .i64 a0_2, .string a0_3, .bool a0_4, .int .i64 a0_5] 46 ?_; intro gb101 hg w8 hbox hb; replace HB := bK w hbox hg hb; obtain ⟨BK101, GW101, HB⟩ := HB; have GE101 := GW101; clear hb hbox hg; obtain ⟨hcz9_0, hcz9_1, hcz9_2, hcz9_3, hcz9_4, hcz9_5, hfz9_0, hfz9_1, hfz9_2, hfz9_3, hfz9_4, hfz9_5⟩ := bc6 BK101.out) | ((with_reducible refine gC 193 rfl ?_); refine gL 16 Tryz.func193 #[.agg #[.int .i64 a0_1, .int .i64 a0_2]] ?_; (with_reducible refine (Nam.calls k a0_1 a0_2 true _ A6.out).mono ?_); rintro e w10 ⟨rfl, hb⟩; refine ⟨_, rfl, ?_⟩; replace BK101 := aM (Nac (g := gb101) (o := .cells #[.int .i64 a0_0, .int .i64 a0_1, .int .i64 a0_2, .string a0_3, .bool a0_4, .int .i64 a0_5] 46 (0, 0)) (bd BK101.out) hb); replace HB := aM (Nab bE hb); (try clear hb); obtain ⟨hcz11_0, hcz11_1, hcz11_2, hcz11_3, hcz11_4, hcz11_5, hfz11_0, hfz11_1, hfz11_2, hfz11_3, hfz11_4, hfz11_5⟩ := bc6 BK101.out))
    go_ret
    exact ⟨eR, bE⟩
   ·replace c7 := Bool.eq_false_iff.mpr c7
    subst c7
    rw [if_neg fT] at H
    obtain rfl := sI H
    go_enter Tryz.func155, Tryz.ntmps155
    go_wp2_with (first | ((with_reducible refine gD 1 rfl ?_); (try (refine Nbm (by rfl) ?_; dsimp only)); refine bX 1 #[.int .i64 a0_0, .int .i64 a0_1, .int .i64 a0_2, .string a0_3, .bool a0_4, .int .i64 a0_5] 46 ?_; intro gb101 hg w12 hbox hb; replace HB := bK w hbox hg hb; obtain ⟨BK101, GW101, HB⟩ := HB; have GE101 := GW101; clear hb hbox hg; obtain ⟨hcz13_0, hcz13_1, hcz13_2, hcz13_3, hcz13_4, hcz13_5, hfz13_0, hfz13_1, hfz13_2, hfz13_3, hfz13_4, hfz13_5⟩ := bc6 BK101.out) | ((with_reducible refine gC 193 rfl ?_); refine gL 16 Tryz.func193 #[.agg #[.int .i64 a0_1, .int .i64 a0_2]] ?_; (with_reducible refine (Nam.calls k a0_1 a0_2 false _ A6.out).mono ?_); rintro e w14 ⟨rfl, hb⟩; refine ⟨_, rfl, ?_⟩; replace BK101 := aM (Nac (g := gb101) (o := .cells #[.int .i64 a0_0, .int .i64 a0_1, .int .i64 a0_2, .string a0_3, .bool a0_4, .int .i64 a0_5] 46 (0, 0)) (bd BK101.out) hb); replace HB := aM (Nab bE hb); (try clear hb)))
    go_ret
    exact ⟨eR, bE⟩
  ·rw [if_neg c5] at H
   obtain ⟨c5b0, c5b1⟩ := bqF c5
   by_cases c15 : a0_0 = 2
   ·rw [if_pos c15] at H
    obtain ⟨c15b0, c15b1⟩ := bqT c15
    clear c15
    replace H := bS H
    obtain ⟨t103, A160, H⟩ := H
    try dsimp only at H
    have A16 := aM A160
    clear A160
    by_cases c17 : t103 = true
    ·subst c17
     rw [if_pos rfl] at H
     by_cases c18 : (a0_3.size : Int) ≤ 256
     ·rw [if_pos c18] at H
      have c18b0 : decide ((a0_3.size : Int) ≤ 256) = true := decide_eq_true c18
      have c18b1 : decide (a0_3.size ≤ 256) = true := decide_eq_true (by omega)
      clear c18
      obtain rfl := sI H
      go_enter Tryz.func155, Tryz.ntmps155
      go_wp2_with (first | ((with_reducible refine gD 1 rfl ?_); (try (refine Nbm (by rfl) ?_; dsimp only)); refine bX 1 #[.int .i64 a0_0, .int .i64 a0_1, .int .i64 a0_2, .string a0_3, .bool a0_4, .int .i64 a0_5] 46 ?_; intro gb101 hg w19 hbox hb; replace HB := bK w hbox hg hb; obtain ⟨BK101, GW101, HB⟩ := HB; have GE101 := GW101; clear hb hbox hg; obtain ⟨hcz20_0, hcz20_1, hcz20_2, hcz20_3, hcz20_4, hcz20_5, hfz20_0, hfz20_1, hfz20_2, hfz20_3, hfz20_4, hfz20_5⟩ := bc6 BK101.out) | ((with_reducible refine gC 194 rfl ?_); refine gL 29 Tryz.func194 #[.string a0_3] ?_; (with_reducible refine (Nao.calls k a0_3 true _ A16.out).mono ?_); rintro e w' ⟨rfl, ⟨nd, rfl⟩⟩; refine ⟨_, rfl, ?_⟩))
      go_ret
      exact ⟨eR, bE⟩
     ·rw [if_neg c18] at H
      have c18b0 : decide ((a0_3.size : Int) ≤ 256) = false := decide_eq_false c18
      have c18b1 : decide (a0_3.size ≤ 256) = false := decide_eq_false (by omega)
      clear c18
      obtain rfl := sI H
      go_enter Tryz.func155, Tryz.ntmps155
      go_wp2_with (first | ((with_reducible refine gD 1 rfl ?_); (try (refine Nbm (by rfl) ?_; dsimp only)); refine bX 1 #[.int .i64 a0_0, .int .i64 a0_1, .int .i64 a0_2, .string a0_3, .bool a0_4, .int .i64 a0_5] 46 ?_; intro gb101 hg w21 hbox hb; replace HB := bK w hbox hg hb; obtain ⟨BK101, GW101, HB⟩ := HB; have GE101 := GW101; clear hb hbox hg; obtain ⟨hcz22_0, hcz22_1, hcz22_2, hcz22_3, hcz22_4, hcz22_5, hfz22_0, hfz22_1, hfz22_2, hfz22_3, hfz22_4, hfz22_5⟩ := bc6 BK101.out) | ((with_reducible refine gC 194 rfl ?_); refine gL 29 Tryz.func194 #[.string a0_3] ?_; (with_reducible refine (Nao.calls k a0_3 true _ A16.out).mono ?_); rintro e w' ⟨rfl, ⟨nd, rfl⟩⟩; refine ⟨_, rfl, ?_⟩))
      go_ret
      exact ⟨eR, bE⟩
    ·replace c17 := Bool.eq_false_iff.mpr c17
     subst c17
     rw [if_neg fT] at H
     obtain rfl := sI H
     go_enter Tryz.func155, Tryz.ntmps155
     go_wp2_with (first | ((with_reducible refine gD 1 rfl ?_); (try (refine Nbm (by rfl) ?_; dsimp only)); refine bX 1 #[.int .i64 a0_0, .int .i64 a0_1, .int .i64 a0_2, .string a0_3, .bool a0_4, .int .i64 a0_5] 46 ?_; intro gb101 hg w23 hbox hb; replace HB := bK w hbox hg hb; obtain ⟨BK101, GW101, HB⟩ := HB; have GE101 := GW101; clear hb hbox hg; obtain ⟨hcz24_0, hcz24_1, hcz24_2, hcz24_3, hcz24_4, hcz24_5, hfz24_0, hfz24_1, hfz24_2, hfz24_3, hfz24_4, hfz24_5⟩ := bc6 BK101.out) | ((with_reducible refine gC 194 rfl ?_); refine gL 29 Tryz.func194 #[.string a0_3] ?_; (with_reducible refine (Nao.calls k a0_3 false _ A16.out).mono ?_); rintro e w' ⟨rfl, ⟨nd, rfl⟩⟩; refine ⟨_, rfl, ?_⟩))
     go_ret
     exact ⟨eR, bE⟩
   ·rw [if_neg c15] at H
    obtain ⟨c15b0, c15b1⟩ := bqF c15
    by_cases c25 : a0_0 = 3
    ·rw [if_pos c25] at H
     obtain ⟨c25b0, c25b1⟩ := bqT c25
     clear c25
     obtain rfl := sI H
     go_enter Tryz.func155, Tryz.ntmps155
     go_wp2_with (first | ((with_reducible refine gD 1 rfl ?_); (try (refine Nbm (by rfl) ?_; dsimp only)); refine bX 1 #[.int .i64 a0_0, .int .i64 a0_1, .int .i64 a0_2, .string a0_3, .bool a0_4, .int .i64 a0_5] 46 ?_; intro gb101 hg w26 hbox hb; replace HB := bK w hbox hg hb; obtain ⟨BK101, GW101, HB⟩ := HB; have GE101 := GW101; clear hb hbox hg; obtain ⟨hcz27_0, hcz27_1, hcz27_2, hcz27_3, hcz27_4, hcz27_5, hfz27_0, hfz27_1, hfz27_2, hfz27_3, hfz27_4, hfz27_5⟩ := bc6 BK101.out))
     go_ret
     exact ⟨eR, bE⟩
    ·rw [if_neg c25] at H
     obtain ⟨c25b0, c25b1⟩ := bqF c25
     by_cases c28 : a0_0 = 4
     ·rw [if_pos c28] at H
      obtain ⟨c28b0, c28b1⟩ := bqT c28
      clear c28
      by_cases c29 : a0_5 ≥ 1
      ·rw [if_pos c29] at H
       have c29b0 : decide (1 ≤ a0_5) = true := decide_eq_true c29
       clear c29
       by_cases c30 : a0_5 ≤ 8
       ·rw [if_pos c30] at H
        have c30b0 : decide (a0_5 ≤ 8) = true := decide_eq_true c30
        clear c30
        obtain rfl := sI H
        go_enter Tryz.func155, Tryz.ntmps155
        go_wp2_with (first | ((with_reducible refine gD 1 rfl ?_); (try (refine Nbm (by rfl) ?_; dsimp only)); refine bX 1 #[.int .i64 a0_0, .int .i64 a0_1, .int .i64 a0_2, .string a0_3, .bool a0_4, .int .i64 a0_5] 46 ?_; intro gb101 hg w31 hbox hb; replace HB := bK w hbox hg hb; obtain ⟨BK101, GW101, HB⟩ := HB; have GE101 := GW101; clear hb hbox hg; obtain ⟨hcz32_0, hcz32_1, hcz32_2, hcz32_3, hcz32_4, hcz32_5, hfz32_0, hfz32_1, hfz32_2, hfz32_3, hfz32_4, hfz32_5⟩ := bc6 BK101.out))
        go_ret
        exact ⟨eR, bE⟩
       ·rw [if_neg c30] at H
        have c30b0 : decide (a0_5 ≤ 8) = false := decide_eq_false c30
        clear c30
        obtain rfl := sI H
        go_enter Tryz.func155, Tryz.ntmps155
        go_wp2_with (first | ((with_reducible refine gD 1 rfl ?_); (try (refine Nbm (by rfl) ?_; dsimp only)); refine bX 1 #[.int .i64 a0_0, .int .i64 a0_1, .int .i64 a0_2, .string a0_3, .bool a0_4, .int .i64 a0_5] 46 ?_; intro gb101 hg w33 hbox hb; replace HB := bK w hbox hg hb; obtain ⟨BK101, GW101, HB⟩ := HB; have GE101 := GW101; clear hb hbox hg; obtain ⟨hcz34_0, hcz34_1, hcz34_2, hcz34_3, hcz34_4, hcz34_5, hfz34_0, hfz34_1, hfz34_2, hfz34_3, hfz34_4, hfz34_5⟩ := bc6 BK101.out))
        go_ret
        exact ⟨eR, bE⟩
      ·rw [if_neg c29] at H
       have c29b0 : decide (1 ≤ a0_5) = false := decide_eq_false c29
       clear c29
       obtain rfl := sI H
       go_enter Tryz.func155, Tryz.ntmps155
       go_wp2_with (first | ((with_reducible refine gD 1 rfl ?_); (try (refine Nbm (by rfl) ?_; dsimp only)); refine bX 1 #[.int .i64 a0_0, .int .i64 a0_1, .int .i64 a0_2, .string a0_3, .bool a0_4, .int .i64 a0_5] 46 ?_; intro gb101 hg w35 hbox hb; replace HB := bK w hbox hg hb; obtain ⟨BK101, GW101, HB⟩ := HB; have GE101 := GW101; clear hb hbox hg; obtain ⟨hcz36_0, hcz36_1, hcz36_2, hcz36_3, hcz36_4, hcz36_5, hfz36_0, hfz36_1, hfz36_2, hfz36_3, hfz36_4, hfz36_5⟩ := bc6 BK101.out))
       go_ret
       exact ⟨eR, bE⟩
     ·rw [if_neg c28] at H
      obtain ⟨c28b0, c28b1⟩ := bqF c28
      obtain rfl := sI H
      go_enter Tryz.func155, Tryz.ntmps155
      go_wp2_with (first | ((with_reducible refine gD 1 rfl ?_); (try (refine Nbm (by rfl) ?_; dsimp only)); refine bX 1 #[.int .i64 a0_0, .int .i64 a0_1, .int .i64 a0_2, .string a0_3, .bool a0_4, .int .i64 a0_5] 46 ?_; intro gb101 hg w37 hbox hb; replace HB := bK w hbox hg hb; obtain ⟨BK101, GW101, HB⟩ := HB; have GE101 := GW101; clear hb hbox hg; obtain ⟨hcz38_0, hcz38_1, hcz38_2, hcz38_3, hcz38_4, hcz38_5, hfz38_0, hfz38_1, hfz38_2, hfz38_3, hfz38_4, hfz38_5⟩ := bc6 BK101.out))
      go_ret
      exact ⟨eR, bE⟩
end
def Nbv.f (k : Nat) (a0_0 a0_1 a0_2 : Int) (a0_3 : ByteArray) (a0_4 : Bool) (a0_5 : Int) : Option (Bool) := (Nbe.f k a0_0 a0_1 a0_2 a0_3 a0_4 a0_5).bind fun t102 => (if t102 = true then (if a0_0 = 0 then (some false) else (if a0_0 = 1 then (if a0_1 ≥ 0 then (if a0_2 = 0 then (none) else (some (((1000000 : Int) % a0_2) == 0))) else (some false)) else (some true))) else (some false))
theorem Nbv.calls (k : Nat) (a0_0 a0_1 a0_2 : Int) (a0_3 : ByteArray) (a0_4 : Bool) (a0_5 : Int) (r : Bool) (w : World) (h : Nbv.f k a0_0 a0_1 a0_2 a0_3 a0_4 a0_5 = some r) :
 Calls Tryz.prog 127 #[.agg #[.int .i64 a0_0, .int .i64 a0_1, .int .i64 a0_2, .string a0_3, .bool a0_4, .int .i64 a0_5]] w fun e w' => e = .returned (.bool r) ∧ Below w.heap.size w w' := by
 have hu46 := Tryz.underlying46
 have HB := aM (Below.refl w.heap.size w)
 have H := h
 unfold Nbv.f at H
 clear h
 replace H := bS H
 obtain ⟨t102, A20, H⟩ := H
 try dsimp only at H
 have A2 := aM A20
 clear A20
 by_cases c3 : t102 = true
 ·subst c3
  rw [if_pos rfl] at H
  by_cases c4 : a0_0 = 0
  ·rw [if_pos c4] at H
   obtain ⟨c4b0, c4b1⟩ := bqT c4
   clear c4
   obtain rfl := sI H
   go_enter Tryz.func127, Tryz.ntmps127
   go_wp2_with (first | ((with_reducible refine gD 1 rfl ?_); refine bX 1 #[.int .i64 a0_0, .int .i64 a0_1, .int .i64 a0_2, .string a0_3, .bool a0_4, .int .i64 a0_5] 46 ?_; intro gb101 hg w5 hbox hb; replace HB := bK w hbox hg hb; obtain ⟨BK101, GW101, HB⟩ := HB; have GE101 := GW101; clear hb hbox hg; obtain ⟨hcz6_0, hcz6_1, hcz6_2, hcz6_3, hcz6_4, hcz6_5, hfz6_0, hfz6_1, hfz6_2, hfz6_3, hfz6_4, hfz6_5⟩ := bc6 BK101.out) | ((with_reducible refine gC 155 rfl ?_); refine gL 5 Tryz.func155 #[.agg #[.int .i64 a0_0, .int .i64 a0_1, .int .i64 a0_2, .string a0_3, .bool a0_4, .int .i64 a0_5]] ?_; (with_reducible refine (Nbe.calls k a0_0 a0_1 a0_2 a0_3 a0_4 a0_5 true _ A2.out).mono ?_); rintro e w7 ⟨rfl, hb⟩; refine ⟨_, rfl, ?_⟩; replace BK101 := aM (Nac BK101.out hb); replace HB := aM (Nab bE hb); (try clear hb); obtain ⟨hcz8_0, hcz8_1, hcz8_2, hcz8_3, hcz8_4, hcz8_5, hfz8_0, hfz8_1, hfz8_2, hfz8_3, hfz8_4, hfz8_5⟩ := bc6 BK101.out))
   go_ret
   exact ⟨eR, bE⟩
  ·rw [if_neg c4] at H
   obtain ⟨c4b0, c4b1⟩ := bqF c4
   by_cases c9 : a0_0 = 1
   ·rw [if_pos c9] at H
    obtain ⟨c9b0, c9b1⟩ := bqT c9
    clear c9
    by_cases c10 : a0_1 ≥ 0
    ·rw [if_pos c10] at H
     have c10b0 : decide (0 ≤ a0_1) = true := decide_eq_true c10
     clear c10
     by_cases c11 : a0_2 = 0
     ·rw [if_pos c11] at H
      exact absurd H (by simp)
     ·rw [if_neg c11] at H
      obtain ⟨c11b0, c11b1⟩ := bqF c11
      obtain rfl := sI H
      go_enter Tryz.func127, Tryz.ntmps127
      go_wp2_with (first | ((with_reducible refine gD 1 rfl ?_); refine bX 1 #[.int .i64 a0_0, .int .i64 a0_1, .int .i64 a0_2, .string a0_3, .bool a0_4, .int .i64 a0_5] 46 ?_; intro gb101 hg w12 hbox hb; replace HB := bK w hbox hg hb; obtain ⟨BK101, GW101, HB⟩ := HB; have GE101 := GW101; clear hb hbox hg; obtain ⟨hcz13_0, hcz13_1, hcz13_2, hcz13_3, hcz13_4, hcz13_5, hfz13_0, hfz13_1, hfz13_2, hfz13_3, hfz13_4, hfz13_5⟩ := bc6 BK101.out) | ((with_reducible refine gC 155 rfl ?_); refine gL 5 Tryz.func155 #[.agg #[.int .i64 a0_0, .int .i64 a0_1, .int .i64 a0_2, .string a0_3, .bool a0_4, .int .i64 a0_5]] ?_; (with_reducible refine (Nbe.calls k a0_0 a0_1 a0_2 a0_3 a0_4 a0_5 true _ A2.out).mono ?_); rintro e w14 ⟨rfl, hb⟩; refine ⟨_, rfl, ?_⟩; replace BK101 := aM (Nac BK101.out hb); replace HB := aM (Nab bE hb); (try clear hb); obtain ⟨hcz15_0, hcz15_1, hcz15_2, hcz15_3, hcz15_4, hcz15_5, hfz15_0, hfz15_1, hfz15_2, hfz15_3, hfz15_4, hfz15_5⟩ := bc6 BK101.out))
      go_ret
      exact ⟨eR, bE⟩
    ·rw [if_neg c10] at H
     have c10b0 : decide (0 ≤ a0_1) = false := decide_eq_false c10
     clear c10
     obtain rfl := sI H
     go_enter Tryz.func127, Tryz.ntmps127
     go_wp2_with (first | ((with_reducible refine gD 1 rfl ?_); refine bX 1 #[.int .i64 a0_0, .int .i64 a0_1, .int .i64 a0_2, .string a0_3, .bool a0_4, .int .i64 a0_5] 46 ?_; intro gb101 hg w16 hbox hb; replace HB := bK w hbox hg hb; obtain ⟨BK101, GW101, HB⟩ := HB; have GE101 := GW101; clear hb hbox hg; obtain ⟨hcz17_0, hcz17_1, hcz17_2, hcz17_3, hcz17_4, hcz17_5, hfz17_0, hfz17_1, hfz17_2, hfz17_3, hfz17_4, hfz17_5⟩ := bc6 BK101.out) | ((with_reducible refine gC 155 rfl ?_); refine gL 5 Tryz.func155 #[.agg #[.int .i64 a0_0, .int .i64 a0_1, .int .i64 a0_2, .string a0_3, .bool a0_4, .int .i64 a0_5]] ?_; (with_reducible refine (Nbe.calls k a0_0 a0_1 a0_2 a0_3 a0_4 a0_5 true _ A2.out).mono ?_); rintro e w18 ⟨rfl, hb⟩; refine ⟨_, rfl, ?_⟩; replace BK101 := aM (Nac BK101.out hb); replace HB := aM (Nab bE hb); (try clear hb); obtain ⟨hcz19_0, hcz19_1, hcz19_2, hcz19_3, hcz19_4, hcz19_5, hfz19_0, hfz19_1, hfz19_2, hfz19_3, hfz19_4, hfz19_5⟩ := bc6 BK101.out))
     go_ret
     exact ⟨eR, bE⟩
   ·rw [if_neg c9] at H
    obtain ⟨c9b0, c9b1⟩ := bqF c9
    obtain rfl := sI H
    go_enter Tryz.func127, Tryz.ntmps127
    go_wp2_with (first | ((with_reducible refine gD 1 rfl ?_); refine bX 1 #[.int .i64 a0_0, .int .i64 a0_1, .int .i64 a0_2, .string a0_3, .bool a0_4, .int .i64 a0_5] 46 ?_; intro gb101 hg w20 hbox hb; replace HB := bK w hbox hg hb; obtain ⟨BK101, GW101, HB⟩ := HB; have GE101 := GW101; clear hb hbox hg; obtain ⟨hcz21_0, hcz21_1, hcz21_2, hcz21_3, hcz21_4, hcz21_5, hfz21_0, hfz21_1, hfz21_2, hfz21_3, hfz21_4, hfz21_5⟩ := bc6 BK101.out) | ((with_reducible refine gC 155 rfl ?_); refine gL 5 Tryz.func155 #[.agg #[.int .i64 a0_0, .int .i64 a0_1, .int .i64 a0_2, .string a0_3, .bool a0_4, .int .i64 a0_5]] ?_; (with_reducible refine (Nbe.calls k a0_0 a0_1 a0_2 a0_3 a0_4 a0_5 true _ A2.out).mono ?_); rintro e w22 ⟨rfl, hb⟩; refine ⟨_, rfl, ?_⟩; replace BK101 := aM (Nac BK101.out hb); replace HB := aM (Nab bE hb); (try clear hb); obtain ⟨hcz23_0, hcz23_1, hcz23_2, hcz23_3, hcz23_4, hcz23_5, hfz23_0, hfz23_1, hfz23_2, hfz23_3, hfz23_4, hfz23_5⟩ := bc6 BK101.out))
    go_ret
    exact ⟨eR, bE⟩
 ·replace c3 := Bool.eq_false_iff.mpr c3
  subst c3
  rw [if_neg fT] at H
  obtain rfl := sI H
  go_enter Tryz.func127, Tryz.ntmps127
  go_wp2_with (first | ((with_reducible refine gD 1 rfl ?_); refine bX 1 #[.int .i64 a0_0, .int .i64 a0_1, .int .i64 a0_2, .string a0_3, .bool a0_4, .int .i64 a0_5] 46 ?_; intro gb101 hg w24 hbox hb; replace HB := bK w hbox hg hb; obtain ⟨BK101, GW101, HB⟩ := HB; have GE101 := GW101; clear hb hbox hg; obtain ⟨hcz25_0, hcz25_1, hcz25_2, hcz25_3, hcz25_4, hcz25_5, hfz25_0, hfz25_1, hfz25_2, hfz25_3, hfz25_4, hfz25_5⟩ := bc6 BK101.out) | ((with_reducible refine gC 155 rfl ?_); refine gL 5 Tryz.func155 #[.agg #[.int .i64 a0_0, .int .i64 a0_1, .int .i64 a0_2, .string a0_3, .bool a0_4, .int .i64 a0_5]] ?_; (with_reducible refine (Nbe.calls k a0_0 a0_1 a0_2 a0_3 a0_4 a0_5 false _ A2.out).mono ?_); rintro e w26 ⟨rfl, hb⟩; refine ⟨_, rfl, ?_⟩; replace BK101 := aM (Nac BK101.out hb); replace HB := aM (Nab bE hb); (try clear hb)))
  go_ret
  exact ⟨eR, bE⟩
def okC (b : Bool) (i : Nat) (c : Int) : Bool := decide (65 ≤ c ∧ c ≤ 90) || (b && decide (97 ≤ c ∧ c ≤ 122)) || decide (0 < i ∧ 48 ≤ c ∧ c ≤ 57)
def latR (b : Bool) : Nat → List UInt8 → Bool
  | _, [] => true
  | i, c :: r => okC b i c.toNat && latR b (i + 1) r
theorem latin_go (s : ByteArray) (b : Bool) (w : World) : Calls Tryz.prog 130 #[.string s, .bool b] w fun e w' => e = .returned (.bool (decide (1 ≤ s.size ∧ s.size ≤ 16) && latR b 0 s.data.toList)) ∧ Na3 w w' := by
  obtain ⟨R, hR⟩ : ∃ R, R = (decide (1 ≤ s.size ∧ s.size ≤ 16) && latR b 0 s.data.toList) := ⟨_, rfl⟩
  rw [← hR]
  by_cases h1 : (s.size : Int) < 1
  · have HR := lh (show R = false by rw [hR, decide_eq_false (by omega)]; rfl)
    have d1 : decide ((s.size : Int) < 1) = true := decide_eq_true h1
    clear hR h1
    go_enter Tryz.func130, Tryz.ntmps130
    go_wp2_with (fail)
    go_ret
    exact ⟨by rw [HR.out]; rfl, Na3.refl _⟩
  have d1 : decide ((s.size : Int) < 1) = false := decide_eq_false h1
  by_cases h2 : (s.size : Int) > 16
  · have HR := lh (show R = false by rw [hR, decide_eq_false (by omega)]; rfl)
    have d2 : decide ((s.size : Int) > 16) = true := decide_eq_true h2
    clear hR h1 h2
    go_enter Tryz.func130, Tryz.ntmps130
    go_wp2_with (fail)
    go_ret
    exact ⟨by rw [HR.out]; rfl, Na3.refl _⟩
  have d2 : decide ((s.size : Int) > 16) = false := decide_eq_false h2
  have HR := lh (show R = latR b 0 (s.data.toList.drop 0) by rw [hR, decide_eq_true (by omega)]; simp)
  have HZ := lh (show s.size ≤ 16 by omega)
  clear hR h1 h2
  go_enter Tryz.func130, Tryz.ntmps130
  go_wp2_with (fail)
  clear d1 d2
  go_loopw [5] (fun v5 w' => ∃ i : Nat, i ≤ s.size ∧ v5 = .int .i64 i ∧ Hid (R = latR b i (s.data.toList.drop i)) ∧ Hid (Na3 w w')) (fun v5 _ => s.size - (intOf v5).toNat)
  case atStart => exact ⟨0, Nat.zero_le _, rfl, HR, lh (Na3.refl _)⟩
  case round =>
    obtain ⟨i, hi, rfl, HV, HB⟩ := hrel
    by_cases hlt : i < s.size
    · have hbt : ((s[i]'hlt).toNat : Int) = ((s.data.toList[i]'(by simpa using hlt)).toNat : Int) := by rw [← bt_nat s i hlt]; exact bt_at s i hlt
      have HK := lh (show R = (okC b i (((s[i]'hlt).toNat : Int)) && latR b (i + 1) (s.data.toList.drop (i + 1))) by
        rw [HV.out, show s.data.toList.drop i = s.data.toList[i]'(by simpa using hlt) :: s.data.toList.drop (i + 1) from List.drop_eq_getElem_cons (by simpa using hlt), latR, hbt])
      have hw1 : wrap64 ((i : Int) + 1) = ((i + 1 : Nat) : Int) := by have := HZ.out; unfold wrap64; omega
      have HI := lh hlt
      clear hbt
      rcases (by omega : ((s[i]'hlt).toNat : Int) < 48 ∨ (48 ≤ ((s[i]'hlt).toNat : Int) ∧ ((s[i]'hlt).toNat : Int) ≤ 57) ∨ (57 < ((s[i]'hlt).toNat : Int) ∧ ((s[i]'hlt).toNat : Int) < 65) ∨ (65 ≤ ((s[i]'hlt).toNat : Int) ∧ ((s[i]'hlt).toNat : Int) ≤ 90) ∨ (90 < ((s[i]'hlt).toNat : Int) ∧ ((s[i]'hlt).toNat : Int) < 97) ∨ (97 ≤ ((s[i]'hlt).toNat : Int) ∧ ((s[i]'hlt).toNat : Int) ≤ 122) ∨ 122 < ((s[i]'hlt).toNat : Int)) with h | h | h | h | h | h | h
      · have e0 : decide (((s[i]'hlt).toNat : Int) ≥ 65) = false := decide_eq_false (by omega)
        have e1 : decide (((s[i]'hlt).toNat : Int) ≤ 90) = true := decide_eq_true (by omega)
        have e2 : decide (((s[i]'hlt).toNat : Int) ≥ 97) = false := decide_eq_false (by omega)
        have e3 : decide (((s[i]'hlt).toNat : Int) ≤ 122) = true := decide_eq_true (by omega)
        have e4 : decide (((s[i]'hlt).toNat : Int) ≥ 48) = false := decide_eq_false (by omega)
        have e5 : decide (((s[i]'hlt).toNat : Int) ≤ 57) = true := decide_eq_true (by omega)
        cases b with
        | true =>
          by_cases h0 : (i : Int) > 0
          · have e6 : decide ((i : Int) > 0) = true := decide_eq_true h0
            have HO := lh (show okC true i (((s[i]'hlt).toNat : Int)) = false by unfold okC; simp; omega)
            go_wp2_with (fail)
            go_ret
            exact ⟨by rw [HK.out, HO.out]; rfl, HB.out⟩
          · have e6 : decide ((i : Int) > 0) = false := decide_eq_false h0
            have HO := lh (show okC true i (((s[i]'hlt).toNat : Int)) = false by unfold okC; simp; omega)
            go_wp2_with (fail)
            go_ret
            exact ⟨by rw [HK.out, HO.out]; rfl, HB.out⟩
        | false =>
          by_cases h0 : (i : Int) > 0
          · have e6 : decide ((i : Int) > 0) = true := decide_eq_true h0
            have HO := lh (show okC false i (((s[i]'hlt).toNat : Int)) = false by unfold okC; simp; omega)
            go_wp2_with (fail)
            go_ret
            exact ⟨by rw [HK.out, HO.out]; rfl, HB.out⟩
          · have e6 : decide ((i : Int) > 0) = false := decide_eq_false h0
            have HO := lh (show okC false i (((s[i]'hlt).toNat : Int)) = false by unfold okC; simp; omega)
            go_wp2_with (fail)
            go_ret
            exact ⟨by rw [HK.out, HO.out]; rfl, HB.out⟩
      · have e0 : decide (((s[i]'hlt).toNat : Int) ≥ 65) = false := decide_eq_false (by omega)
        have e1 : decide (((s[i]'hlt).toNat : Int) ≤ 90) = true := decide_eq_true (by omega)
        have e2 : decide (((s[i]'hlt).toNat : Int) ≥ 97) = false := decide_eq_false (by omega)
        have e3 : decide (((s[i]'hlt).toNat : Int) ≤ 122) = true := decide_eq_true (by omega)
        have e4 : decide (((s[i]'hlt).toNat : Int) ≥ 48) = true := decide_eq_true (by omega)
        have e5 : decide (((s[i]'hlt).toNat : Int) ≤ 57) = true := decide_eq_true (by omega)
        cases b with
        | true =>
          by_cases h0 : (i : Int) > 0
          · have e6 : decide ((i : Int) > 0) = true := decide_eq_true h0
            have HO := lh (show okC true i (((s[i]'hlt).toNat : Int)) = true by unfold okC; simp; omega)
            go_wp2_with (fail)
            rw [hw1]
            clear hw1 hi
            go_roundw
            case rel => exact ⟨i + 1, by have := HI.out; omega, rfl, lh (by rw [HK.out, HO.out]; rfl), HB⟩
            case measure => simp only [intOf]; have := HI.out; omega
          · have e6 : decide ((i : Int) > 0) = false := decide_eq_false h0
            have HO := lh (show okC true i (((s[i]'hlt).toNat : Int)) = false by unfold okC; simp; omega)
            go_wp2_with (fail)
            go_ret
            exact ⟨by rw [HK.out, HO.out]; rfl, HB.out⟩
        | false =>
          by_cases h0 : (i : Int) > 0
          · have e6 : decide ((i : Int) > 0) = true := decide_eq_true h0
            have HO := lh (show okC false i (((s[i]'hlt).toNat : Int)) = true by unfold okC; simp; omega)
            go_wp2_with (fail)
            rw [hw1]
            clear hw1 hi
            go_roundw
            case rel => exact ⟨i + 1, by have := HI.out; omega, rfl, lh (by rw [HK.out, HO.out]; rfl), HB⟩
            case measure => simp only [intOf]; have := HI.out; omega
          · have e6 : decide ((i : Int) > 0) = false := decide_eq_false h0
            have HO := lh (show okC false i (((s[i]'hlt).toNat : Int)) = false by unfold okC; simp; omega)
            go_wp2_with (fail)
            go_ret
            exact ⟨by rw [HK.out, HO.out]; rfl, HB.out⟩
      · have e0 : decide (((s[i]'hlt).toNat : Int) ≥ 65) = false := decide_eq_false (by omega)
        have e1 : decide (((s[i]'hlt).toNat : Int) ≤ 90) = true := decide_eq_true (by omega)
        have e2 : decide (((s[i]'hlt).toNat : Int) ≥ 97) = false := decide_eq_false (by omega)
        have e3 : decide (((s[i]'hlt).toNat : Int) ≤ 122) = true := decide_eq_true (by omega)
        have e4 : decide (((s[i]'hlt).toNat : Int) ≥ 48) = true := decide_eq_true (by omega)
        have e5 : decide (((s[i]'hlt).toNat : Int) ≤ 57) = false := decide_eq_false (by omega)
        cases b with
        | true =>
          by_cases h0 : (i : Int) > 0
          · have e6 : decide ((i : Int) > 0) = true := decide_eq_true h0
            have HO := lh (show okC true i (((s[i]'hlt).toNat : Int)) = false by unfold okC; simp; omega)
            go_wp2_with (fail)
            go_ret
            exact ⟨by rw [HK.out, HO.out]; rfl, HB.out⟩
          · have e6 : decide ((i : Int) > 0) = false := decide_eq_false h0
            have HO := lh (show okC true i (((s[i]'hlt).toNat : Int)) = false by unfold okC; simp; omega)
            go_wp2_with (fail)
            go_ret
            exact ⟨by rw [HK.out, HO.out]; rfl, HB.out⟩
        | false =>
          by_cases h0 : (i : Int) > 0
          · have e6 : decide ((i : Int) > 0) = true := decide_eq_true h0
            have HO := lh (show okC false i (((s[i]'hlt).toNat : Int)) = false by unfold okC; simp; omega)
            go_wp2_with (fail)
            go_ret
            exact ⟨by rw [HK.out, HO.out]; rfl, HB.out⟩
          · have e6 : decide ((i : Int) > 0) = false := decide_eq_false h0
            have HO := lh (show okC false i (((s[i]'hlt).toNat : Int)) = false by unfold okC; simp; omega)
            go_wp2_with (fail)
            go_ret
            exact ⟨by rw [HK.out, HO.out]; rfl, HB.out⟩
      · have e0 : decide (((s[i]'hlt).toNat : Int) ≥ 65) = true := decide_eq_true (by omega)
        have e1 : decide (((s[i]'hlt).toNat : Int) ≤ 90) = true := decide_eq_true (by omega)
        have e2 : decide (((s[i]'hlt).toNat : Int) ≥ 97) = false := decide_eq_false (by omega)
        have e3 : decide (((s[i]'hlt).toNat : Int) ≤ 122) = true := decide_eq_true (by omega)
        have e4 : decide (((s[i]'hlt).toNat : Int) ≥ 48) = true := decide_eq_true (by omega)
        have e5 : decide (((s[i]'hlt).toNat : Int) ≤ 57) = false := decide_eq_false (by omega)
        have HO := lh (show okC b i (((s[i]'hlt).toNat : Int)) = true by unfold okC; simp; omega)
        go_wp2_with (fail)
        rw [hw1]
        clear hw1 hi
        go_roundw
        case rel => exact ⟨i + 1, by have := HI.out; omega, rfl, lh (by rw [HK.out, HO.out]; rfl), HB⟩
        case measure => simp only [intOf]; have := HI.out; omega
      · have e0 : decide (((s[i]'hlt).toNat : Int) ≥ 65) = true := decide_eq_true (by omega)
        have e1 : decide (((s[i]'hlt).toNat : Int) ≤ 90) = false := decide_eq_false (by omega)
        have e2 : decide (((s[i]'hlt).toNat : Int) ≥ 97) = false := decide_eq_false (by omega)
        have e3 : decide (((s[i]'hlt).toNat : Int) ≤ 122) = true := decide_eq_true (by omega)
        have e4 : decide (((s[i]'hlt).toNat : Int) ≥ 48) = true := decide_eq_true (by omega)
        have e5 : decide (((s[i]'hlt).toNat : Int) ≤ 57) = false := decide_eq_false (by omega)
        cases b with
        | true =>
          by_cases h0 : (i : Int) > 0
          · have e6 : decide ((i : Int) > 0) = true := decide_eq_true h0
            have HO := lh (show okC true i (((s[i]'hlt).toNat : Int)) = false by unfold okC; simp; omega)
            go_wp2_with (fail)
            go_ret
            exact ⟨by rw [HK.out, HO.out]; rfl, HB.out⟩
          · have e6 : decide ((i : Int) > 0) = false := decide_eq_false h0
            have HO := lh (show okC true i (((s[i]'hlt).toNat : Int)) = false by unfold okC; simp; omega)
            go_wp2_with (fail)
            go_ret
            exact ⟨by rw [HK.out, HO.out]; rfl, HB.out⟩
        | false =>
          by_cases h0 : (i : Int) > 0
          · have e6 : decide ((i : Int) > 0) = true := decide_eq_true h0
            have HO := lh (show okC false i (((s[i]'hlt).toNat : Int)) = false by unfold okC; simp; omega)
            go_wp2_with (fail)
            go_ret
            exact ⟨by rw [HK.out, HO.out]; rfl, HB.out⟩
          · have e6 : decide ((i : Int) > 0) = false := decide_eq_false h0
            have HO := lh (show okC false i (((s[i]'hlt).toNat : Int)) = false by unfold okC; simp; omega)
            go_wp2_with (fail)
            go_ret
            exact ⟨by rw [HK.out, HO.out]; rfl, HB.out⟩
      · have e0 : decide (((s[i]'hlt).toNat : Int) ≥ 65) = true := decide_eq_true (by omega)
        have e1 : decide (((s[i]'hlt).toNat : Int) ≤ 90) = false := decide_eq_false (by omega)
        have e2 : decide (((s[i]'hlt).toNat : Int) ≥ 97) = true := decide_eq_true (by omega)
        have e3 : decide (((s[i]'hlt).toNat : Int) ≤ 122) = true := decide_eq_true (by omega)
        have e4 : decide (((s[i]'hlt).toNat : Int) ≥ 48) = true := decide_eq_true (by omega)
        have e5 : decide (((s[i]'hlt).toNat : Int) ≤ 57) = false := decide_eq_false (by omega)
        cases b with
        | true =>
          have HO := lh (show okC true i (((s[i]'hlt).toNat : Int)) = true by unfold okC; simp; omega)
          go_wp2_with (fail)
          rw [hw1]
          clear hw1 hi
          go_roundw
          case rel => exact ⟨i + 1, by have := HI.out; omega, rfl, lh (by rw [HK.out, HO.out]; rfl), HB⟩
          case measure => simp only [intOf]; have := HI.out; omega
        | false =>
          by_cases h0 : (i : Int) > 0
          · have e6 : decide ((i : Int) > 0) = true := decide_eq_true h0
            have HO := lh (show okC false i (((s[i]'hlt).toNat : Int)) = false by unfold okC; simp; omega)
            go_wp2_with (fail)
            go_ret
            exact ⟨by rw [HK.out, HO.out]; rfl, HB.out⟩
          · have e6 : decide ((i : Int) > 0) = false := decide_eq_false h0
            have HO := lh (show okC false i (((s[i]'hlt).toNat : Int)) = false by unfold okC; simp; omega)
            go_wp2_with (fail)
            go_ret
            exact ⟨by rw [HK.out, HO.out]; rfl, HB.out⟩
      · have e0 : decide (((s[i]'hlt).toNat : Int) ≥ 65) = true := decide_eq_true (by omega)
        have e1 : decide (((s[i]'hlt).toNat : Int) ≤ 90) = false := decide_eq_false (by omega)
        have e2 : decide (((s[i]'hlt).toNat : Int) ≥ 97) = true := decide_eq_true (by omega)
        have e3 : decide (((s[i]'hlt).toNat : Int) ≤ 122) = false := decide_eq_false (by omega)
        have e4 : decide (((s[i]'hlt).toNat : Int) ≥ 48) = true := decide_eq_true (by omega)
        have e5 : decide (((s[i]'hlt).toNat : Int) ≤ 57) = false := decide_eq_false (by omega)
        cases b with
        | true =>
          by_cases h0 : (i : Int) > 0
          · have e6 : decide ((i : Int) > 0) = true := decide_eq_true h0
            have HO := lh (show okC true i (((s[i]'hlt).toNat : Int)) = false by unfold okC; simp; omega)
            go_wp2_with (fail)
            go_ret
            exact ⟨by rw [HK.out, HO.out]; rfl, HB.out⟩
          · have e6 : decide ((i : Int) > 0) = false := decide_eq_false h0
            have HO := lh (show okC true i (((s[i]'hlt).toNat : Int)) = false by unfold okC; simp; omega)
            go_wp2_with (fail)
            go_ret
            exact ⟨by rw [HK.out, HO.out]; rfl, HB.out⟩
        | false =>
          by_cases h0 : (i : Int) > 0
          · have e6 : decide ((i : Int) > 0) = true := decide_eq_true h0
            have HO := lh (show okC false i (((s[i]'hlt).toNat : Int)) = false by unfold okC; simp; omega)
            go_wp2_with (fail)
            go_ret
            exact ⟨by rw [HK.out, HO.out]; rfl, HB.out⟩
          · have e6 : decide ((i : Int) > 0) = false := decide_eq_false h0
            have HO := lh (show okC false i (((s[i]'hlt).toNat : Int)) = false by unfold okC; simp; omega)
            go_wp2_with (fail)
            go_ret
            exact ⟨by rw [HK.out, HO.out]; rfl, HB.out⟩
    · obtain rfl : i = s.size := by omega
      clear hi hlt
      go_wp2_with (fail)
      go_ret
      exact ⟨by rw [HV.out, List.drop_eq_nil_of_le (by simp)]; rfl, HB.out⟩
def Nbd.f (k : Nat) (s : ByteArray) (b : Bool) : Option Bool := some (decide (1 ≤ s.size ∧ s.size ≤ 16) && latR b 0 s.data.toList)
theorem Nbd.calls (k : Nat) (a0 : ByteArray) (a1 r : Bool) (w : World) (h : Nbd.f k a0 a1 = some r) : Calls Tryz.prog 130 #[.string a0, .bool a1] w fun e w' => e = .returned (.bool r) ∧ Na3 w w' := by
  rw [← sI h]
  exact latin_go a0 a1 w
def Nay.f (k : Nat) (a0_0 : ByteArray) (a0_1 a0_2 : Int) (a0_3 a0_4 : Bool) : Option (Bool) := if a0_1 < 0 then (some false) else (if a0_1 ≥ 65536 then (some false) else (if a0_2 < 0 then (some false) else (if a0_2 ≥ 256 then (some false) else (if a0_0.toList = ([] : List UInt8) then (some true) else ((Nbd.f k a0_0 true).bind fun t102 => (some t102))))))
theorem Nay.calls (k : Nat) (a0_0 : ByteArray) (a0_1 a0_2 : Int) (a0_3 a0_4 r : Bool) (w : World) (h : Nay.f k a0_0 a0_1 a0_2 a0_3 a0_4 = some r) :
 Calls Tryz.prog 128 #[.agg #[.string a0_0, .int .i64 a0_1, .int .i64 a0_2, .bool a0_3, .bool a0_4]] w fun e w' => e = .returned (.bool r) ∧ Below w.heap.size w w' := by
 have hu48 := Tryz.underlying48
 have HB := aM (Below.refl w.heap.size w)
 have H := h
 unfold Nay.f at H
 clear h
 by_cases c2 : a0_1 < 0
 ·rw [if_pos c2] at H
  have c2b0 : decide (a0_1 < 0) = true := decide_eq_true c2
  clear c2
  obtain rfl := sI H
  go_enter Tryz.func128, Tryz.ntmps128
  go_wp2_with (first | ((with_reducible refine gD 1 rfl ?_); refine bX 1 #[.string a0_0, .int .i64 a0_1, .int .i64 a0_2, .bool a0_3, .bool a0_4] 48 ?_; intro gb101 hg w3 hbox hb; replace HB := bK w hbox hg hb; obtain ⟨BK101, GW101, HB⟩ := HB; have GE101 := GW101; clear hb hbox hg; obtain ⟨hcz4_0, hcz4_1, hcz4_2, hcz4_3, hcz4_4, hfz4_0, hfz4_1, hfz4_2, hfz4_3, hfz4_4⟩ := bc5 BK101.out))
  go_ret
  exact ⟨eR, bE⟩
 ·rw [if_neg c2] at H
  have c2b0 : decide (a0_1 < 0) = false := decide_eq_false c2
  clear c2
  by_cases c5 : a0_1 ≥ 65536
  ·rw [if_pos c5] at H
   have c5b0 : decide (65536 ≤ a0_1) = true := decide_eq_true c5
   clear c5
   obtain rfl := sI H
   go_enter Tryz.func128, Tryz.ntmps128
   go_wp2_with (first | ((with_reducible refine gD 1 rfl ?_); refine bX 1 #[.string a0_0, .int .i64 a0_1, .int .i64 a0_2, .bool a0_3, .bool a0_4] 48 ?_; intro gb101 hg w6 hbox hb; replace HB := bK w hbox hg hb; obtain ⟨BK101, GW101, HB⟩ := HB; have GE101 := GW101; clear hb hbox hg; obtain ⟨hcz7_0, hcz7_1, hcz7_2, hcz7_3, hcz7_4, hfz7_0, hfz7_1, hfz7_2, hfz7_3, hfz7_4⟩ := bc5 BK101.out))
   go_ret
   exact ⟨eR, bE⟩
  ·rw [if_neg c5] at H
   have c5b0 : decide (65536 ≤ a0_1) = false := decide_eq_false c5
   clear c5
   by_cases c8 : a0_2 < 0
   ·rw [if_pos c8] at H
    have c8b0 : decide (a0_2 < 0) = true := decide_eq_true c8
    clear c8
    obtain rfl := sI H
    go_enter Tryz.func128, Tryz.ntmps128
    go_wp2_with (first | ((with_reducible refine gD 1 rfl ?_); refine bX 1 #[.string a0_0, .int .i64 a0_1, .int .i64 a0_2, .bool a0_3, .bool a0_4] 48 ?_; intro gb101 hg w9 hbox hb; replace HB := bK w hbox hg hb; obtain ⟨BK101, GW101, HB⟩ := HB; have GE101 := GW101; clear hb hbox hg; obtain ⟨hcz10_0, hcz10_1, hcz10_2, hcz10_3, hcz10_4, hfz10_0, hfz10_1, hfz10_2, hfz10_3, hfz10_4⟩ := bc5 BK101.out))
    go_ret
    exact ⟨eR, bE⟩
   ·rw [if_neg c8] at H
    have c8b0 : decide (a0_2 < 0) = false := decide_eq_false c8
    clear c8
    by_cases c11 : a0_2 ≥ 256
    ·rw [if_pos c11] at H
     have c11b0 : decide (256 ≤ a0_2) = true := decide_eq_true c11
     clear c11
     obtain rfl := sI H
     go_enter Tryz.func128, Tryz.ntmps128
     go_wp2_with (first | ((with_reducible refine gD 1 rfl ?_); refine bX 1 #[.string a0_0, .int .i64 a0_1, .int .i64 a0_2, .bool a0_3, .bool a0_4] 48 ?_; intro gb101 hg w12 hbox hb; replace HB := bK w hbox hg hb; obtain ⟨BK101, GW101, HB⟩ := HB; have GE101 := GW101; clear hb hbox hg; obtain ⟨hcz13_0, hcz13_1, hcz13_2, hcz13_3, hcz13_4, hfz13_0, hfz13_1, hfz13_2, hfz13_3, hfz13_4⟩ := bc5 BK101.out))
     go_ret
     exact ⟨eR, bE⟩
    ·rw [if_neg c11] at H
     have c11b0 : decide (256 ≤ a0_2) = false := decide_eq_false c11
     clear c11
     by_cases c14 : a0_0.toList = ([] : List UInt8)
     ·rw [if_pos c14] at H
      obtain ⟨c14b0, c14b1⟩ := bqT c14
      clear c14
      obtain rfl := sI H
      go_enter Tryz.func128, Tryz.ntmps128
      go_wp2_with (first | ((with_reducible refine gD 1 rfl ?_); refine bX 1 #[.string a0_0, .int .i64 a0_1, .int .i64 a0_2, .bool a0_3, .bool a0_4] 48 ?_; intro gb101 hg w15 hbox hb; replace HB := bK w hbox hg hb; obtain ⟨BK101, GW101, HB⟩ := HB; have GE101 := GW101; clear hb hbox hg; obtain ⟨hcz16_0, hcz16_1, hcz16_2, hcz16_3, hcz16_4, hfz16_0, hfz16_1, hfz16_2, hfz16_3, hfz16_4⟩ := bc5 BK101.out))
      go_ret
      exact ⟨eR, bE⟩
     ·rw [if_neg c14] at H
      obtain ⟨c14b0, c14b1⟩ := bqF c14
      replace H := bS H
      obtain ⟨t102, A170, H⟩ := H
      try dsimp only at H
      have A17 := aM A170
      clear A170
      obtain rfl := sI H
      go_enter Tryz.func128, Tryz.ntmps128
      go_wp2_with (first | ((with_reducible refine gD 1 rfl ?_); refine bX 1 #[.string a0_0, .int .i64 a0_1, .int .i64 a0_2, .bool a0_3, .bool a0_4] 48 ?_; intro gb101 hg w18 hbox hb; replace HB := bK w hbox hg hb; obtain ⟨BK101, GW101, HB⟩ := HB; have GE101 := GW101; clear hb hbox hg; obtain ⟨hcz19_0, hcz19_1, hcz19_2, hcz19_3, hcz19_4, hfz19_0, hfz19_1, hfz19_2, hfz19_3, hfz19_4⟩ := bc5 BK101.out) | (go_at_call 130; (with_reducible refine (Nbd.calls k a0_0 true t102 _ A17.out).mono ?_); rintro e w' ⟨rfl, ⟨nd, rfl⟩⟩))
      go_ret
      exact ⟨eR, bE⟩
end Go.Proofs.YtejbbceidnaloaaGreatDoor.P
