import Derived.Test.YtejbbceidnaloaaGreatDoorJ6
import Derived.LoopTactic
set_option linter.unusedVariables false
set_option linter.unusedSimpArgs false
set_option maxRecDepth 100000
set_option maxHeartbeats 8000000
namespace Go.Proofs.YtejbbceidnaloaaGreatDoor.P
open Go.RowKit Go.Proofs.YtejbbceidnaloaaGreatDoorW.PrintWords Go.Proofs.YtejbbceidnaloaaGreatDoorW.PrintLast Go.Proofs.YtejbbceidnaloaaGreatDoorW.PrintMore
def Nbz.f (a0 : Int) : Option (Bool) := if a0 ≥ 11 then (if a0 ≤ 16 then (some true) else (if a0 ≥ 21 then (some (decide (a0 ≤ 26))) else (some false))) else (if a0 ≥ 21 then (some (decide (a0 ≤ 26))) else (some false))
theorem Nbz.calls (a0 : Int) (r : Bool) (w : World) (h : Nbz.f a0 = some r) :
 Calls Tryz.prog 95 #[.int .i64 a0] w fun e w' => e = .returned (.bool r) ∧ Na6 w w' := by
 have H := h
 unfold Nbz.f at H
 clear h
 by_cases c2 : a0 ≥ 11
 ·rw [if_pos c2] at H
  have c2b0 : decide (11 ≤ a0) = true := decide_eq_true c2
  clear c2
  by_cases c3 : a0 ≤ 16
  ·rw [if_pos c3] at H
   have c3b0 : decide (a0 ≤ 16) = true := decide_eq_true c3
   clear c3
   obtain rfl := Option.some.inj H
   go_enter Tryz.func95, Tryz.ntmps95
   go_wp2
   go_ret
   exact ⟨eR, dE⟩
  ·rw [if_neg c3] at H
   have c3b0 : decide (a0 ≤ 16) = false := decide_eq_false c3
   clear c3
   by_cases c4 : a0 ≥ 21
   ·rw [if_pos c4] at H
    have c4b0 : decide (21 ≤ a0) = true := decide_eq_true c4
    clear c4
    obtain rfl := Option.some.inj H
    go_enter Tryz.func95, Tryz.ntmps95
    go_wp2
    go_ret
    exact ⟨eR, dE⟩
   ·rw [if_neg c4] at H
    have c4b0 : decide (21 ≤ a0) = false := decide_eq_false c4
    clear c4
    obtain rfl := Option.some.inj H
    go_enter Tryz.func95, Tryz.ntmps95
    go_wp2
    go_ret
    exact ⟨eR, dE⟩
 ·rw [if_neg c2] at H
  have c2b0 : decide (11 ≤ a0) = false := decide_eq_false c2
  clear c2
  by_cases c5 : a0 ≥ 21
  ·rw [if_pos c5] at H
   have c5b0 : decide (21 ≤ a0) = true := decide_eq_true c5
   clear c5
   obtain rfl := Option.some.inj H
   go_enter Tryz.func95, Tryz.ntmps95
   go_wp2
   go_ret
   exact ⟨eR, dE⟩
  ·rw [if_neg c5] at H
   have c5b0 : decide (21 ≤ a0) = false := decide_eq_false c5
   clear c5
   obtain rfl := Option.some.inj H
   go_enter Tryz.func95, Tryz.ntmps95
   go_wp2
   go_ret
   exact ⟨eR, dE⟩
def Na9.l0 : Nat → ByteArray → Int → Option (Int)
 | 0, _, _ => none
 | k + 1, x0, x3 => if x3 ≤ 26 then ((Nbg.f k x3).bind fun bt101 => ((Nbz.f x3).bind fun t103 => (if t103 = true then (if bt101.1.toList = x0.toList then (some x3) else (Na9.l0 k x0 (wrap64 (x3 + 1)))) else (Na9.l0 k x0 (wrap64 (x3 + 1)))))) else (some 0)
def Na9.f (k : Nat) (a0 : ByteArray) : Option (Int) := if a0.toList = ([] : List UInt8) then (some 0) else (Na9.l0 k a0 11)
theorem Na9.calls (k : Nat) (a0 : ByteArray) (r : Int) (w : World) (h : Na9.f k a0 = some r) :
 Calls Tryz.prog 106 #[.string a0] w fun e w' => e = .returned (.int .i64 r) ∧ Na6 w w' := by
 have H := h
 unfold Na9.f at H
 clear h
 by_cases c2 : a0.toList = ([] : List UInt8)
 ·rw [if_pos c2] at H
  obtain ⟨c2b0, c2b1⟩ := bqT c2
  clear c2
  obtain rfl := Option.some.inj H
  go_enter Tryz.func106, Tryz.ntmps106
  go_wp2
  go_ret
  exact ⟨eR, dE⟩
 ·rw [if_neg c2] at H
  obtain ⟨c2b0, c2b1⟩ := bqF c2
  have H' := aM H
  clear H
  go_enter Tryz.func106, Tryz.ntmps106
  go_wp2
  go_loopg [3] k (fun kq v3 w' => ∃ (x3_1 : Int), v3 = .int .i64 x3_1 ∧ Naj (Na9.l0 kq a0 x3_1 = some r) ∧ Naj (kq ≤ k) ∧ Na6 w w')
  case atStart => exact ⟨(11), (by first | rfl | (simp; done) | (simp [*]; done)), H', ⟨Nat.le_refl _⟩, dE⟩
  case round =>
   clear H'
   try clear c1
   try clear c2
   try clear c2b0
   try clear c2b1
   try clear p2
   obtain ⟨x3_1, rfl, HA, HK1, ⟨m1, rfl⟩⟩ := hrel
   cases gk with
   | zero => exact absurd HA.out (by simp [Na9.l0])
   | succ k1 =>
    have H := HA.out
    clear HA
    simp only [Na9.l0] at H
    by_cases c3 : x3_1 ≤ 26
    ·rw [if_pos c3] at H
     have c3b0 : decide (x3_1 ≤ 26) = true := decide_eq_true c3
     clear c3
     replace H := Option.bind_eq_some_iff.mp H
     obtain ⟨⟨t101, t102⟩, A40, H⟩ := H
     try dsimp only at H
     have A4 := aM A40
     clear A40
     replace H := Option.bind_eq_some_iff.mp H
     obtain ⟨t103, A50, H⟩ := H
     try dsimp only at H
     have A5 := aM A50
     clear A50
     by_cases c6 : t103 = true
     ·subst c6
      rw [if_pos rfl] at H
      by_cases c7 : t101.toList = a0.toList
      ·rw [if_pos c7] at H
       obtain ⟨c7b0, c7b1⟩ := bqT c7
       clear c7
       obtain rfl := Option.some.inj H
       go_wp2_with (first | ((with_reducible refine gC 74 rfl ?_); refine gL 14 Tryz.func74 #[.int .i64 x3_1] ?_; (with_reducible refine (Nbg.calls k1 x3_1 t101 t102 _ A4.out).mono ?_); rintro e w' ⟨rfl, ⟨nd, rfl⟩⟩; refine ⟨_, rfl, ?_⟩) | ((with_reducible refine gC 95 rfl ?_); refine gL 18 Tryz.func95 #[.int .i64 x3_1] ?_; (with_reducible refine (Nbz.calls x3_1 true _ A5.out).mono ?_); rintro e w' ⟨rfl, ⟨nd, rfl⟩⟩; refine ⟨_, rfl, ?_⟩))
       go_ret
       exact ⟨eR, dE⟩
      ·rw [if_neg c7] at H
       obtain ⟨c7b0, c7b1⟩ := bqF c7
       have H' := aM H
       clear H
       go_wp2_with (first | ((with_reducible refine gC 74 rfl ?_); refine gL 14 Tryz.func74 #[.int .i64 x3_1] ?_; (with_reducible refine (Nbg.calls k1 x3_1 t101 t102 _ A4.out).mono ?_); rintro e w' ⟨rfl, ⟨nd, rfl⟩⟩; refine ⟨_, rfl, ?_⟩) | ((with_reducible refine gC 95 rfl ?_); refine gL 18 Tryz.func95 #[.int .i64 x3_1] ?_; (with_reducible refine (Nbz.calls x3_1 true _ A5.out).mono ?_); rintro e w' ⟨rfl, ⟨nd, rfl⟩⟩; refine ⟨_, rfl, ?_⟩))
       go_roundg k1
       case measure => have := HK1.out; omega
       case rel => exact ⟨(wrap64 (x3_1 + 1)), (by first | rfl | (simp; done) | (simp [*]; done)), H', ⟨by have := HK1.out; omega⟩, dE⟩
     ·replace c6 := Bool.eq_false_iff.mpr c6
      subst c6
      rw [if_neg Bool.false_ne_true] at H
      have H' := aM H
      clear H
      go_wp2_with (first | ((with_reducible refine gC 74 rfl ?_); refine gL 14 Tryz.func74 #[.int .i64 x3_1] ?_; (with_reducible refine (Nbg.calls k1 x3_1 t101 t102 _ A4.out).mono ?_); rintro e w' ⟨rfl, ⟨nd, rfl⟩⟩; refine ⟨_, rfl, ?_⟩) | ((with_reducible refine gC 95 rfl ?_); refine gL 18 Tryz.func95 #[.int .i64 x3_1] ?_; (with_reducible refine (Nbz.calls x3_1 false _ A5.out).mono ?_); rintro e w' ⟨rfl, ⟨nd, rfl⟩⟩; refine ⟨_, rfl, ?_⟩))
      go_roundg k1
      case measure => have := HK1.out; omega
      case rel => exact ⟨(wrap64 (x3_1 + 1)), (by first | rfl | (simp; done) | (simp [*]; done)), H', ⟨by have := HK1.out; omega⟩, dE⟩
    ·rw [if_neg c3] at H
     have c3b0 : decide (x3_1 ≤ 26) = false := decide_eq_false c3
     clear c3
     obtain rfl := Option.some.inj H
     go_wp2
     go_ret
     exact ⟨eR, dE⟩
def Ndc.f (k : Nat) (a0_0 a0_1 a0_2 a0_3 : Int) (a0_4 : ByteArray) (a0_5 : Bool) (a0_6 a0_7 : Int) (a0_8 : ByteArray) (a0_9 : Int) (a0_10 : ByteArray) (a0_11 a0_12 : Int) (a0_13 a0_14 : Bool) (a0_15 : ByteArray) (a0_16 a0_17 : Int) (a0_18 a0_19 : Bool) : Option (Int) := if a0_0 = 5 then ((Nbg.f k a0_7).bind fun bt102 => (some bt102.2)) else (if a0_0 = 4 then (if a0_7 = 3 then (some 7) else (some 6)) else (some 7))
theorem Ndc.calls (k : Nat) (a0_0 a0_1 a0_2 a0_3 : Int) (a0_4 : ByteArray) (a0_5 : Bool) (a0_6 a0_7 : Int) (a0_8 : ByteArray) (a0_9 : Int) (a0_10 : ByteArray) (a0_11 a0_12 : Int) (a0_13 a0_14 : Bool) (a0_15 : ByteArray) (a0_16 a0_17 : Int) (a0_18 a0_19 : Bool) (r : Int) (w : World) (h : Ndc.f k a0_0 a0_1 a0_2 a0_3 a0_4 a0_5 a0_6 a0_7 a0_8 a0_9 a0_10 a0_11 a0_12 a0_13 a0_14 a0_15 a0_16 a0_17 a0_18 a0_19 = some r) :
 Calls Tryz.prog 73 #[.agg #[.int .i64 a0_0, .int .i64 a0_1, .int .i64 a0_2, .int .i64 a0_3, .string a0_4, .bool a0_5, .int .i64 a0_6, .int .i64 a0_7, .string a0_8, .int .i64 a0_9, .string a0_10, .int .i64 a0_11, .int .i64 a0_12, .bool a0_13, .bool a0_14, .string a0_15, .int .i64 a0_16, .int .i64 a0_17, .bool a0_18, .bool a0_19]] w fun e w' => e = .returned (.int .i64 r) ∧ Below w.heap.size w w' := by
 have hu50 := Tryz.underlying50
 have HB := aM (Below.refl w.heap.size w)
 have H := h
 unfold Ndc.f at H
 clear h
 by_cases c2 : a0_0 = 5
 ·rw [if_pos c2] at H
  obtain ⟨c2b0, c2b1⟩ := bqT c2
  clear c2
  replace H := Option.bind_eq_some_iff.mp H
  obtain ⟨⟨t102, t103⟩, A30, H⟩ := H
  try dsimp only at H
  have A3 := aM A30
  clear A30
  obtain rfl := Option.some.inj H
  go_enter Tryz.func73, Tryz.ntmps73
  go_wp2_with (first | ((with_reducible refine gD 1 rfl ?_); refine bX 1 #[.int .i64 a0_0, .int .i64 a0_1, .int .i64 a0_2, .int .i64 a0_3, .string a0_4, .bool a0_5, .int .i64 a0_6, .int .i64 a0_7, .string a0_8, .int .i64 a0_9, .string a0_10, .int .i64 a0_11, .int .i64 a0_12, .bool a0_13, .bool a0_14, .string a0_15, .int .i64 a0_16, .int .i64 a0_17, .bool a0_18, .bool a0_19] 50 ?_; intro gb101 hg w4 hbox hb; replace HB := bK w hbox hg hb; obtain ⟨BK101, GW101, HB⟩ := HB; have GE101 := GW101; clear hb hbox hg; obtain ⟨hcz5_0, hcz5_1, hcz5_2, hcz5_3, hcz5_4, hcz5_5, hcz5_6, hcz5_7, hcz5_8, hcz5_9, hcz5_10, hcz5_11, hcz5_12, hcz5_13, hcz5_14, hcz5_15, hcz5_16, hcz5_17, hcz5_18, hcz5_19, hfz5_0, hfz5_1, hfz5_2, hfz5_3, hfz5_4, hfz5_5, hfz5_6, hfz5_7, hfz5_8, hfz5_9, hfz5_10, hfz5_11, hfz5_12, hfz5_13, hfz5_14, hfz5_15, hfz5_16, hfz5_17, hfz5_18, hfz5_19⟩ := bc20 BK101.out) | ((with_reducible refine gC 74 rfl ?_); refine gL 12 Tryz.func74 #[.int .i64 a0_7] ?_; (with_reducible refine (Nbg.calls k a0_7 t102 t103 _ A3.out).mono ?_); rintro e w' ⟨rfl, ⟨nd, rfl⟩⟩; refine ⟨_, rfl, ?_⟩))
  go_ret
  exact ⟨eR, bE⟩
 ·rw [if_neg c2] at H
  obtain ⟨c2b0, c2b1⟩ := bqF c2
  by_cases c6 : a0_0 = 4
  ·rw [if_pos c6] at H
   obtain ⟨c6b0, c6b1⟩ := bqT c6
   clear c6
   by_cases c7 : a0_7 = 3
   ·rw [if_pos c7] at H
    obtain ⟨c7b0, c7b1⟩ := bqT c7
    clear c7
    obtain rfl := Option.some.inj H
    go_enter Tryz.func73, Tryz.ntmps73
    go_wp2_with (first | ((with_reducible refine gD 1 rfl ?_); refine bX 1 #[.int .i64 a0_0, .int .i64 a0_1, .int .i64 a0_2, .int .i64 a0_3, .string a0_4, .bool a0_5, .int .i64 a0_6, .int .i64 a0_7, .string a0_8, .int .i64 a0_9, .string a0_10, .int .i64 a0_11, .int .i64 a0_12, .bool a0_13, .bool a0_14, .string a0_15, .int .i64 a0_16, .int .i64 a0_17, .bool a0_18, .bool a0_19] 50 ?_; intro gb101 hg w8 hbox hb; replace HB := bK w hbox hg hb; obtain ⟨BK101, GW101, HB⟩ := HB; have GE101 := GW101; clear hb hbox hg; obtain ⟨hcz9_0, hcz9_1, hcz9_2, hcz9_3, hcz9_4, hcz9_5, hcz9_6, hcz9_7, hcz9_8, hcz9_9, hcz9_10, hcz9_11, hcz9_12, hcz9_13, hcz9_14, hcz9_15, hcz9_16, hcz9_17, hcz9_18, hcz9_19, hfz9_0, hfz9_1, hfz9_2, hfz9_3, hfz9_4, hfz9_5, hfz9_6, hfz9_7, hfz9_8, hfz9_9, hfz9_10, hfz9_11, hfz9_12, hfz9_13, hfz9_14, hfz9_15, hfz9_16, hfz9_17, hfz9_18, hfz9_19⟩ := bc20 BK101.out))
    go_ret
    exact ⟨eR, bE⟩
   ·rw [if_neg c7] at H
    obtain ⟨c7b0, c7b1⟩ := bqF c7
    obtain rfl := Option.some.inj H
    go_enter Tryz.func73, Tryz.ntmps73
    go_wp2_with (first | ((with_reducible refine gD 1 rfl ?_); refine bX 1 #[.int .i64 a0_0, .int .i64 a0_1, .int .i64 a0_2, .int .i64 a0_3, .string a0_4, .bool a0_5, .int .i64 a0_6, .int .i64 a0_7, .string a0_8, .int .i64 a0_9, .string a0_10, .int .i64 a0_11, .int .i64 a0_12, .bool a0_13, .bool a0_14, .string a0_15, .int .i64 a0_16, .int .i64 a0_17, .bool a0_18, .bool a0_19] 50 ?_; intro gb101 hg w10 hbox hb; replace HB := bK w hbox hg hb; obtain ⟨BK101, GW101, HB⟩ := HB; have GE101 := GW101; clear hb hbox hg; obtain ⟨hcz11_0, hcz11_1, hcz11_2, hcz11_3, hcz11_4, hcz11_5, hcz11_6, hcz11_7, hcz11_8, hcz11_9, hcz11_10, hcz11_11, hcz11_12, hcz11_13, hcz11_14, hcz11_15, hcz11_16, hcz11_17, hcz11_18, hcz11_19, hfz11_0, hfz11_1, hfz11_2, hfz11_3, hfz11_4, hfz11_5, hfz11_6, hfz11_7, hfz11_8, hfz11_9, hfz11_10, hfz11_11, hfz11_12, hfz11_13, hfz11_14, hfz11_15, hfz11_16, hfz11_17, hfz11_18, hfz11_19⟩ := bc20 BK101.out))
    go_ret
    exact ⟨eR, bE⟩
  ·rw [if_neg c6] at H
   obtain ⟨c6b0, c6b1⟩ := bqF c6
   obtain rfl := Option.some.inj H
   go_enter Tryz.func73, Tryz.ntmps73
   go_wp2_with (first | ((with_reducible refine gD 1 rfl ?_); refine bX 1 #[.int .i64 a0_0, .int .i64 a0_1, .int .i64 a0_2, .int .i64 a0_3, .string a0_4, .bool a0_5, .int .i64 a0_6, .int .i64 a0_7, .string a0_8, .int .i64 a0_9, .string a0_10, .int .i64 a0_11, .int .i64 a0_12, .bool a0_13, .bool a0_14, .string a0_15, .int .i64 a0_16, .int .i64 a0_17, .bool a0_18, .bool a0_19] 50 ?_; intro gb101 hg w12 hbox hb; replace HB := bK w hbox hg hb; obtain ⟨BK101, GW101, HB⟩ := HB; have GE101 := GW101; clear hb hbox hg; obtain ⟨hcz13_0, hcz13_1, hcz13_2, hcz13_3, hcz13_4, hcz13_5, hcz13_6, hcz13_7, hcz13_8, hcz13_9, hcz13_10, hcz13_11, hcz13_12, hcz13_13, hcz13_14, hcz13_15, hcz13_16, hcz13_17, hcz13_18, hcz13_19, hfz13_0, hfz13_1, hfz13_2, hfz13_3, hfz13_4, hfz13_5, hfz13_6, hfz13_7, hfz13_8, hfz13_9, hfz13_10, hfz13_11, hfz13_12, hfz13_13, hfz13_14, hfz13_15, hfz13_16, hfz13_17, hfz13_18, hfz13_19⟩ := bc20 BK101.out))
   go_ret
   exact ⟨eR, bE⟩
end Go.Proofs.YtejbbceidnaloaaGreatDoor.P
namespace Go.Proofs.YtejbbceidnaloaaGreatDoor.P
section
variable (O : Ops) (ts : List S39) (e : Int)
theorem le_of_step {α : Type} {f : Nat → Option α} (h : ∀ k x, f k = some x → f (k + 1) = some x) {k m : Nat} (hkm : k ≤ m) {x : α} (hx : f k = some x) : f m = some x := by
 induction hkm with
 | refl => exact hx
 | step _ ih => exact h _ _ ih
theorem Fine.range {at_ a : Int} {l : List S50} (h : Fine ts at_ (okR (l, a))) : at_ < a ∧ a ≤ ts.length := by
 obtain ⟨x, e, hx⟩ := h
 exact hx l a (Option.some.inj e).symm
theorem Nen {k : Nat} {least at_ a : Int} {l : List S50} (h0 : 0 ≤ at_) (h1 : at_ ≤ ts.length) (h2 : 1 ≤ least) (h3 : least ≤ 6) (h : binF O ts e k least at_ = okR (l, a)) : at_ < a ∧ a ≤ ts.length := by
 have hf := (enough O ts e ts.length).1 (k + 16 * ts.length + 12) least at_ h0 h1 (by omega) h2 h3 (by omega)
 rw [le_of_step (f := fun k => binF O ts e k least at_) (fun k x => (mono_all O ts e k).1 least at_ x) (by omega : k ≤ k + 16 * ts.length + 12) h] at hf
 exact Fine.range ts hf
theorem sgnF_range {k : Nat} {at_ a : Int} {l : List S50} (h0 : 0 ≤ at_) (h1 : at_ ≤ ts.length) (h : sgnF O ts e k at_ = okR (l, a)) : at_ < a ∧ a ≤ ts.length := by
 have hf := (enough O ts e ts.length).2.2.1 (k + 16 * ts.length + 12) at_ h0 h1 (by omega) (by omega)
 rw [le_of_step (f := fun k => sgnF O ts e k at_) (fun k x => (mono_all O ts e k).2.2.1 at_ x) (by omega : k ≤ k + 16 * ts.length + 12) h] at hf
 exact Fine.range ts hf
theorem parF_range {k : Nat} {at_ a : Int} {l : List S50} (h0 : 0 ≤ at_) (h1 : at_ ≤ ts.length) (h : parF O ts e k at_ = okR (l, a)) : at_ < a ∧ a ≤ ts.length := by
 have hf := (enough O ts e ts.length).2.2.2.1 (k + 16 * ts.length + 12) at_ h0 h1 (by omega) (by omega)
 rw [le_of_step (f := fun k => parF O ts e k at_) (fun k x => (mono_all O ts e k).2.2.2.1 at_ x) (by omega : k ≤ k + 16 * ts.length + 12) h] at hf
 exact Fine.range ts hf
theorem bnd_ok {α β : Type} {r : Res α} {f : α → Res β} {b : β} (h : r.bnd f = okR b) : ∃ a, r = okR a ∧ f a = okR b := by
 cases r with
 | none => cases h
 | some x => cases x with
  | error p => cases h
  | ok a => exact ⟨a, rfl, h⟩
variable {ts}
theorem celF_range {i a : Int} {r : S48} (hc : celF O ts e i = okR (r, a)) : i < a ∧ a ≤ ts.length := by
 obtain ⟨x, hx, h⟩ := celF_fine O ts e i
 rw [hc] at hx
 exact h r a (Option.some.inj hx).symm
end
section
variable (O : Ops) (ts : List S39) (e : Int)
theorem celF_lt {i a : Int} {r : S48} (h : celF O ts e i = okR (r, a)) : a = i + 1 := by
 unfold celF at h
 split at h
 ·split at h
  ·cases h; rfl
  ·cases h
 ·cases h
theorem refF_len {sheet : ByteArray} {i a : Int} {l : List S50} (h : refF O ts e sheet i = okR (l, a)) : (l.length : Int) ≤ a - i := by
 unfold refF at h
 obtain ⟨⟨r, b⟩, h1, h2⟩ := bnd_ok h
 have hb := celF_lt O ts e h1
 simp only at h2
 split at h2
 ·obtain ⟨⟨s, c⟩, h3, h4⟩ := bnd_ok h2
  have hc := celF_lt O ts e h3
  cases h4
  simp; omega
 ·cases h2
  simp; omega
theorem perF_len : ∀ (k : Nat) (out : List S50) (i a : Int) (l : List S50), perF ts k out i = okR (l, a) → (l.length : Int) ≤ out.length + (a - i)
 | 0, _, _, _, _, h => by cases h
 | k + 1, out, i, a, l, h => by
  rw [perF] at h
  split at h
  ·have := perF_len k _ _ _ _ h
   simp at this; omega
  ·cases h; omega
theorem len_all : ∀ k : Nat,
 (∀ (least i a : Int) (l : List S50), binF O ts e k least i = okR (l, a) → (l.length : Int) ≤ a - i) ∧
 (∀ (least : Int) (left : List S50) (i a : Int) (l : List S50), lopF O ts e k least left i = okR (l, a) → (l.length : Int) ≤ left.length + (a - i)) ∧
 (∀ (i a : Int) (l : List S50), sgnF O ts e k i = okR (l, a) → (l.length : Int) ≤ a - i) ∧
 (∀ (i a : Int) (l : List S50), parF O ts e k i = okR (l, a) → (l.length : Int) ≤ a - i) ∧
 (∀ (m : ByteArray) (i a : Int) (l : List S50), worF O ts e k m i = okR (l, a) → (l.length : Int) ≤ a - i) ∧
 (∀ (m : ByteArray) (i a : Int) (l : List S50), calF O ts e k m i = okR (l, a) → (l.length : Int) ≤ a - i) ∧
 (∀ (m : ByteArray) (acc : List S50) (n i a : Int) (l : List S50), argF O ts e k m acc n i = okR (l, a) → (l.length : Int) ≤ acc.length + (a - i)) := by
 intro k
 induction k with
 | zero =>
  refine ⟨?_, ?_, ?_, ?_, ?_, ?_, ?_⟩
  ·intro _ _ _ _ h; rw [binF] at h; cases h
  ·intro _ _ _ _ _ h; rw [lopF] at h; cases h
  ·intro _ _ _ h; rw [sgnF] at h; cases h
  ·intro _ _ _ h; rw [parF] at h; cases h
  ·intro _ _ _ _ h; rw [worF] at h; cases h
  ·intro _ _ _ _ h; rw [calF] at h; cases h
  ·intro _ _ _ _ _ _ h; rw [argF] at h; cases h
 | succ k ih =>
  obtain ⟨g1, g2, g3, g4, g5, g6, g7⟩ := ih
  refine ⟨?_, ?_, ?_, ?_, ?_, ?_, ?_⟩
  ·intro least i a l h
   rw [binF] at h
   split at h
   ·exact g3 _ _ _ h
   ·obtain ⟨⟨x, b⟩, h1, h2⟩ := bnd_ok h
    have := g1 _ _ _ _ h1
    have := g2 _ _ _ _ _ h2
    omega
  ·intro least left i a l h
   rw [lopF] at h
   split at h
   ·cases h; omega
   ·obtain ⟨⟨x, b⟩, h1, h2⟩ := bnd_ok h
    have := g1 _ _ _ _ h1
    have := g2 _ _ _ _ _ h2
    simp at this; omega
  ·intro i a l h
   rw [sgnF] at h
   split at h
   ·obtain ⟨⟨x, b⟩, h1, h2⟩ := bnd_ok h
    have := g3 _ _ _ h1
    cases h2; simp; omega
   ·split at h
    ·obtain ⟨⟨x, b⟩, h1, h2⟩ := bnd_ok h
     have := g3 _ _ _ h1
     cases h2; simp; omega
    ·obtain ⟨⟨x, b⟩, h1, h2⟩ := bnd_ok h
     have := g4 _ _ _ h1
     have := perF_len ts _ _ _ _ _ h2
     omega
  ·intro i a l h
   rw [parF] at h
   split at h
   ·obtain ⟨⟨x, b⟩, h1, h2⟩ := bnd_ok h
    have := g1 _ _ _ _ h1
    simp only at h2
    split at h2
    ·cases h2; omega
    ·cases h2
   ·split at h
    ·split at h
     ·exact g5 _ _ _ _ h
     ·split at h
      ·split at h
       ·cases h; simp; omega
       ·cases h
      ·split at h
       ·split at h
        ·cases h; simp; omega
        ·cases h
       ·split at h
        ·cases h; simp; omega
        ·cases h
    ·cases h
  ·intro m i a l h
   rw [worF] at h
   split at h
   ·exact g6 _ _ _ _ h
   ·split at h
    ·split at h
     ·have := refF_len O ts e h; omega
     ·cases h
    ·split at h
     ·cases h; simp; omega
     ·split at h
      ·cases h; simp; omega
      ·exact refF_len O ts e h
  ·intro m i a l h
   rw [calF] at h
   split at h
   ·split at h
    ·cases h; simp; omega
    ·have := g7 _ _ _ _ _ _ h; simp at this; omega
   ·cases h
  ·intro m acc n i a l h
   rw [argF] at h
   obtain ⟨⟨x, b⟩, h1, h2⟩ := bnd_ok h
   have := g1 _ _ _ _ h1
   simp only at h2
   split at h2
   ·split at h2
    ·cases h2
    ·have := g7 _ _ _ _ _ _ h2
     simp at this; omega
   ·split at h2
    ·cases h2; simp; omega
    ·cases h2
end
abbrev Tk := Int × ByteArray
structure Lf where
 val : S46 → Tk
 cel : S48 → ByteArray
def mk (l : List UInt8) : Tk := (5, mB l)
def signB (o : Int) : ByteArray :=
 if o = 16 then mB [38] else if o = 11 then mB [43] else if o = 2 then mB [43] else if o = 12 then mB [45] else if o = 1 then mB [45] else if o = 13 then mB [42] else if o = 14 then mB [47] else if o = 15 then mB [94]
 else if o = 21 then mB [61] else if o = 22 then mB [60, 62] else if o = 23 then mB [60] else if o = 24 then mB [60, 61] else if o = 25 then mB [62] else mB [62, 61]
def Nd5 (n : S50) : Int := if n.f0 = 5 then Nct n.f2 else if n.f0 = 4 ∧ n.f2 ≠ 3 then 6 else 7
def bra (b : Bool) (T : List Tk) : List Tk := if b then mk [40] :: (T ++ [mk [41]]) else T
def refT (L : Lf) (r : S48) : List Tk := if r.f0 = eB then [(3, L.cel r)] else [(3, r.f0), mk [33], (3, L.cel r)]
section
variable (L : Lf)
mutual
def tkF : Nat → Int → List S50 → Option (List Tk × List S50)
 | 0, _, _ => none
 | _ + 1, _, [] => none
 | k + 1, least, n :: r =>
  (if n.f0 = 1 then some ([L.val n.f1], r)
    else if n.f0 = 2 then some (refT L n.f5, r)
    else if n.f0 = 3 then some (refT L n.f5 ++ [mk [58], (3, L.cel n.f6)], r)
    else if n.f0 = 6 then (atkF k true n.f4 r).map fun (T, q) => ((3, n.f3) :: mk [40] :: (T ++ [mk [41]]), q)
    else if n.f0 = 5 then (tkF k (Nct n.f2) r).bind fun (T, q) => (tkF k (Nct n.f2 + 1) q).map fun (U, p) => (T ++ (5, signB n.f2) :: U, p)
    else if n.f2 = 3 then (tkF k 7 r).map fun (T, q) => (T ++ [mk [37]], q)
    else (tkF k 6 r).map fun (T, q) => ((5, signB n.f2) :: T, q)).map fun (T, q) => (bra (decide (Nd5 n < least)) T, q)
def atkF : Nat → Bool → Int → List S50 → Option (List Tk × List S50)
 | 0, _, _, _ => none
 | k + 1, first, m, r => if m ≤ 0 then some ([], r) else (tkF k 1 r).bind fun (T, q) => (atkF k false (m - 1) q).map fun (U, p) => ((if first then T else mk [44] :: T) ++ U, p)
end
end
section
variable (O : Ops) (L : Lf) (ts : List S39) (e : Int)
theorem opOf_cases (m : ByteArray) : opOf m = 0 ∨ opOf m = 11 ∨ opOf m = 12 ∨ opOf m = 13 ∨ opOf m = 14 ∨ opOf m = 15 ∨ opOf m = 16 ∨ opOf m = 21 ∨ opOf m = 22 ∨ opOf m = 23 ∨ opOf m = 24 ∨ opOf m = 25 ∨ opOf m = 26 := by
 unfold opOf
 by_cases h1 : m = mB [43]
 ·rw [if_pos h1]; decide
 rw [if_neg h1]
 by_cases h2 : m = mB [45]
 ·rw [if_pos h2]; decide
 rw [if_neg h2]
 by_cases h3 : m = mB [42]
 ·rw [if_pos h3]; decide
 rw [if_neg h3]
 by_cases h4 : m = mB [47]
 ·rw [if_pos h4]; decide
 rw [if_neg h4]
 by_cases h5 : m = mB [94]
 ·rw [if_pos h5]; decide
 rw [if_neg h5]
 by_cases h6 : m = mB [38]
 ·rw [if_pos h6]; decide
 rw [if_neg h6]
 by_cases h7 : m = mB [61]
 ·rw [if_pos h7]; decide
 rw [if_neg h7]
 by_cases h8 : m = mB [60, 62]
 ·rw [if_pos h8]; decide
 rw [if_neg h8]
 by_cases h9 : m = mB [60]
 ·rw [if_pos h9]; decide
 rw [if_neg h9]
 by_cases h10 : m = mB [60, 61]
 ·rw [if_pos h10]; decide
 rw [if_neg h10]
 by_cases h11 : m = mB [62]
 ·rw [if_pos h11]; decide
 rw [if_neg h11]
 by_cases h12 : m = mB [62, 61]
 ·rw [if_pos h12]; decide
 rw [if_neg h12]
 decide
end
end Go.Proofs.YtejbbceidnaloaaGreatDoor.P
namespace Go.Proofs.YtejbbceidnaloaaGreatDoor.P
open Go.RowKit Go.Proofs.YtejbbceidnaloaaGreatDoorW.PrintWords Go.Proofs.YtejbbceidnaloaaGreatDoorW.PrintLast Go.Proofs.YtejbbceidnaloaaGreatDoorW.PrintMore
def Neg (o : Int) : Int := if o = 2 then 3 else if o = 1 then 3 else Nct o
theorem sign_f (k : Nat) (o : Int) : Nbg.f (k + 2) o = some (signB o, Neg o) := by
 unfold Nbg.f signB Neg Nct
 simp only [Nbg.j0, Nbg.j1, beq_iff_eq]
 by_cases h16 : o = 16
 ·subst h16; rfl
 by_cases h11 : o = 11
 ·subst h11; rfl
 by_cases h2 : o = 2
 ·subst h2; rfl
 by_cases h12 : o = 12
 ·subst h12; rfl
 by_cases h1 : o = 1
 ·subst h1; rfl
 by_cases h13 : o = 13
 ·subst h13; rfl
 by_cases h14 : o = 14
 ·subst h14; rfl
 by_cases h15 : o = 15
 ·subst h15; rfl
 simp only [h16, h11, h2, h12, h1, h13, h14, h15, if_false]
 by_cases h21 : o = 21
 ·subst h21; rfl
 by_cases h22 : o = 22
 ·subst h22; rfl
 by_cases h23 : o = 23
 ·subst h23; rfl
 by_cases h24 : o = 24
 ·subst h24; rfl
 by_cases h25 : o = 25
 ·subst h25; rfl
 simp only [h21, h22, h23, h24, h25, if_false]
 rfl
theorem Ncu (k : Nat) (m : ByteArray) (o : Int) (h1 : 11 ≤ o) (h2 : o ≤ 26) : Na9.l0 (k + 3) m o = if (o ≤ 16 ∨ 21 ≤ o) ∧ signB o = m then some o else Na9.l0 (k + 2) m (o + 1) := by
 have hw : wrap64 (o + 1) = o + 1 := by unfold wrap64; omega
 rw [Na9.l0, if_pos h2, sign_f]
 unfold Nbz.f
 simp only [Option.bind_some, tl_eq, hw]
 by_cases a : o ≤ 16
 ·rw [if_pos (by omega), if_pos a]
  simp [a]
 ·by_cases b : 21 ≤ o
  ·rw [if_pos (by omega), if_neg a, if_pos (by omega)]
   simp [a, b, h2]
  ·rw [if_pos (by omega), if_neg a, if_neg (by omega)]
   simp [a, b]
theorem operator_f (k : Nat) (m : ByteArray) : Na9.f (k + 20) m = some (opOf m) := by
 unfold Na9.f
 by_cases h0 : m.toList = []
 ·rw [if_pos h0]
  have : m = eB := by rw [← tl_eq, h0, ByteArray.toList_eq]; rfl
  subst this; decide
 rw [if_neg h0]
 rw [show k + 20 = k + 17 + 3 from rfl, Ncu _ _ _ (by omega) (by omega)]
 unfold opOf
 by_cases h : m = mB [43]
 ·subst h; rfl
 rw [if_neg h, if_neg (fun hh => h (hh.2.symm.trans rfl)), show k + 17 + 2 = k + 16 + 3 from rfl, Ncu _ _ _ (by omega) (by omega)]
 by_cases h : m = mB [45]
 ·subst h; rfl
 rw [if_neg h, if_neg (fun hh => h (hh.2.symm.trans rfl)), show k + 16 + 2 = k + 15 + 3 from rfl, Ncu _ _ _ (by omega) (by omega)]
 by_cases h : m = mB [42]
 ·subst h; rfl
 rw [if_neg h, if_neg (fun hh => h (hh.2.symm.trans rfl)), show k + 15 + 2 = k + 14 + 3 from rfl, Ncu _ _ _ (by omega) (by omega)]
 by_cases h : m = mB [47]
 ·subst h; rfl
 rw [if_neg h, if_neg (fun hh => h (hh.2.symm.trans rfl)), show k + 14 + 2 = k + 13 + 3 from rfl, Ncu _ _ _ (by omega) (by omega)]
 by_cases h : m = mB [94]
 ·subst h; rfl
 rw [if_neg h, if_neg (fun hh => h (hh.2.symm.trans rfl)), show k + 13 + 2 = k + 12 + 3 from rfl, Ncu _ _ _ (by omega) (by omega)]
 by_cases h : m = mB [38]
 ·subst h; rfl
 rw [if_neg h, if_neg (fun hh => h (hh.2.symm.trans rfl)), show k + 12 + 2 = k + 11 + 3 from rfl, Ncu _ _ _ (by omega) (by omega), if_neg (by omega), show k + 11 + 2 = k + 10 + 3 from rfl, Ncu _ _ _ (by omega) (by omega), if_neg (by omega), show k + 10 + 2 = k + 9 + 3 from rfl, Ncu _ _ _ (by omega) (by omega), if_neg (by omega), show k + 9 + 2 = k + 8 + 3 from rfl, Ncu _ _ _ (by omega) (by omega), if_neg (by omega), show k + 8 + 2 = k + 7 + 3 from rfl, Ncu _ _ _ (by omega) (by omega)]
 by_cases h : m = mB [61]
 ·subst h; rfl
 rw [if_neg h, if_neg (fun hh => h (hh.2.symm.trans rfl)), show k + 7 + 2 = k + 6 + 3 from rfl, Ncu _ _ _ (by omega) (by omega)]
 by_cases h : m = mB [60, 62]
 ·subst h; rfl
 rw [if_neg h, if_neg (fun hh => h (hh.2.symm.trans rfl)), show k + 6 + 2 = k + 5 + 3 from rfl, Ncu _ _ _ (by omega) (by omega)]
 by_cases h : m = mB [60]
 ·subst h; rfl
 rw [if_neg h, if_neg (fun hh => h (hh.2.symm.trans rfl)), show k + 5 + 2 = k + 4 + 3 from rfl, Ncu _ _ _ (by omega) (by omega)]
 by_cases h : m = mB [60, 61]
 ·subst h; rfl
 rw [if_neg h, if_neg (fun hh => h (hh.2.symm.trans rfl)), show k + 4 + 2 = k + 3 + 3 from rfl, Ncu _ _ _ (by omega) (by omega)]
 by_cases h : m = mB [62]
 ·subst h; rfl
 rw [if_neg h, if_neg (fun hh => h (hh.2.symm.trans rfl)), show k + 3 + 2 = k + 2 + 3 from rfl, Ncu _ _ _ (by omega) (by omega)]
 by_cases h : m = mB [62, 61]
 ·subst h; rfl
 rw [if_neg h, if_neg (fun hh => h (hh.2.symm.trans rfl)), Na9.l0, if_neg (by omega)]
theorem operator_any (m : ByteArray) (o : Int) (w : World) (h : opOf m = o) : Calls Tryz.prog 106 #[.string m] w fun e w' => e = .returned (.int .i64 o) ∧ Na6 w w' :=
 Na9.calls 20 m o w (by rw [operator_f 0 m, h])
theorem tight_any (o t : Int) (w : World) (h : Neg o = t) : Calls Tryz.prog 73 #[.agg #[.int .i64 5, .int .i64 0, .int .i64 0, .int .i64 0, .string ⟨#[]⟩, .bool false, .int .i64 0, .int .i64 o, .string ⟨#[]⟩, .int .i64 0, .string ⟨#[]⟩, .int .i64 0, .int .i64 0, .bool false, .bool false, .string ⟨#[]⟩, .int .i64 0, .int .i64 0, .bool false, .bool false]] w fun e w' => e = .returned (.int .i64 t) ∧ Below w.heap.size w w' :=
 Ndc.calls 2 5 0 0 0 ⟨#[]⟩ false 0 o ⟨#[]⟩ 0 ⟨#[]⟩ 0 0 false false ⟨#[]⟩ 0 0 false false t w (by unfold Ndc.f; rw [if_pos rfl, sign_f 0 o, h]; rfl)
theorem tightS_op {m : ByteArray} (h : opOf m ≠ 0) : Neg (opOf m) = Nct (opOf m) := by
 rcases opOf_cases m with h' | h' | h' | h' | h' | h' | h' | h' | h' | h' | h' | h' | h'
 ·exact absurd h' h
 all_goals (rw [h']; rfl)
end Go.Proofs.YtejbbceidnaloaaGreatDoor.P
namespace Go.Proofs.YtejbbceidnaloaaGreatDoor.P
open Go.RowKit Go.Proofs.YtejbbceidnaloaaGreatDoorW.PrintWords Go.Proofs.YtejbbceidnaloaaGreatDoorW.PrintLast
def digB (c : Int) : Bool := decide (48 ≤ c) && decide (c ≤ 57)
theorem Nc6 (c : Int) (w : World) : Calls Tryz.prog 85 #[.int .u8 c] w fun e w' => e = .returned (.bool (digB c)) ∧ w = w' := by
 by_cases h : 48 ≤ c
 ·have hd : decide (48 ≤ c) = true := decide_eq_true h
  have hx : digB c = decide (c ≤ 57) := by unfold digB; rw [hd]; rfl
  rw [hx]; clear hx
  go_enter Tryz.func85, Tryz.ntmps85
  go_wp2
  go_ret
  exact ⟨rfl, rfl⟩
 ·have hd : decide (48 ≤ c) = false := decide_eq_false h
  have hx : digB c = false := by unfold digB; rw [hd]; rfl
  rw [hx]; clear hx
  go_enter Tryz.func85, Tryz.ntmps85
  go_wp2
  go_ret
  exact ⟨rfl, rfl⟩
def runL (p : Int → Bool) : List UInt8 → Nat
 | [] => 0
 | c :: r => if p c.toNat = true then runL p r + 1 else 0
theorem Nep (p : Int → Bool) : ∀ l, runL p l ≤ l.length
 | [] => Nat.le_refl _
 | c :: r => by unfold runL; have := Nep p r; split <;> simp <;> omega
theorem runL_stop (p : Int → Bool) : ∀ (l : List UInt8) (k : Nat) (h : k < l.length), (∀ j, (hj : j < k) → p (l[j]'(by omega)).toNat = true) → p l[k].toNat = false → runL p l = k
 | c :: r, 0, h, _, h2 => by simp at h2; simp [runL, h2]
 | c :: r, k + 1, h, h1, h2 => by
  have hc := h1 0 (by omega)
  simp at hc
  have ih := runL_stop p r k (by simpa using h) (fun j hj => by have := h1 (j + 1) (by omega); simpa using this) (by simpa using h2)
  simp [runL, hc, ih]
theorem runL_all (p : Int → Bool) : ∀ (l : List UInt8), (∀ j, (hj : j < l.length) → p (l[j]).toNat = true) → runL p l = l.length
 | [], _ => rfl
 | c :: r, h => by
  have hc := h 0 (by simp)
  simp at hc
  have ih := runL_all p r (fun j hj => by have := h (j + 1) (by simp; omega); simpa using this)
  simp [runL, hc, ih]
def runN (p : Int → Bool) (s : ByteArray) : Nat := runL p s.data.toList
theorem run_digit (s : ByteArray) (w : World) (hs : s.size ≤ 140737488355328) : Calls Tryz.prog 89 #[.string s, .func (.func 85) #[] #[]] w fun e w' => e = .returned (.int .i64 (runN digB s : Nat)) ∧ w = w' := by
 go_enter Tryz.func89, Tryz.ntmps89
 go_wp2_with fail
 go_loop [5, 8] (fun _ i => ∃ k : Nat, k ≤ s.size ∧ i = .int .i64 k ∧ Hid (∀ j, (hj : j < k) → (hk : j < s.size) → digB (s[j]).toNat = true)) (fun _ i => s.size - (intOf i).toNat)
 case atStart => exact ⟨0, by omega, rfl, lh (fun j hj => by omega)⟩
 case round =>
  obtain ⟨k, hk, rfl, hall⟩ := hrel
  by_cases hlt : k < s.size
  ·cases hp : digB (s[k]).toNat with
   | true =>
    have HP := lh hp
    clear hp
    go_wp2_with fail
    refine (Nc6 _ w).mono ?_
    rintro e w' ⟨rfl, rfl⟩
    rw [HP.out]
    go_wp2_with fail
    go_round
    case rel =>
     refine ⟨k + 1, by omega, by go_num, lh (fun j hj hk => ?_)⟩
     rcases Nat.lt_or_ge j k with h | h
     ·exact hall.out j h hk
     ·obtain rfl : j = k := by omega
      exact HP.out
    case measure => simp [intOf]; omega
   | false =>
    have HP := lh hp
    clear hp
    have hr : runN digB s = k := runL_stop digB s.data.toList k (by simpa using hlt) (fun j hj => by have := hall.out j hj (by omega); rw [Array.getElem_toList]; exact this) (by rw [Array.getElem_toList]; exact HP.out)
    have HR := lh hr
    clear hr
    go_wp2_with fail
    refine (Nc6 _ w).mono ?_
    rintro e w' ⟨rfl, rfl⟩
    rw [HP.out]
    go_wp2_with fail
    go_ret
    exact ⟨by rw [HR.out]; rfl, rfl⟩
  ·have hr : runN digB s = s.size := by
    have := runL_all digB s.data.toList (fun j hj => by have := hall.out j (by simp at hj; omega) (by simpa using hj); rw [Array.getElem_toList]; exact this)
    unfold runN; rw [this]; simp
   have HR := lh hr
   clear hr
   go_wp2_with fail
   go_ret
   exact ⟨by rw [HR.out]; rfl, rfl⟩
def letB (c : Int) : Bool := (decide (65 ≤ c) && decide (c ≤ 90)) || (decide (97 ≤ c) && decide (c ≤ 122))
theorem Ndh (c : Int) (w : World) : Calls Tryz.prog 88 #[.int .u8 c] w fun e w' => e = .returned (.bool (letB c)) ∧ w = w' := by
 cases h1 : decide (65 ≤ c) <;> cases h2 : decide (c ≤ 90) <;> cases h3 : decide (97 ≤ c) <;> cases h4 : decide (c ≤ 122) <;>
  (have hx : letB c = (decide (65 ≤ c) && decide (c ≤ 90) || decide (97 ≤ c) && decide (c ≤ 122)) := rfl
   rw [h1, h2, h3, h4] at hx
   simp only [Bool.and_true, Bool.and_false, Bool.or_true, Bool.or_false, Bool.true_and, Bool.false_and, Bool.true_or, Bool.false_or] at hx
   rw [hx]; clear hx
   go_enter Tryz.func88, Tryz.ntmps88
   go_wp2
   go_ret
   exact ⟨rfl, rfl⟩)
def wordB (c : Int) : Bool := letB c || digB c || c == 36
theorem word_any (c : Int) (w : World) : Calls Tryz.prog 90 #[.int .u8 c] w fun e w' => e = .returned (.bool (wordB c)) ∧ w = w' := by
 cases h1 : letB c
 ·cases h2 : digB c
  ·have hx : wordB c = (c == 36) := by unfold wordB; rw [h1, h2]; rfl
   rw [hx]
   have H1 := lh h1
   have H2 := lh h2
   clear hx h1 h2
   go_enter Tryz.func90, Tryz.ntmps90
   go_wp2_with (first | (go_at_call 88; refine (Ndh _ _).mono ?_; rintro e w' ⟨rfl, rfl⟩; rw [H1.out]) | (go_at_call 85; refine (Nc6 _ _).mono ?_; rintro e w' ⟨rfl, rfl⟩; rw [H2.out]))
   go_ret
   exact ⟨rfl, rfl⟩
  ·have hx : wordB c = true := by unfold wordB; rw [h1, h2]; rfl
   rw [hx]
   have H1 := lh h1
   have H2 := lh h2
   clear hx h1 h2
   go_enter Tryz.func90, Tryz.ntmps90
   go_wp2_with (first | (go_at_call 88; refine (Ndh _ _).mono ?_; rintro e w' ⟨rfl, rfl⟩; rw [H1.out]) | (go_at_call 85; refine (Nc6 _ _).mono ?_; rintro e w' ⟨rfl, rfl⟩; rw [H2.out]))
   go_ret
   exact ⟨rfl, rfl⟩
 ·have hx : wordB c = true := by unfold wordB; rw [h1]; rfl
  rw [hx]
  have H1 := lh h1
  clear hx h1
  go_enter Tryz.func90, Tryz.ntmps90
  go_wp2_with (first | (go_at_call 88; refine (Ndh _ _).mono ?_; rintro e w' ⟨rfl, rfl⟩; rw [H1.out]))
  go_ret
  exact ⟨rfl, rfl⟩
theorem run_word (s : ByteArray) (w : World) (hs : s.size ≤ 140737488355328) : Calls Tryz.prog 89 #[.string s, .func (.func 90) #[] #[]] w fun e w' => e = .returned (.int .i64 (runN wordB s : Nat)) ∧ w = w' := by
 go_enter Tryz.func89, Tryz.ntmps89
 go_wp2_with fail
 go_loop [5, 8] (fun _ i => ∃ k : Nat, k ≤ s.size ∧ i = .int .i64 k ∧ Hid (∀ j, (hj : j < k) → (hk : j < s.size) → wordB (s[j]).toNat = true)) (fun _ i => s.size - (intOf i).toNat)
 case atStart => exact ⟨0, by omega, rfl, lh (fun j hj => by omega)⟩
 case round =>
  obtain ⟨k, hk, rfl, hall⟩ := hrel
  by_cases hlt : k < s.size
  ·cases hp : wordB (s[k]).toNat with
   | true =>
    have HP := lh hp
    clear hp
    go_wp2_with fail
    refine (word_any _ w).mono ?_
    rintro e w' ⟨rfl, rfl⟩
    rw [HP.out]
    go_wp2_with fail
    go_round
    case rel =>
     refine ⟨k + 1, by omega, by go_num, lh (fun j hj hk => ?_)⟩
     rcases Nat.lt_or_ge j k with h | h
     ·exact hall.out j h hk
     ·obtain rfl : j = k := by omega
      exact HP.out
    case measure => simp [intOf]; omega
   | false =>
    have HP := lh hp
    clear hp
    have hr : runN wordB s = k := runL_stop wordB s.data.toList k (by simpa using hlt) (fun j hj => by have := hall.out j hj (by omega); rw [Array.getElem_toList]; exact this) (by rw [Array.getElem_toList]; exact HP.out)
    have HR := lh hr
    clear hr
    go_wp2_with fail
    refine (word_any _ w).mono ?_
    rintro e w' ⟨rfl, rfl⟩
    rw [HP.out]
    go_wp2_with fail
    go_ret
    exact ⟨by rw [HR.out]; rfl, rfl⟩
  ·have hr : runN wordB s = s.size := by
    have := runL_all wordB s.data.toList (fun j hj => by have := hall.out j (by simp at hj; omega) (by simpa using hj); rw [Array.getElem_toList]; exact this)
    unfold runN; rw [this]; simp
   have HR := lh hr
   clear hr
   go_wp2_with fail
   go_ret
   exact ⟨by rw [HR.out]; rfl, rfl⟩
def numN (s : ByteArray) : Nat :=
 if runN digB s < s.size ∧ bt s (runN digB s : Nat) = 46 ∧ 0 < runN digB (s.extract (runN digB s + 1) s.size) then runN digB s + 1 + runN digB (s.extract (runN digB s + 1) s.size) else runN digB s
theorem runN_le (p : Int → Bool) (s : ByteArray) : runN p s ≤ s.size := by
 have := Nep p s.data.toList
 unfold runN; simpa using this
theorem number_any (s : ByteArray) (w : World) (hs : s.size ≤ 140737488355328) : Calls Tryz.prog 86 #[.string s] w fun e w' => e = .returned (.int .i64 (numN s : Nat)) ∧ w = w' := by
 have hf : numN s = if runN digB s < s.size ∧ bt s (runN digB s : Nat) = 46 ∧ 0 < runN digB (s.extract (runN digB s + 1) s.size) then runN digB s + 1 + runN digB (s.extract (runN digB s + 1) s.size) else runN digB s := rfl
 have hr := run_digit s w hs
 have hl := runN_le digB s
 have hb := fun h : runN digB s < s.size => bt_at s (runN digB s) h
 generalize hn : runN digB s = n at *
 have HR := lh hr
 clear hr hn
 by_cases h1 : n < s.size
 ·have hb1 := hb h1
  clear hb
  by_cases h2 : bt s (n : Nat) = 46
  ·have hr2 := run_digit (s.extract (n + 1) s.size) w (by rw [ByteArray.size_extract]; omega)
   have hl2 := runN_le digB (s.extract (n + 1) s.size)
   rw [ByteArray.size_extract] at hl2
   generalize hm : runN digB (s.extract (n + 1) s.size) = m at *
   have HR2 := lh hr2
   clear hr2 hm
   have hbb : ((s[n]'h1).toNat : Int) = 46 := hb1.trans h2
   have HF := lh hf
   have e46 : s[n]'h1 = 46 := by
    apply UInt8.toNat_inj.mp
    have : (s[n]'h1).toNat = 46 := by omega
    rw [this]; rfl
   clear hf hb1 hbb
   go_enter Tryz.func86, Tryz.ntmps86
   go_wp2_with fail
   refine (HR.out).mono ?_
   rintro e w' ⟨rfl, rfl⟩
   go_wp2_with fail
   refine (HR2.out).mono ?_
   rintro e w' ⟨rfl, rfl⟩
   by_cases h3 : 0 < m
   ·have hF : numN s = n + 1 + m := by rw [HF.out, if_pos ⟨h1, h2, h3⟩]
    have HF2 := lh hF
    clear hF
    go_wp2_with fail
    go_ret
    exact ⟨by rw [HF2.out]; push_cast; rfl, rfl⟩
   ·have hF : numN s = n := by rw [HF.out, if_neg (fun h => h3 h.2.2)]
    have HF2 := lh hF
    clear hF
    go_wp2_with fail
    go_ret
    exact ⟨by rw [HF2.out]; rfl, rfl⟩
  ·have hF : numN s = n := by rw [hf, if_neg (fun h => h2 h.2.1)]
   have HF2 := lh hF
   have e46 : ((s[n]'h1) == 46) = false := by
    rw [beq_eq_false_iff_ne]
    intro h
    apply h2
    rw [← hb1]
    show (((s[n]'h1).toNat : Nat) : Int) = 46
    rw [h]; rfl
   have e46' : (((s[n]'h1).toNat : Int) == 46) = false := by
    rw [beq_eq_false_iff_ne]
    intro h
    exact h2 (hb1.symm.trans h)
   clear hf hb1 hF
   go_enter Tryz.func86, Tryz.ntmps86
   go_wp2_with fail
   refine (HR.out).mono ?_
   rintro e w' ⟨rfl, rfl⟩
   go_wp2_with fail
   go_ret
   exact ⟨by rw [HF2.out]; rfl, rfl⟩
 ·have hF : numN s = n := by rw [hf, if_neg (fun h => h1 h.1)]
  have HF2 := lh hF
  clear hf hb hF
  go_enter Tryz.func86, Tryz.ntmps86
  go_wp2_with fail
  refine (HR.out).mono ?_
  rintro e w' ⟨rfl, rfl⟩
  go_wp2_with fail
  go_ret
  exact ⟨by rw [HF2.out]; rfl, rfl⟩
end Go.Proofs.YtejbbceidnaloaaGreatDoor.P
