import Derived.Test.YtejbbceidnaloaaGreatDoorF11
import Derived.Test.YtejbbceidnaloaaGreatDoorF8
set_option linter.unusedVariables false
set_option linter.unusedSimpArgs false
set_option maxRecDepth 100000
set_option maxHeartbeats 8000000
namespace Go.Proofs.YtejbbceidnaloaaGreatDoor.P
open Go.RowKit AW AL AM
def Nay.l0 : Nat → ByteArray → Int → Option (Int)
 | 0, _, _ => none
 | k + 1, x0, x3 => if x3 ≤ 26 then ((Na3.f k x3).bind fun bt101 => ((Nbl.f x3).bind fun t103 => (if t103 = true then (if bt101.1.toList = x0.toList then (some x3) else (Nay.l0 k x0 (wrap64 (x3 + 1)))) else (Nay.l0 k x0 (wrap64 (x3 + 1)))))) else (some 0)
def Nay.f (k : Nat) (a0 : ByteArray) : Option (Int) := if a0.toList = ([] : List UInt8) then (some 0) else (Nay.l0 k a0 11)
theorem Nay.calls (k : Nat) (a0 : ByteArray) (r : Int) (w : World) (h : Nay.f k a0 = some r) :
 Calls Tryz.prog 106 #[.string a0] w fun e w' => e = .returned (.int .i64 r) ∧ Na4 w w' := by
 have H := h
 unfold Nay.f at H
 clear h
 by_cases c2 : a0.toList = ([] : List UInt8)
 ·rw [if_pos c2] at H
  obtain ⟨c2b0, c2b1⟩ := bqT c2
  clear c2
  obtain rfl := sI H
  go_enter Tryz.func106, Tryz.ntmps106
  go_wp2
  go_ret
  exact ⟨eR, dE⟩
 ·rw [if_neg c2] at H
  obtain ⟨c2b0, c2b1⟩ := bqF c2
  have H' := aM H
  clear H
  go_enter Tryz.func106, Tryz.ntmps106
  go_wp2
  go_loopg [3] k (fun kq v3 w' => ∃ (x3_1 : Int), v3 = .int .i64 x3_1 ∧ Nah (Nay.l0 kq a0 x3_1 = some r) ∧ Nah (kq ≤ k) ∧ Na4 w w')
  case atStart => exact ⟨(11), (by first | rfl | (simp; done) | (simp [*]; done)), H', ⟨Nat.le_refl _⟩, dE⟩
  case round =>
   clear H'
   try clear c1
   try clear c2
   try clear c2b0
   try clear c2b1
   try clear p2
   obtain ⟨x3_1, rfl, HA, HK1, ⟨m1, rfl⟩⟩ := hrel
   cases gk with
   | zero => exact absurd HA.out (by simp [Nay.l0])
   | succ k1 =>
    have H := HA.out
    clear HA
    simp only [Nay.l0] at H
    by_cases c3 : x3_1 ≤ 26
    ·rw [if_pos c3] at H
     have c3b0 : decide (x3_1 ≤ 26) = true := decide_eq_true c3
     clear c3
     replace H := bS H
     obtain ⟨⟨t101, t102⟩, A40, H⟩ := H
     try dsimp only at H
     have A4 := aM A40
     clear A40
     replace H := bS H
     obtain ⟨t103, A50, H⟩ := H
     try dsimp only at H
     have A5 := aM A50
     clear A50
     by_cases c6 : t103 = true
     ·subst c6
      rw [if_pos rfl] at H
      by_cases c7 : t101.toList = a0.toList
      ·rw [if_pos c7] at H
       obtain ⟨c7b0, c7b1⟩ := bqT c7
       clear c7
       obtain rfl := sI H
       go_wp2_with (first | ((with_reducible refine gC 74 rfl ?_); refine gL 14 Tryz.func74 #[.int .i64 x3_1] ?_; (with_reducible refine (Na3.calls k1 x3_1 t101 t102 _ A4.out).mono ?_); rintro e w' ⟨rfl, ⟨nd, rfl⟩⟩; refine ⟨_, rfl, ?_⟩) | ((with_reducible refine gC 95 rfl ?_); refine gL 18 Tryz.func95 #[.int .i64 x3_1] ?_; (with_reducible refine (Nbl.calls x3_1 true _ A5.out).mono ?_); rintro e w' ⟨rfl, ⟨nd, rfl⟩⟩; refine ⟨_, rfl, ?_⟩))
       go_ret
       exact ⟨eR, dE⟩
      ·rw [if_neg c7] at H
       obtain ⟨c7b0, c7b1⟩ := bqF c7
       have H' := aM H
       clear H
       go_wp2_with (first | ((with_reducible refine gC 74 rfl ?_); refine gL 14 Tryz.func74 #[.int .i64 x3_1] ?_; (with_reducible refine (Na3.calls k1 x3_1 t101 t102 _ A4.out).mono ?_); rintro e w' ⟨rfl, ⟨nd, rfl⟩⟩; refine ⟨_, rfl, ?_⟩) | ((with_reducible refine gC 95 rfl ?_); refine gL 18 Tryz.func95 #[.int .i64 x3_1] ?_; (with_reducible refine (Nbl.calls x3_1 true _ A5.out).mono ?_); rintro e w' ⟨rfl, ⟨nd, rfl⟩⟩; refine ⟨_, rfl, ?_⟩))
       go_roundg k1
       case measure => have := HK1.out; omega
       case rel => exact ⟨(wrap64 (x3_1 + 1)), (by first | rfl | (simp; done) | (simp [*]; done)), H', ⟨by have := HK1.out; omega⟩, dE⟩
     ·replace c6 := Bool.eq_false_iff.mpr c6
      subst c6
      rw [if_neg fT] at H
      have H' := aM H
      clear H
      go_wp2_with (first | ((with_reducible refine gC 74 rfl ?_); refine gL 14 Tryz.func74 #[.int .i64 x3_1] ?_; (with_reducible refine (Na3.calls k1 x3_1 t101 t102 _ A4.out).mono ?_); rintro e w' ⟨rfl, ⟨nd, rfl⟩⟩; refine ⟨_, rfl, ?_⟩) | ((with_reducible refine gC 95 rfl ?_); refine gL 18 Tryz.func95 #[.int .i64 x3_1] ?_; (with_reducible refine (Nbl.calls x3_1 false _ A5.out).mono ?_); rintro e w' ⟨rfl, ⟨nd, rfl⟩⟩; refine ⟨_, rfl, ?_⟩))
      go_roundg k1
      case measure => have := HK1.out; omega
      case rel => exact ⟨(wrap64 (x3_1 + 1)), (by first | rfl | (simp; done) | (simp [*]; done)), H', ⟨by have := HK1.out; omega⟩, dE⟩
    ·rw [if_neg c3] at H
     have c3b0 : decide (x3_1 ≤ 26) = false := decide_eq_false c3
     clear c3
     obtain rfl := sI H
     go_wp2
     go_ret
     exact ⟨eR, dE⟩
def Nct.f (k : Nat) (a0_0 a0_1 a0_2 a0_3 : Int) (a0_4 : ByteArray) (a0_5 : Bool) (a0_6 a0_7 : Int) (a0_8 : ByteArray) (a0_9 : Int) (a0_10 : ByteArray) (a0_11 a0_12 : Int) (a0_13 a0_14 : Bool) (a0_15 : ByteArray) (a0_16 a0_17 : Int) (a0_18 a0_19 : Bool) : Option (Int) := if a0_0 = 5 then ((Na3.f k a0_7).bind fun bt102 => (some bt102.2)) else (if a0_0 = 4 then (if a0_7 = 3 then (some 7) else (some 6)) else (some 7))
theorem Nct.calls (k : Nat) (a0_0 a0_1 a0_2 a0_3 : Int) (a0_4 : ByteArray) (a0_5 : Bool) (a0_6 a0_7 : Int) (a0_8 : ByteArray) (a0_9 : Int) (a0_10 : ByteArray) (a0_11 a0_12 : Int) (a0_13 a0_14 : Bool) (a0_15 : ByteArray) (a0_16 a0_17 : Int) (a0_18 a0_19 : Bool) (r : Int) (w : World) (h : Nct.f k a0_0 a0_1 a0_2 a0_3 a0_4 a0_5 a0_6 a0_7 a0_8 a0_9 a0_10 a0_11 a0_12 a0_13 a0_14 a0_15 a0_16 a0_17 a0_18 a0_19 = some r) :
 Calls Tryz.prog 73 #[.agg #[.int .i64 a0_0, .int .i64 a0_1, .int .i64 a0_2, .int .i64 a0_3, .string a0_4, .bool a0_5, .int .i64 a0_6, .int .i64 a0_7, .string a0_8, .int .i64 a0_9, .string a0_10, .int .i64 a0_11, .int .i64 a0_12, .bool a0_13, .bool a0_14, .string a0_15, .int .i64 a0_16, .int .i64 a0_17, .bool a0_18, .bool a0_19]] w fun e w' => e = .returned (.int .i64 r) ∧ Below w.heap.size w w' := by
 have hu50 := Tryz.underlying50
 have HB := aM (Below.refl w.heap.size w)
 have H := h
 unfold Nct.f at H
 clear h
 by_cases c2 : a0_0 = 5
 ·rw [if_pos c2] at H
  obtain ⟨c2b0, c2b1⟩ := bqT c2
  clear c2
  replace H := bS H
  obtain ⟨⟨t102, t103⟩, A30, H⟩ := H
  try dsimp only at H
  have A3 := aM A30
  clear A30
  obtain rfl := sI H
  go_enter Tryz.func73, Tryz.ntmps73
  go_wp2_with (first | ((with_reducible refine gD 1 rfl ?_); refine bX 1 #[.int .i64 a0_0, .int .i64 a0_1, .int .i64 a0_2, .int .i64 a0_3, .string a0_4, .bool a0_5, .int .i64 a0_6, .int .i64 a0_7, .string a0_8, .int .i64 a0_9, .string a0_10, .int .i64 a0_11, .int .i64 a0_12, .bool a0_13, .bool a0_14, .string a0_15, .int .i64 a0_16, .int .i64 a0_17, .bool a0_18, .bool a0_19] 50 ?_; intro gb101 hg w4 hbox hb; replace HB := bK w hbox hg hb; obtain ⟨BK101, GW101, HB⟩ := HB; have GE101 := GW101; clear hb hbox hg; obtain ⟨hcz5_0, hcz5_1, hcz5_2, hcz5_3, hcz5_4, hcz5_5, hcz5_6, hcz5_7, hcz5_8, hcz5_9, hcz5_10, hcz5_11, hcz5_12, hcz5_13, hcz5_14, hcz5_15, hcz5_16, hcz5_17, hcz5_18, hcz5_19, hfz5_0, hfz5_1, hfz5_2, hfz5_3, hfz5_4, hfz5_5, hfz5_6, hfz5_7, hfz5_8, hfz5_9, hfz5_10, hfz5_11, hfz5_12, hfz5_13, hfz5_14, hfz5_15, hfz5_16, hfz5_17, hfz5_18, hfz5_19⟩ := bc20 BK101.out) | ((with_reducible refine gC 74 rfl ?_); refine gL 12 Tryz.func74 #[.int .i64 a0_7] ?_; (with_reducible refine (Na3.calls k a0_7 t102 t103 _ A3.out).mono ?_); rintro e w' ⟨rfl, ⟨nd, rfl⟩⟩; refine ⟨_, rfl, ?_⟩))
  go_ret
  exact ⟨eR, bE⟩
 ·rw [if_neg c2] at H
  obtain ⟨c2b0, c2b1⟩ := bqF c2
  by_cases c6 : a0_0 = 4
  ·rw [if_pos c6] at H
   obtain ⟨c6b0, c6b1⟩ := bqT c6
   clear c6
   by_cases c7 : a0_7 = 3
   ·rw [if_pos c7] at H
    obtain ⟨c7b0, c7b1⟩ := bqT c7
    clear c7
    obtain rfl := sI H
    go_enter Tryz.func73, Tryz.ntmps73
    go_wp2_with (first | ((with_reducible refine gD 1 rfl ?_); refine bX 1 #[.int .i64 a0_0, .int .i64 a0_1, .int .i64 a0_2, .int .i64 a0_3, .string a0_4, .bool a0_5, .int .i64 a0_6, .int .i64 a0_7, .string a0_8, .int .i64 a0_9, .string a0_10, .int .i64 a0_11, .int .i64 a0_12, .bool a0_13, .bool a0_14, .string a0_15, .int .i64 a0_16, .int .i64 a0_17, .bool a0_18, .bool a0_19] 50 ?_; intro gb101 hg w8 hbox hb; replace HB := bK w hbox hg hb; obtain ⟨BK101, GW101, HB⟩ := HB; have GE101 := GW101; clear hb hbox hg; obtain ⟨hcz9_0, hcz9_1, hcz9_2, hcz9_3, hcz9_4, hcz9_5, hcz9_6, hcz9_7, hcz9_8, hcz9_9, hcz9_10, hcz9_11, hcz9_12, hcz9_13, hcz9_14, hcz9_15, hcz9_16, hcz9_17, hcz9_18, hcz9_19, hfz9_0, hfz9_1, hfz9_2, hfz9_3, hfz9_4, hfz9_5, hfz9_6, hfz9_7, hfz9_8, hfz9_9, hfz9_10, hfz9_11, hfz9_12, hfz9_13, hfz9_14, hfz9_15, hfz9_16, hfz9_17, hfz9_18, hfz9_19⟩ := bc20 BK101.out))
    go_ret
    exact ⟨eR, bE⟩
   ·rw [if_neg c7] at H
    obtain ⟨c7b0, c7b1⟩ := bqF c7
    obtain rfl := sI H
    go_enter Tryz.func73, Tryz.ntmps73
    go_wp2_with (first | ((with_reducible refine gD 1 rfl ?_); refine bX 1 #[.int .i64 a0_0, .int .i64 a0_1, .int .i64 a0_2, .int .i64 a0_3, .string a0_4, .bool a0_5, .int .i64 a0_6, .int .i64 a0_7, .string a0_8, .int .i64 a0_9, .string a0_10, .int .i64 a0_11, .int .i64 a0_12, .bool a0_13, .bool a0_14, .string a0_15, .int .i64 a0_16, .int .i64 a0_17, .bool a0_18, .bool a0_19] 50 ?_; intro gb101 hg w10 hbox hb; replace HB := bK w hbox hg hb; obtain ⟨BK101, GW101, HB⟩ := HB; have GE101 := GW101; clear hb hbox hg; obtain ⟨hcz11_0, hcz11_1, hcz11_2, hcz11_3, hcz11_4, hcz11_5, hcz11_6, hcz11_7, hcz11_8, hcz11_9, hcz11_10, hcz11_11, hcz11_12, hcz11_13, hcz11_14, hcz11_15, hcz11_16, hcz11_17, hcz11_18, hcz11_19, hfz11_0, hfz11_1, hfz11_2, hfz11_3, hfz11_4, hfz11_5, hfz11_6, hfz11_7, hfz11_8, hfz11_9, hfz11_10, hfz11_11, hfz11_12, hfz11_13, hfz11_14, hfz11_15, hfz11_16, hfz11_17, hfz11_18, hfz11_19⟩ := bc20 BK101.out))
    go_ret
    exact ⟨eR, bE⟩
  ·rw [if_neg c6] at H
   obtain ⟨c6b0, c6b1⟩ := bqF c6
   obtain rfl := sI H
   go_enter Tryz.func73, Tryz.ntmps73
   go_wp2_with (first | ((with_reducible refine gD 1 rfl ?_); refine bX 1 #[.int .i64 a0_0, .int .i64 a0_1, .int .i64 a0_2, .int .i64 a0_3, .string a0_4, .bool a0_5, .int .i64 a0_6, .int .i64 a0_7, .string a0_8, .int .i64 a0_9, .string a0_10, .int .i64 a0_11, .int .i64 a0_12, .bool a0_13, .bool a0_14, .string a0_15, .int .i64 a0_16, .int .i64 a0_17, .bool a0_18, .bool a0_19] 50 ?_; intro gb101 hg w12 hbox hb; replace HB := bK w hbox hg hb; obtain ⟨BK101, GW101, HB⟩ := HB; have GE101 := GW101; clear hb hbox hg; obtain ⟨hcz13_0, hcz13_1, hcz13_2, hcz13_3, hcz13_4, hcz13_5, hcz13_6, hcz13_7, hcz13_8, hcz13_9, hcz13_10, hcz13_11, hcz13_12, hcz13_13, hcz13_14, hcz13_15, hcz13_16, hcz13_17, hcz13_18, hcz13_19, hfz13_0, hfz13_1, hfz13_2, hfz13_3, hfz13_4, hfz13_5, hfz13_6, hfz13_7, hfz13_8, hfz13_9, hfz13_10, hfz13_11, hfz13_12, hfz13_13, hfz13_14, hfz13_15, hfz13_16, hfz13_17, hfz13_18, hfz13_19⟩ := bc20 BK101.out))
   go_ret
   exact ⟨eR, bE⟩
end Go.Proofs.YtejbbceidnaloaaGreatDoor.P
namespace Go.Proofs.YtejbbceidnaloaaGreatDoor.P
section
variable (O : Ops) (ts : List S39) (e : Int)
theorem le_of_step {α : Type} {f : Nat → Option α} (h : ∀ k x, f k = some x → f (k + 1) = some x) {k m : Nat} (hkm : k ≤ m) {x : α} (hx : f k = some x) : f m = some x := by
 induction hkm with
 | refl => exact hx
 | step _ ih => exact h _ _ ih
theorem Fine.range {at_ a : Int} {l : List S50} (h : Fine ts at_ (okR (l, a))) : at_ < a ∧ a ≤ ts.length := by
 obtain ⟨x, e, hx⟩ := h
 exact hx l a (Option.some.inj e).symm
theorem Nd5 {k : Nat} {least at_ a : Int} {l : List S50} (h0 : 0 ≤ at_) (h1 : at_ ≤ ts.length) (h2 : 1 ≤ least) (h3 : least ≤ 6) (h : binF O ts e k least at_ = okR (l, a)) : at_ < a ∧ a ≤ ts.length := by
 have hf := (enough O ts e ts.length).1 (k + 16 * ts.length + 12) least at_ h0 h1 (by omega) h2 h3 (by omega)
 rw [le_of_step (f := fun k => binF O ts e k least at_) (fun k x => (mono_all O ts e k).1 least at_ x) (by omega : k ≤ k + 16 * ts.length + 12) h] at hf
 exact Fine.range ts hf
theorem sgnF_range {k : Nat} {at_ a : Int} {l : List S50} (h0 : 0 ≤ at_) (h1 : at_ ≤ ts.length) (h : sgnF O ts e k at_ = okR (l, a)) : at_ < a ∧ a ≤ ts.length := by
 have hf := (enough O ts e ts.length).2.2.1 (k + 16 * ts.length + 12) at_ h0 h1 (by omega) (by omega)
 rw [le_of_step (f := fun k => sgnF O ts e k at_) (fun k x => (mono_all O ts e k).2.2.1 at_ x) (by omega : k ≤ k + 16 * ts.length + 12) h] at hf
 exact Fine.range ts hf
theorem parF_range {k : Nat} {at_ a : Int} {l : List S50} (h0 : 0 ≤ at_) (h1 : at_ ≤ ts.length) (h : parF O ts e k at_ = okR (l, a)) : at_ < a ∧ a ≤ ts.length := by
 have hf := (enough O ts e ts.length).2.2.2.1 (k + 16 * ts.length + 12) at_ h0 h1 (by omega) (by omega)
 rw [le_of_step (f := fun k => parF O ts e k at_) (fun k x => (mono_all O ts e k).2.2.2.1 at_ x) (by omega : k ≤ k + 16 * ts.length + 12) h] at hf
 exact Fine.range ts hf
theorem bnd_ok {α β : Type} {r : Res α} {f : α → Res β} {b : β} (h : r.bnd f = okR b) : ∃ a, r = okR a ∧ f a = okR b := by
 cases r with
 | none => cases h
 | some x => cases x with
  | error p => cases h
  | ok a => exact ⟨a, rfl, h⟩
variable {ts}
theorem celF_range {i a : Int} {r : S48} (hc : celF O ts e i = okR (r, a)) : i < a ∧ a ≤ ts.length := by
 obtain ⟨x, hx, h⟩ := celF_fine O ts e i
 rw [hc] at hx
 exact h r a (Option.some.inj hx).symm
end
section
variable (O : Ops) (ts : List S39) (e : Int)
theorem celF_lt {i a : Int} {r : S48} (h : celF O ts e i = okR (r, a)) : a = i + 1 := by
 unfold celF at h
 split at h
 ·split at h
  ·cases h; rfl
  ·cases h
 ·cases h
theorem refF_len {sheet : ByteArray} {i a : Int} {l : List S50} (h : refF O ts e sheet i = okR (l, a)) : (l.length : Int) ≤ a - i := by
 unfold refF at h
 obtain ⟨⟨r, b⟩, h1, h2⟩ := bnd_ok h
 have hb := celF_lt O ts e h1
 simp only at h2
 split at h2
 ·obtain ⟨⟨s, c⟩, h3, h4⟩ := bnd_ok h2
  have hc := celF_lt O ts e h3
  cases h4
  simp; omega
 ·cases h2
  simp; omega
theorem perF_len : ∀ (k : Nat) (out : List S50) (i a : Int) (l : List S50), perF ts k out i = okR (l, a) → (l.length : Int) ≤ out.length + (a - i)
 | 0, _, _, _, _, h => by cases h
 | k + 1, out, i, a, l, h => by
  rw [perF] at h
  split at h
  ·have := perF_len k _ _ _ _ h
   simp at this; omega
  ·cases h; omega
theorem len_all : ∀ k : Nat,
 (∀ (least i a : Int) (l : List S50), binF O ts e k least i = okR (l, a) → (l.length : Int) ≤ a - i) ∧
 (∀ (least : Int) (left : List S50) (i a : Int) (l : List S50), lopF O ts e k least left i = okR (l, a) → (l.length : Int) ≤ left.length + (a - i)) ∧
 (∀ (i a : Int) (l : List S50), sgnF O ts e k i = okR (l, a) → (l.length : Int) ≤ a - i) ∧
 (∀ (i a : Int) (l : List S50), parF O ts e k i = okR (l, a) → (l.length : Int) ≤ a - i) ∧
 (∀ (m : ByteArray) (i a : Int) (l : List S50), worF O ts e k m i = okR (l, a) → (l.length : Int) ≤ a - i) ∧
 (∀ (m : ByteArray) (i a : Int) (l : List S50), calF O ts e k m i = okR (l, a) → (l.length : Int) ≤ a - i) ∧
 (∀ (m : ByteArray) (acc : List S50) (n i a : Int) (l : List S50), argF O ts e k m acc n i = okR (l, a) → (l.length : Int) ≤ acc.length + (a - i)) := by
 intro k
 induction k with
 | zero =>
  refine ⟨?_, ?_, ?_, ?_, ?_, ?_, ?_⟩
  ·intro _ _ _ _ h; rw [binF] at h; cases h
  ·intro _ _ _ _ _ h; rw [lopF] at h; cases h
  ·intro _ _ _ h; rw [sgnF] at h; cases h
  ·intro _ _ _ h; rw [parF] at h; cases h
  ·intro _ _ _ _ h; rw [worF] at h; cases h
  ·intro _ _ _ _ h; rw [calF] at h; cases h
  ·intro _ _ _ _ _ _ h; rw [argF] at h; cases h
 | succ k ih =>
  obtain ⟨g1, g2, g3, g4, g5, g6, g7⟩ := ih
  refine ⟨?_, ?_, ?_, ?_, ?_, ?_, ?_⟩
  ·intro least i a l h
   rw [binF] at h
   split at h
   ·exact g3 _ _ _ h
   ·obtain ⟨⟨x, b⟩, h1, h2⟩ := bnd_ok h
    have := g1 _ _ _ _ h1
    have := g2 _ _ _ _ _ h2
    omega
  ·intro least left i a l h
   rw [lopF] at h
   split at h
   ·cases h; omega
   ·obtain ⟨⟨x, b⟩, h1, h2⟩ := bnd_ok h
    have := g1 _ _ _ _ h1
    have := g2 _ _ _ _ _ h2
    simp at this; omega
  ·intro i a l h
   rw [sgnF] at h
   split at h
   ·obtain ⟨⟨x, b⟩, h1, h2⟩ := bnd_ok h
    have := g3 _ _ _ h1
    cases h2; simp; omega
   ·split at h
    ·obtain ⟨⟨x, b⟩, h1, h2⟩ := bnd_ok h
     have := g3 _ _ _ h1
     cases h2; simp; omega
    ·obtain ⟨⟨x, b⟩, h1, h2⟩ := bnd_ok h
     have := g4 _ _ _ h1
     have := perF_len ts _ _ _ _ _ h2
     omega
  ·intro i a l h
   rw [parF] at h
   split at h
   ·obtain ⟨⟨x, b⟩, h1, h2⟩ := bnd_ok h
    have := g1 _ _ _ _ h1
    simp only at h2
    split at h2
    ·cases h2; omega
    ·cases h2
   ·split at h
    ·split at h
     ·exact g5 _ _ _ _ h
     ·split at h
      ·split at h
       ·cases h; simp; omega
       ·cases h
      ·split at h
       ·split at h
        ·cases h; simp; omega
        ·cases h
       ·split at h
        ·cases h; simp; omega
        ·cases h
    ·cases h
  ·intro m i a l h
   rw [worF] at h
   split at h
   ·exact g6 _ _ _ _ h
   ·split at h
    ·split at h
     ·have := refF_len O ts e h; omega
     ·cases h
    ·split at h
     ·cases h; simp; omega
     ·split at h
      ·cases h; simp; omega
      ·exact refF_len O ts e h
  ·intro m i a l h
   rw [calF] at h
   split at h
   ·split at h
    ·cases h; simp; omega
    ·have := g7 _ _ _ _ _ _ h; simp at this; omega
   ·cases h
  ·intro m acc n i a l h
   rw [argF] at h
   obtain ⟨⟨x, b⟩, h1, h2⟩ := bnd_ok h
   have := g1 _ _ _ _ h1
   simp only at h2
   split at h2
   ·split at h2
    ·cases h2
    ·have := g7 _ _ _ _ _ _ h2
     simp at this; omega
   ·split at h2
    ·cases h2; simp; omega
    ·cases h2
end
abbrev Tk := Int × ByteArray
structure Lf where
 val : S46 → Tk
 cel : S48 → ByteArray
def mk (l : List UInt8) : Tk := (5, mB l)
def signB (o : Int) : ByteArray :=
 if o = 16 then mB [38] else if o = 11 then mB [43] else if o = 2 then mB [43] else if o = 12 then mB [45] else if o = 1 then mB [45] else if o = 13 then mB [42] else if o = 14 then mB [47] else if o = 15 then mB [94]
 else if o = 21 then mB [61] else if o = 22 then mB [60, 62] else if o = 23 then mB [60] else if o = 24 then mB [60, 61] else if o = 25 then mB [62] else mB [62, 61]
def Ndm (n : S50) : Int := if n.f0 = 5 then Nb9 n.f2 else if n.f0 = 4 ∧ n.f2 ≠ 3 then 6 else 7
def bra (b : Bool) (T : List Tk) : List Tk := if b then mk [40] :: (T ++ [mk [41]]) else T
def refT (L : Lf) (r : S48) : List Tk := if r.f0 = eB then [(3, L.cel r)] else [(3, r.f0), mk [33], (3, L.cel r)]
section
variable (L : Lf)
mutual
def tkF : Nat → Int → List S50 → Option (List Tk × List S50)
 | 0, _, _ => none
 | _ + 1, _, [] => none
 | k + 1, least, n :: r =>
  (if n.f0 = 1 then some ([L.val n.f1], r)
    else if n.f0 = 2 then some (refT L n.f5, r)
    else if n.f0 = 3 then some (refT L n.f5 ++ [mk [58], (3, L.cel n.f6)], r)
    else if n.f0 = 6 then (atkF k true n.f4 r).map fun (T, q) => ((3, n.f3) :: mk [40] :: (T ++ [mk [41]]), q)
    else if n.f0 = 5 then (tkF k (Nb9 n.f2) r).bind fun (T, q) => (tkF k (Nb9 n.f2 + 1) q).map fun (U, p) => (T ++ (5, signB n.f2) :: U, p)
    else if n.f2 = 3 then (tkF k 7 r).map fun (T, q) => (T ++ [mk [37]], q)
    else (tkF k 6 r).map fun (T, q) => ((5, signB n.f2) :: T, q)).map fun (T, q) => (bra (decide (Ndm n < least)) T, q)
def atkF : Nat → Bool → Int → List S50 → Option (List Tk × List S50)
 | 0, _, _, _ => none
 | k + 1, first, m, r => if m ≤ 0 then some ([], r) else (tkF k 1 r).bind fun (T, q) => (atkF k false (m - 1) q).map fun (U, p) => ((if first then T else mk [44] :: T) ++ U, p)
end
end
section
variable (O : Ops) (L : Lf) (ts : List S39) (e : Int)
theorem opOf_cases (m : ByteArray) : opOf m = 0 ∨ opOf m = 11 ∨ opOf m = 12 ∨ opOf m = 13 ∨ opOf m = 14 ∨ opOf m = 15 ∨ opOf m = 16 ∨ opOf m = 21 ∨ opOf m = 22 ∨ opOf m = 23 ∨ opOf m = 24 ∨ opOf m = 25 ∨ opOf m = 26 := by
 unfold opOf
 by_cases h1 : m = mB [43]
 ·rw [if_pos h1]; decide
 rw [if_neg h1]
 by_cases h2 : m = mB [45]
 ·rw [if_pos h2]; decide
 rw [if_neg h2]
 by_cases h3 : m = mB [42]
 ·rw [if_pos h3]; decide
 rw [if_neg h3]
 by_cases h4 : m = mB [47]
 ·rw [if_pos h4]; decide
 rw [if_neg h4]
 by_cases h5 : m = mB [94]
 ·rw [if_pos h5]; decide
 rw [if_neg h5]
 by_cases h6 : m = mB [38]
 ·rw [if_pos h6]; decide
 rw [if_neg h6]
 by_cases h7 : m = mB [61]
 ·rw [if_pos h7]; decide
 rw [if_neg h7]
 by_cases h8 : m = mB [60, 62]
 ·rw [if_pos h8]; decide
 rw [if_neg h8]
 by_cases h9 : m = mB [60]
 ·rw [if_pos h9]; decide
 rw [if_neg h9]
 by_cases h10 : m = mB [60, 61]
 ·rw [if_pos h10]; decide
 rw [if_neg h10]
 by_cases h11 : m = mB [62]
 ·rw [if_pos h11]; decide
 rw [if_neg h11]
 by_cases h12 : m = mB [62, 61]
 ·rw [if_pos h12]; decide
 rw [if_neg h12]
 decide
end
end Go.Proofs.YtejbbceidnaloaaGreatDoor.P
namespace Go.Proofs.YtejbbceidnaloaaGreatDoor.P
open Go.RowKit AW AL AM
def Ndv (o : Int) : Int := if o = 2 then 3 else if o = 1 then 3 else Nb9 o
theorem sign_f (k : Nat) (o : Int) : Na3.f (k + 2) o = some (signB o, Ndv o) := by
 unfold Na3.f signB Ndv Nb9
 simp only [Na3.j0, Na3.j1, beq_iff_eq]
 by_cases h16 : o = 16
 ·subst h16; rfl
 by_cases h11 : o = 11
 ·subst h11; rfl
 by_cases h2 : o = 2
 ·subst h2; rfl
 by_cases h12 : o = 12
 ·subst h12; rfl
 by_cases h1 : o = 1
 ·subst h1; rfl
 by_cases h13 : o = 13
 ·subst h13; rfl
 by_cases h14 : o = 14
 ·subst h14; rfl
 by_cases h15 : o = 15
 ·subst h15; rfl
 simp only [h16, h11, h2, h12, h1, h13, h14, h15, if_false]
 by_cases h21 : o = 21
 ·subst h21; rfl
 by_cases h22 : o = 22
 ·subst h22; rfl
 by_cases h23 : o = 23
 ·subst h23; rfl
 by_cases h24 : o = 24
 ·subst h24; rfl
 by_cases h25 : o = 25
 ·subst h25; rfl
 simp only [h21, h22, h23, h24, h25, if_false]
 rfl
theorem Nca (k : Nat) (m : ByteArray) (o : Int) (h1 : 11 ≤ o) (h2 : o ≤ 26) : Nay.l0 (k + 3) m o = if (o ≤ 16 ∨ 21 ≤ o) ∧ signB o = m then some o else Nay.l0 (k + 2) m (o + 1) := by
 have hw : wrap64 (o + 1) = o + 1 := by unfold wrap64; omega
 rw [Nay.l0, if_pos h2, sign_f]
 unfold Nbl.f
 simp only [Option.bind_some, tl_eq, hw]
 by_cases a : o ≤ 16
 ·rw [if_pos (by omega), if_pos a]
  simp [a]
 ·by_cases b : 21 ≤ o
  ·rw [if_pos (by omega), if_neg a, if_pos (by omega)]
   simp [a, b, h2]
  ·rw [if_pos (by omega), if_neg a, if_neg (by omega)]
   simp [a, b]
theorem operator_f (k : Nat) (m : ByteArray) : Nay.f (k + 20) m = some (opOf m) := by
 unfold Nay.f
 by_cases h0 : m.toList = []
 ·rw [if_pos h0]
  have : m = eB := by rw [← tl_eq, h0, ByteArray.toList_eq]; rfl
  subst this; decide
 rw [if_neg h0]
 rw [show k + 20 = k + 17 + 3 from rfl, Nca _ _ _ (by omega) (by omega)]
 unfold opOf
 by_cases h : m = mB [43]
 ·subst h; rfl
 rw [if_neg h, if_neg (fun hh => h (hh.2.symm.trans rfl)), show k + 17 + 2 = k + 16 + 3 from rfl, Nca _ _ _ (by omega) (by omega)]
 by_cases h : m = mB [45]
 ·subst h; rfl
 rw [if_neg h, if_neg (fun hh => h (hh.2.symm.trans rfl)), show k + 16 + 2 = k + 15 + 3 from rfl, Nca _ _ _ (by omega) (by omega)]
 by_cases h : m = mB [42]
 ·subst h; rfl
 rw [if_neg h, if_neg (fun hh => h (hh.2.symm.trans rfl)), show k + 15 + 2 = k + 14 + 3 from rfl, Nca _ _ _ (by omega) (by omega)]
 by_cases h : m = mB [47]
 ·subst h; rfl
 rw [if_neg h, if_neg (fun hh => h (hh.2.symm.trans rfl)), show k + 14 + 2 = k + 13 + 3 from rfl, Nca _ _ _ (by omega) (by omega)]
 by_cases h : m = mB [94]
 ·subst h; rfl
 rw [if_neg h, if_neg (fun hh => h (hh.2.symm.trans rfl)), show k + 13 + 2 = k + 12 + 3 from rfl, Nca _ _ _ (by omega) (by omega)]
 by_cases h : m = mB [38]
 ·subst h; rfl
 rw [if_neg h, if_neg (fun hh => h (hh.2.symm.trans rfl)), show k + 12 + 2 = k + 11 + 3 from rfl, Nca _ _ _ (by omega) (by omega), if_neg (by omega), show k + 11 + 2 = k + 10 + 3 from rfl, Nca _ _ _ (by omega) (by omega), if_neg (by omega), show k + 10 + 2 = k + 9 + 3 from rfl, Nca _ _ _ (by omega) (by omega), if_neg (by omega), show k + 9 + 2 = k + 8 + 3 from rfl, Nca _ _ _ (by omega) (by omega), if_neg (by omega), show k + 8 + 2 = k + 7 + 3 from rfl, Nca _ _ _ (by omega) (by omega)]
 by_cases h : m = mB [61]
 ·subst h; rfl
 rw [if_neg h, if_neg (fun hh => h (hh.2.symm.trans rfl)), show k + 7 + 2 = k + 6 + 3 from rfl, Nca _ _ _ (by omega) (by omega)]
 by_cases h : m = mB [60, 62]
 ·subst h; rfl
 rw [if_neg h, if_neg (fun hh => h (hh.2.symm.trans rfl)), show k + 6 + 2 = k + 5 + 3 from rfl, Nca _ _ _ (by omega) (by omega)]
 by_cases h : m = mB [60]
 ·subst h; rfl
 rw [if_neg h, if_neg (fun hh => h (hh.2.symm.trans rfl)), show k + 5 + 2 = k + 4 + 3 from rfl, Nca _ _ _ (by omega) (by omega)]
 by_cases h : m = mB [60, 61]
 ·subst h; rfl
 rw [if_neg h, if_neg (fun hh => h (hh.2.symm.trans rfl)), show k + 4 + 2 = k + 3 + 3 from rfl, Nca _ _ _ (by omega) (by omega)]
 by_cases h : m = mB [62]
 ·subst h; rfl
 rw [if_neg h, if_neg (fun hh => h (hh.2.symm.trans rfl)), show k + 3 + 2 = k + 2 + 3 from rfl, Nca _ _ _ (by omega) (by omega)]
 by_cases h : m = mB [62, 61]
 ·subst h; rfl
 rw [if_neg h, if_neg (fun hh => h (hh.2.symm.trans rfl)), Nay.l0, if_neg (by omega)]
theorem operator_any (m : ByteArray) (o : Int) (w : World) (h : opOf m = o) : Calls Tryz.prog 106 #[.string m] w fun e w' => e = .returned (.int .i64 o) ∧ Na4 w w' :=
 Nay.calls 20 m o w (by rw [operator_f 0 m, h])
theorem tight_any (o t : Int) (w : World) (h : Ndv o = t) : Calls Tryz.prog 73 #[.agg #[.int .i64 5, .int .i64 0, .int .i64 0, .int .i64 0, .string ⟨#[]⟩, .bool false, .int .i64 0, .int .i64 o, .string ⟨#[]⟩, .int .i64 0, .string ⟨#[]⟩, .int .i64 0, .int .i64 0, .bool false, .bool false, .string ⟨#[]⟩, .int .i64 0, .int .i64 0, .bool false, .bool false]] w fun e w' => e = .returned (.int .i64 t) ∧ Below w.heap.size w w' :=
 Nct.calls 2 5 0 0 0 ⟨#[]⟩ false 0 o ⟨#[]⟩ 0 ⟨#[]⟩ 0 0 false false ⟨#[]⟩ 0 0 false false t w (by unfold Nct.f; rw [if_pos rfl, sign_f 0 o, h]; rfl)
theorem tightS_op {m : ByteArray} (h : opOf m ≠ 0) : Ndv (opOf m) = Nb9 (opOf m) := by
 rcases opOf_cases m with h' | h' | h' | h' | h' | h' | h' | h' | h' | h' | h' | h' | h'
 ·exact absurd h' h
 all_goals (rw [h']; rfl)
def rdLL (xs : List (List S50)) (i : Int) : (List S50) := xs.getD i.toNat ([] : List S50)
theorem at_LL {w : World} {A : Option Addr} {n : Nat} {xs : List (List S50)} (h : Kd.C (Kd.slice 50 k50) w A n xs) (i : Int) (h0 : 0 ≤ i) (h1 : i < n) : ∃ ad A0 c0, A = some ad ∧ w.cell? (ad.add i.toNat) = some (.slice A0 (rdLL xs i).length c0) ∧ (rdLL xs i).length ≤ c0 ∧ Kd.C k50 w A0 (rdLL xs i).length (rdLL xs i) := by
 obtain ⟨ad, c, e, hl, ⟨A0, c0, rfl, hle, hC⟩, hc⟩ := Kd.C_get h [] i h0 h1
 have := hc 0 (.slice A0 (rdLL xs i).length c0) rfl
 exact ⟨ad, A0, c0, e, by rw [show i.toNat * (Kd.slice 50 k50).sz + 0 = i.toNat from Nat.mul_one _] at this; exact this, hle, hC⟩
theorem flat_snoc (l : List (List S50)) (i : Nat) (h : i < l.length) : (l.take (i + 1)).flatten = (l.take i).flatten ++ rdLL l (i : Int) := by
 rw [List.take_succ_eq_append_getElem h, List.flatten_append]
 have : rdLL l (i : Int) = l[i] := by unfold rdLL; simp [List.getD_eq_getElem?_getD, h]
 rw [this]; simp
theorem flat_le (l : List (List S50)) (i : Nat) : (l.take i).flatten.length ≤ l.flatten.length := by
 conv => rhs; rw [← List.take_append_drop i l, List.flatten_append, List.length_append]
 omega
theorem rd_le (l : List (List S50)) (i : Nat) (h : i < l.length) : ((l.take i).flatten).length + (rdLL l (i : Int)).length ≤ l.flatten.length := by
 have h1 := flat_le l (i + 1)
 rw [flat_snoc l i h, List.length_append] at h1
 exact h1
theorem joined_any (x : S50) (A1 : Option Addr) (c1 : Nat) (l1 : List (List S50)) (w : World) (hr1 : Kd.C (Kd.slice 50 k50) w A1 l1.length l1) (hl1 : l1.length ≤ 1000) (hl : l1.flatten.length ≤ 1000000000) :
 Calls Tryz.prog 108 #[v50 x, .slice A1 l1.length c1] w fun e w' => ∃ v0_ : Value, e = .returned v0_ ∧ Kd.R k50 50 w' w.heap.size (fun _ => True) v0_ (x :: l1.flatten) ∧ Below w.heap.size w w' := by
 have HR1 := lh hr1
 have HL := lh hl
 clear hr1 hl
 show Calls Tryz.prog 108 #[.agg #[.int .i64 x.f0, .int .i64 x.f1.f0, .int .i64 x.f1.f1.f0, .int .i64 x.f1.f1.f1, .string x.f1.f2, .bool x.f1.f3, .int .i64 x.f1.f4, .int .i64 x.f2, .string x.f3, .int .i64 x.f4, .string x.f5.f0, .int .i64 x.f5.f1, .int .i64 x.f5.f2, .bool x.f5.f3, .bool x.f5.f4, .string x.f6.f0, .int .i64 x.f6.f1, .int .i64 x.f6.f2, .bool x.f6.f3, .bool x.f6.f4], .slice A1 l1.length c1] w _
 have hu50 := Tryz.underlying50
 go_enter Tryz.func108, Tryz.ntmps108
 go_wp2_with (first
  | ((with_reducible refine gD 2 rfl ?_); refine bX 2 #[.int .i64 x.f0, .int .i64 x.f1.f0, .int .i64 x.f1.f1.f0, .int .i64 x.f1.f1.f1, .string x.f1.f2, .bool x.f1.f3, .int .i64 x.f1.f4, .int .i64 x.f2, .string x.f3, .int .i64 x.f4, .string x.f5.f0, .int .i64 x.f5.f1, .int .i64 x.f5.f2, .bool x.f5.f3, .bool x.f5.f4, .string x.f6.f0, .int .i64 x.f6.f1, .int .i64 x.f6.f2, .bool x.f6.f3, .bool x.f6.f4] 50 ?_; intro g1 hg_ w1 hb_ hl_; have B1 := lh hl_; have H1 := lh hb_; clear hb_ hl_ hg_)
  | ((with_reducible refine gD 8 rfl ?_); refine lA H1.out 50 (.tmp 2) hu50 ?_)
  | ((with_reducible refine gD 9 rfl ?_); refine Kd.R_lit k50 _ 50 ?hg (N := 9) ?hd (xs := [x]) (inner := [.int .i64 x.f0, .int .i64 x.f1.f0, .int .i64 x.f1.f1.f0, .int .i64 x.f1.f1.f1, .string x.f1.f2, .bool x.f1.f3, .int .i64 x.f1.f4, .int .i64 x.f2, .string x.f3, .int .i64 x.f4, .string x.f5.f0, .int .i64 x.f5.f1, .int .i64 x.f5.f2, .bool x.f5.f3, .bool x.f5.f4, .string x.f6.f0, .int .i64 x.f6.f1, .int .i64 x.f6.f2, .bool x.f6.f3, .bool x.f6.f4]) (ok := fun _ => True) (okp := fun _ => True) ?hr ?hp (fun _ hk => hk) trivial (Below.refl _ _) (Nat.le_refl _) (by simp) ?_; (case hd => rfl); (case hg => rfl); (case hr => go_simp <;> rfl); (case hp => exact (Reps.front (show Kd.M k50 _ _ _ x [.int .i64 x.f0, .int .i64 x.f1.f0, .int .i64 x.f1.f1.f0, .int .i64 x.f1.f1.f1, .string x.f1.f2, .bool x.f1.f3, .int .i64 x.f1.f4, .int .i64 x.f2, .string x.f3, .int .i64 x.f4, .string x.f5.f0, .int .i64 x.f5.f1, .int .i64 x.f5.f2, .bool x.f5.f3, .bool x.f5.f4, .string x.f6.f0, .int .i64 x.f6.f1, .int .i64 x.f6.f2, .bool x.f6.f3, .bool x.f6.f4] from k50_mkM _ _ _ x) rfl (Reps.none _ _) rfl)); intro v1 w2 ho_ hb_ hg_ hn_; have HO := lh (Kd.R_lower ho_ B1.out.size); have B2 := lh (Nac B1.out hb_); clear ho_ hb_ hg_ hn_ H1 B1))
 go_loopw [5, 12] (fun v5 v12 w' => ∃ i : Nat, i ≤ l1.length ∧ v12 = .int .i64 i ∧ Hid (Kd.R k50 50 w' w.heap.size (fun _ => True) v5 (x :: (l1.take i).flatten)) ∧ Hid (Below w.heap.size w w')) (fun _ v12 _ => l1.length - (intOf v12).toNat)
 case atStart => exact ⟨0, by omega, rfl, by simpa using HO, B2⟩
 case round =>
  clear HO B2
  obtain ⟨i, hi, rfl, HO, HB⟩ := hrel
  by_cases hlt : i < l1.length
  ·obtain ⟨ad, A0, c0, e0, hx0, hc0, hk0⟩ := at_LL HR1.out (i : Int) (by omega) (by omega)
   cases e0
   replace hx0 := (HB.out.cell (World.block_lt_of_cell? w _ hx0)).trans hx0
   have HK := lh (Kd.C_below hk0 HB.out)
   have HLen := lh (rd_le l1 i hlt)
   have HFl := lh (flat_snoc l1 i hlt)
   clear hk0 hc0
   rw [Int.toNat_natCast] at hx0
   go_wp2_with (first
    | ((with_reducible refine Nbz (b := .append) (xs := #[.tmp 16, .tmp 17]) rfl ?_); at_builtin; refine Kd.R_append_rows k50 (w0 := w) w.heap.size rfl (.tmp 16) (.tmp 17) 22 50 (.agg #[(.int .i64 0), (.int .i64 0), (.int .i64 0), (.int .i64 0), (.string ⟨#[]⟩), (.bool false), (.int .i64 0), (.int .i64 0), (.string ⟨#[]⟩), (.int .i64 0), (.string ⟨#[]⟩), (.int .i64 0), (.int .i64 0), (.bool false), (.bool false), (.string ⟨#[]⟩), (.int .i64 0), (.int .i64 0), (.bool false), (.bool false)]) 176 rfl Tryz.underlying22 info50 rfl (by decide) (by omega) _ (x :: (l1.take i).flatten) (rdLL l1 (i : Int)) _ _ _ (fun _ => True) (fun _ => False) rfl rfl HO.out HK.out (fun _ _ h => h) (fun _ h => h.elim) (fun _ _ => trivial) HB.out HB.out.size ?aL ?_; (case aL => have := HLen.out; have := HL.out; simp only [List.length_cons]; omega); intro v1 w1 ho_ hb_ hg_ hat_; have HO1 := lh ho_; have HB1 := lh hb_; clear ho_ hb_ hg_ hat_))
   go_roundw
   case rel => exact ⟨i + 1, by omega, by go_num, lh (by rw [HFl.out]; exact HO1.out), HB1⟩
   case measure => simp [intOf]; omega
  ·obtain rfl : i = l1.length := by omega
   have HE := lh (show (l1.take l1.length).flatten = l1.flatten by rw [List.take_length])
   clear hi hlt
   go_wp2
   go_ret
   exact ⟨_, rfl, by rw [← HE.out]; exact HO.out, HB.out⟩
end Go.Proofs.YtejbbceidnaloaaGreatDoor.P
