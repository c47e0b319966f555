import Derived.Test.YtejbbceidnaloaaGreatDoorM5
namespace Go.Proofs.YtejbbceidnaloaaGreatDoor.P
open Go.RowKit Go.Proofs.YtejbbceidnaloaaGreatDoorW.PrintWords Go.Proofs.YtejbbceidnaloaaGreatDoorW.PrintLast Go.Proofs.YtejbbceidnaloaaGreatDoorW.PrintMore
set_option linter.unusedVariables false
set_option linter.unusedSimpArgs false
section
attribute [local go_sem] max2_int min2_int max_two min_two max_three min_three max_four min_four
def tree_tight.f (k : Nat) (a0_0 : Int) (a0_1 : Int) (a0_2 : Int) (a0_3 : Int) (a0_4 : ByteArray) (a0_5 : Bool) (a0_6 : Int) (a0_7 : Int) (a0_8 : ByteArray) (a0_9 : Int) (a0_10 : ByteArray) (a0_11 : Int) (a0_12 : Int) (a0_13 : Bool) (a0_14 : Bool) (a0_15 : ByteArray) (a0_16 : Int) (a0_17 : Int) (a0_18 : Bool) (a0_19 : Bool) : Option (Int) := if a0_0 = 5 then ((tree_sign.f k a0_7).bind fun bt102 => (some bt102.2)) else (if a0_0 = 4 then (if a0_7 = 3 then (some 7) else (some 6)) else (some 7))
set_option maxHeartbeats 8000000 in
set_option maxRecDepth 100000 in
theorem tree_tight.calls (k : Nat) (a0_0 : Int) (a0_1 : Int) (a0_2 : Int) (a0_3 : Int) (a0_4 : ByteArray) (a0_5 : Bool) (a0_6 : Int) (a0_7 : Int) (a0_8 : ByteArray) (a0_9 : Int) (a0_10 : ByteArray) (a0_11 : Int) (a0_12 : Int) (a0_13 : Bool) (a0_14 : Bool) (a0_15 : ByteArray) (a0_16 : Int) (a0_17 : Int) (a0_18 : Bool) (a0_19 : Bool) (r : Int) (w : World) (h : tree_tight.f k a0_0 a0_1 a0_2 a0_3 a0_4 a0_5 a0_6 a0_7 a0_8 a0_9 a0_10 a0_11 a0_12 a0_13 a0_14 a0_15 a0_16 a0_17 a0_18 a0_19 = some r) :
 Calls Tryz.prog 73 #[.agg #[.int .i64 a0_0, .int .i64 a0_1, .int .i64 a0_2, .int .i64 a0_3, .string a0_4, .bool a0_5, .int .i64 a0_6, .int .i64 a0_7, .string a0_8, .int .i64 a0_9, .string a0_10, .int .i64 a0_11, .int .i64 a0_12, .bool a0_13, .bool a0_14, .string a0_15, .int .i64 a0_16, .int .i64 a0_17, .bool a0_18, .bool a0_19]] w fun e w' => e = .returned (.int .i64 r) ∧ Below w.heap.size w w' := by
 have hu50 := Tryz.underlying50
 have HB := aM (Below.refl w.heap.size w)
 have H := h
 unfold tree_tight.f at H
 clear h
 by_cases c2 : a0_0 = 5
 ·rw [if_pos c2] at H
  obtain ⟨c2b0, c2b1⟩ := bqT c2
  clear c2
  replace H := Option.bind_eq_some_iff.mp H
  obtain ⟨⟨t102, t103⟩, A30, H⟩ := H
  try dsimp only at H
  have A3 := aM A30
  clear A30
  obtain rfl := Option.some.inj H
  go_enter Tryz.func73, Tryz.ntmps73
  go_wp2_with (first | ((with_reducible refine gate_dst (N := 1) rfl ?_); refine bX 1 #[.int .i64 a0_0, .int .i64 a0_1, .int .i64 a0_2, .int .i64 a0_3, .string a0_4, .bool a0_5, .int .i64 a0_6, .int .i64 a0_7, .string a0_8, .int .i64 a0_9, .string a0_10, .int .i64 a0_11, .int .i64 a0_12, .bool a0_13, .bool a0_14, .string a0_15, .int .i64 a0_16, .int .i64 a0_17, .bool a0_18, .bool a0_19] 50 ?_; intro gb101 hg w4 hbox hb; have BK101 := aM (hbox); have GW101 := aM ((by rw [hg]; exact (below_size bE) : w.heap.size ≤ gb101)); have GE101 := GW101; replace HB := aM (below_step bE hb); clear hb hbox hg; obtain ⟨hcz5_0, hcz5_1, hcz5_2, hcz5_3, hcz5_4, hcz5_5, hcz5_6, hcz5_7, hcz5_8, hcz5_9, hcz5_10, hcz5_11, hcz5_12, hcz5_13, hcz5_14, hcz5_15, hcz5_16, hcz5_17, hcz5_18, hcz5_19, hfz5_0, hfz5_1, hfz5_2, hfz5_3, hfz5_4, hfz5_5, hfz5_6, hfz5_7, hfz5_8, hfz5_9, hfz5_10, hfz5_11, hfz5_12, hfz5_13, hfz5_14, hfz5_15, hfz5_16, hfz5_17, hfz5_18, hfz5_19⟩ := bc20 BK101.out) | ((with_reducible refine gate_callee (f := 74) rfl ?_); refine gL 12 Tryz.func74 #[.int .i64 a0_7] ?_; (with_reducible refine (tree_sign.calls k a0_7 t102 t103 _ A3.out).mono ?_); rintro e w' ⟨rfl, ⟨nd, rfl⟩⟩; refine ⟨_, rfl, ?_⟩))
  go_ret
  exact ⟨eR, bE⟩
 ·rw [if_neg c2] at H
  obtain ⟨c2b0, c2b1⟩ := bqF c2
  by_cases c6 : a0_0 = 4
  ·rw [if_pos c6] at H
   obtain ⟨c6b0, c6b1⟩ := bqT c6
   clear c6
   by_cases c7 : a0_7 = 3
   ·rw [if_pos c7] at H
    obtain ⟨c7b0, c7b1⟩ := bqT c7
    clear c7
    obtain rfl := Option.some.inj H
    go_enter Tryz.func73, Tryz.ntmps73
    go_wp2_with (first | ((with_reducible refine gate_dst (N := 1) rfl ?_); refine bX 1 #[.int .i64 a0_0, .int .i64 a0_1, .int .i64 a0_2, .int .i64 a0_3, .string a0_4, .bool a0_5, .int .i64 a0_6, .int .i64 a0_7, .string a0_8, .int .i64 a0_9, .string a0_10, .int .i64 a0_11, .int .i64 a0_12, .bool a0_13, .bool a0_14, .string a0_15, .int .i64 a0_16, .int .i64 a0_17, .bool a0_18, .bool a0_19] 50 ?_; intro gb101 hg w8 hbox hb; have BK101 := aM (hbox); have GW101 := aM ((by rw [hg]; exact (below_size bE) : w.heap.size ≤ gb101)); have GE101 := GW101; replace HB := aM (below_step bE hb); clear hb hbox hg; obtain ⟨hcz9_0, hcz9_1, hcz9_2, hcz9_3, hcz9_4, hcz9_5, hcz9_6, hcz9_7, hcz9_8, hcz9_9, hcz9_10, hcz9_11, hcz9_12, hcz9_13, hcz9_14, hcz9_15, hcz9_16, hcz9_17, hcz9_18, hcz9_19, hfz9_0, hfz9_1, hfz9_2, hfz9_3, hfz9_4, hfz9_5, hfz9_6, hfz9_7, hfz9_8, hfz9_9, hfz9_10, hfz9_11, hfz9_12, hfz9_13, hfz9_14, hfz9_15, hfz9_16, hfz9_17, hfz9_18, hfz9_19⟩ := bc20 BK101.out))
    go_ret
    exact ⟨eR, bE⟩
   ·rw [if_neg c7] at H
    obtain ⟨c7b0, c7b1⟩ := bqF c7
    obtain rfl := Option.some.inj H
    go_enter Tryz.func73, Tryz.ntmps73
    go_wp2_with (first | ((with_reducible refine gate_dst (N := 1) rfl ?_); refine bX 1 #[.int .i64 a0_0, .int .i64 a0_1, .int .i64 a0_2, .int .i64 a0_3, .string a0_4, .bool a0_5, .int .i64 a0_6, .int .i64 a0_7, .string a0_8, .int .i64 a0_9, .string a0_10, .int .i64 a0_11, .int .i64 a0_12, .bool a0_13, .bool a0_14, .string a0_15, .int .i64 a0_16, .int .i64 a0_17, .bool a0_18, .bool a0_19] 50 ?_; intro gb101 hg w10 hbox hb; have BK101 := aM (hbox); have GW101 := aM ((by rw [hg]; exact (below_size bE) : w.heap.size ≤ gb101)); have GE101 := GW101; replace HB := aM (below_step bE hb); clear hb hbox hg; obtain ⟨hcz11_0, hcz11_1, hcz11_2, hcz11_3, hcz11_4, hcz11_5, hcz11_6, hcz11_7, hcz11_8, hcz11_9, hcz11_10, hcz11_11, hcz11_12, hcz11_13, hcz11_14, hcz11_15, hcz11_16, hcz11_17, hcz11_18, hcz11_19, hfz11_0, hfz11_1, hfz11_2, hfz11_3, hfz11_4, hfz11_5, hfz11_6, hfz11_7, hfz11_8, hfz11_9, hfz11_10, hfz11_11, hfz11_12, hfz11_13, hfz11_14, hfz11_15, hfz11_16, hfz11_17, hfz11_18, hfz11_19⟩ := bc20 BK101.out))
    go_ret
    exact ⟨eR, bE⟩
  ·rw [if_neg c6] at H
   obtain ⟨c6b0, c6b1⟩ := bqF c6
   obtain rfl := Option.some.inj H
   go_enter Tryz.func73, Tryz.ntmps73
   go_wp2_with (first | ((with_reducible refine gate_dst (N := 1) rfl ?_); refine bX 1 #[.int .i64 a0_0, .int .i64 a0_1, .int .i64 a0_2, .int .i64 a0_3, .string a0_4, .bool a0_5, .int .i64 a0_6, .int .i64 a0_7, .string a0_8, .int .i64 a0_9, .string a0_10, .int .i64 a0_11, .int .i64 a0_12, .bool a0_13, .bool a0_14, .string a0_15, .int .i64 a0_16, .int .i64 a0_17, .bool a0_18, .bool a0_19] 50 ?_; intro gb101 hg w12 hbox hb; have BK101 := aM (hbox); have GW101 := aM ((by rw [hg]; exact (below_size bE) : w.heap.size ≤ gb101)); have GE101 := GW101; replace HB := aM (below_step bE hb); clear hb hbox hg; obtain ⟨hcz13_0, hcz13_1, hcz13_2, hcz13_3, hcz13_4, hcz13_5, hcz13_6, hcz13_7, hcz13_8, hcz13_9, hcz13_10, hcz13_11, hcz13_12, hcz13_13, hcz13_14, hcz13_15, hcz13_16, hcz13_17, hcz13_18, hcz13_19, hfz13_0, hfz13_1, hfz13_2, hfz13_3, hfz13_4, hfz13_5, hfz13_6, hfz13_7, hfz13_8, hfz13_9, hfz13_10, hfz13_11, hfz13_12, hfz13_13, hfz13_14, hfz13_15, hfz13_16, hfz13_17, hfz13_18, hfz13_19⟩ := bc20 BK101.out))
   go_ret
   exact ⟨eR, bE⟩
end
end Go.Proofs.YtejbbceidnaloaaGreatDoor.P
namespace Go.Proofs.YtejbbceidnaloaaGreatDoor.P
set_option linter.unusedVariables false
set_option linter.unusedSimpArgs false
section
variable (O : Ops) (ts : List S39) (e : Int)
theorem le_of_step {α : Type} {f : Nat → Option α} (h : ∀ k x, f k = some x → f (k + 1) = some x) {k m : Nat} (hkm : k ≤ m) {x : α} (hx : f k = some x) : f m = some x := by
 induction hkm with
 | refl => exact hx
 | step _ ih => exact h _ _ ih
theorem Fine.range {at_ a : Int} {l : List S50} (h : Fine ts at_ (okR (l, a))) : at_ < a ∧ a ≤ ts.length := by
 obtain ⟨x, e, hx⟩ := h
 exact hx l a (Option.some.inj e).symm
theorem binF_range {k : Nat} {least at_ a : Int} {l : List S50} (h0 : 0 ≤ at_) (h1 : at_ ≤ ts.length) (h2 : 1 ≤ least) (h3 : least ≤ 6) (h : binF O ts e k least at_ = okR (l, a)) : at_ < a ∧ a ≤ ts.length := by
 have hf := (enough O ts e ts.length).1 (k + 16 * ts.length + 12) least at_ h0 h1 (by omega) h2 h3 (by omega)
 rw [le_of_step (f := fun k => binF O ts e k least at_) (fun k x => (mono_all O ts e k).1 least at_ x) (by omega : k ≤ k + 16 * ts.length + 12) h] at hf
 exact Fine.range ts hf
theorem sgnF_range {k : Nat} {at_ a : Int} {l : List S50} (h0 : 0 ≤ at_) (h1 : at_ ≤ ts.length) (h : sgnF O ts e k at_ = okR (l, a)) : at_ < a ∧ a ≤ ts.length := by
 have hf := (enough O ts e ts.length).2.2.1 (k + 16 * ts.length + 12) at_ h0 h1 (by omega) (by omega)
 rw [le_of_step (f := fun k => sgnF O ts e k at_) (fun k x => (mono_all O ts e k).2.2.1 at_ x) (by omega : k ≤ k + 16 * ts.length + 12) h] at hf
 exact Fine.range ts hf
theorem parF_range {k : Nat} {at_ a : Int} {l : List S50} (h0 : 0 ≤ at_) (h1 : at_ ≤ ts.length) (h : parF O ts e k at_ = okR (l, a)) : at_ < a ∧ a ≤ ts.length := by
 have hf := (enough O ts e ts.length).2.2.2.1 (k + 16 * ts.length + 12) at_ h0 h1 (by omega) (by omega)
 rw [le_of_step (f := fun k => parF O ts e k at_) (fun k x => (mono_all O ts e k).2.2.2.1 at_ x) (by omega : k ≤ k + 16 * ts.length + 12) h] at hf
 exact Fine.range ts hf
theorem bnd_ok {α β : Type} {r : Res α} {f : α → Res β} {b : β} (h : r.bnd f = okR b) : ∃ a, r = okR a ∧ f a = okR b := by
 cases r with
 | none => cases h
 | some x => cases x with
  | error p => cases h
  | ok a => exact ⟨a, rfl, h⟩
theorem ok_bnd {α β : Type} {r : Res α} {f : α → Res β} {a : α} (h : r = okR a) : r.bnd f = f a := by rw [h]; rfl
variable {ts}
theorem markA_end {i : Int} (h : ts.length ≤ i) : markA ts i = eB := by unfold markA; rw [if_neg (by omega)]
theorem celF_range {i a : Int} {r : S48} (hc : celF O ts e i = okR (r, a)) : i < a ∧ a ≤ ts.length := by
 obtain ⟨x, hx, h⟩ := celF_fine O ts e i
 rw [hc] at hx
 exact h r a (Option.some.inj hx).symm
end
section
variable (O : Ops) (ts : List S39) (e : Int)
theorem celF_lt {i a : Int} {r : S48} (h : celF O ts e i = okR (r, a)) : a = i + 1 := by
 unfold celF at h
 split at h
 ·split at h
  ·cases h; rfl
  ·cases h
 ·cases h
theorem refF_len {sheet : ByteArray} {i a : Int} {l : List S50} (h : refF O ts e sheet i = okR (l, a)) : (l.length : Int) ≤ a - i := by
 unfold refF at h
 obtain ⟨⟨r, b⟩, h1, h2⟩ := bnd_ok h
 have hb := celF_lt O ts e h1
 simp only at h2
 split at h2
 ·obtain ⟨⟨s, c⟩, h3, h4⟩ := bnd_ok h2
  have hc := celF_lt O ts e h3
  cases h4
  simp; omega
 ·cases h2
  simp; omega
theorem perF_len : ∀ (k : Nat) (out : List S50) (i a : Int) (l : List S50), perF ts k out i = okR (l, a) → (l.length : Int) ≤ out.length + (a - i)
 | 0, _, _, _, _, h => by cases h
 | k + 1, out, i, a, l, h => by
  rw [perF] at h
  split at h
  ·have := perF_len k _ _ _ _ h
   simp at this; omega
  ·cases h; omega
theorem len_all : ∀ k : Nat,
 (∀ (least i a : Int) (l : List S50), binF O ts e k least i = okR (l, a) → (l.length : Int) ≤ a - i) ∧
 (∀ (least : Int) (left : List S50) (i a : Int) (l : List S50), lopF O ts e k least left i = okR (l, a) → (l.length : Int) ≤ left.length + (a - i)) ∧
 (∀ (i a : Int) (l : List S50), sgnF O ts e k i = okR (l, a) → (l.length : Int) ≤ a - i) ∧
 (∀ (i a : Int) (l : List S50), parF O ts e k i = okR (l, a) → (l.length : Int) ≤ a - i) ∧
 (∀ (m : ByteArray) (i a : Int) (l : List S50), worF O ts e k m i = okR (l, a) → (l.length : Int) ≤ a - i) ∧
 (∀ (m : ByteArray) (i a : Int) (l : List S50), calF O ts e k m i = okR (l, a) → (l.length : Int) ≤ a - i) ∧
 (∀ (m : ByteArray) (acc : List S50) (n i a : Int) (l : List S50), argF O ts e k m acc n i = okR (l, a) → (l.length : Int) ≤ acc.length + (a - i)) := by
 intro k
 induction k with
 | zero =>
  refine ⟨?_, ?_, ?_, ?_, ?_, ?_, ?_⟩
  ·intro _ _ _ _ h; rw [binF] at h; cases h
  ·intro _ _ _ _ _ h; rw [lopF] at h; cases h
  ·intro _ _ _ h; rw [sgnF] at h; cases h
  ·intro _ _ _ h; rw [parF] at h; cases h
  ·intro _ _ _ _ h; rw [worF] at h; cases h
  ·intro _ _ _ _ h; rw [calF] at h; cases h
  ·intro _ _ _ _ _ _ h; rw [argF] at h; cases h
 | succ k ih =>
  obtain ⟨g1, g2, g3, g4, g5, g6, g7⟩ := ih
  refine ⟨?_, ?_, ?_, ?_, ?_, ?_, ?_⟩
  ·intro least i a l h
   rw [binF] at h
   split at h
   ·exact g3 _ _ _ h
   ·obtain ⟨⟨x, b⟩, h1, h2⟩ := bnd_ok h
    have := g1 _ _ _ _ h1
    have := g2 _ _ _ _ _ h2
    omega
  ·intro least left i a l h
   rw [lopF] at h
   split at h
   ·cases h; omega
   ·obtain ⟨⟨x, b⟩, h1, h2⟩ := bnd_ok h
    have := g1 _ _ _ _ h1
    have := g2 _ _ _ _ _ h2
    simp at this; omega
  ·intro i a l h
   rw [sgnF] at h
   split at h
   ·obtain ⟨⟨x, b⟩, h1, h2⟩ := bnd_ok h
    have := g3 _ _ _ h1
    cases h2; simp; omega
   ·split at h
    ·obtain ⟨⟨x, b⟩, h1, h2⟩ := bnd_ok h
     have := g3 _ _ _ h1
     cases h2; simp; omega
    ·obtain ⟨⟨x, b⟩, h1, h2⟩ := bnd_ok h
     have := g4 _ _ _ h1
     have := perF_len ts _ _ _ _ _ h2
     omega
  ·intro i a l h
   rw [parF] at h
   split at h
   ·obtain ⟨⟨x, b⟩, h1, h2⟩ := bnd_ok h
    have := g1 _ _ _ _ h1
    simp only at h2
    split at h2
    ·cases h2; omega
    ·cases h2
   ·split at h
    ·split at h
     ·exact g5 _ _ _ _ h
     ·split at h
      ·split at h
       ·cases h; simp; omega
       ·cases h
      ·split at h
       ·split at h
        ·cases h; simp; omega
        ·cases h
       ·split at h
        ·cases h; simp; omega
        ·cases h
    ·cases h
  ·intro m i a l h
   rw [worF] at h
   split at h
   ·exact g6 _ _ _ _ h
   ·split at h
    ·split at h
     ·have := refF_len O ts e h; omega
     ·cases h
    ·split at h
     ·cases h; simp; omega
     ·split at h
      ·cases h; simp; omega
      ·exact refF_len O ts e h
  ·intro m i a l h
   rw [calF] at h
   split at h
   ·split at h
    ·cases h; simp; omega
    ·have := g7 _ _ _ _ _ _ h; simp at this; omega
   ·cases h
  ·intro m acc n i a l h
   rw [argF] at h
   obtain ⟨⟨x, b⟩, h1, h2⟩ := bnd_ok h
   have := g1 _ _ _ _ h1
   simp only at h2
   split at h2
   ·split at h2
    ·cases h2
    ·have := g7 _ _ _ _ _ _ h2
     simp at this; omega
   ·split at h2
    ·cases h2; simp; omega
    ·cases h2
end
abbrev Tk := Int × ByteArray
structure Lf where
 val : S46 → Tk
 cel : S48 → ByteArray
def mk (l : List UInt8) : Tk := (5, mB l)
def signB (o : Int) : ByteArray :=
 if o = 16 then mB [38] else if o = 11 then mB [43] else if o = 2 then mB [43] else if o = 12 then mB [45] else if o = 1 then mB [45] else if o = 13 then mB [42] else if o = 14 then mB [47] else if o = 15 then mB [94]
 else if o = 21 then mB [61] else if o = 22 then mB [60, 62] else if o = 23 then mB [60] else if o = 24 then mB [60, 61] else if o = 25 then mB [62] else mB [62, 61]
def tightN (n : S50) : Int := if n.f0 = 5 then tightO n.f2 else if n.f0 = 4 ∧ n.f2 ≠ 3 then 6 else 7
def bra (b : Bool) (T : List Tk) : List Tk := if b then mk [40] :: (T ++ [mk [41]]) else T
def refT (L : Lf) (r : S48) : List Tk := if r.f0 = eB then [(3, L.cel r)] else [(3, r.f0), mk [33], (3, L.cel r)]
section
variable (L : Lf)
mutual
def tkF : Nat → Int → List S50 → Option (List Tk × List S50)
 | 0, _, _ => none
 | _ + 1, _, [] => none
 | k + 1, least, n :: r =>
  (if n.f0 = 1 then some ([L.val n.f1], r)
    else if n.f0 = 2 then some (refT L n.f5, r)
    else if n.f0 = 3 then some (refT L n.f5 ++ [mk [58], (3, L.cel n.f6)], r)
    else if n.f0 = 6 then (atkF k true n.f4 r).map fun (T, q) => ((3, n.f3) :: mk [40] :: (T ++ [mk [41]]), q)
    else if n.f0 = 5 then (tkF k (tightO n.f2) r).bind fun (T, q) => (tkF k (tightO n.f2 + 1) q).map fun (U, p) => (T ++ (5, signB n.f2) :: U, p)
    else if n.f2 = 3 then (tkF k 7 r).map fun (T, q) => (T ++ [mk [37]], q)
    else (tkF k 6 r).map fun (T, q) => ((5, signB n.f2) :: T, q)).map fun (T, q) => (bra (decide (tightN n < least)) T, q)
def atkF : Nat → Bool → Int → List S50 → Option (List Tk × List S50)
 | 0, _, _, _ => none
 | k + 1, first, m, r => if m ≤ 0 then some ([], r) else (tkF k 1 r).bind fun (T, q) => (atkF k false (m - 1) q).map fun (U, p) => ((if first then T else mk [44] :: T) ++ U, p)
end
end
section
variable (O : Ops) (L : Lf) (ts : List S39) (e : Int)
theorem binF_up {k m : Nat} (hkm : k ≤ m) {least i : Int} {x} (h : binF O ts e k least i = some x) : binF O ts e m least i = some x := le_of_step (f := fun k => binF O ts e k least i) (fun k x => (mono_all O ts e k).1 least i x) hkm h
theorem lopF_up {k m : Nat} (hkm : k ≤ m) {least i : Int} {l : List S50} {x} (h : lopF O ts e k least l i = some x) : lopF O ts e m least l i = some x := le_of_step (f := fun k => lopF O ts e k least l i) (fun k x => (mono_all O ts e k).2.1 least l i x) hkm h
theorem sgnF_up {k m : Nat} (hkm : k ≤ m) {i : Int} {x} (h : sgnF O ts e k i = some x) : sgnF O ts e m i = some x := le_of_step (f := fun k => sgnF O ts e k i) (fun k x => (mono_all O ts e k).2.2.1 i x) hkm h
theorem parF_up {k m : Nat} (hkm : k ≤ m) {i : Int} {x} (h : parF O ts e k i = some x) : parF O ts e m i = some x := le_of_step (f := fun k => parF O ts e k i) (fun k x => (mono_all O ts e k).2.2.2.1 i x) hkm h
theorem argF_up {k m : Nat} (hkm : k ≤ m) {w : ByteArray} {acc : List S50} {n i : Int} {x} (h : argF O ts e k w acc n i = some x) : argF O ts e m w acc n i = some x := le_of_step (f := fun k => argF O ts e k w acc n i) (fun k x => (mono_all O ts e k).2.2.2.2.2.2 w acc n i x) hkm h
theorem perF_up {k m : Nat} (hkm : k ≤ m) {i : Int} {l : List S50} {x} (h : perF ts k l i = some x) : perF ts m l i = some x := le_of_step (f := fun k => perF ts k l i) (fun k x => perF_mono ts k l i x) hkm h
def Has (ts : List S39) : Int → List Tk → Prop
 | i, [] => i ≤ ts.length
 | i, t :: T => i < ts.length ∧ (tokA ts i).f0 = t.1 ∧ (tokA ts i).f1 = t.2 ∧ Has ts (i + 1) T
theorem Has.app {T U : List Tk} : ∀ {i : Int}, Has ts i (T ++ U) → Has ts i T ∧ Has ts (i + T.length) U := by
 induction T with
 | nil =>
  intro i h
  have h' : Has ts i U := h
  refine ⟨?_, by simpa using h'⟩
  cases U with
  | nil => exact h'
  | cons t U => exact Int.le_of_lt h'.1
 | cons t T ih =>
  intro i h
  obtain ⟨a, b, c, d⟩ := h
  obtain ⟨d1, d2⟩ := ih d
  exact ⟨⟨a, b, c, d1⟩, by rw [List.length_cons, show i + ((T.length + 1 : Nat) : Int) = i + 1 + T.length by omega]; exact d2⟩
theorem Has.mark {i : Int} {m : List UInt8} {T : List Tk} (h : Has ts i (mk m :: T)) : markA ts i = mB m := by
 unfold markA; rw [if_pos ⟨h.1, h.2.1⟩]; exact h.2.2.1
theorem Has.markS {i : Int} {m : ByteArray} {T : List Tk} (h : Has ts i ((5, m) :: T)) : markA ts i = m := by
 unfold markA; rw [if_pos ⟨h.1, h.2.1⟩]; exact h.2.2.1
theorem Has.noMark {i : Int} {t : Tk} {T : List Tk} (h : Has ts i (t :: T)) (ht : t.1 ≠ 5) : markA ts i = eB := by
 unfold markA; rw [if_neg (fun hh => ht (h.2.1.symm.trans hh.2))]
def StopB (d : Int) (m : ByteArray) : Prop := m ≠ mB [40] ∧ m ≠ mB [33] ∧ m ≠ mB [58] ∧ (d ≤ 6 → m ≠ mB [37]) ∧ (d ≤ 5 → opOf m ≠ 0 → tightO (opOf m) < d + 1)
def Rd (d i j : Int) (p : List S50) : Prop := StopB d (markA ts j) →
 (d = 7 → ∀ x, (∃ K, perF ts K p j = some x) → ∃ K, sgnF O ts e K i = some x) ∧ (d = 6 → ∃ K, sgnF O ts e K i = okR (p, j)) ∧
 (1 ≤ d → d ≤ 5 → ∀ x, (∃ K, lopF O ts e K d p j = some x) → ∃ K, binF O ts e K d i = some x)
theorem StopB.up {d d' : Int} {m : ByteArray} (h : StopB d m) (hd : d ≤ d') : StopB d' m :=
 ⟨h.1, h.2.1, h.2.2.1, fun a => h.2.2.2.1 (by omega), fun a b => by have := h.2.2.2.2 (by omega) b; omega⟩
theorem lopF_stop {d i : Int} {p : List S50} (h : opOf (markA ts i) ≠ 0 → tightO (opOf (markA ts i)) ≠ d) : lopF O ts e 1 d p i = okR (p, i) := by
 rw [lopF, if_pos]
 by_cases h0 : opOf (markA ts i) = 0
 ·exact .inl h0
 ·exact .inr (h h0)
theorem Rd.six {i j : Int} {p : List S50} (h : Rd O ts e 7 i j p) : Rd O ts e 6 i j p := by
 intro hs
 refine ⟨by omega, fun _ => ?_, by omega⟩
 refine (h (hs.up (by omega))).1 rfl _ ⟨1, ?_⟩
 rw [perF, if_neg (hs.2.2.2.1 (by omega))]
 rfl
theorem Rd.five {i j : Int} {p : List S50} (h : Rd O ts e 6 i j p) : Rd O ts e 5 i j p := by
 intro hs
 refine ⟨by omega, by omega, fun _ _ x hx => ?_⟩
 obtain ⟨K1, h1⟩ := (h (hs.up (by omega))).2.1 rfl
 obtain ⟨K2, h2⟩ := hx
 refine ⟨K1 + K2 + 2, ?_⟩
 rw [binF, if_neg (by omega)]
 show (binF O ts e (K1 + K2 + 1) 6 i).bnd _ = _
 rw [binF, if_pos rfl, ok_bnd (sgnF_up O ts e (by omega) h1)]
 exact lopF_up O ts e (by omega) h2
theorem Rd.low {d i j : Int} {p : List S50} (h : Rd O ts e (d + 1) i j p) (h1 : 1 ≤ d) (h5 : d ≤ 4) : Rd O ts e d i j p := by
 intro hs
 refine ⟨by omega, by omega, fun _ _ x hx => ?_⟩
 obtain ⟨K1, g1⟩ := (h (hs.up (by omega))).2.2 (by omega) (by omega) _ ⟨1, lopF_stop O ts e (fun h0 => by have := hs.2.2.2.2 (by omega) h0; omega)⟩
 obtain ⟨K2, g2⟩ := hx
 refine ⟨K1 + K2 + 1, ?_⟩
 rw [binF, if_neg (by omega), ok_bnd (binF_up O ts e (by omega) g1)]
 exact lopF_up O ts e (by omega) g2
theorem Rd.down {t least i j : Int} {p : List S50} (h : Rd O ts e t i j p) (h1 : 1 ≤ least) (hl : least ≤ t) (ht : t ≤ 7) : Rd O ts e least i j p := by
 have aux : ∀ (n : Nat) (t : Int), (t - least).toNat = n → least ≤ t → t ≤ 7 → Rd O ts e t i j p → Rd O ts e least i j p := by
  intro n
  induction n with
  | zero => intro t a b c d; obtain rfl : t = least := by omega
            exact d
  | succ n ih =>
   intro t a b c d
   refine ih (t - 1) (by omega) (by omega) (by omega) ?_
   rcases (by omega : t = 7 ∨ t = 6 ∨ t ≤ 5) with rfl | rfl | h5
   ·exact d.six O ts e
   ·exact d.five O ts e
   ·exact Rd.low O ts e (d := t - 1) (by rw [show t - 1 + 1 = t by omega]; exact d) (by omega) (by omega)
 exact aux _ t rfl hl ht h
theorem Rd.bin {d i j : Int} {p : List S50} (h : Rd O ts e d i j p) (h1 : 1 ≤ d) (h6 : d ≤ 6) (hs : StopB d (markA ts j)) (hn : d ≤ 5 → opOf (markA ts j) ≠ 0 → tightO (opOf (markA ts j)) ≠ d) : ∃ K, binF O ts e K d i = okR (p, j) := by
 rcases (by omega : d = 6 ∨ d ≤ 5) with rfl | h5
 ·obtain ⟨K, g⟩ := (h hs).2.1 rfl
  exact ⟨K + 1, by rw [binF, if_pos rfl]; exact g⟩
 ·exact (h hs).2.2 h1 h5 _ ⟨1, lopF_stop O ts e (hn h5)⟩
theorem Rd.part {i j : Int} {p : List S50} (h1 : markA ts i ≠ mB [45]) (h2 : markA ts i ≠ mB [43]) (h : StopB 7 (markA ts j) → ∃ K, parF O ts e K i = okR (p, j)) : Rd O ts e 7 i j p := by
 intro hs
 refine ⟨fun _ x hx => ?_, by omega, by omega⟩
 obtain ⟨K1, g1⟩ := h hs
 obtain ⟨K2, g2⟩ := hx
 refine ⟨K1 + K2 + 1, ?_⟩
 rw [sgnF, if_neg h1, if_neg h2, ok_bnd (parF_up O ts e (by omega) g1)]
 exact perF_up ts (by omega) g2
theorem Rd.brackets {i j : Int} {p : List S50} (ho : markA ts i = mB [40]) (hc : markA ts j = mB [41]) (h : Rd O ts e 1 (i + 1) j p) : Rd O ts e 7 i (j + 1) p := by
 refine Rd.part O ts e (by rw [ho]; decide) (by rw [ho]; decide) (fun _ => ?_)
 obtain ⟨K, g⟩ := Rd.bin O ts e h (by omega) (by omega) (by rw [hc]; exact ⟨by decide, by decide, by decide, fun _ => by decide, fun _ h => absurd (by decide) h⟩) (by rw [hc]; exact fun _ h => absurd (by decide) h)
 refine ⟨K + 1, ?_⟩
 rw [parF, if_pos ho, ok_bnd g]
 simp only
 rw [if_pos hc]
def LeafOk (n : S50) : Prop :=
 (∃ v, n = nVal v ∧ (((L.val v).1 = 1 ∧ O.num (L.val v).2 = some v) ∨ ((L.val v).1 = 2 ∧ (L.val v).2.size ≤ 256 ∧ O.txt (L.val v).2 = v) ∨ ((L.val v).1 = 3 ∧ (((L.val v).2 = tTRUE ∧ v = O.tru true) ∨ ((L.val v).2 = tFALSE ∧ v = O.tru false))) ∨ ((L.val v).1 = 4 ∧ O.flt (L.val v).2 = v))) ∨
 (∃ r, n = nCell r ∧ (r.f0 = eB ∨ O.sh r.f0 = true) ∧ L.cel r ≠ tTRUE ∧ L.cel r ≠ tFALSE ∧ O.cell (L.cel r) = some ⟨eB, r.f1, r.f2, r.f3, r.f4⟩) ∨
 (∃ r s, n = nArea r s ∧ (r.f0 = eB ∨ O.sh r.f0 = true) ∧ L.cel r ≠ tTRUE ∧ L.cel r ≠ tFALSE ∧ O.cell (L.cel r) = some ⟨eB, r.f1, r.f2, r.f3, r.f4⟩ ∧ s.f0 = eB ∧ O.cell (L.cel s) = some s) ∨
 (∃ o, n = nUn o ∧ (o = 1 ∨ o = 2 ∨ o = 3)) ∨
 (∃ o, n = nBin o ∧ opOf (signB o) = o ∧ o ≠ 0) ∨
 (∃ m c, n = nCall m c ∧ O.fn m = true ∧ 0 ≤ c ∧ c ≤ 30)
theorem celF_tok {i : Int} {w : ByteArray} {T : List Tk} {r : S48} (h : Has ts i ((3, w) :: T)) (hr : O.cell w = some r) (h1 : markA ts (i + 1) ≠ mB [40]) (h2 : markA ts (i + 1) ≠ mB [33]) : celF O ts e i = okR (r, i + 1) := by
 unfold celF
 rw [if_pos ⟨h.1, h.2.1, h1, h2⟩, h.2.2.1, hr]
theorem refF_cell {i : Int} {w sheet : ByteArray} {T : List Tk} {r : S48} (h : Has ts i ((3, w) :: T)) (hr : O.cell w = some r) (hs : StopB 7 (markA ts (i + 1))) : refF O ts e sheet i = okR ([nCell ⟨sheet, r.f1, r.f2, r.f3, r.f4⟩], i + 1) := by
 unfold refF
 rw [ok_bnd (celF_tok O ts e h hr hs.1 hs.2.1)]
 simp only
 rw [if_neg hs.2.2.1]
theorem refF_area {i : Int} {w u sheet : ByteArray} {T : List Tk} {r s : S48} (h : Has ts i ((3, w) :: mk [58] :: (3, u) :: T)) (hr : O.cell w = some r) (hu : O.cell u = some s) (hs : StopB 7 (markA ts (i + 3))) : refF O ts e sheet i = okR ([nArea ⟨sheet, r.f1, r.f2, r.f3, r.f4⟩ s], i + 3) := by
 have h1 := h.2.2.2
 have hm := Has.mark ts h1
 have h2 := h1.2.2.2
 unfold refF
 rw [ok_bnd (celF_tok O ts e h hr (by rw [hm]; decide) (by rw [hm]; decide))]
 simp only
 rw [if_pos hm, ok_bnd (celF_tok O ts e h2 hu (by rw [show i + 1 + 1 + 1 = i + 3 by omega]; exact hs.1) (by rw [show i + 1 + 1 + 1 = i + 3 by omega]; exact hs.2.1))]
 show okR _ = okR _
 rw [show i + 1 + 1 + 1 = i + 3 by omega]
theorem parF_word {i : Int} {w : ByteArray} {T : List Tk} (h : Has ts i ((3, w) :: T)) (k : Nat) : parF O ts e (k + 1) i = worF O ts e k w i := by
 have hm := Has.noMark ts h (show (3 : Int) ≠ 5 by decide)
 rw [parF, if_neg (by rw [hm]; decide), if_pos h.1, if_pos h.2.1, h.2.2.1]
theorem opOf_cases (m : ByteArray) : opOf m = 0 ∨ opOf m = 11 ∨ opOf m = 12 ∨ opOf m = 13 ∨ opOf m = 14 ∨ opOf m = 15 ∨ opOf m = 16 ∨ opOf m = 21 ∨ opOf m = 22 ∨ opOf m = 23 ∨ opOf m = 24 ∨ opOf m = 25 ∨ opOf m = 26 := by
 unfold opOf
 by_cases h1 : m = mB [43]
 ·rw [if_pos h1]; decide
 rw [if_neg h1]
 by_cases h2 : m = mB [45]
 ·rw [if_pos h2]; decide
 rw [if_neg h2]
 by_cases h3 : m = mB [42]
 ·rw [if_pos h3]; decide
 rw [if_neg h3]
 by_cases h4 : m = mB [47]
 ·rw [if_pos h4]; decide
 rw [if_neg h4]
 by_cases h5 : m = mB [94]
 ·rw [if_pos h5]; decide
 rw [if_neg h5]
 by_cases h6 : m = mB [38]
 ·rw [if_pos h6]; decide
 rw [if_neg h6]
 by_cases h7 : m = mB [61]
 ·rw [if_pos h7]; decide
 rw [if_neg h7]
 by_cases h8 : m = mB [60, 62]
 ·rw [if_pos h8]; decide
 rw [if_neg h8]
 by_cases h9 : m = mB [60]
 ·rw [if_pos h9]; decide
 rw [if_neg h9]
 by_cases h10 : m = mB [60, 61]
 ·rw [if_pos h10]; decide
 rw [if_neg h10]
 by_cases h11 : m = mB [62]
 ·rw [if_pos h11]; decide
 rw [if_neg h11]
 by_cases h12 : m = mB [62, 61]
 ·rw [if_pos h12]; decide
 rw [if_neg h12]
 decide
theorem binop_tight {o : Int} (h : opOf (signB o) = o) (h0 : o ≠ 0) : 1 ≤ tightO o ∧ tightO o ≤ 5 ∧ StopB (tightO o) (signB o) := by
 have hc := opOf_cases (signB o)
 rw [h] at hc
 rcases hc with rfl | rfl | rfl | rfl | rfl | rfl | rfl | rfl | rfl | rfl | rfl | rfl | rfl
 ·exact absurd rfl h0
 all_goals exact ⟨by decide, by decide, by decide, by decide, by decide, fun _ => by decide, fun _ _ => by decide⟩
theorem bra_len (b : Bool) (T : List Tk) : (bra b T).length = if b then T.length + 2 else T.length := by
 unfold bra; cases b <;> simp
theorem Rd.bra {t least : Int} {b : Bool} {i : Int} {T : List Tk} {p : List S50} (h1 : 1 ≤ least) (h7 : least ≤ 7) (t1 : 1 ≤ t) (t7 : t ≤ 7) (hb : b = decide (t < least)) (hh : Has ts i (bra b T)) (h : ∀ i, Has ts i T → Rd O ts e t i (i + T.length) p) : Rd O ts e least i (i + (bra b T).length) p := by
 rw [bra_len]
 cases b with
 | false =>
  have hl : ¬ t < least := of_decide_eq_false hb.symm
  exact (h i hh).down O ts e h1 (by omega) t7
 | true =>
  obtain ⟨ha, hc⟩ := Has.app ts (T := mk [40] :: T) (U := [mk [41]]) hh
  have h2 := h (i + 1) ha.2.2.2
  have hm := Has.mark ts hc
  simp only [if_true]
  have := (Rd.brackets O ts e (i := i) (j := i + 1 + T.length) (Has.mark ts ha) (by rw [← hm]; rw [List.length_cons]; congr 1; omega) (h2.down O ts e (by omega) t1 t7))
  rw [show i + ((T.length + 2 : Nat) : Int) = i + 1 + T.length + 1 by omega]
  exact this.down O ts e h1 h7 (by omega)
theorem tk_head : ∀ (k : Nat) (least : Int) (l : List S50) (T : List Tk) (q : List S50), (∀ n ∈ l, LeafOk O L n) → tkF L k least l = some (T, q) → ∃ t U, T = t :: U ∧ t ≠ mk [41]
 | 0, _, _, _, _, _, h => by rw [tkF] at h; cases h
 | k + 1, _, [], _, _, _, h => by rw [tkF] at h; cases h
 | k + 1, least, n :: r, T, q, hl, h => by
  have hn := hl n (by simp)
  have hr : ∀ m ∈ r, LeafOk O L m := fun m hm => hl m (by simp [hm])
  rw [tkF] at h
  obtain ⟨⟨U, q'⟩, h1, h2⟩ := Option.map_eq_some_iff.1 h
  simp only [Prod.mk.injEq] at h2
  obtain ⟨rfl, rfl⟩ := h2
  suffices hs : ∃ t V, U = t :: V ∧ t ≠ mk [41] by
   obtain ⟨t, V, rfl, ht⟩ := hs
   unfold bra
   split
   ·exact ⟨_, _, rfl, by decide⟩
   ·exact ⟨t, V, rfl, ht⟩
  rcases hn with ⟨v, rfl, hv⟩ | ⟨c, rfl, hc⟩ | ⟨c, s, rfl, hc⟩ | ⟨o, rfl, ho⟩ | ⟨o, rfl, ho, ho0⟩ | ⟨m, c, rfl, hm⟩
  ·change some ([L.val v], r) = some (U, q') at h1
   obtain ⟨rfl, rfl⟩ := Prod.mk.inj (Option.some.inj h1)
   refine ⟨_, _, rfl, fun hh => ?_⟩
   rw [hh] at hv
   simp [mk] at hv
  ·change some (refT L c, r) = some (U, q') at h1
   obtain ⟨rfl, rfl⟩ := Prod.mk.inj (Option.some.inj h1)
   unfold refT
   split
   ·exact ⟨_, _, rfl, by simp [mk]⟩
   ·exact ⟨_, _, rfl, by simp [mk]⟩
  ·change some (refT L c ++ [mk [58], (3, L.cel s)], r) = some (U, q') at h1
   obtain ⟨rfl, rfl⟩ := Prod.mk.inj (Option.some.inj h1)
   unfold refT
   split
   ·exact ⟨_, _, rfl, by simp [mk]⟩
   ·exact ⟨_, _, rfl, by simp [mk]⟩
  ·change (if o = 3 then (tkF L k 7 r).map (fun (T, q) => (T ++ [mk [37]], q)) else (tkF L k 6 r).map (fun (T, q) => ((5, signB o) :: T, q))) = some (U, q') at h1
   split at h1
   ·obtain ⟨⟨V, q2⟩, h3, h4⟩ := Option.map_eq_some_iff.1 h1
    obtain ⟨t, W, rfl, ht⟩ := tk_head k _ _ _ _ hr h3
    obtain ⟨rfl, rfl⟩ := Prod.mk.inj h4
    exact ⟨t, _, rfl, ht⟩
   ·rename_i h3n
    obtain ⟨⟨V, q2⟩, h3, h4⟩ := Option.map_eq_some_iff.1 h1
    obtain ⟨rfl, rfl⟩ := Prod.mk.inj h4
    refine ⟨_, _, rfl, ?_⟩
    have : o = 1 ∨ o = 2 := by
     have : ¬ o = 3 := h3n
     omega
    rcases this with rfl | rfl <;> decide
  ·change (tkF L k (tightO o) r).bind (fun (T, q) => (tkF L k (tightO o + 1) q).map fun (U, p) => (T ++ (5, signB o) :: U, p)) = some (U, q') at h1
   obtain ⟨⟨V, q2⟩, h3, h4⟩ := Option.bind_eq_some_iff.1 h1
   obtain ⟨⟨V2, q3⟩, h5, h6⟩ := Option.map_eq_some_iff.1 h4
   obtain ⟨t, W, rfl, ht⟩ := tk_head k _ _ _ _ hr h3
   obtain ⟨rfl, rfl⟩ := Prod.mk.inj h6
   exact ⟨t, _, rfl, ht⟩
  ·change (atkF L k true c r).map (fun (T, q) => ((3, m) :: mk [40] :: (T ++ [mk [41]]), q)) = some (U, q') at h1
   obtain ⟨⟨V, q2⟩, h3, h4⟩ := Option.map_eq_some_iff.1 h1
   obtain ⟨rfl, rfl⟩ := Prod.mk.inj h4
   exact ⟨_, _, rfl, by simp [mk]⟩
theorem leaf_read {v : S46} {i : Int} {T : List Tk} (hv : (((L.val v).1 = 1 ∧ O.num (L.val v).2 = some v) ∨ ((L.val v).1 = 2 ∧ (L.val v).2.size ≤ 256 ∧ O.txt (L.val v).2 = v) ∨ ((L.val v).1 = 3 ∧ (((L.val v).2 = tTRUE ∧ v = O.tru true) ∨ ((L.val v).2 = tFALSE ∧ v = O.tru false))) ∨ ((L.val v).1 = 4 ∧ O.flt (L.val v).2 = v))) (h : Has ts i (L.val v :: T)) (h1 : markA ts (i + 1) ≠ mB [40]) (h2 : markA ts (i + 1) ≠ mB [33]) : ∃ K, parF O ts e K i = okR ([nVal v], i + 1) := by
 have k5 : (L.val v).1 ≠ 5 := by rcases hv with h | h | h | h <;> omega
 have hm := Has.noMark ts h k5
 obtain ⟨hl, ht1, ht2, _⟩ := h
 refine ⟨2, ?_⟩
 rw [parF, if_neg (by rw [hm]; decide), if_pos hl, ht1, ht2]
 rcases hv with ⟨a, b⟩ | ⟨a, b, c⟩ | ⟨a, b⟩ | ⟨a, b⟩
 ·rw [if_neg (by omega), if_pos a, b]
 ·rw [if_neg (by omega), if_neg (by omega), if_pos a, if_pos b, c]
 ·rw [if_pos a, worF, if_neg h1, if_neg h2]
  rcases b with ⟨b, c⟩ | ⟨b, c⟩
  ·rw [if_pos b, ← c]
  ·rw [if_neg (by rw [b]; decide), if_pos b, ← c]
 ·rw [if_neg (by omega), if_neg (by omega), if_neg (by omega), if_pos a, b]
theorem sheet_ne {r : S48} (h : r.f0 = eB) : (⟨eB, r.f1, r.f2, r.f3, r.f4⟩ : S48) = r := by cases r; cases h; rfl
theorem rt_all : ∀ k : Nat,
 (∀ (least : Int) (l : List S50) (T : List Tk) (q : List S50), 1 ≤ least → least ≤ 7 → (∀ n ∈ l, LeafOk O L n) → tkF L k least l = some (T, q) →
   ∃ p, l = p ++ q ∧ ∀ (ts : List S39) (e i : Int), Has ts i T → Rd O ts e least i (i + T.length) p) ∧
 (∀ (first : Bool) (m : Int) (l : List S50) (T : List Tk) (q : List S50), (∀ n ∈ l, LeafOk O L n) → 1 ≤ m → atkF L k first m l = some (T, q) →
   ∃ p, l = p ++ q ∧ ∀ (ts : List S39) (e i : Int) (name : ByteArray) (acc : List S50) (c : Int), Has ts i T → markA ts (i + T.length) = mB [41] → 0 ≤ c → c + m ≤ 30 →
    ∃ K, argF O ts e K name acc c (if first then i else i + 1) = okR (nCall name (c + m) :: (acc ++ p), i + T.length + 1)) := by
 intro k
 induction k with
 | zero =>
  refine ⟨?_, ?_⟩
  ·intro _ _ _ _ _ _ _ h; rw [tkF] at h; cases h
  ·intro _ _ _ _ _ _ _ h; rw [atkF] at h; cases h
 | succ k ih =>
  obtain ⟨ih1, ih2⟩ := ih
  refine ⟨?_, ?_⟩
  ·intro least l T q g1 g7 hl h
   cases l with
   | nil => rw [tkF] at h; cases h
   | cons n r =>
    have hn := hl n (by simp)
    have hr : ∀ m ∈ r, LeafOk O L m := fun m hm => hl m (by simp [hm])
    rw [tkF] at h
    obtain ⟨⟨U, q'⟩, h1, h2⟩ := Option.map_eq_some_iff.1 h
    simp only [Prod.mk.injEq] at h2
    obtain ⟨rfl, rfl⟩ := h2
    suffices hs : ∃ p, n :: r = p ++ q' ∧ 1 ≤ tightN n ∧ tightN n ≤ 7 ∧ ∀ (ts : List S39) (e i : Int), Has ts i U → Rd O ts e (tightN n) i (i + U.length) p by
     obtain ⟨p, e1, t1, t7, hp⟩ := hs
     exact ⟨p, e1, fun ts e i hh => Rd.bra O ts e g1 g7 t1 t7 rfl hh (fun i hi => hp ts e i hi)⟩
    rcases hn with ⟨v, rfl, hv⟩ | ⟨c, rfl, hc1, hc2, hc3, hc4⟩ | ⟨c, s, rfl, hc1, hc2, hc3, hc4, hc5, hc6⟩ | ⟨o, rfl, ho⟩ | ⟨o, rfl, ho, ho0⟩ | ⟨m, c, rfl, hm, hc0, hc30⟩
    ·change some ([L.val v], r) = some (U, q') at h1
     obtain ⟨rfl, rfl⟩ := Prod.mk.inj (Option.some.inj h1)
     refine ⟨[nVal v], rfl, show (1 : Int) ≤ 7 by decide, show (7 : Int) ≤ 7 by decide, fun ts e i hh => ?_⟩
     have hm := Has.noMark ts hh (by show (L.val v).1 ≠ 5; rcases hv with h | h | h | h <;> omega)
     exact Rd.part O ts e (by rw [hm]; decide) (by rw [hm]; decide) (fun hs => leaf_read O L ts e hv hh hs.1 hs.2.1)
    ·change some (refT L c, r) = some (U, q') at h1
     obtain ⟨rfl, rfl⟩ := Prod.mk.inj (Option.some.inj h1)
     refine ⟨[nCell c], rfl, show (1 : Int) ≤ 7 by decide, show (7 : Int) ≤ 7 by decide, fun ts e i hh => ?_⟩
     show Rd O ts e 7 _ _ _
     unfold refT at hh ⊢
     by_cases he : c.f0 = eB
     ·rw [if_pos he] at hh ⊢
      have hm := Has.noMark ts hh (show (3 : Int) ≠ 5 by decide)
      rw [show i + (([(3, L.cel c)] : List Tk).length : Int) = i + 1 from rfl]
      refine Rd.part O ts e (by rw [hm]; decide) (by rw [hm]; decide) (fun hs => ⟨2, ?_⟩)
      rw [parF_word O ts e hh, worF, if_neg hs.1, if_neg hs.2.1, if_neg hc2, if_neg hc3, refF_cell O ts e hh hc4 hs, sheet_ne he]
     ·rw [if_neg he] at hh ⊢
      have hm := Has.noMark ts hh (show (3 : Int) ≠ 5 by decide)
      have hh2 := hh.2.2.2
      have hm2 := Has.mark ts hh2
      refine Rd.part O ts e (by rw [hm]; decide) (by rw [hm]; decide) (fun hs => ⟨2, ?_⟩)
      rw [parF_word O ts e hh, worF, if_neg (by rw [hm2]; decide), if_pos hm2, if_pos (hc1.resolve_left he), show i + 2 = i + 1 + 1 by omega, refF_cell O ts e hh2.2.2.2 hc4 (by rw [show i + 1 + 1 + 1 = i + 3 by omega]; exact hs), show i + 1 + 1 + 1 = i + 3 by omega]
      rfl
    ·change some (refT L c ++ [mk [58], (3, L.cel s)], r) = some (U, q') at h1
     obtain ⟨rfl, rfl⟩ := Prod.mk.inj (Option.some.inj h1)
     refine ⟨[nArea c s], rfl, show (1 : Int) ≤ 7 by decide, show (7 : Int) ≤ 7 by decide, fun ts e i hh => ?_⟩
     show Rd O ts e 7 _ _ _
     unfold refT at hh ⊢
     by_cases he : c.f0 = eB
     ·rw [if_pos he] at hh ⊢
      have hm := Has.noMark ts hh (show (3 : Int) ≠ 5 by decide)
      have hm2 := Has.mark ts hh.2.2.2
      refine Rd.part O ts e (by rw [hm]; decide) (by rw [hm]; decide) (fun hs => ⟨2, ?_⟩)
      rw [parF_word O ts e hh, worF, if_neg (by rw [hm2]; decide), if_neg (by rw [hm2]; decide), if_neg hc2, if_neg hc3, refF_area O ts e hh hc4 hc6 hs, sheet_ne he]
      rfl
     ·rw [if_neg he] at hh ⊢
      have hm := Has.noMark ts hh (show (3 : Int) ≠ 5 by decide)
      have hh2 := hh.2.2.2
      have hm2 := Has.mark ts hh2
      refine Rd.part O ts e (by rw [hm]; decide) (by rw [hm]; decide) (fun hs => ⟨2, ?_⟩)
      rw [parF_word O ts e hh, worF, if_neg (by rw [hm2]; decide), if_pos hm2, if_pos (hc1.resolve_left he), show i + 2 = i + 1 + 1 by omega, refF_area O ts e hh2.2.2.2 hc4 hc6 (by rw [show i + 1 + 1 + 3 = i + 5 by omega]; exact hs), show i + 1 + 1 + 3 = i + 5 by omega]
      rfl
    ·change (if o = 3 then (tkF L k 7 r).map (fun (T, q) => (T ++ [mk [37]], q)) else (tkF L k 6 r).map (fun (T, q) => ((5, signB o) :: T, q))) = some (U, q') at h1
     by_cases h3 : o = 3
     ·subst h3
      rw [if_pos rfl] at h1
      obtain ⟨⟨V, q2⟩, h3, h4⟩ := Option.map_eq_some_iff.1 h1
      obtain ⟨rfl, rfl⟩ := Prod.mk.inj h4
      obtain ⟨p, rfl, hp⟩ := ih1 7 r V q2 (by omega) (by omega) hr h3
      refine ⟨nUn 3 :: p, rfl, by decide, by decide, fun ts e i hh => ?_⟩
      obtain ⟨ha, hb⟩ := Has.app ts hh
      have hm := Has.mark ts hb
      show Rd O ts e 7 _ _ _
      rw [List.length_append]
      intro hs
      refine ⟨fun _ x hx => ?_, by omega, by omega⟩
      obtain ⟨K, hK⟩ := hx
      refine (hp ts e i ha (by rw [hm]; exact ⟨by decide, by decide, by decide, fun h => by omega, fun h => by omega⟩)).1 rfl x ⟨K + 1, ?_⟩
      rw [perF, if_pos hm]
      rw [show i + ((V.length + [mk [37]].length : Nat) : Int) = i + V.length + 1 by simp; omega] at hK
      exact hK
     ·rw [if_neg h3] at h1
      obtain ⟨⟨V, q2⟩, h3', h4⟩ := Option.map_eq_some_iff.1 h1
      obtain ⟨rfl, rfl⟩ := Prod.mk.inj h4
      obtain ⟨p, rfl, hp⟩ := ih1 6 r V q2 (by omega) (by omega) hr h3'
      have ht : tightN (nUn o) = 6 := by show (if (4 : Int) = 5 then tightO o else if (4 : Int) = 4 ∧ o ≠ 3 then 6 else 7) = 6; rw [if_neg (by decide), if_pos ⟨rfl, h3⟩]
      refine ⟨nUn o :: p, rfl, by rw [ht]; decide, by rw [ht]; decide, fun ts e i hh => ?_⟩
      rw [ht]
      have hm := Has.markS ts hh
      intro hs
      refine ⟨by omega, fun _ => ?_, by omega⟩
      rw [List.length_cons, show i + ((V.length + 1 : Nat) : Int) = i + 1 + V.length by omega] at hs ⊢
      obtain ⟨K, hK⟩ := (hp ts e (i + 1) hh.2.2.2 hs).2.1 rfl
      refine ⟨K + 1, ?_⟩
      rw [sgnF, hm]
      rcases ho with rfl | rfl | rfl
      ·rw [if_pos (by decide), ok_bnd hK]
      ·rw [if_neg (by decide), if_pos (by decide), ok_bnd hK]
      ·exact absurd rfl h3
    ·change (tkF L k (tightO o) r).bind (fun (T, q) => (tkF L k (tightO o + 1) q).map fun (U, p) => (T ++ (5, signB o) :: U, p)) = some (U, q') at h1
     obtain ⟨⟨V, q2⟩, h3, h4⟩ := Option.bind_eq_some_iff.1 h1
     obtain ⟨⟨V2, q3⟩, h5, h6⟩ := Option.map_eq_some_iff.1 h4
     obtain ⟨rfl, rfl⟩ := Prod.mk.inj h6
     obtain ⟨b1, b5, bs⟩ := binop_tight ho ho0
     have ht : tightN (nBin o) = tightO o := rfl
     obtain ⟨p, rfl, hp⟩ := ih1 (tightO o) r V q2 (by omega) (by omega) hr h3
     obtain ⟨p2, rfl, hp2⟩ := ih1 (tightO o + 1) q2 V2 q3 (by omega) (by omega) (fun m hm => hr m (by simp [hm])) h5
     refine ⟨nBin o :: (p ++ p2), by simp, by omega, by omega, fun ts e i hh => ?_⟩
     rw [ht]
     obtain ⟨ha, hb⟩ := Has.app ts hh
     have hm := Has.markS ts hb
     rw [List.length_append, List.length_cons, show i + ((V.length + (V2.length + 1) : Nat) : Int) = i + V.length + 1 + V2.length by omega]
     intro hs
     refine ⟨by omega, by omega, fun _ _ x hx => ?_⟩
     obtain ⟨K2, g2⟩ := hx
     refine (hp ts e i ha (by rw [hm]; exact bs)).2.2 b1 b5 x ?_
     obtain ⟨K1, g1⟩ := Rd.bin O ts e (hp2 ts e (i + V.length + 1) hb.2.2.2) (by omega) (by omega) (hs.up (by omega)) (fun h5 h0 => by have := hs.2.2.2.2 (by omega) h0; omega)
     refine ⟨K1 + K2 + 1, ?_⟩
     rw [lopF, hm, ho, if_neg (by omega), ok_bnd (binF_up O ts e (by omega) g1)]
     exact lopF_up O ts e (by omega) g2
    ·change (atkF L k true c r).map (fun (T, q) => ((3, m) :: mk [40] :: (T ++ [mk [41]]), q)) = some (U, q') at h1
     obtain ⟨⟨V, q2⟩, h3, h4⟩ := Option.map_eq_some_iff.1 h1
     obtain ⟨rfl, rfl⟩ := Prod.mk.inj h4
     rcases (by omega : c = 0 ∨ 1 ≤ c) with rfl | hc1
     ·cases k with
      | zero => rw [atkF] at h3; cases h3
      | succ k =>
       rw [atkF, if_pos (by omega)] at h3
       obtain ⟨rfl, rfl⟩ := Prod.mk.inj (Option.some.inj h3)
       refine ⟨[nCall m 0], rfl, show (1 : Int) ≤ 7 by decide, show (7 : Int) ≤ 7 by decide, fun ts e i hh => ?_⟩
       show Rd O ts e 7 _ _ _
       have h0 := Has.noMark ts hh (show (3 : Int) ≠ 5 by decide)
       have hm2 := Has.mark ts hh.2.2.2
       have hm3 := Has.mark ts hh.2.2.2.2.2.2
       refine Rd.part O ts e (by rw [h0]; decide) (by rw [h0]; decide) (fun hs => ⟨3, ?_⟩)
       rw [parF_word O ts e hh, worF, if_pos hm2, calF, if_pos hm, if_pos (by rw [← hm3]; congr 1; omega)]
       rfl
     ·obtain ⟨p, rfl, hp⟩ := ih2 true c r V q2 hr hc1 h3
      refine ⟨nCall m c :: p, rfl, show (1 : Int) ≤ 7 by decide, show (7 : Int) ≤ 7 by decide, fun ts e i hh => ?_⟩
      show Rd O ts e 7 _ _ _
      have h0 := Has.noMark ts hh (show (3 : Int) ≠ 5 by decide)
      have hm2 := Has.mark ts hh.2.2.2
      obtain ⟨ha, hb⟩ := Has.app ts hh.2.2.2.2.2.2
      have hm3 := Has.mark ts hb
      have hT : ∃ t U, V = t :: U ∧ t ≠ mk [41] := by
       cases k with
       | zero => rw [atkF] at h3; cases h3
       | succ k =>
        rw [atkF, if_neg (by omega)] at h3
        obtain ⟨⟨V1, q3⟩, h5, h6⟩ := Option.bind_eq_some_iff.1 h3
        obtain ⟨⟨V2, q4⟩, h7, h8⟩ := Option.map_eq_some_iff.1 h6
        obtain ⟨t, U, rfl, ht⟩ := tk_head O L _ _ _ _ _ hr h5
        obtain ⟨rfl, _⟩ := Prod.mk.inj h8
        exact ⟨t, _, rfl, ht⟩
      obtain ⟨t, U, rfl, ht⟩ := hT
      have hne : markA ts (i + 1 + 1) ≠ mB [41] := by
       unfold markA
       rw [ha.2.1, ha.2.2.1]
       split
       ·rename_i hh2
        intro hh3
        apply ht
        exact Prod.ext hh2.2 hh3
       ·decide
      refine Rd.part O ts e (by rw [h0]; decide) (by rw [h0]; decide) (fun hs => ?_)
      obtain ⟨K, hK⟩ := hp ts e (i + 1 + 1) m [] 0 ha hm3 (by omega) (by omega)
      refine ⟨K + 3, ?_⟩
      rw [parF_word O ts e hh, worF, if_pos hm2, calF, if_pos hm, if_neg (by rw [show i + 2 = i + 1 + 1 by omega]; exact hne), show i + 2 = i + 1 + 1 by omega]
      simp only [if_true, Int.zero_add, List.nil_append] at hK
      rw [hK]
      simp only [List.length_cons, List.length_append, List.length_nil]
      rw [show i + 1 + 1 + ((U.length + 1 : Nat) : Int) + 1 = i + ((U.length + 1 + (0 + 1) + 1 + 1 : Nat) : Int) by omega]
  ·intro first m l T q hl hm h
   rw [atkF, if_neg (by omega)] at h
   obtain ⟨⟨V1, q3⟩, h5, h6⟩ := Option.bind_eq_some_iff.1 h
   obtain ⟨⟨V2, q4⟩, h7, h8⟩ := Option.map_eq_some_iff.1 h6
   obtain ⟨rfl, rfl⟩ := Prod.mk.inj h8
   obtain ⟨p, rfl, hp⟩ := ih1 1 l V1 q3 (by omega) (by omega) hl h5
   have main : ∃ p2, q3 = p2 ++ q4 ∧ ∀ (ts : List S39) (e i : Int) (name : ByteArray) (acc : List S50) (c : Int), Has ts i (V1 ++ V2) → markA ts (i + V1.length + V2.length) = mB [41] → 0 ≤ c → c + m ≤ 30 →
    ∃ K, argF O ts e K name acc c i = okR (nCall name (c + m) :: (acc ++ (p ++ p2)), i + V1.length + V2.length + 1) := by
    rcases (by omega : m = 1 ∨ 2 ≤ m) with rfl | h2
    ·have hz : V2 = [] ∧ q3 = q4 := by
      cases k with
      | zero => rw [atkF] at h7; cases h7
      | succ k =>
       rw [atkF, if_pos (by omega)] at h7
       obtain ⟨rfl, rfl⟩ := Prod.mk.inj (Option.some.inj h7)
       exact ⟨rfl, rfl⟩
     obtain ⟨rfl, rfl⟩ := hz
     refine ⟨[], rfl, fun ts e i name acc c hh hcl h0 h30 => ?_⟩
     simp only [List.append_nil, List.length_nil, Int.natCast_zero, Int.add_zero] at hh hcl ⊢
     obtain ⟨K, hK⟩ := Rd.bin O ts e (hp ts e i hh) (by omega) (by omega) (by rw [hcl]; exact ⟨by decide, by decide, by decide, fun _ => by decide, fun _ h => absurd (by decide) h⟩) (by rw [hcl]; exact fun _ h => absurd (by decide) h)
     refine ⟨K + 1, ?_⟩
     rw [argF, ok_bnd hK]
     simp only
     rw [if_neg (by rw [hcl]; decide), if_pos hcl]
    ·obtain ⟨p2, rfl, hp2⟩ := ih2 false (m - 1) q3 V2 q4 (fun n hn => hl n (by simp [hn])) (by omega) h7
     refine ⟨p2, rfl, fun ts e i name acc c hh hcl h0 h30 => ?_⟩
     obtain ⟨ha, hb⟩ := Has.app ts hh
     have hcm : markA ts (i + V1.length) = mB [44] := by
      cases k with
      | zero => rw [atkF] at h7; cases h7
      | succ k =>
       rw [atkF, if_neg (by omega)] at h7
       obtain ⟨⟨V3, q5⟩, h9, h10⟩ := Option.bind_eq_some_iff.1 h7
       obtain ⟨⟨V4, q6⟩, h11, h12⟩ := Option.map_eq_some_iff.1 h10
       obtain ⟨rfl, _⟩ := Prod.mk.inj h12
       exact Has.mark ts (T := V3 ++ V4) hb
     obtain ⟨K, hK⟩ := Rd.bin O ts e (hp ts e i ha) (by omega) (by omega) (by rw [hcm]; exact ⟨by decide, by decide, by decide, fun _ => by decide, fun _ h => absurd (by decide) h⟩) (by rw [hcm]; exact fun _ h => absurd (by decide) h)
     obtain ⟨K2, hK2⟩ := hp2 ts e (i + V1.length) name (acc ++ p) (c + 1) hb hcl (by omega) (by omega)
     refine ⟨K + K2 + 1, ?_⟩
     rw [argF, ok_bnd (binF_up O ts e (by omega) hK)]
     simp only
     rw [if_pos hcm, if_neg (by omega)]
     rw [if_neg (by decide)] at hK2
     rw [argF_up O ts e (by omega : K2 ≤ K + K2) hK2, show c + 1 + (m - 1) = c + m by omega, List.append_assoc]
     rfl
   obtain ⟨p2, rfl, hp2⟩ := main
   refine ⟨p ++ p2, by simp, fun ts e i name acc c hh hcl h0 h30 => ?_⟩
   cases first with
   | true =>
    simp only [if_true, List.length_append] at hh hcl ⊢
    rw [show i + ((V1.length + V2.length : Nat) : Int) = i + V1.length + V2.length by omega] at hcl ⊢
    exact hp2 ts e i name acc c hh hcl h0 h30
   | false =>
    simp only [Bool.false_eq_true, if_false, List.length_append, List.length_cons, List.cons_append] at hh hcl ⊢
    rw [show i + ((V1.length + V2.length + 1 : Nat) : Int) = i + 1 + V1.length + V2.length by omega] at hcl ⊢
    exact hp2 ts e (i + 1) name acc c hh.2.2.2 hcl h0 h30
end
end Go.Proofs.YtejbbceidnaloaaGreatDoor.P
namespace Go.Proofs.YtejbbceidnaloaaGreatDoor.P
open Go.RowKit Go.Proofs.YtejbbceidnaloaaGreatDoorW.PrintWords Go.Proofs.YtejbbceidnaloaaGreatDoorW.PrintLast Go.Proofs.YtejbbceidnaloaaGreatDoorW.PrintMore
set_option linter.unusedVariables false
set_option linter.unusedSimpArgs false
def tightS (o : Int) : Int := if o = 2 then 3 else if o = 1 then 3 else tightO o
theorem sign_f (k : Nat) (o : Int) : tree_sign.f (k + 2) o = some (signB o, tightS o) := by
 unfold tree_sign.f signB tightS tightO
 simp only [tree_sign.j0, tree_sign.j1, beq_iff_eq]
 by_cases h16 : o = 16
 ·subst h16; rfl
 by_cases h11 : o = 11
 ·subst h11; rfl
 by_cases h2 : o = 2
 ·subst h2; rfl
 by_cases h12 : o = 12
 ·subst h12; rfl
 by_cases h1 : o = 1
 ·subst h1; rfl
 by_cases h13 : o = 13
 ·subst h13; rfl
 by_cases h14 : o = 14
 ·subst h14; rfl
 by_cases h15 : o = 15
 ·subst h15; rfl
 simp only [h16, h11, h2, h12, h1, h13, h14, h15, if_false]
 by_cases h21 : o = 21
 ·subst h21; rfl
 by_cases h22 : o = 22
 ·subst h22; rfl
 by_cases h23 : o = 23
 ·subst h23; rfl
 by_cases h24 : o = 24
 ·subst h24; rfl
 by_cases h25 : o = 25
 ·subst h25; rfl
 simp only [h21, h22, h23, h24, h25, if_false]
 rfl
theorem op_round (k : Nat) (m : ByteArray) (o : Int) (h1 : 11 ≤ o) (h2 : o ≤ 26) : tree_operator.l0 (k + 3) m o = if (o ≤ 16 ∨ 21 ≤ o) ∧ signB o = m then some o else tree_operator.l0 (k + 2) m (o + 1) := by
 have hw : wrap64 (o + 1) = o + 1 := by unfold wrap64; omega
 rw [tree_operator.l0, if_pos h2, sign_f]
 unfold tree_binary.f
 simp only [Option.bind_some, tl_eq, hw]
 by_cases a : o ≤ 16
 ·rw [if_pos (by omega), if_pos a]
  simp [a]
 ·by_cases b : 21 ≤ o
  ·rw [if_pos (by omega), if_neg a, if_pos (by omega)]
   simp [a, b, h2]
  ·rw [if_pos (by omega), if_neg a, if_neg (by omega)]
   simp [a, b]
theorem operator_f (k : Nat) (m : ByteArray) : tree_operator.f (k + 20) m = some (opOf m) := by
 unfold tree_operator.f
 by_cases h0 : m.toList = []
 ·rw [if_pos h0]
  have : m = eB := by rw [← tl_eq, h0, ByteArray.toList_eq]; rfl
  subst this; decide
 rw [if_neg h0]
 rw [show k + 20 = k + 17 + 3 from rfl, op_round _ _ _ (by omega) (by omega)]
 unfold opOf
 by_cases h : m = mB [43]
 ·subst h; rfl
 rw [if_neg h, if_neg (fun hh => h (hh.2.symm.trans rfl)), show k + 17 + 2 = k + 16 + 3 from rfl, op_round _ _ _ (by omega) (by omega)]
 by_cases h : m = mB [45]
 ·subst h; rfl
 rw [if_neg h, if_neg (fun hh => h (hh.2.symm.trans rfl)), show k + 16 + 2 = k + 15 + 3 from rfl, op_round _ _ _ (by omega) (by omega)]
 by_cases h : m = mB [42]
 ·subst h; rfl
 rw [if_neg h, if_neg (fun hh => h (hh.2.symm.trans rfl)), show k + 15 + 2 = k + 14 + 3 from rfl, op_round _ _ _ (by omega) (by omega)]
 by_cases h : m = mB [47]
 ·subst h; rfl
 rw [if_neg h, if_neg (fun hh => h (hh.2.symm.trans rfl)), show k + 14 + 2 = k + 13 + 3 from rfl, op_round _ _ _ (by omega) (by omega)]
 by_cases h : m = mB [94]
 ·subst h; rfl
 rw [if_neg h, if_neg (fun hh => h (hh.2.symm.trans rfl)), show k + 13 + 2 = k + 12 + 3 from rfl, op_round _ _ _ (by omega) (by omega)]
 by_cases h : m = mB [38]
 ·subst h; rfl
 rw [if_neg h, if_neg (fun hh => h (hh.2.symm.trans rfl)), show k + 12 + 2 = k + 11 + 3 from rfl, op_round _ _ _ (by omega) (by omega), if_neg (by omega), show k + 11 + 2 = k + 10 + 3 from rfl, op_round _ _ _ (by omega) (by omega), if_neg (by omega), show k + 10 + 2 = k + 9 + 3 from rfl, op_round _ _ _ (by omega) (by omega), if_neg (by omega), show k + 9 + 2 = k + 8 + 3 from rfl, op_round _ _ _ (by omega) (by omega), if_neg (by omega), show k + 8 + 2 = k + 7 + 3 from rfl, op_round _ _ _ (by omega) (by omega)]
 by_cases h : m = mB [61]
 ·subst h; rfl
 rw [if_neg h, if_neg (fun hh => h (hh.2.symm.trans rfl)), show k + 7 + 2 = k + 6 + 3 from rfl, op_round _ _ _ (by omega) (by omega)]
 by_cases h : m = mB [60, 62]
 ·subst h; rfl
 rw [if_neg h, if_neg (fun hh => h (hh.2.symm.trans rfl)), show k + 6 + 2 = k + 5 + 3 from rfl, op_round _ _ _ (by omega) (by omega)]
 by_cases h : m = mB [60]
 ·subst h; rfl
 rw [if_neg h, if_neg (fun hh => h (hh.2.symm.trans rfl)), show k + 5 + 2 = k + 4 + 3 from rfl, op_round _ _ _ (by omega) (by omega)]
 by_cases h : m = mB [60, 61]
 ·subst h; rfl
 rw [if_neg h, if_neg (fun hh => h (hh.2.symm.trans rfl)), show k + 4 + 2 = k + 3 + 3 from rfl, op_round _ _ _ (by omega) (by omega)]
 by_cases h : m = mB [62]
 ·subst h; rfl
 rw [if_neg h, if_neg (fun hh => h (hh.2.symm.trans rfl)), show k + 3 + 2 = k + 2 + 3 from rfl, op_round _ _ _ (by omega) (by omega)]
 by_cases h : m = mB [62, 61]
 ·subst h; rfl
 rw [if_neg h, if_neg (fun hh => h (hh.2.symm.trans rfl)), tree_operator.l0, if_neg (by omega)]
theorem operator_any (m : ByteArray) (o : Int) (w : World) (h : opOf m = o) : Calls Tryz.prog 106 #[.string m] w fun e w' => e = .returned (.int .i64 o) ∧ Drawn0 w w' :=
 tree_operator.calls 20 m o w (by rw [operator_f 0 m, h])
theorem tight_any (o t : Int) (w : World) (h : tightS o = t) : Calls Tryz.prog 73 #[.agg #[.int .i64 5, .int .i64 0, .int .i64 0, .int .i64 0, .string ⟨#[]⟩, .bool false, .int .i64 0, .int .i64 o, .string ⟨#[]⟩, .int .i64 0, .string ⟨#[]⟩, .int .i64 0, .int .i64 0, .bool false, .bool false, .string ⟨#[]⟩, .int .i64 0, .int .i64 0, .bool false, .bool false]] w fun e w' => e = .returned (.int .i64 t) ∧ Below w.heap.size w w' :=
 tree_tight.calls 2 5 0 0 0 ⟨#[]⟩ false 0 o ⟨#[]⟩ 0 ⟨#[]⟩ 0 0 false false ⟨#[]⟩ 0 0 false false t w (by unfold tree_tight.f; rw [if_pos rfl, sign_f 0 o, h]; rfl)
theorem tightS_op {m : ByteArray} (h : opOf m ≠ 0) : tightS (opOf m) = tightO (opOf m) := by
 rcases opOf_cases m with h' | h' | h' | h' | h' | h' | h' | h' | h' | h' | h' | h' | h'
 ·exact absurd h' h
 all_goals (rw [h']; rfl)
end Go.Proofs.YtejbbceidnaloaaGreatDoor.P
