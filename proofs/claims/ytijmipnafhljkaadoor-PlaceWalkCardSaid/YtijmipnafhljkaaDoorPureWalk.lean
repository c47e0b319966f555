/-
  PlaceWalk: a cursor tells what At does, from the first cell to the last; of a skip it passes as many: the plain law and the contract.
-/
import Derived.Test.YtijmipnafhljkaaDoorPlainAt
import Derived.Test.YtijmipnafhljkaaDoorPtWalk
import Derived.Laws.BitsLemmas
namespace Go.Proofs.YtijmipnafhljkaaDoor.P
open Go.RowKit Go.Proofs.YtijmipnafhljkaaDoorW.PrintWords Go.Proofs.YtijmipnafhljkaaDoorW.PrintLast Go.Proofs.YtijmipnafhljkaaDoorW.PrintMore
set_option linter.unusedVariables false
set_option linter.unusedSimpArgs false

theorem and_mask (x : Int) (m : Nat) (hm : m < 9223372036854775808) : 0 ≤ Go.bits .and .i64 x (m : Int) := by
  simp only [Go.bits]
  rw [IntKind.wrap_i64]
  have h : (BitVec.ofInt IntKind.i64.bits x &&& BitVec.ofInt IntKind.i64.bits (m : Int)).toNat ≤ m := by
    rw [BitVec.toNat_and]
    refine Nat.le_trans Nat.and_le_right ?_
    rw [BitVec.ofInt_natCast, BitVec.toNat_ofNat]
    exact Nat.mod_le _ _
  omega
theorem Peek_f (k : Nat) (s t l b r p q : Int) (hp : 0 ≤ p) (hq : 0 ≤ q) (hs : p + q = sizeV s t l b r) :
    place_Span_Peek.f (k + 1) s t l b r p q = some ((atV s t l b r p).1, (atV s t l b r p).2.1, (atV s t l b r p).2.2.1, (atV s t l b r p).2.2.2, s, t, l, b, r, p, q) := by
  unfold place_Span_Peek.f
  by_cases h : q = 0
  · rw [if_pos h]
    unfold atV
    rw [if_neg (by omega)]
  · rw [if_neg h, At_f]
    rfl
/-- How many a step passes. -/
def stepV (q : Int) : Int := if q = 0 then 0 else 1
theorem Next_f (k : Nat) (s t l b r p q : Int) (hp : 0 ≤ p) (hq : 0 ≤ q) (hs : p + q = sizeV s t l b r) :
    place_Cursor_Next.f (k + 1) s t l b r p q = some ((atV s t l b r p).1, (atV s t l b r p).2.1, (atV s t l b r p).2.2.1, (atV s t l b r p).2.2.2, s, t, l, b, r, p + stepV q, q - stepV q) := by
  have z := sizeV_le s t l b r
  unfold place_Cursor_Next.f place_Cursor_Skip.f
  rw [Peek_f k s t l b r p q hp hq hs]
  simp only [Option.bind_some]
  have e : mx 0 (mn 1 q) = stepV q := by unfold mx mn stepV; (repeat' split) <;> omega
  have b1 : 0 ≤ stepV q ∧ stepV q ≤ 1 := by unfold stepV; split <;> omega
  have e1 : wrap64 (p + stepV q) = p + stepV q := by unfold wrap64; omega
  have e2 : wrap64 (q - stepV q) = q - stepV q := by unfold wrap64; omega
  rw [e, e1, e2]
theorem walk_l0 (s t l b r m n : Int) (hn : 0 ≤ n) : ∀ (d : Nat) (i q : Int) (k : Nat), q.toNat = d → 0 ≤ i → 0 ≤ q → n + i + q = sizeV s t l b r → 2 * d + 3 < k →
    whittlelaw3_PlaceWalk.l0 k m n i s t l b r s t l b r (n + i) q = some true := by
  intro d
  have z := sizeV_le s t l b r
  induction d with
  | zero =>
    intro i q k hd hi hq hs hk
    obtain ⟨k, rfl⟩ : ∃ y, k = y + 3 := ⟨k - 3, by omega⟩
    have ew : wrap64 (n + i) = n + i := by unfold wrap64; omega
    rw [whittlelaw3_PlaceWalk.l0]
    split
    · rw [ew, At_f]
      simp only [Option.bind_some]
      rw [Peek_f (k + 1) s t l b r (n + i) q (by omega) hq (by omega)]
      simp only [Option.bind_some]
      rw [Next_f (k + 1) s t l b r (n + i) q (by omega) hq (by omega)]
      simp only [Option.bind_some, beq_self_eq_true, Bool.not_true, Bool.or_self, Bool.false_eq_true, if_false, bne_self_eq_false]
      have ea : (atV s t l b r (n + i)).2.2.2 = false := by unfold atV; rw [if_neg (by omega)]
      rw [whittlelaw3_PlaceWalk.j2, if_neg (by simp), ea, if_neg (by simp)]
    · rfl
  | succ d ih =>
    intro i q k hd hi hq hs hk
    obtain ⟨k, rfl⟩ : ∃ y, k = y + 2 := ⟨k - 2, by omega⟩
    have ew : wrap64 (n + i) = n + i := by unfold wrap64; omega
    have ew1 : wrap64 (i + 1) = i + 1 := by unfold wrap64; omega
    rw [whittlelaw3_PlaceWalk.l0]
    split
    · rw [ew, At_f]
      simp only [Option.bind_some]
      rw [Peek_f k s t l b r (n + i) q (by omega) hq (by omega)]
      simp only [Option.bind_some]
      rw [Next_f k s t l b r (n + i) q (by omega) hq (by omega)]
      simp only [Option.bind_some, beq_self_eq_true, Bool.not_true, Bool.or_self, Bool.false_eq_true, if_false, bne_self_eq_false]
      have ea : (atV s t l b r (n + i)).2.2.2 = true := by unfold atV; rw [if_pos (by omega)]
      have es : stepV q = 1 := by unfold stepV; rw [if_neg (by omega)]
      rw [whittlelaw3_PlaceWalk.j2, if_neg (by simp), ea, if_pos rfl, ew1, es, show n + i + 1 = n + (i + 1) by omega]
      exact ih (i + 1) (q - 1) k (by omega) (by omega) (by omega) (by omega) (by omega)
    · rfl
theorem walk_true (s t l b r a1 a2 : Int) : whittlelaw3_PlaceWalk.f (2 * (sizeV s t l b r).toNat + 10) s t l b r a1 a2 = some true := by
  have z := sizeV_le s t l b r
  have hm : 0 ≤ Go.bits .and .i64 a1 16777215 := and_mask a1 16777215 (by omega)
  unfold whittlelaw3_PlaceWalk.f
  obtain ⟨m, hm0⟩ : ∃ m, Go.bits .and .i64 a1 16777215 = m := ⟨_, rfl⟩
  rw [hm0] at hm ⊢
  simp only [able_true, Option.bind_some, if_true]
  unfold place_Over.f place_Cursor_Skip.f place_Span_Passed.f place_Span_Left.f
  rw [Size_f]
  simp only [Option.bind_some]
  have en : mx 0 (mn m (sizeV s t l b r)) = mn m (sizeV s t l b r) := by unfold mx mn; (repeat' split) <;> omega
  rw [en]
  obtain ⟨n, hn⟩ : ∃ n, mn m (sizeV s t l b r) = n := ⟨_, rfl⟩
  have bn : 0 ≤ n ∧ n ≤ sizeV s t l b r := by rw [← hn]; unfold mn; split <;> omega
  rw [hn]
  have e1 : wrap64 (0 + n) = n := by unfold wrap64; omega
  have e2 : wrap64 (sizeV s t l b r - n) = sizeV s t l b r - n := by unfold wrap64; omega
  rw [e1, e2, if_pos rfl, if_pos rfl]
  have ej : (sizeV s t l b r - n != sizeV s t l b r - n) = false := by simp
  rw [ej, whittlelaw3_PlaceWalk.j0, if_neg (by simp)]
  have h := walk_l0 s t l b r (Go.bits .and .i64 a2 255) n bn.1 (sizeV s t l b r - n).toNat 0 (sizeV s t l b r - n) (2 * (sizeV s t l b r).toNat + 9) rfl (by omega) (by omega) (by omega) (by omega)
  rw [Int.add_zero] at h
  exact h
theorem walk_calls (W : World) (a0 a1 a2 a3 a4 : Int) (u0 : -9223372036854775808 ≤ a0 ∧ a0 ≤ 9223372036854775807) (u1 : -9223372036854775808 ≤ a1 ∧ a1 ≤ 9223372036854775807) (u2 : -9223372036854775808 ≤ a2 ∧ a2 ≤ 9223372036854775807) (u3 : -9223372036854775808 ≤ a3 ∧ a3 ≤ 9223372036854775807) (u4 : -9223372036854775808 ≤ a4 ∧ a4 ≤ 9223372036854775807)
    (x : Int) (w0 : -9223372036854775808 ≤ x ∧ x ≤ 9223372036854775807) (y : Int) (w1 : -9223372036854775808 ≤ y ∧ y ≤ 9223372036854775807) :
    Calls Tryd.prog 12 #[.agg #[.int .i64 a0, .int .i64 a1, .int .i64 a2, .int .i64 a3, .int .i64 a4], .int .i64 x, .int .i64 y] W fun e w' => e = .returned (.bool true) ∧ Below W.heap.size W w' :=
  whittlelaw3_PlaceWalk.calls _ _ _ _ _ _ _ _ true W ⟨rfl⟩ (walk_true _ _ _ _ _ _ _)
end Go.Proofs.YtijmipnafhljkaaDoor.P
