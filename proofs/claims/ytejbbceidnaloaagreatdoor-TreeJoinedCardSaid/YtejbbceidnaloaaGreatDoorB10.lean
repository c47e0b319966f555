import Derived.Test.YtejbbceidnaloaaGreatDoorB9
set_option linter.unusedVariables false
set_option linter.unusedSimpArgs false
set_option maxRecDepth 100000
set_option maxHeartbeats 8000000
namespace Go.Proofs.YtejbbceidnaloaaGreatDoor.P
open Go.RowKit AW AL AM
theorem gcd_l0 : ∀ (k : Nat) (x y : Nat), y < k → Ncb.l0 k (x : Int) (y : Int) = some ((Nat.gcd x y : Nat) : Int)
 | 0, _, _, h => absurd h (Nat.not_lt_zero _)
 | k + 1, x, y, h => by
  rw [Ncb.l0]
  by_cases hy : y = 0
  ·subst hy
   rw [if_neg (by omega)]
   simp
  ·rw [if_pos (by omega), if_neg (by omega)]
   have e : Int.tmod (x : Int) (y : Int) = ((x % y : Nat) : Int) := rfl
   have hlt : x % y < y := Nat.mod_lt _ (by omega)
   rw [e, gcd_l0 k y (x % y) (by omega), Nat.gcd_comm x y, Nat.gcd_rec y x, Nat.gcd_comm]
theorem size_f (n : Int) (h1 : -1000000000000 ≤ n) (h2 : n ≤ 1000000000000) : Nbo.f n = some (n.natAbs : Int) := by
 unfold Nbo.f
 by_cases hn : n < 0
 ·rw [if_pos hn]
  simp only [IntKind.wrap]
  congr 1
  simp [IntKind.bits, IntKind.signed]
  omega
 ·rw [if_neg hn]
  simp only [IntKind.wrap]
  congr 1
  simp [IntKind.bits, IntKind.signed]
  omega
def numB (n d : Int) : Bool := decide (-1000000000000 ≤ n ∧ n ≤ 1000000000000 ∧ 1 ≤ d ∧ d ≤ 1000000 ∧ Nat.gcd n.natAbs d.natAbs = 1)
theorem Ne5 (n d : Int) (k : Nat) (hk : 1000002 ≤ k) : Na8.f k n d = some (numB n d) := by
 obtain ⟨k, rfl⟩ : ∃ y, k = y + 1 := ⟨k - 1, by omega⟩
 unfold Na8.f
 by_cases h1 : n < -1000000000000
 ·rw [if_pos h1, Na8.j0]; simp [numB]; omega
 rw [if_neg h1]
 by_cases h2 : n > 1000000000000
 ·rw [if_pos h2, Na8.j0]; simp [numB]; omega
 rw [if_neg h2]
 by_cases h3 : d < 1
 ·rw [if_pos h3, Na8.j0]; simp [numB]; omega
 rw [if_neg h3, Na8.j0]
 by_cases h4 : d > 1000000
 ·rw [if_pos (by simpa using h4)]; simp [numB]; omega
 rw [if_neg (by simpa using h4), size_f n (by omega) (by omega)]
 have hw : IntKind.u64.wrap d = (d.natAbs : Int) := by
  simp only [IntKind.wrap]
  simp [IntKind.bits, IntKind.signed]
  omega
 simp only [Option.bind_some, hw]
 unfold Ncb.f
 rw [gcd_l0 k _ _ (by omega)]
 simp only [Option.bind_some, numB]
 congr 1
 have e : -1000000000000 ≤ n ∧ n ≤ 1000000000000 ∧ 1 ≤ d ∧ d ≤ 1000000 := by omega
 by_cases hg : Nat.gcd n.natAbs d.natAbs = 1
 ·simp [hg, e]
 ·have : ¬ (((Nat.gcd n.natAbs d.natAbs : Nat) : Int) = 1) := by omega
  simp [hg, this]
def plainC (c : UInt8) : Bool := decide (32 ≤ c.toNat ∧ c.toNat ≤ 126)
def plainB (s : ByteArray) : Bool := s.data.toList.all plainC
theorem plain_l0 (s : ByteArray) (hs : s.size ≤ 1000) : ∀ (d i k : Nat), s.size - i = d → i ≤ s.size → d < k → Naw.l0 k s (s.size : Int) (i : Int) = some ((s.data.toList.drop i).all plainC) := by
 intro d
 induction d with
 | zero =>
  intro i k hd hi hk
  obtain ⟨k, rfl⟩ : ∃ y, k = y + 1 := ⟨k - 1, by omega⟩
  rw [Naw.l0, if_neg (by omega), List.drop_eq_nil_of_le (by simp; omega)]
  rfl
 | succ d ih =>
  intro i k hd hi hk
  obtain ⟨k, rfl⟩ : ∃ y, k = y + 1 := ⟨k - 1, by omega⟩
  have hlt : i < s.size := by omega
  have hw : wrap64 ((i : Int) + 1) = ((i + 1 : Nat) : Int) := by unfold wrap64; omega
  have hd' : s.data.toList.drop i = s.data.toList[i]'(by simpa using hlt) :: s.data.toList.drop (i + 1) := List.drop_eq_getElem_cons (by simpa using hlt)
  rw [Naw.l0, if_pos (by omega), if_pos (by omega), if_pos (by omega), bt_nat s i hlt, hw, hd', List.all_cons, ih (i + 1) k (by omega) (by omega) (by omega)]
  unfold plainC
  by_cases h1 : (s.data.toList[i]'(by simpa using hlt)).toNat < 32
  ·have h1' : ¬ 32 ≤ (s.data.toList[i]'(by simpa using hlt)).toNat := by omega
   rw [if_pos (by omega)]
   rw [decide_eq_false (fun h => h1' h.1)]
   rfl
  ·rw [if_neg (by omega)]
   by_cases h2 : (s.data.toList[i]'(by simpa using hlt)).toNat > 126
   ·have h2' : ¬ (s.data.toList[i]'(by simpa using hlt)).toNat ≤ 126 := by omega
    rw [if_pos (by omega)]
    rw [decide_eq_false (fun h => h2' h.2)]
    rfl
   ·rw [if_neg (by omega)]
    have e : 32 ≤ (s.data.toList[i]'(by simpa using hlt)).toNat ∧ (s.data.toList[i]'(by simpa using hlt)).toNat ≤ 126 := by omega
    rw [decide_eq_true e]
    rfl
def valB (v0 v1 v2 : Int) (v3 : ByteArray) (v4 : Bool) (v5 : Int) : Bool :=
 (v0 == 0 && v1 == 0 && v2 == 0 && v3.toList == [] && !v4 && v5 == 0) ||
 (v0 == 1 && numB v1 v2 && v3.toList == [] && !v4 && v5 == 0) ||
 (v0 == 2 && v1 == 0 && v2 == 0 && decide (v3.size ≤ 256) && plainB v3 && !v4 && v5 == 0) ||
 (v0 == 3 && v1 == 0 && v2 == 0 && v3.toList == [] && v5 == 0) ||
 (v0 == 4 && v1 == 0 && v2 == 0 && v3.toList == [] && !v4 && decide (1 ≤ v5 ∧ v5 ≤ 8))
theorem Ncu (v0 v1 v2 : Int) (v3 : ByteArray) (v4 : Bool) (v5 : Int) (k : Nat) (hk : 1000002 ≤ k) : Nb3.f k v0 v1 v2 v3 v4 v5 = some (valB v0 v1 v2 v3 v4 v5) := by
 unfold Nb3.f valB
 by_cases h0 : v0 = 0
 ·subst h0; simp [Bool.and_assoc]
 rw [if_neg h0]
 by_cases h1 : v0 = 1
 ·subst h1
  rw [if_pos rfl, Ne5 _ _ k hk]
  cases numB v1 v2 <;> simp [Bool.and_assoc]
 rw [if_neg h1]
 by_cases h2 : v0 = 2
 ·subst h2
  rw [if_pos rfl]
  by_cases hs : v3.size ≤ 256
  ·rw [if_pos (by omega)]
   have hp : Naw.f k v3 = some (plainB v3) := by
    have := plain_l0 v3 (by omega) v3.size 0 k (by omega) (by omega) (by omega)
    unfold Naw.f
    rw [show (0 : Int) = ((0 : Nat) : Int) from rfl, this]
    rfl
   rw [hp]
   cases plainB v3 <;> simp [hs, Bool.and_assoc]
  ·rw [if_neg (by omega)]
   simp [hs]
 rw [if_neg h2]
 by_cases h3 : v0 = 3
 ·subst h3; simp [Bool.and_assoc]
 rw [if_neg h3]
 by_cases h4 : v0 = 4
 ·subst h4
  by_cases h5 : v5 ≥ 1 <;> by_cases h6 : v5 ≤ 8 <;> simp [h5, h6, Bool.and_assoc] <;> omega
 ·simp [h0, h1, h2, h3, h4]
def refB (s : ByteArray) (r c : Int) : Bool := (s.toList == [] || Nd5 s) && decide (0 ≤ r ∧ r < 65536 ∧ 0 ≤ c ∧ c < 256)
theorem Nef (r c : Int) : Nbz.f 0 r c = some (decide (0 ≤ r ∧ r < 65536 ∧ 0 ≤ c ∧ c < 256)) := by
 unfold Nbz.f Ncr.f Ndx.f Nc3.f
 by_cases h1 : 0 ≤ r <;> by_cases h2 : r < 65536 <;> by_cases h3 : 0 ≤ c <;> by_cases h4 : c < 256 <;> simp [h1, h2, h3, h4]
theorem Net (s : ByteArray) (r c : Int) (x y : Bool) (k : Nat) (hk : 18 ≤ k) : Ndo.f k s r c x y = some (refB s r c) := by
 obtain ⟨k, rfl⟩ : ∃ z, k = z + 18 := ⟨k - 18, by omega⟩
 unfold Ndo.f refB
 by_cases h0 : s.toList = []
 ·rw [if_pos h0, Nef]
  simp [h0]
 ·rw [if_neg h0, sheetName_f]
  have h0' : (s.toList == []) = false := beq_eq_false_iff_ne.2 h0
  cases Nd5 s
  ·simp [h0']
  ·simp [h0', Nef]
theorem eqA48 (d : Nat) (w : World) (x0 y0 : ByteArray) (x1 y1 x2 y2 : Int) (x3 y3 x4 y4 : Bool) :
 (Op.equalIn (d + 2) 48 (.agg #[.string x0, .int .i64 x1, .int .i64 x2, .bool x3, .bool x4]) (.agg #[.string y0, .int .i64 y1, .int .i64 y2, .bool y3, .bool y4])).run Tryz.prog w = .ok (x0.toList == y0.toList && (x1 == y1 && (x2 == y2 && (x3 == y3 && (x4 == y4))))) w := by
 refine eqA_of Tryz.underlying48 (by kernel_rfl) ?_
 refine Ncj (by rfl) (by go_simp; rfl) (by go_simp; rfl) (by go_simp) ?_
 refine Ncj (by rfl) (by go_simp; rfl) (by go_simp; rfl) (by go_simp) ?_
 refine Ncj (by rfl) (by go_simp; rfl) (by go_simp; rfl) (by go_simp) ?_
 refine Ncj (by rfl) (by go_simp; rfl) (by go_simp; rfl) (by go_simp) ?_
 exact eqf_last (by rfl) (by go_simp; rfl) (by go_simp; rfl) (by go_simp)
theorem eqA50 (d : Nat) (w : World) (x0 y0 x1 y1 x2 y2 x3 y3 : Int) (x4 y4 : ByteArray) (x5 y5 : Bool) (x6 y6 x7 y7 : Int) (x8 y8 : ByteArray) (x9 y9 : Int) (x10 y10 : ByteArray) (x11 y11 x12 y12 : Int) (x13 y13 x14 y14 : Bool) (x15 y15 : ByteArray) (x16 y16 x17 y17 : Int) (x18 y18 x19 y19 : Bool) :
 (Op.equalIn (d + 4) 50 (.agg #[.int .i64 x0, .int .i64 x1, .int .i64 x2, .int .i64 x3, .string x4, .bool x5, .int .i64 x6, .int .i64 x7, .string x8, .int .i64 x9, .string x10, .int .i64 x11, .int .i64 x12, .bool x13, .bool x14, .string x15, .int .i64 x16, .int .i64 x17, .bool x18, .bool x19]) (.agg #[.int .i64 y0, .int .i64 y1, .int .i64 y2, .int .i64 y3, .string y4, .bool y5, .int .i64 y6, .int .i64 y7, .string y8, .int .i64 y9, .string y10, .int .i64 y11, .int .i64 y12, .bool y13, .bool y14, .string y15, .int .i64 y16, .int .i64 y17, .bool y18, .bool y19])).run Tryz.prog w = .ok (x0 == y0 && ((x1 == y1 && ((x2 == y2 && (x3 == y3)) && (x4.toList == y4.toList && (x5 == y5 && (x6 == y6))))) && (x7 == y7 && (x8.toList == y8.toList && (x9 == y9 && ((x10.toList == y10.toList && (x11 == y11 && (x12 == y12 && (x13 == y13 && (x14 == y14))))) && ((x15.toList == y15.toList && (x16 == y16 && (x17 == y17 && (x18 == y18 && (x19 == y19)))))))))))) w := by
 refine eqA_of Tryz.underlying50 (by kernel_rfl) ?_
 refine Ncj (by rfl) (by go_simp; rfl) (by go_simp; rfl) (by go_simp) ?_
 refine Ncj (by rfl) (by go_simp) (by go_simp) (eqA46 (d + 0) w _ _ _ _ _ _ _ _ _ _ _ _) ?_
 refine Ncj (by rfl) (by go_simp; rfl) (by go_simp; rfl) (by go_simp) ?_
 refine Ncj (by rfl) (by go_simp; rfl) (by go_simp; rfl) (by go_simp) ?_
 refine Ncj (by rfl) (by go_simp; rfl) (by go_simp; rfl) (by go_simp) ?_
 refine Ncj (by rfl) (by go_simp) (by go_simp) (eqA48 (d + 1) w _ _ _ _ _ _ _ _ _ _) ?_
 exact eqf_last (by rfl) (by go_simp) (by go_simp) (eqA48 (d + 1) w _ _ _ _ _ _ _ _ _ _)
end Go.Proofs.YtejbbceidnaloaaGreatDoor.P
