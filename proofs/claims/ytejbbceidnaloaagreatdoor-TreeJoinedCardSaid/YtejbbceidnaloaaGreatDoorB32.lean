import Derived.Test.YtejbbceidnaloaaGreatDoorB31
set_option linter.unusedVariables false
set_option linter.unusedSimpArgs false
set_option maxRecDepth 100000
set_option maxHeartbeats 8000000
namespace Go.Proofs.YtejbbceidnaloaaGreatDoor.P
open Go.RowKit AW AL AM
def StopD : List UInt8 → Prop
 | [] => True
 | c :: _ => ¬ isDig c
theorem digits_l0 (l r : List UInt8) (hl : l.length ≤ 100000) (hr : StopD r) : ∀ (b pre : List UInt8) (v K : Nat), l = pre ++ (b ++ r) → v ≤ 1000000000000000000 → (∀ c ∈ b, isDig c) → 2 * b.length + 2 ≤ K →
 Nar.l0 K ⟨l.toArray⟩ (v : Int) (pre.length : Int) = some (if Nb1 v b ≤ 1000000000000000000 then (((Nb1 v b : Nat) : Int), ⟨r.toArray⟩, decide (0 < pre.length + b.length)) else (0, ⟨#[]⟩, false))
 | [], pre, v, K, h, hv, hd, hK => by
  obtain ⟨K, rfl⟩ : ∃ y, K = y + 2 := ⟨K - 2, by omega⟩
  have hlen := congrArg List.length h
  simp only [List.length_append, List.length_nil] at hlen
  have hend : Nar.j1 (K + 1) ⟨l.toArray⟩ (v : Int) (pre.length : Int) false = some ((v : Int), ⟨r.toArray⟩, decide (0 < pre.length)) := by
   rw [Nar.j1, if_neg (by decide), if_pos (by omega), Nal, if_pos (by omega), ext_drop_n]
   have : l.drop pre.length = r := by rw [h, List.nil_append, List.drop_left]
   rw [this]
   congr 3
   simp
  rw [Nds, if_pos hv, List.length_nil, Nat.add_zero, Nar.l0, Nal]
  by_cases hlt : (pre.length : Int) < (l.length : Int)
  ·rw [if_pos hlt, if_pos (by omega)]
   have hil : pre.length < l.length := by omega
   have hb := bt_list l pre.length hil
   cases r with
   | nil => simp at hlen; omega
   | cons c r =>
    have hc : l[pre.length] = c := by simp [h]
    rw [hb, hc]
    unfold StopD isDig at hr
    by_cases h48 : ((c.toNat : Nat) : Int) ≥ 48
    ·rw [if_pos h48, decide_eq_false (by omega), hend, Nat.add_zero]
    ·rw [if_neg h48, hend, Nat.add_zero]
  ·rw [if_neg hlt, hend, Nat.add_zero]
 | c :: b, pre, v, K, h, hv, hd, hK => by
  obtain ⟨K, rfl⟩ : ∃ y, K = y + 2 := ⟨K - 2, by omega⟩
  have hlen := congrArg List.length h
  simp only [List.length_append, List.length_cons] at hlen hK
  have hil : pre.length < l.length := by omega
  have hb := bt_list l pre.length hil
  have hc : l[pre.length] = c := by simp [h]
  have hdc := hd c (List.mem_cons_self ..)
  unfold isDig at hdc
  have hm : (((c.toNat : Nat) : Int) - 48) % 256 = ((c.toNat - 48 : Nat) : Int) := by omega
  rw [Nar.l0, Nal, if_pos (by omega), if_pos (by omega), hb, hc, if_pos (by omega), decide_eq_true (by omega), Nar.j1, if_pos rfl, if_pos (by omega), Nal, if_pos (by omega), hb, hc, hm, Ncz]
  by_cases hov : v * 10 + (c.toNat - 48) ≤ 1000000000000000000
  ·rw [if_neg (by omega)]
   have hw : wrap64 (wrap64 (10 * (v : Int)) + ((c.toNat - 48 : Nat) : Int)) = ((v * 10 + (c.toNat - 48) : Nat) : Int) := by
    have : wrap64 (10 * (v : Int)) = 10 * (v : Int) := by unfold wrap64; omega
    rw [this]; unfold wrap64; omega
   rw [hw, wr1 (by omega) (by omega), show ((pre.length : Int) + 1) = (((pre ++ [c]).length : Nat) : Int) by simp]
   rw [digits_l0 l r hl hr b (pre ++ [c]) _ K (by rw [h]; simp) hov (fun x hx => hd x (List.mem_cons_of_mem _ hx)) (by omega)]
   simp only [List.length_append, List.length_cons, List.length_nil]
   rw [show pre.length + (0 + 1) + b.length = pre.length + (b.length + 1) by omega]
  ·rw [if_pos (by omega), if_neg (by have := decVal_ge b (v * 10 + (c.toNat - 48)); omega)]
theorem digits_f (a r : List UInt8) (hl : (a ++ r).length ≤ 100000) (hr : StopD r) (hd : ∀ c ∈ a, isDig c) {K : Nat} (hK : 2 * a.length + 2 ≤ K) :
 Nar.f K ⟨(a ++ r).toArray⟩ = some (if Nb1 0 a ≤ 1000000000000000000 then (((Nb1 0 a : Nat) : Int), ⟨r.toArray⟩, decide (0 < a.length)) else (0, ⟨#[]⟩, false)) := by
 have := digits_l0 (a ++ r) r hl hr a [] 0 K rfl (by omega) hd hK
 unfold Nar.f
 refine this.trans ?_
 simp
theorem power_l0 : ∀ (d i k K : Nat) (x : Int), k - i = d → i ≤ k → k ≤ 6 → d < K → 0 ≤ x → x * 10 ^ d ≤ 1000000000000 → Nbw.l0 K x (k : Int) (i : Int) = some (x * 10 ^ d)
 | 0, i, k, K, x, hd, hi, hk, hK, h0, hx => by
  obtain ⟨K, rfl⟩ : ∃ y, K = y + 1 := ⟨K - 1, by omega⟩
  rw [Nbw.l0, if_neg (by omega)]; simp
 | d + 1, i, k, K, x, hd, hi, hk, hK, h0, hx => by
  obtain ⟨K, rfl⟩ : ∃ y, K = y + 1 := ⟨K - 1, by omega⟩
  have e : x * 10 ^ (d + 1) = x * 10 * 10 ^ d := by rw [Int.pow_succ, Int.mul_comm (10 ^ d : Int) 10, Int.mul_assoc]
  have hp : (1 : Int) ≤ 10 ^ d := by
   have : (0 : Int) < 10 ^ d := Int.pow_pos (by decide)
   omega
  have hle : x * 10 ≤ x * 10 * 10 ^ d := by
   have := Int.mul_le_mul_of_nonneg_left hp (show 0 ≤ x * 10 by omega)
   omega
  have hw : wrap64 (x * 10) = x * 10 := by unfold wrap64; omega
  rw [Nbw.l0, if_pos (by omega), hw, wr1 (by omega) (by omega), show ((i : Int) + 1) = ((i + 1 : Nat) : Int) by omega, e]
  exact power_l0 d (i + 1) k K (x * 10) (by omega) (by omega) hk (by omega) (by omega) (by omega)
theorem pow_le6 {k : Nat} (hk : k ≤ 6) : 10 ^ k ≤ 1000000 := Nat.pow_le_pow_right (by decide) hk
theorem power_f {k : Nat} (hk : k ≤ 6) {K : Nat} (hK : 8 ≤ K) : Nbw.f K (k : Int) = some (((10 ^ k : Nat)) : Int) := by
 have hp := pow_le6 hk
 have e : ((10 ^ k : Nat) : Int) = 1 * (10 : Int) ^ k := by rw [Int.natCast_pow, Int.one_mul]; rfl
 unfold Nbw.f
 rw [e]
 exact power_l0 k 0 k K 1 rfl (by omega) hk (by omega) (by decide) (by rw [← e]; omega)
def mkN (n d : Nat) : Option (Nat × Nat) := if n / Nat.gcd n d ≤ 1000000000000 ∧ d / Nat.gcd n d ≤ 1000000 then some (n / Nat.gcd n d, d / Nat.gcd n d) else none
def asRead : Option (Nat × Nat) → Int × Int × Bool
 | some (n, d) => ((n : Int), (d : Int), true)
 | none => (0, 0, false)
theorem u64_nat {n : Nat} (h : n < 18446744073709551616) : IntKind.u64.wrap (n : Int) = (n : Int) := by
 simp only [IntKind.wrap]
 simp [IntKind.bits, IntKind.signed]
 omega
theorem make_f {n d : Nat} (hn : n ≤ 9000000000000000000) (h1 : 1 ≤ d) (h2 : d ≤ 1000000) {K : Nat} (hK : 1000003 ≤ K) : Nbh.f K (n : Int) (d : Int) = some (asRead (mkN n d)) := by
 have hs : ∀ m : Nat, m ≤ 9000000000000000000 → Nbo.f (m : Int) = some (m : Int) := by
  intro m hm
  unfold Nbo.f
  rw [if_neg (by omega), u64_nat (by omega)]
 have hg : 0 < Nat.gcd n d := Nat.gcd_pos_of_pos_right _ (by omega)
 obtain ⟨K, rfl⟩ : ∃ y, K = y + 1 := ⟨K - 1, by omega⟩
 unfold Nbh.f
 rw [if_neg (by omega), hs n hn, hs d (by omega)]
 simp only [Option.bind_some]
 unfold Ncb.f
 rw [gcd_l0 (K + 1) n d (by omega)]
 simp only [Option.bind_some]
 have t1 : Int.tdiv (n : Int) ((Nat.gcd n d : Nat) : Int) = ((n / Nat.gcd n d : Nat) : Int) := rfl
 have t2 : Int.tdiv (d : Int) ((Nat.gcd n d : Nat) : Int) = ((d / Nat.gcd n d : Nat) : Int) := rfl
 have l1 : n / Nat.gcd n d ≤ n := Nat.div_le_self _ _
 have l2 : d / Nat.gcd n d ≤ d := Nat.div_le_self _ _
 rw [if_neg (by omega), t1, t2, u64_nat (by omega), u64_nat (by omega)]
 unfold mkN
 generalize n / Nat.gcd n d = x at *
 generalize d / Nat.gcd n d = y at *
 by_cases hx : (x : Int) > 1000000000000
 ·rw [if_pos hx, Nbh.j0, if_pos rfl, if_neg (by omega)]; rfl
 ·rw [if_neg hx]
  by_cases hy : (y : Int) > 1000000
  ·rw [decide_eq_true hy, Nbh.j0, if_pos rfl, if_neg (by omega)]; rfl
  ·have hw1 : wrap64 (x : Int) = (x : Int) := wr_nat (by omega)
   have hw2 : wrap64 (y : Int) = (y : Int) := wr_nat (by omega)
   rw [decide_eq_false hy, Nbh.j0, if_neg (by decide), if_neg (by rw [decide_eq_false (show ¬ (n : Int) < 0 by omega), decide_eq_false (show ¬ (d : Int) < 0 by omega)]; decide), if_pos (by omega), hw1, hw2]
   rfl
theorem wr_big {n : Nat} (h : n ≤ 9000000000000000000) : wrap64 (n : Int) = (n : Int) := by unfold wrap64; omega
theorem frac_arith {A B P : Nat} (hA : A ≤ 1000000000000) (hP : P ≤ 1000000) (hB : B < P) : wrap64 ((A : Int) * (P : Int)) = ((A * P : Nat) : Int) ∧ wrap64 (((A * P : Nat) : Int) + (B : Int)) = ((A * P + B : Nat) : Int) ∧ A * P + B ≤ 9000000000000000000 := by
 have hm : A * P ≤ 1000000000000000000 := Nat.le_trans (Nat.mul_le_mul hA hP) (by decide)
 rw [← Int.natCast_mul]
 generalize A * P = M at *
 rw [← Int.natCast_add]
 exact ⟨wr_big (by omega), wr_big (by omega), by omega⟩
theorem cut_no (c p : UInt8) (r : List UInt8) (hl : r.length < 100000) (h : c ≠ p) : strings_CutPrefix.f ⟨(c :: r).toArray⟩ ⟨#[p]⟩ = some (⟨(c :: r).toArray⟩, false) := by
 unfold strings_CutPrefix.f stringslite_CutPrefix.f
 have := prefix_f (c :: r) [p] (by simp; omega)
 unfold strings_HasPrefix.f at this
 obtain ⟨b, hb, he⟩ := Option.bind_eq_some_iff.1 this
 have hp : ([p] : List UInt8).isPrefixOf (c :: r) = false := by simp [List.isPrefixOf, Ne.symm h]
 rw [hp] at he
 rw [show (⟨#[p]⟩ : ByteArray) = ⟨([p] : List UInt8).toArray⟩ from rfl, hb]
 simp only [Option.bind_some]
 cases he
 rfl
theorem read_int {a : List UInt8} (hl : a.length ≤ 10000) (h0 : a ≠ []) (hd : ∀ c ∈ a, isDig c) {K : Nat} (hK : 1000003 ≤ K) :
 Na7.f K ⟨a.toArray⟩ = some (asRead (if Nb1 0 a ≤ 1000000000000000000 then mkN (Nb1 0 a) 1 else none)) := by
 cases a with
 | nil => exact absurd rfl h0
 | cons c r =>
  have hdc := hd c (List.mem_cons_self ..)
  simp only [List.length_cons] at hl
  unfold Na7.f
  rw [cut_no c 45 r (by omega) (by intro h; rw [h] at hdc; unfold isDig at hdc; revert hdc; decide)]
  simp only [Option.bind_some]
  have := digits_f (c :: r) [] (by simp; omega) trivial hd (K := K) (by simp; omega)
  rw [List.append_nil] at this
  rw [this]
  by_cases hv : Nb1 0 (c :: r) ≤ 1000000000000000000
  ·rw [if_pos hv, if_pos hv]
   simp only [Option.bind_some, List.length_cons]
   rw [if_pos (decide_eq_true (by omega)), if_pos (show (⟨([] : List UInt8).toArray⟩ : ByteArray).toList = [] by rw [ByteArray.toList_eq]), if_neg (by decide), show (1 : Int) = ((1 : Nat) : Int) from rfl, make_f (by omega) (by omega) (by omega) hK]
   rfl
  ·rw [if_neg hv, if_neg hv]
   rfl
theorem read_frac {a b : List UInt8} (hl : a.length + b.length ≤ 10000) (ha : a ≠ []) (hb : b ≠ []) (hda : ∀ c ∈ a, isDig c) (hdb : ∀ c ∈ b, isDig c) {K : Nat} (hK : 1000006 ≤ K) :
 Na7.f K ⟨(a ++ 46 :: b).toArray⟩ = some (asRead (if Nb1 0 a ≤ 1000000000000 ∧ b.length ≤ 6 then mkN (Nb1 0 a * 10 ^ b.length + Nb1 0 b) (10 ^ b.length) else none)) := by
 cases a with
 | nil => exact absurd rfl ha
 | cons c r =>
  have hdc := hda c (List.mem_cons_self ..)
  simp only [List.length_cons] at hl
  unfold Na7.f
  rw [List.cons_append, cut_no c 45 (r ++ 46 :: b) (by simp; omega) (by intro h; rw [h] at hdc; unfold isDig at hdc; revert hdc; decide)]
  simp only [Option.bind_some]
  rw [← List.cons_append, digits_f (c :: r) (46 :: b) (by simp; omega) (show ¬ isDig 46 by unfold isDig; decide) hda (K := K) (by simp; omega)]
  by_cases hv : Nb1 0 (c :: r) ≤ 1000000000000000000
  ·rw [if_pos hv]
   simp only [Option.bind_some, List.length_cons]
   have hne : ¬ (⟨(46 :: b).toArray⟩ : ByteArray).toList = [] := by rw [ByteArray.toList_eq]; simp
   rw [if_pos (decide_eq_true (by omega)), if_neg hne, Nal, if_pos (by simp; omega), ← Nal, ext_drop, List.drop_succ_cons, List.drop_zero]
   have hd2 := digits_f b [] (by simp; omega) trivial hdb (K := K) (by omega)
   rw [List.append_nil] at hd2
   rw [hd2]
   have hbl : 0 < b.length := List.length_pos_iff.2 hb
   obtain ⟨K, rfl⟩ : ∃ y, K = y + 2 := ⟨K - 2, by omega⟩
   have hfail : ∀ (y : Int), Na7.j1 (K + 1) false ((Nb1 0 (c :: r) : Nat) : Int) ⟨(46 :: b).toArray⟩ y true = some (asRead none) := fun y => by rw [Na7.j1, if_pos rfl]; rfl
   by_cases hv2 : Nb1 0 b ≤ 1000000000000000000
   ·rw [if_pos hv2]
    simp only [Option.bind_some]
    rw [if_pos (decide_eq_true hbl)]
    have hbe : ((⟨([] : List UInt8).toArray⟩ : ByteArray).toList != ([] : List UInt8)) = false := by rw [ByteArray.toList_eq]; rfl
    rw [hbe, Na7.j0, if_neg (by decide), Nal, if_pos (by simp only [List.length_cons]; omega), bt_cons, if_neg (by decide), if_pos (by decide)]
    by_cases h7 : (((46 :: b).length : Nat) : Int) > 7
    ·rw [if_pos h7, hfail, if_neg (by simp only [List.length_cons] at h7; omega)]
    ·rw [if_neg h7]
     have hb6 : b.length ≤ 6 := by simp only [List.length_cons] at h7; omega
     by_cases hbig : ((Nb1 0 (c :: r) : Nat) : Int) > 1000000000000
     ·rw [decide_eq_true hbig, hfail, if_neg (by omega)]
     ·have hbl2 := decVal_lt b 0 hdb
      have hp := pow_le6 hb6
      have hpp : 1 ≤ 10 ^ b.length := Nat.pos_of_ne_zero (by simp)
      have hw0 : wrap64 ((((46 :: b).length : Nat) : Int) - 1) = (b.length : Int) := by simp only [List.length_cons]; unfold wrap64; omega
      rw [decide_eq_false hbig, Na7.j1, if_neg (by decide), Nal, hw0, power_f hb6 (by omega)]
      simp only [Option.bind_some]
      obtain ⟨hw1, hw2, hbnd⟩ := frac_arith (A := Nb1 0 (c :: r)) (B := Nb1 0 b) (P := 10 ^ b.length) (by omega) hp (by rw [Nat.zero_add, Nat.one_mul] at hbl2; exact hbl2)
      have hcnd : Nb1 0 (c :: r) ≤ 1000000000000 ∧ b.length ≤ 6 := ⟨by omega, hb6⟩
      have hmk := make_f (K := K) hbnd hpp hp (by omega)
      rw [if_neg (by decide), hw1, hw2, hmk, if_pos hcnd]
      rfl
   ·rw [if_neg hv2]
    simp only [Option.bind_some]
    rw [if_neg (by decide), Na7.j0, if_pos rfl, if_neg (fun h => by
     have hbl2 := decVal_lt b 0 hdb
     have hp := pow_le6 h.2
     omega)]
    rfl
  ·rw [if_neg hv, if_neg (by omega)]
   rfl
theorem read_none {c : UInt8} {r : List UInt8} (hl : r.length ≤ 10000) (h : c ≠ 45) (hd : ¬ isDig c) {K : Nat} (hK : 10 ≤ K) : Na7.f K ⟨(c :: r).toArray⟩ = some (0, 0, false) := by
 unfold Na7.f
 rw [cut_no c 45 r (by omega) h]
 simp only [Option.bind_some]
 have := digits_f [] (c :: r) (by simp; omega) hd (fun x hx => by cases hx) (K := K) (by simp; omega)
 rw [List.nil_append] at this
 rw [this]
 rfl
theorem index_event {ops : Array Oper} {rest : List Oper} {o : Oper} {a : Act} {Q : Exit → Act → World → Prop} {W : World} (hgd : o.guard = none) {t : TypeId} {x y : Operand} (ho : o.op = .index t x y) {c i v : Value} (hx : a.eval x = c) (hy : a.eval y = i) (hr : ∀ W, (Instr.index t c i).run Tryz.prog W = .ok v W)
 (h : wpList Tryz.prog ops Q rest (a.put o.dst v) W) : wpList Tryz.prog ops Q (o :: rest) a W := by
 refine wpList_plain hgd fun K hKK => ?_
 unfold Oper.wp execOp
 simp only [ho, hx, hy, Sem.run_bind, Sem.run_pure, Result.andThen_ok, hr]
 exact hKK _ _ h
theorem iX {ops : Array Oper} {rest : List Oper} {o : Oper} {a : Act} {Q : Exit → Act → World → Prop} {W : World} (k : Int) (s : ByteArray) (h : wpList Tryz.prog ops Q rest (a.put o.dst (.string s)) W) (hgd : o.guard = none := by exact rfl) {t : TypeId} {x y : Operand} (ho : o.op = .index t x y := by exact rfl) (hx : a.eval x = namesV := by exact rfl) (hy : a.eval y = .int .i64 k := by exact rfl) (hr : ∀ W, (Instr.index t namesV (.int .i64 k)).run Tryz.prog W = .ok (.string s) W := by exact fun W => by kernel_rfl) : wpList Tryz.prog ops Q (o :: rest) a W :=
 index_event hgd ho hx hy hr h
def Nel : List (Nat × ByteArray × Int × Int) := [(0, ⟨#[35, 68, 73, 86, 47, 48, 33]⟩, 1, 1), (1, ⟨#[35, 86, 65, 76, 85, 69, 33]⟩, 2, 2), (2, ⟨#[35, 82, 69, 70, 33]⟩, 3, 3), (3, ⟨#[35, 78, 85, 77, 33]⟩, 4, 4), (4, ⟨#[35, 78, 47, 65]⟩, 5, 5), (5, ⟨#[35, 67, 73, 82, 67, 76, 69, 33]⟩, 6, 6), (6, ⟨#[35, 76, 79, 78, 71, 33]⟩, 7, 7), (7, ⟨#[35, 65, 82, 71, 33]⟩, 8, 8)]
theorem fault_no : ∀ q ∈ Nel, strings_CutPrefix.f q.2.1 ⟨#[39]⟩ = some (q.2.1, false) ∧ Na7.f 10 q.2.1 = some (0, 0, false) ∧ q.1 ≤ 7 ∧ Nb4.f q.2.2.1 = some (4, 0, 0, ⟨#[]⟩, false, q.2.2.2) := by
 intro q h
 simp only [Nel, List.mem_cons, List.not_mem_nil, or_false] at h
 rcases h with rfl | rfl | rfl | rfl | rfl | rfl | rfl | rfl <;> exact ⟨cut_no 35 39 _ (by decide) (by decide), read_none (c := 35) (r := _) (by decide) (by decide) (by unfold isDig; decide) (Nat.le_refl _), by decide, rfl⟩
theorem Nc2 (j : Nat) (s : ByteArray) (a r : Int) (hq : (j, s, a, r) ∈ Nel) (w : World) (hG : GL w) :
 Calls Tryz.prog 147 #[.string s] w fun en w' => en = .returned (.agg #[.int .i64 4, .int .i64 0, .int .i64 0, .string ⟨#[]⟩, .bool false, .int .i64 r]) ∧ Below w.heap.size w w' := by
 have HGL := lh hG
 have HC := lh (fault_no _ hq).1
 have HN := lh (fault_no _ hq).2.1
 have hv := (fault_no _ hq).2.2.2
 have HW1 := lh (fun w => Nde.calls true ⟨#[84, 82, 85, 69]⟩ w rfl)
 have HW2 := lh (fun w => Nde.calls false ⟨#[70, 65, 76, 83, 69]⟩ w rfl)
 have HF := lh (fun w => Nb4.calls a 4 0 0 ⟨#[]⟩ false r w hv)
 have hu46 := Tryz.underlying46
 have hu44 := Tryz.underlying44
 clear hG hv
 simp only [Nel, List.mem_cons, List.not_mem_nil, or_false, Prod.mk.injEq] at hq
 rcases hq with ⟨hj, rfl, rfl, hr⟩ | ⟨hj, rfl, rfl, hr⟩ | ⟨hj, rfl, rfl, hr⟩ | ⟨hj, rfl, rfl, hr⟩ | ⟨hj, rfl, rfl, hr⟩ | ⟨hj, rfl, rfl, hr⟩ | ⟨hj, rfl, rfl, hr⟩ | ⟨hj, rfl, rfl, hr⟩
 all_goals
  have HJ := lh hj
  clear hj hr
  simp only at HC HN HF
  go_enter Tryz.func147, Tryz.ntmps147
  go_upto_region 13 with (first
   | ((with_reducible refine gD 2 rfl ?_); refine bX 2 #[.int .i64 0, .int .i64 0, .int .i64 0, .string ⟨#[]⟩, .bool false, .int .i64 0] 46 ?_; intro g2 hg_ w1 hb_ hl_; have B1 := lh hl_; have G2 := lh (show w.heap.size ≤ g2 from hg_ ▸ Nat.le_refl _); have J1 := lh hb_; clear hb_ hl_ hg_)
   | (go_at_call 64; (with_reducible refine (strings_CutPrefix.calls _ ⟨#[39]⟩ _ false _ HC.out).mono ?_); rintro en w2 ⟨rfl, hd_⟩; have B2 := lh (Nac B1.out hd_.below); have J2 := lh (Nad J1.out hd_.below); clear hd_ B1 J1)
   | (go_at_call 179; (with_reducible refine (Na7.calls 10 _ 0 0 false _ HN.out).mono ?_); rintro en w3 ⟨rfl, hb_⟩; have B3 := lh (Nac B2.out hb_); have J3 := lh (Nad J2.out hb_); clear hb_ B2 J2)
   | ((with_reducible refine gD 5 rfl ?_); refine bX 5 #[.int .i64 0, .int .i64 0] 44 ?_; intro g5 hg_ w4 hb_ hl_; have B4 := lh (Nac B3.out hl_); have J4 := lh (Nad J3.out hl_); have G5 := lh (show w.heap.size ≤ g5 from hg_ ▸ B3.out.size); have NE := lh (show g2 ≠ g5 by have := Nbe J3.out; omega); have I4 := lh hb_; clear hb_ hl_ hg_ B3 J3)
   | ((with_reducible refine gate_ (.store 44 (.tmp 5) (.tmp 20)) rfl ?_); refine sE I4.out 44 (.tmp 5) (.tmp 20) 0 (.agg #[.int .i64 0, .int .i64 0]) #[.int .i64 0, .int .i64 0] ?_; intro w5 hb_ hp_; have B5 := lh (hp_.below w G5.out B4.out); have J5 := lh (hp_.blk J4.out NE.out); clear hb_ hp_ B4 J4 I4)
   | (go_at_call 186; (with_reducible refine (HW1.out _).mono ?_); rintro en w6 ⟨rfl, hd_⟩; have B6 := lh (Nac B5.out hd_.below); have J6 := lh (Nad J5.out hd_.below); clear hd_ B5 J5)
   | (go_at_call 186; (with_reducible refine (HW2.out _).mono ?_); rintro en w7 ⟨rfl, hd_⟩; have B7 := lh (Nac B6.out hd_.below); have J7 := lh (Nad J6.out hd_.below); clear hd_ B6 J6))
  have HG7 := lh (HGL.out.below B7.out)
  have n0 : w7.cell? ⟨2, 0, none⟩ = some (.string ⟨#[35, 68, 73, 86, 47, 48, 33]⟩) := Ncv HG7.out 0 (by decide)
  have n1 : w7.cell? ⟨2, 1, none⟩ = some (.string ⟨#[35, 86, 65, 76, 85, 69, 33]⟩) := Ncv HG7.out 1 (by decide)
  have n2 : w7.cell? ⟨2, 2, none⟩ = some (.string ⟨#[35, 82, 69, 70, 33]⟩) := Ncv HG7.out 2 (by decide)
  have n3 : w7.cell? ⟨2, 3, none⟩ = some (.string ⟨#[35, 78, 85, 77, 33]⟩) := Ncv HG7.out 3 (by decide)
  have n4 : w7.cell? ⟨2, 4, none⟩ = some (.string ⟨#[35, 78, 47, 65]⟩) := Ncv HG7.out 4 (by decide)
  have n5 : w7.cell? ⟨2, 5, none⟩ = some (.string ⟨#[35, 67, 73, 82, 67, 76, 69, 33]⟩) := Ncv HG7.out 5 (by decide)
  have n6 : w7.cell? ⟨2, 6, none⟩ = some (.string ⟨#[35, 76, 79, 78, 71, 33]⟩) := Ncv HG7.out 6 (by decide)
  have n7 : w7.cell? ⟨2, 7, none⟩ = some (.string ⟨#[35, 65, 82, 71, 33]⟩) := Ncv HG7.out 7 (by decide)
  have hu134 := Tryz.underlying134
  go_upto_region 14 with (fail)
  clear n0 n1 n2 n3 n4 n5 n6 n7
  go_loop [39] (fun v39 => ∃ k : Nat, k ≤ j ∧ v39 = .int .i64 k) (fun v39 => 8 - (intOf v39).toNat)
  case atStart => exact ⟨0, by omega, rfl⟩
  case round =>
   obtain ⟨k, hk, rfl⟩ := hrel
   have hj := HJ.out
   have hkk : k = 0 ∨ k = 1 ∨ k = 2 ∨ k = 3 ∨ k = 4 ∨ k = 5 ∨ k = 6 ∨ k = 7 := by omega
   rcases hkk with rfl | rfl | rfl | rfl | rfl | rfl | rfl | rfl
   all_goals first
    | (exfalso; omega)
    | (clear hk hj
       go_wp2_with ((with_reducible refine gD 42 rfl ?_); first | (refine iX 0 ⟨#[35, 68, 73, 86, 47, 48, 33]⟩ ?_) | (refine iX 1 ⟨#[35, 86, 65, 76, 85, 69, 33]⟩ ?_) | (refine iX 2 ⟨#[35, 82, 69, 70, 33]⟩ ?_) | (refine iX 3 ⟨#[35, 78, 85, 77, 33]⟩ ?_) | (refine iX 4 ⟨#[35, 78, 47, 65]⟩ ?_) | (refine iX 5 ⟨#[35, 67, 73, 82, 67, 76, 69, 33]⟩ ?_) | (refine iX 6 ⟨#[35, 76, 79, 78, 71, 33]⟩ ?_) | (refine iX 7 ⟨#[35, 65, 82, 71, 33]⟩ ?_))
       go_round
       case rel => first | exact ⟨1, by have := HJ.out; omega, rfl⟩ | exact ⟨2, by have := HJ.out; omega, rfl⟩ | exact ⟨3, by have := HJ.out; omega, rfl⟩ | exact ⟨4, by have := HJ.out; omega, rfl⟩ | exact ⟨5, by have := HJ.out; omega, rfl⟩ | exact ⟨6, by have := HJ.out; omega, rfl⟩ | exact ⟨7, by have := HJ.out; omega, rfl⟩
       case measure => simp [intOf])
    | (clear hk hj
       go_wp2_with (first
        | ((with_reducible refine gD 42 rfl ?_); first | (refine iX 0 ⟨#[35, 68, 73, 86, 47, 48, 33]⟩ ?_) | (refine iX 1 ⟨#[35, 86, 65, 76, 85, 69, 33]⟩ ?_) | (refine iX 2 ⟨#[35, 82, 69, 70, 33]⟩ ?_) | (refine iX 3 ⟨#[35, 78, 85, 77, 33]⟩ ?_) | (refine iX 4 ⟨#[35, 78, 47, 65]⟩ ?_) | (refine iX 5 ⟨#[35, 67, 73, 82, 67, 76, 69, 33]⟩ ?_) | (refine iX 6 ⟨#[35, 76, 79, 78, 71, 33]⟩ ?_) | (refine iX 7 ⟨#[35, 65, 82, 71, 33]⟩ ?_))
        | (go_at_call 62; (with_reducible refine (HF.out _).mono ?_); rintro en w8 ⟨rfl, hl_⟩; have B8 := lh (Nac B7.out hl_); have J8 := lh (Nad J7.out hl_); clear hl_)
        | ((with_reducible refine gate_ (.store 46 (.tmp 2) (.tmp 48)) rfl ?_); refine sE J8.out 46 (.tmp 2) (.tmp 48) 0 (.agg #[.int .i64 4, .int .i64 0, .int .i64 0, .string ⟨#[]⟩, .bool false, .int .i64 r]) #[.int .i64 4, .int .i64 0, .int .i64 0, .string ⟨#[]⟩, .bool false, .int .i64 r] ?_; intro w9 hb_ hp_; have B9 := lh (hp_.below w G2.out B8.out); have J9 := lh hb_; clear hb_ hp_))
       (try simp only [Exit.inBlock, Exit.then])
       refine bodyPost_ret (results_cell_row rfl _ _ g2 46 #[.int .i64 4, .int .i64 0, .int .i64 0, .string ⟨#[]⟩, .bool false, .int .i64 r] (0, 0) _ rfl J9.out Tryz.underlying46 rfl (by kernel_rfl)) rfl ?_
       exact ⟨rfl, B9.out⟩)
def Ndj.f (k : Nat) (a0_0 a0_1 : Int) : Option (Int × Int × Int × ByteArray × Bool × Int) := (Na8.f k a0_0 a0_1).bind fun t103 => (if t103 = true then (some (1, a0_0, a0_1, (⟨#[]⟩ : ByteArray), false, 0)) else (some (1, 0, 1, (⟨#[]⟩ : ByteArray), false, 0)))
theorem Ndj.calls (k : Nat) (a0_0 a0_1 r1 r2 r3 : Int) (r4 : ByteArray) (r5 : Bool) (r6 : Int) (w : World) (h : Ndj.f k a0_0 a0_1 = some (r1, r2, r3, r4, r5, r6)) :
 Calls Tryz.prog 181 #[.agg #[.int .i64 a0_0, .int .i64 a0_1]] w fun e w' => e = .returned (.agg #[.int .i64 r1, .int .i64 r2, .int .i64 r3, .string r4, .bool r5, .int .i64 r6]) ∧ Below w.heap.size w w' := by
 have hu44 := Tryz.underlying44
 have hu46 := Tryz.underlying46
 have HB := aM (Below.refl w.heap.size w)
 have H := h
 unfold Ndj.f at H
 clear h
 replace H := bS H
 obtain ⟨t103, A20, H⟩ := H
 try dsimp only at H
 have A2 := aM A20
 clear A20
 by_cases c3 : t103 = true
 ·subst c3
  rw [if_pos rfl] at H
  simp only [sJ, pJ] at H
  obtain ⟨rfl, rfl, rfl, rfl, rfl, rfl⟩ := H
  go_enter Tryz.func181, Tryz.ntmps181
  go_wp2_with (first | ((with_reducible refine gD 1 rfl ?_); refine bX 1 #[.int .i64 a0_0, .int .i64 a0_1] 44 ?_; intro gb101 hg w4 hbox hb; replace HB := bK w hbox hg hb; obtain ⟨BK101, GW101, HB⟩ := HB; have GE101 := GW101; clear hb hbox hg) | ((with_reducible refine gD 2 rfl ?_); refine bX 2 #[.int .i64 0, .int .i64 0, .int .i64 0, .string ⟨#[]⟩, .bool false, .int .i64 0] 46 ?_; intro gb102 hg w5 hbox hb; have BK102 := aM (hbox); have GW102 := aM ((by rw [hg]; exact (Nbc bE) : w.heap.size ≤ gb102)); have GE102 := GW102; have NB101_102 := aM ((by rw [hg]; exact Nat.ne_of_lt (Nbe BK101.out) : gb101 ≠ gb102)); have NB102_101 := aM ((by rw [hg]; exact Nat.ne_of_gt (Nbe BK101.out) : gb102 ≠ gb101)); replace BK101 := aM (Nad BK101.out hb); replace HB := aM (Nac bE hb); clear hb hbox hg; have hnb6 := NB101_102.out; have hnc6 := NB102_101.out; obtain ⟨hcz7_0, hcz7_1, hfz7_0, hfz7_1⟩ := bc2 BK101.out) | ((with_reducible refine gC 133 rfl ?_); refine gL 4 Tryz.func133 #[.agg #[.int .i64 a0_0, .int .i64 a0_1]] ?_; (with_reducible refine (Na8.calls k a0_0 a0_1 true _ A2.out).mono ?_); rintro e w8 ⟨rfl, hb⟩; refine ⟨_, rfl, ?_⟩; replace BK101 := aM (Nad BK101.out hb); replace BK102 := aM (Nad (g := gb102) (o := .cells #[.int .i64 0, .int .i64 0, .int .i64 0, .string ⟨#[]⟩, .bool false, .int .i64 0] 46 (0, 0)) BK102.out hb); replace HB := aM (Nac bE hb); (try clear hb); obtain ⟨hcz9_0, hcz9_1, hfz9_0, hfz9_1⟩ := bc2 BK101.out; obtain ⟨hcz10_0, hcz10_1, hcz10_2, hcz10_3, hcz10_4, hcz10_5, hfz10_0, hfz10_1, hfz10_2, hfz10_3, hfz10_4, hfz10_5⟩ := bc6 BK102.out))
  refine bodyPost_ret (results_cell_row rfl _ _ gb102 46 #[.int .i64 1, .int .i64 a0_0, .int .i64 a0_1, .string ⟨#[]⟩, .bool false, .int .i64 0] (0, 0) _ rfl (bP BK102.out) Tryz.underlying46 rfl (by kernel_rfl)) rfl ?_
  exact ⟨eR, bE⟩
 ·replace c3 := Bool.eq_false_iff.mpr c3
  subst c3
  rw [if_neg fT] at H
  simp only [sJ, pJ] at H
  obtain ⟨rfl, rfl, rfl, rfl, rfl, rfl⟩ := H
  go_enter Tryz.func181, Tryz.ntmps181
  go_wp2_with (first | ((with_reducible refine gD 1 rfl ?_); refine bX 1 #[.int .i64 a0_0, .int .i64 a0_1] 44 ?_; intro gb101 hg w11 hbox hb; replace HB := bK w hbox hg hb; obtain ⟨BK101, GW101, HB⟩ := HB; have GE101 := GW101; clear hb hbox hg) | ((with_reducible refine gD 2 rfl ?_); refine bX 2 #[.int .i64 0, .int .i64 0, .int .i64 0, .string ⟨#[]⟩, .bool false, .int .i64 0] 46 ?_; intro gb102 hg w12 hbox hb; have BK102 := aM (hbox); have GW102 := aM ((by rw [hg]; exact (Nbc bE) : w.heap.size ≤ gb102)); have GE102 := GW102; have NB101_102 := aM ((by rw [hg]; exact Nat.ne_of_lt (Nbe BK101.out) : gb101 ≠ gb102)); have NB102_101 := aM ((by rw [hg]; exact Nat.ne_of_gt (Nbe BK101.out) : gb102 ≠ gb101)); replace BK101 := aM (Nad BK101.out hb); replace HB := aM (Nac bE hb); clear hb hbox hg; have hnb13 := NB101_102.out; have hnc13 := NB102_101.out; obtain ⟨hcz14_0, hcz14_1, hfz14_0, hfz14_1⟩ := bc2 BK101.out) | ((with_reducible refine gC 133 rfl ?_); refine gL 4 Tryz.func133 #[.agg #[.int .i64 a0_0, .int .i64 a0_1]] ?_; (with_reducible refine (Na8.calls k a0_0 a0_1 false _ A2.out).mono ?_); rintro e w15 ⟨rfl, hb⟩; refine ⟨_, rfl, ?_⟩; replace BK101 := aM (Nad BK101.out hb); replace BK102 := aM (Nad (g := gb102) (o := .cells #[.int .i64 0, .int .i64 0, .int .i64 0, .string ⟨#[]⟩, .bool false, .int .i64 0] 46 (0, 0)) BK102.out hb); replace HB := aM (Nac bE hb); (try clear hb); obtain ⟨hcz16_0, hcz16_1, hfz16_0, hfz16_1⟩ := bc2 BK101.out; obtain ⟨hcz17_0, hcz17_1, hcz17_2, hcz17_3, hcz17_4, hcz17_5, hfz17_0, hfz17_1, hfz17_2, hfz17_3, hfz17_4, hfz17_5⟩ := bc6 BK102.out))
  refine bodyPost_ret (results_cell_row rfl _ _ gb102 46 #[.int .i64 1, .int .i64 0, .int .i64 1, .string ⟨#[]⟩, .bool false, .int .i64 0] (0, 0) _ rfl (by (with_reducible repeat first | apply Nam | apply Nag | apply Nap); refine Ncy (cs := #[.int .i64 1, .int .i64 0, .int .i64 1, .string ⟨#[]⟩, .bool false, .int .i64 0]) ?_ 5 _ rfl; (with_reducible repeat first | apply Nam | apply Nag | apply Nap); refine Ncy (cs := #[.int .i64 1, .int .i64 0, .int .i64 1, .string ⟨#[]⟩, .bool false, .int .i64 0]) ?_ 4 _ rfl; (with_reducible repeat first | apply Nam | apply Nag | apply Nap); refine Ncy (cs := #[.int .i64 1, .int .i64 0, .int .i64 1, .string ⟨#[]⟩, .bool false, .int .i64 0]) ?_ 3 _ rfl; (with_reducible repeat first | apply Nam | apply Nag | apply Nap); refine Ncy (cs := #[.int .i64 1, .int .i64 0, .int .i64 0, .string ⟨#[]⟩, .bool false, .int .i64 0]) ?_ 2 _ rfl; (with_reducible repeat first | apply Nam | apply Nag | apply Nap); refine Ncy (cs := #[.int .i64 1, .int .i64 0, .int .i64 0, .string ⟨#[]⟩, .bool false, .int .i64 0]) ?_ 1 _ rfl; (with_reducible repeat first | apply Nam | apply Nag | apply Nap); refine Ncy (cs := #[.int .i64 0, .int .i64 0, .int .i64 0, .string ⟨#[]⟩, .bool false, .int .i64 0]) ?_ 0 _ rfl; (with_reducible repeat first | apply Nam | apply Nag | apply Nap); refine Nbk ?_ NB102_101.out _; (with_reducible repeat first | apply Nam | apply Nag | apply Nap); refine Nbk ?_ NB102_101.out _; (with_reducible repeat first | apply Nam | apply Nag | apply Nap); exact BK102.out) Tryz.underlying46 rfl (by kernel_rfl)) rfl ?_
  exact ⟨eR, bE⟩
def Ndf.f (k : Nat) (a0 : ByteArray) : Option (Int × Int × Int × ByteArray × Bool × Int) := (Naw.f k a0).bind fun t102 => (if t102 = true then (if (a0.size : Int) > 256 then ((Nb4.f 7).bind fun bt103 => (some (bt103.1, bt103.2.1, bt103.2.2.1, bt103.2.2.2.1, bt103.2.2.2.2.1, bt103.2.2.2.2.2))) else (some (2, 0, 0, a0, false, 0))) else ((Nb4.f 2).bind fun bt109 => (some (bt109.1, bt109.2.1, bt109.2.2.1, bt109.2.2.2.1, bt109.2.2.2.2.1, bt109.2.2.2.2.2))))
theorem Ndf.calls (k : Nat) (a0 : ByteArray) (r1 r2 r3 : Int) (r4 : ByteArray) (r5 : Bool) (r6 : Int) (w : World) (h : Ndf.f k a0 = some (r1, r2, r3, r4, r5, r6)) :
 Calls Tryz.prog 182 #[.string a0] w fun e w' => e = .returned (.agg #[.int .i64 r1, .int .i64 r2, .int .i64 r3, .string r4, .bool r5, .int .i64 r6]) ∧ Below w.heap.size w w' := by
 have hu46 := Tryz.underlying46
 have HB := aM (Below.refl w.heap.size w)
 have H := h
 unfold Ndf.f at H
 clear h
 replace H := bS H
 obtain ⟨t102, A20, H⟩ := H
 try dsimp only at H
 have A2 := aM A20
 clear A20
 by_cases c3 : t102 = true
 ·subst c3
  rw [if_pos rfl] at H
  by_cases c4 : (a0.size : Int) > 256
  ·rw [if_pos c4] at H
   have c4b0 : decide (256 < (a0.size : Int)) = true := decide_eq_true c4
   have c4b1 : decide (256 < a0.size) = true := decide_eq_true (by omega)
   clear c4
   replace H := bS H
   obtain ⟨⟨t103, t104, t105, t106, t107, t108⟩, A50, H⟩ := H
   try dsimp only at H
   have A5 := aM A50
   clear A50
   simp only [sJ, pJ] at H
   obtain ⟨rfl, rfl, rfl, rfl, rfl, rfl⟩ := H
   go_enter Tryz.func182, Tryz.ntmps182
   go_wp2_with (first | ((with_reducible refine gD 2 rfl ?_); refine bX 2 #[.int .i64 0, .int .i64 0, .int .i64 0, .string ⟨#[]⟩, .bool false, .int .i64 0] 46 ?_; intro gb101 hg w6 hbox hb; replace HB := bK w hbox hg hb; obtain ⟨BK101, GW101, HB⟩ := HB; have GE101 := GW101; clear hb hbox hg) | ((with_reducible refine gC 134 rfl ?_); refine gL 5 Tryz.func134 #[.string a0] ?_; (with_reducible refine (Naw.calls k a0 true _ A2.out).mono ?_); rintro e w' ⟨rfl, ⟨nd, rfl⟩⟩; refine ⟨_, rfl, ?_⟩; (try (rw [Ncd w6]; generalize hq_ : World.drewN w6 _ = w6; have n0_ : Nai (w6.heap[gb101]? = some (.cells #[.int .i64 0, .int .i64 0, .int .i64 0, .string ⟨#[]⟩, .bool false, .int .i64 0] 46 (0, 0))) := ⟨by rw [← hq_]; exact (bd BK101.out)⟩; have n1_ : Nai (Below w.heap.size w w6) := ⟨by rw [← hq_]; exact bE⟩; clear BK101 HB hq_; have BK101 := n0_; have HB := n1_; clear n0_ n1_))) | ((with_reducible refine gC 62 rfl ?_); refine gL 12 Tryz.func62 #[.int .i64 7] ?_; (with_reducible refine (Nb4.calls 7 t103 t104 t105 t106 t107 t108 _ A5.out).mono ?_); rintro e w7 ⟨rfl, hb⟩; refine ⟨_, rfl, ?_⟩; replace BK101 := aM (Nad (g := gb101) (o := .cells #[.int .i64 0, .int .i64 0, .int .i64 0, .string ⟨#[]⟩, .bool false, .int .i64 0] 46 (0, 0)) (bd BK101.out) hb); replace HB := aM (Nac bE hb); (try clear hb); obtain ⟨hcz8_0, hcz8_1, hcz8_2, hcz8_3, hcz8_4, hcz8_5, hfz8_0, hfz8_1, hfz8_2, hfz8_3, hfz8_4, hfz8_5⟩ := bc6 BK101.out))
   refine bodyPost_ret (results_cell_row rfl _ _ gb101 46 #[.int .i64 t103, .int .i64 t104, .int .i64 t105, .string t106, .bool t107, .int .i64 t108] (0, 0) _ rfl (bP BK101.out) Tryz.underlying46 rfl (by kernel_rfl)) rfl ?_
   exact ⟨eR, bE⟩
  ·rw [if_neg c4] at H
   have c4b0 : decide (256 < (a0.size : Int)) = false := decide_eq_false c4
   have c4b1 : decide (256 < a0.size) = false := decide_eq_false (by omega)
   clear c4
   simp only [sJ, pJ] at H
   obtain ⟨rfl, rfl, rfl, rfl, rfl, rfl⟩ := H
   go_enter Tryz.func182, Tryz.ntmps182
   go_wp2_with (first | ((with_reducible refine gD 2 rfl ?_); refine bX 2 #[.int .i64 0, .int .i64 0, .int .i64 0, .string ⟨#[]⟩, .bool false, .int .i64 0] 46 ?_; intro gb101 hg w9 hbox hb; replace HB := bK w hbox hg hb; obtain ⟨BK101, GW101, HB⟩ := HB; have GE101 := GW101; clear hb hbox hg) | ((with_reducible refine gC 134 rfl ?_); refine gL 5 Tryz.func134 #[.string a0] ?_; (with_reducible refine (Naw.calls k a0 true _ A2.out).mono ?_); rintro e w' ⟨rfl, ⟨nd, rfl⟩⟩; refine ⟨_, rfl, ?_⟩; (try (rw [Ncd w9]; generalize hq_ : World.drewN w9 _ = w9; have n0_ : Nai (w9.heap[gb101]? = some (.cells #[.int .i64 0, .int .i64 0, .int .i64 0, .string ⟨#[]⟩, .bool false, .int .i64 0] 46 (0, 0))) := ⟨by rw [← hq_]; exact (bd BK101.out)⟩; have n1_ : Nai (Below w.heap.size w w9) := ⟨by rw [← hq_]; exact bE⟩; clear BK101 HB hq_; have BK101 := n0_; have HB := n1_; clear n0_ n1_)); obtain ⟨hcz10_0, hcz10_1, hcz10_2, hcz10_3, hcz10_4, hcz10_5, hfz10_0, hfz10_1, hfz10_2, hfz10_3, hfz10_4, hfz10_5⟩ := bc6 BK101.out))
   refine bodyPost_ret (results_cell_row rfl _ _ gb101 46 #[.int .i64 2, .int .i64 0, .int .i64 0, .string a0, .bool false, .int .i64 0] (0, 0) _ rfl (bP BK101.out) Tryz.underlying46 rfl (by kernel_rfl)) rfl ?_
   exact ⟨eR, bE⟩
 ·replace c3 := Bool.eq_false_iff.mpr c3
  subst c3
  rw [if_neg fT] at H
  replace H := bS H
  obtain ⟨⟨t109, t110, t111, t112, t113, t114⟩, A110, H⟩ := H
  try dsimp only at H
  have A11 := aM A110
  clear A110
  simp only [sJ, pJ] at H
  obtain ⟨rfl, rfl, rfl, rfl, rfl, rfl⟩ := H
  go_enter Tryz.func182, Tryz.ntmps182
  go_wp2_with (first | ((with_reducible refine gD 2 rfl ?_); refine bX 2 #[.int .i64 0, .int .i64 0, .int .i64 0, .string ⟨#[]⟩, .bool false, .int .i64 0] 46 ?_; intro gb101 hg w12 hbox hb; replace HB := bK w hbox hg hb; obtain ⟨BK101, GW101, HB⟩ := HB; have GE101 := GW101; clear hb hbox hg) | ((with_reducible refine gC 134 rfl ?_); refine gL 5 Tryz.func134 #[.string a0] ?_; (with_reducible refine (Naw.calls k a0 false _ A2.out).mono ?_); rintro e w' ⟨rfl, ⟨nd, rfl⟩⟩; refine ⟨_, rfl, ?_⟩; (try (rw [Ncd w12]; generalize hq_ : World.drewN w12 _ = w12; have n0_ : Nai (w12.heap[gb101]? = some (.cells #[.int .i64 0, .int .i64 0, .int .i64 0, .string ⟨#[]⟩, .bool false, .int .i64 0] 46 (0, 0))) := ⟨by rw [← hq_]; exact (bd BK101.out)⟩; have n1_ : Nai (Below w.heap.size w w12) := ⟨by rw [← hq_]; exact bE⟩; clear BK101 HB hq_; have BK101 := n0_; have HB := n1_; clear n0_ n1_))) | ((with_reducible refine gC 62 rfl ?_); refine gL 7 Tryz.func62 #[.int .i64 2] ?_; (with_reducible refine (Nb4.calls 2 t109 t110 t111 t112 t113 t114 _ A11.out).mono ?_); rintro e w13 ⟨rfl, hb⟩; refine ⟨_, rfl, ?_⟩; replace BK101 := aM (Nad (g := gb101) (o := .cells #[.int .i64 0, .int .i64 0, .int .i64 0, .string ⟨#[]⟩, .bool false, .int .i64 0] 46 (0, 0)) (bd BK101.out) hb); replace HB := aM (Nac bE hb); (try clear hb); obtain ⟨hcz14_0, hcz14_1, hcz14_2, hcz14_3, hcz14_4, hcz14_5, hfz14_0, hfz14_1, hfz14_2, hfz14_3, hfz14_4, hfz14_5⟩ := bc6 BK101.out))
  refine bodyPost_ret (results_cell_row rfl _ _ gb101 46 #[.int .i64 t109, .int .i64 t110, .int .i64 t111, .string t112, .bool t113, .int .i64 t114] (0, 0) _ rfl (bP BK101.out) Tryz.underlying46 rfl (by kernel_rfl)) rfl ?_
  exact ⟨eR, bE⟩
def Ned.f (a0 : Bool) : Option (Int × Int × Int × ByteArray × Bool × Int) := some (3, 0, 0, (⟨#[]⟩ : ByteArray), a0, 0)
theorem Ned.calls (a0 : Bool) (r1 r2 r3 : Int) (r4 : ByteArray) (r5 : Bool) (r6 : Int) (w : World) (h : Ned.f a0 = some (r1, r2, r3, r4, r5, r6)) :
 Calls Tryz.prog 187 #[.bool a0] w fun e w' => e = .returned (.agg #[.int .i64 r1, .int .i64 r2, .int .i64 r3, .string r4, .bool r5, .int .i64 r6]) ∧ Below w.heap.size w w' := by
 have hu46 := Tryz.underlying46
 have HB := aM (Below.refl w.heap.size w)
 have H := h
 unfold Ned.f at H
 clear h
 simp only [sJ, pJ] at H
 obtain ⟨rfl, rfl, rfl, rfl, rfl, rfl⟩ := H
 go_enter Tryz.func187, Tryz.ntmps187
 go_wp2_with (first | ((with_reducible refine gD 2 rfl ?_); refine bX 2 #[.int .i64 0, .int .i64 0, .int .i64 0, .string ⟨#[]⟩, .bool false, .int .i64 0] 46 ?_; intro gb101 hg w2 hbox hb; replace HB := bK w hbox hg hb; obtain ⟨BK101, GW101, HB⟩ := HB; have GE101 := GW101; clear hb hbox hg; obtain ⟨hcz3_0, hcz3_1, hcz3_2, hcz3_3, hcz3_4, hcz3_5, hfz3_0, hfz3_1, hfz3_2, hfz3_3, hfz3_4, hfz3_5⟩ := bc6 BK101.out))
 refine bodyPost_ret (results_cell_row rfl _ _ gb101 46 #[.int .i64 3, .int .i64 0, .int .i64 0, .string ⟨#[]⟩, .bool a0, .int .i64 0] (0, 0) _ rfl (bP BK101.out) Tryz.underlying46 rfl (by kernel_rfl)) rfl ?_
 exact ⟨eR, bE⟩
end Go.Proofs.YtejbbceidnaloaaGreatDoor.P
