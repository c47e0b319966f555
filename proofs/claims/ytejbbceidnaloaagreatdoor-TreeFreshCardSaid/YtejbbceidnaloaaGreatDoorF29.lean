import Derived.Lib.ItoaNum
import Derived.Lib.SplitLaws
import Derived.Lib.Replace
import Derived.Test.YtejbbceidnaloaaGreatDoorF28
set_option linter.unusedVariables false
set_option linter.unusedSimpArgs false
set_option maxRecDepth 100000
set_option maxHeartbeats 8000000
namespace Go.Proofs.YtejbbceidnaloaaGreatDoor.P
open Go.RowKit AW AL AM
def decB (n : Int) : ByteArray := ⟨(Lib.decDigits n.toNat).toArray⟩
theorem itoa_dig {n : Int} (h : 0 ≤ n) : (⟨(Lib.itoa n).toArray⟩ : ByteArray) = decB n := by
 unfold Lib.itoa decB; rw [if_neg (by omega)]
def isDig (c : UInt8) : Prop := 48 ≤ c.toNat ∧ c.toNat ≤ 57
def Nb0 (a : Nat) (l : List UInt8) : Nat := l.foldl (fun a c => a * 10 + (c.toNat - 48)) a
theorem Ndk (a : Nat) : Nb0 a [] = a := by unfold Nb0; exact List.foldl_nil
theorem Ncs (a : Nat) (c : UInt8) (l : List UInt8) : Nb0 a (c :: l) = Nb0 (a * 10 + (c.toNat - 48)) l := by unfold Nb0; exact List.foldl_cons ..
theorem decVal_ge : ∀ (l : List UInt8) (a : Nat), a ≤ Nb0 a l := by
 intro l
 induction l with
 | nil => intro a; rw [Ndk]; exact Nat.le_refl _
 | cons c l ih =>
  intro a
  rw [Ncs]
  have := ih (a * 10 + (c.toNat - 48))
  omega
theorem decVal_snoc (d : UInt8) : ∀ (l : List UInt8) (a : Nat), Nb0 a (l ++ [d]) = Nb0 a l * 10 + (d.toNat - 48) := by
 intro l
 induction l with
 | nil => intro a; rw [List.nil_append, Ncs, Ndk, Ndk]
 | cons c l ih => intro a; rw [List.cons_append, Ncs, Ncs]; exact ih _
theorem decVal_lt : ∀ (l : List UInt8) (a : Nat), (∀ c ∈ l, isDig c) → Nb0 a l < (a + 1) * 10 ^ l.length := by
 intro l
 induction l with
 | nil => intro a _; rw [Ndk, List.length_nil]; omega
 | cons c l ih =>
  intro a h
  rw [Ncs, List.length_cons]
  have hc := h c (List.mem_cons_self ..)
  refine Nat.lt_of_lt_of_le (ih (a * 10 + (c.toNat - 48)) (fun d hd => h d (List.mem_cons_of_mem _ hd))) ?_
  rw [Nat.pow_succ, Nat.mul_comm (10 ^ l.length) 10, ← Nat.mul_assoc]
  refine Nat.mul_le_mul_right _ ?_
  unfold isDig at hc
  omega
def canon (l : List UInt8) : Prop := (∀ c ∈ l, isDig c) ∧ ∃ c r, l = c :: r ∧ c.toNat ≠ 48
theorem dig_toNat {i : Nat} (h : i < 10) : (UInt8.ofNat (48 + i)).toNat = 48 + i := by
 rw [UInt8.toNat_ofNat']; omega
theorem dec_canon : ∀ (u : Nat), (∀ c ∈ Lib.decDigits u, isDig c) ∧ Nb0 0 (Lib.decDigits u) = u ∧ (0 < u → canon (Lib.decDigits u)) := by
 intro u
 induction u using Nat.strongRecOn with
 | _ u ih =>
  unfold Lib.decDigits
  split
  ·rename_i h
   have e := dig_toNat h
   have d : ∀ c ∈ [UInt8.ofNat (48 + u)], isDig c := by
    intro c hc
    rw [List.mem_singleton] at hc
    subst hc
    unfold isDig
    omega
   refine ⟨d, ?_, fun hu => ⟨d, _, _, rfl, by omega⟩⟩
   rw [Ncs, Ndk]
   omega
  ·rename_i h
   obtain ⟨d, v, c⟩ := ih (u / 10) (by omega)
   have e := dig_toNat (i := u % 10) (by omega)
   have d' : ∀ c ∈ Lib.decDigits (u / 10) ++ [UInt8.ofNat (48 + u % 10)], isDig c := by
    intro x hx
    rcases List.mem_append.mp hx with hx | hx
    ·exact d x hx
    ·rw [List.mem_singleton] at hx
     subst hx
     unfold isDig
     omega
   refine ⟨d', ?_, fun hu => ⟨d', ?_⟩⟩
   ·rw [decVal_snoc, v, e]; omega
   ·obtain ⟨_, x, r, hx, hn⟩ := c (by omega)
    exact ⟨x, r ++ [UInt8.ofNat (48 + u % 10)], by rw [hx]; rfl, hn⟩
theorem bt0 (a : UInt8) (l : List UInt8) : bt ⟨(a :: l).toArray⟩ 0 = (a.toNat : Int) := by
 unfold bt
 rw [dif_pos (show (0 : Int).toNat < (⟨(a :: l).toArray⟩ : ByteArray).size by show 0 < (a :: l).toArray.size; simp)]
 rfl
theorem drop_list (l : List UInt8) (n : Nat) : ((⟨l.toArray⟩ : ByteArray).extract n (⟨l.toArray⟩ : ByteArray).size).data.toList = l.drop n := by
 have e : (⟨l.toArray⟩ : ByteArray).size = l.length := by show l.toArray.size = _; simp
 rw [e, ByteArray.data_extract, Array.toList_extract, List.extract_eq_take_drop]
 simp only
 rw [List.take_of_length_le (by simp)]
theorem Nak (l : List UInt8) : (⟨l.toArray⟩ : ByteArray).size = l.length := by show l.toArray.size = _; simp
def colL (n : Int) : List UInt8 := if n < 26 then [UInt8.ofNat (65 + n).toNat] else [UInt8.ofNat (65 + n / 26 - 1).toNat, UInt8.ofNat (65 + n % 26).toNat]
theorem colB_list (n : Int) (h0 : 0 ≤ n) (h1 : n < 256) : colB n = ⟨(colL n).toArray⟩ := by
 unfold colB colL
 rw [if_neg (by omega), if_neg (by omega)]
 split <;> rfl
theorem nat8 {n : Nat} (h : n < 256) : (UInt8.ofNat n).toNat = n := by rw [UInt8.toNat_ofNat']; omega
theorem list_text (s : ByteArray) : s = ⟨s.data.toList.toArray⟩ := by cases s; rfl
theorem Nec (l m : List UInt8) : (⟨l.toArray⟩ : ByteArray) ++ ⟨m.toArray⟩ = ⟨(l ++ m).toArray⟩ := by
 apply ByteArray.ext
 rw [ByteArray.data_append]
 simp
theorem ix_cons_eq (c : UInt8) (l : List UInt8) : Lib.index (c :: l) [c] = 0 := by
 rw [Lib.index, if_pos (by simp [List.isPrefixOf])]
theorem ix_cons_ne {b c : UInt8} (l : List UInt8) (h : b ≠ c) : Lib.index (b :: l) [c] = if Lib.index l [c] == -1 then -1 else Lib.index l [c] + 1 := by
 rw [Lib.index, if_neg (by simp [List.isPrefixOf, Ne.symm h])]
theorem Nei (c : UInt8) (new : List UInt8) : ∀ (s : List UInt8) (k : Nat), Lib.count s [c] ≤ k → Lib.replaceK [c] new k s = s.flatMap fun b => if b = c then new else [b]
 | [], k, _ => by
  cases k with
  | zero => rfl
  | succ k => rfl
 | b :: l, k, h => by
  by_cases hb : b = c
  ·subst hb
   rw [Lib.count_cons_eq] at h
   obtain ⟨k, rfl⟩ : ∃ k', k = k' + 1 := ⟨k - 1, by omega⟩
   rw [Lib.replaceK_hit _ _ _ _ 0 (ix_cons_eq _ _)]
   have ih := Nei b new l k (by omega)
   simp only [List.take_zero, List.nil_append, List.length_cons, List.length_nil, Nat.zero_add, List.drop_succ_cons, List.drop_zero, List.flatMap_cons, if_true]
   rw [ih]
  ·rw [Lib.count_cons_ne _ _ _ hb] at h
   have ih := Nei c new l k h
   simp only [List.flatMap_cons, if_neg hb, List.singleton_append]
   rw [← ih]
   cases k with
   | zero => rfl
   | succ k =>
    rcases Lib.index_spec l [c] with ⟨h1, _⟩ | ⟨i, h1, _⟩
    ·rw [Lib.replaceK, Lib.replaceK, ix_cons_ne l hb, h1]; rfl
    ·have h2 : Lib.index (b :: l) [c] = ((i + 1 : Nat) : Int) := by
      rw [ix_cons_ne l hb, h1, if_neg (by rw [beq_iff_eq]; omega)]; rfl
     rw [Lib.replaceK_hit _ _ _ _ _ h1, Lib.replaceK_hit _ _ _ _ _ h2]
     simp only [List.take_succ_cons, List.length_cons, List.length_nil, Nat.zero_add, List.cons_append]
     rw [show i + 1 + 1 = (i + 1) + 1 from rfl, List.drop_succ_cons]
def dblL (l : List UInt8) : List UInt8 := l.flatMap fun b => if b = 34 then [34, 34] else [b]
theorem Net (l : List UInt8) : Lib.replaceAll l [34] [34, 34] = dblL l := by
 unfold Lib.replaceAll Lib.replace
 rw [if_neg (by decide), show Lib.replaceNum l [34] (-1) = Lib.count l [34] by unfold Lib.replaceNum; rw [if_pos (by omega)]]
 exact Nei 34 [34, 34] l _ (Nat.le_refl _)
theorem dblL_len : ∀ l : List UInt8, (dblL l).length ≤ 2 * l.length
 | [] => Nat.le_refl _
 | b :: l => by
  have ih := dblL_len l
  unfold dblL at ih ⊢
  rw [List.flatMap_cons, List.length_append, List.length_cons]
  split <;> simp only [List.length_cons, List.length_nil] <;> omega
theorem dec_le : ∀ (n u : Nat), u < 10 ^ (n + 1) → (Lib.decDigits u).length ≤ n + 1
 | 0, u, h => by
  rw [Lib.decDigits, dif_pos (by simpa using h)]; simp
 | n + 1, u, h => by
  rw [Lib.decDigits]
  split
  ·simp
  ·have ih := dec_le n (u / 10) (by rw [Nat.div_lt_iff_lt_mul (by decide)]; rw [Nat.pow_succ] at h; exact h)
   rw [List.length_append, List.length_singleton]; omega
theorem colL_up {c : Int} (h0 : 0 ≤ c) (h1 : c < 256) : ∀ b ∈ colL c, 65 ≤ b.toNat ∧ b.toNat ≤ 90 := by
 intro b hb
 unfold colL at hb
 split at hb
 ·rw [List.mem_singleton] at hb
  rw [hb, nat8 (by omega)]; omega
 ·rcases List.mem_cons.1 hb with rfl | hb
  ·rw [nat8 (by omega)]; omega
  ·rw [List.mem_singleton] at hb
   rw [hb, nat8 (by omega)]; omega
theorem colL_len (c : Int) : 1 ≤ (colL c).length ∧ (colL c).length ≤ 2 := by unfold colL; split <;> simp
theorem nines {b : UInt8} : ([49, 50, 51, 52, 53, 54, 55, 56, 57] : List UInt8).contains b = true ↔ 49 ≤ b.toNat ∧ b.toNat ≤ 57 := by
 constructor
 ·intro h
  have hm := List.contains_iff_mem.1 h
  simp only [List.mem_cons, List.not_mem_nil, or_false] at hm
  rcases hm with rfl | rfl | rfl | rfl | rfl | rfl | rfl | rfl | rfl <;> decide
 ·intro h
  have hb : b = UInt8.ofNat b.toNat := by rw [UInt8.ofNat_toNat]
  rw [hb]
  obtain ⟨h1, h2⟩ := h
  generalize b.toNat = n at *
  have : n = 49 ∨ n = 50 ∨ n = 51 ∨ n = 52 ∨ n = 53 ∨ n = 54 ∨ n = 55 ∨ n = 56 ∨ n = 57 := by omega
  rcases this with rfl | rfl | rfl | rfl | rfl | rfl | rfl | rfl | rfl <;> decide
theorem ixany_skip (chars : List UInt8) : ∀ (l m : List UInt8), (∀ b ∈ l, chars.contains b = false) → Lib.indexAny m chars = 0 → Lib.indexAny (l ++ m) chars = (l.length : Int)
 | [], m, _, h => by simpa using h
 | b :: l, m, hl, h => by
  have ih := ixany_skip chars l m (fun x hx => hl x (List.mem_cons_of_mem _ hx)) h
  rw [List.cons_append, Lib.indexAny, if_neg (by rw [hl b (List.mem_cons_self ..)]; decide), ih, if_neg (by rw [beq_iff_eq]; omega), List.length_cons]
  rfl
def nameL (r c : Int) : List UInt8 := colL c ++ Lib.decDigits (r + 1).toNat
theorem name_index {r c : Int} (h0 : 0 ≤ r) (h1 : r < 65536) (h2 : 0 ≤ c) (h3 : c < 256) : Lib.indexAny (nameL r c) [49, 50, 51, 52, 53, 54, 55, 56, 57] = ((colL c).length : Int) := by
 refine ixany_skip _ _ _ (fun b hb => ?_) ?_
 ·have := colL_up h2 h3 b hb
  rw [Bool.eq_false_iff]
  intro h
  have := nines.1 h
  omega
 ·obtain ⟨d, _, cn⟩ := dec_canon (r + 1).toNat
  obtain ⟨_, x, l, hx, hn⟩ := cn (by omega)
  have hd := d x (by rw [hx]; exact List.mem_cons_self ..)
  unfold isDig at hd
  rw [hx, Lib.indexAny, if_pos (nines.2 (by omega))]
theorem name_ascii {r c : Int} (h0 : 0 ≤ r) (h1 : r < 65536) (h2 : 0 ≤ c) (h3 : c < 256) : ∀ b ∈ nameL r c, b.toNat < 128 := by
 intro b hb
 rcases List.mem_append.1 hb with hb | hb
 ·have := colL_up h2 h3 b hb; omega
 ·have := (dec_canon (r + 1).toNat).1 b hb
  unfold isDig at this
  omega
theorem name_len {r c : Int} (h0 : 0 ≤ r) (h1 : r < 65536) : (nameL r c).length ≤ 8 := by
 have := dec_le 4 (r + 1).toNat (by omega)
 have := colL_len c
 unfold nameL
 rw [List.length_append]; omega
theorem name_f {r c : Int} (h0 : 0 ≤ r) (h1 : r < 65536) (h2 : 0 ≤ c) (h3 : c < 256) : Na2.f 0 r c = some ⟨(nameL r c).toArray⟩ := by
 have hw : wrap64 (r + 1) = r + 1 := by unfold wrap64; omega
 have hi : Nas.f (r + 1) = some (decB (r + 1)) := by
  unfold Nas.f
  rw [if_pos (by omega), itoa_dig (by omega)]
 unfold Na2.f
 rw [Nd8, hw, decide_eq_true ⟨h0, h1, h2, h3⟩]
 simp only [Option.bind_some, if_true, Nek.f, hi]
 have hc := colL_len c
 have hd := dec_le 4 (r + 1).toNat (by omega)
 rw [colB_list c h2 h3]
 unfold decB
 rw [if_pos (by rw [Nak, Nak]; omega), Nec]
 rfl
def numL (n d : Int) : List UInt8 :=
 Lib.decDigits (n / d).toNat ++ (if d = 1 then [] else 46 :: Lib.trimRightB ((Lib.decDigits (1000000 + n % d * (1000000 / d)).toNat).drop 1) 48)
theorem trimR_len (l : List UInt8) (c : UInt8) : (Lib.trimRightB l c).length ≤ l.length := by
 unfold Lib.trimRightB
 rw [List.length_reverse]
 have := (List.dropWhile_sublist (l := l.reverse) (fun x => x == c)).length_le
 rw [List.length_reverse] at this
 exact this
theorem num_len {n d : Int} (h0 : 0 ≤ n) (h1 : n ≤ 1000000000000) (h2 : 1 ≤ d) (h3 : d ≤ 1000000) : (numL n d).length ≤ 30 := by
 have hq : 0 ≤ n / d ∧ n / d ≤ n := ⟨Int.ediv_nonneg h0 (by omega), Int.ediv_le_self _ h0⟩
 have e1 := dec_le 12 (n / d).toNat (by omega)
 have hr : 0 ≤ n % d ∧ n % d < d := ⟨Int.emod_nonneg _ (by omega), Int.emod_lt_of_pos _ (by omega)⟩
 have hm : n % d * (1000000 / d) ≤ 1000000 := by
  have a1 : n % d * (1000000 / d) ≤ d * (1000000 / d) := Int.mul_le_mul_of_nonneg_right (by omega) (Int.ediv_nonneg (by omega) (by omega))
  have a2 : d * (1000000 / d) ≤ 1000000 := Int.mul_ediv_self_le (by omega)
  omega
 have hm0 : 0 ≤ n % d * (1000000 / d) := Int.mul_nonneg hr.1 (Int.ediv_nonneg (by omega) (by omega))
 have e2 := dec_le 7 (1000000 + n % d * (1000000 / d)).toNat (by omega)
 unfold numL
 rw [List.length_append]
 split
 ·simp only [List.length_nil]; omega
 ·have := trimR_len ((Lib.decDigits (1000000 + n % d * (1000000 / d)).toNat).drop 1) 48
  rw [List.length_drop] at this
  rw [List.length_cons]; omega
theorem itoa_f {n : Int} (h0 : 0 ≤ n) (h1 : n ≤ 9223372036854775807) : Nas.f n = some ⟨(Lib.decDigits n.toNat).toArray⟩ := by
 unfold Nas.f
 rw [if_pos (by omega), itoa_dig h0]; rfl
theorem trim_f {l : List UInt8} (h : l.length ≤ 1000000) : Nbr.f ⟨l.toArray⟩ ⟨#[48]⟩ = some ⟨(Lib.trimRightB l 48).toArray⟩ := by
 unfold Nbr.f
 rw [if_pos ⟨rfl, by decide, by rw [Nak]; omega⟩]; rfl
theorem dec_pos (u : Nat) : 1 ≤ (Lib.decDigits u).length := by
 rw [Lib.decDigits]; split <;> simp
theorem tail_list (l : List UInt8) : (⟨l.toArray⟩ : ByteArray).extract 1 (⟨l.toArray⟩ : ByteArray).size = ⟨(l.drop 1).toArray⟩ := by
 apply ByteArray.ext
 have := drop_list l 1
 exact Array.toList_inj.1 (by rw [this])
theorem num_text_f {n d : Int} (hR : numB n d = true) (h0 : 0 ≤ n) (hd : (1000000 : Int) % d = 0) {K : Nat} (hK : 1000003 ≤ K) : Nap.f K n d = some ⟨(numL n d).toArray⟩ := by
 have hb := hR
 unfold numB at hb
 obtain ⟨-, h1, h2, h3, -⟩ := of_decide_eq_true hb
 have hq : 0 ≤ n / d ∧ n / d ≤ n := ⟨Int.ediv_nonneg h0 (by omega), Int.ediv_le_self _ h0⟩
 have hr : 0 ≤ n % d ∧ n % d < d := ⟨Int.emod_nonneg _ (by omega), Int.emod_lt_of_pos _ (by omega)⟩
 have hm : n % d * (1000000 / d) ≤ 1000000 := by
  have a1 : n % d * (1000000 / d) ≤ d * (1000000 / d) := Int.mul_le_mul_of_nonneg_right (by omega) (Int.ediv_nonneg (by omega) (by omega))
  have a2 : d * (1000000 / d) ≤ 1000000 := Int.mul_ediv_self_le (by omega)
  omega
 have hm0 : 0 ≤ n % d * (1000000 / d) := Int.mul_nonneg hr.1 (Int.ediv_nonneg (by omega) (by omega))
 have hk : 0 ≤ 1000000 / d ∧ (1000000 / d : Int) ≤ 1000000 := ⟨Int.ediv_nonneg (by omega) (by omega), Int.ediv_le_self _ (by omega)⟩
 have e1 := dec_le 12 (n / d).toNat (by omega)
 have e2 := dec_le 7 (1000000 + n % d * (1000000 / d)).toNat (by omega)
 have e3 := dec_pos (1000000 + n % d * (1000000 / d)).toNat
 obtain ⟨K, rfl⟩ : ∃ K', K = K' + 1 := ⟨K - 1, by omega⟩
 have hs : Nbm.f n = some n := by
  unfold Nbm.f
  rw [if_neg (by omega)]
  congr 1
  simp [IntKind.wrap, IntKind.bits]
  omega
 have w1 : wrap64 n = n := by unfold wrap64; omega
 have w2 : wrap64 (n / d) = n / d := by unfold wrap64; omega
 have w3 : wrap64 (1000000 / d : Int) = 1000000 / d := by unfold wrap64; omega
 have w4 : wrap64 (n % d * (1000000 / d)) = n % d * (1000000 / d) := by unfold wrap64; omega
 have w5 : wrap64 (1000000 + n % d * (1000000 / d)) = 1000000 + n % d * (1000000 / d) := by unfold wrap64; omega
 have t1 : Int.tdiv n d = n / d := Int.tdiv_eq_ediv_of_nonneg h0
 have t2 : Int.tmod n d = n % d := Int.tmod_eq_emod_of_nonneg h0
 unfold Nap.f Nd3.f
 rw [Nez n d _ (by omega), hR]
 simp only [Option.bind_some, if_true]
 rw [hs]
 simp only [Option.bind_some]
 rw [if_neg (by omega), w1, Nap.j0, if_neg (by omega), if_pos hd, t1, t2, w2, w3, w4, w5, itoa_f hq.1 (by omega)]
 simp only [Option.bind_some]
 have z0 : (⟨#[]⟩ : ByteArray) ++ ⟨(Lib.decDigits (n / d).toNat).toArray⟩ = ⟨(Lib.decDigits (n / d).toNat).toArray⟩ := by
  rw [show (⟨#[]⟩ : ByteArray) = ⟨([] : List UInt8).toArray⟩ from rfl, Nec]; rfl
 have z1 : (⟨#[]⟩ : ByteArray).size = 0 := rfl
 rw [z0, z1, Nak, if_pos (by omega)]
 unfold numL
 by_cases hd1 : d = 1
 ·rw [if_pos hd1, if_pos hd1, List.append_nil]
 ·rw [if_neg hd1, if_neg hd1, itoa_f (by omega) (by omega)]
  simp only [Option.bind_some]
  rw [if_pos (by omega), Nak, if_pos (by omega), ← Nak, tail_list, trim_f (by rw [List.length_drop]; omega)]
  simp only [Option.bind_some]
  have e4 := trimR_len ((Lib.decDigits (1000000 + n % d * (1000000 / d)).toNat).drop 1) 48
  rw [List.length_drop] at e4
  rw [show (⟨#[46]⟩ : ByteArray) = ⟨([46] : List UInt8).toArray⟩ from rfl, Nec, Nak, Nak, if_pos (by simp only [List.length_append, List.length_singleton]; omega), Nec]
  simp
def valTk (v : S46) : Tk :=
 if v.f0 = 2 then (2, v.f2) else if v.f0 = 4 then (4, Nbu.getD (v.f4 - 1).toNat ByteArray.empty) else if v.f0 = 3 then (3, if v.f3 then tTRUE else tFALSE) else (1, ⟨(numL v.f1.f0 v.f1.f1).toArray⟩)
def celL (r : S48) : List UInt8 := (if r.f4 then [36] else []) ++ colL r.f2 ++ (if r.f3 then [36] else []) ++ Lib.decDigits (r.f1 + 1).toNat
def theLf : Lf := ⟨valTk, fun r => ⟨(celL r).toArray⟩⟩
theorem lit_cases {v : S46} (h : litB v = true) :
 (v.f0 = 1 ∧ numB v.f1.f0 v.f1.f1 = true ∧ v.f2 = eB ∧ v.f3 = false ∧ v.f4 = 0 ∧ 0 ≤ v.f1.f0 ∧ (1000000 : Int) % v.f1.f1 = 0) ∨
 (v.f0 = 2 ∧ v.f1.f0 = 0 ∧ v.f1.f1 = 0 ∧ v.f2.size ≤ 256 ∧ plainB v.f2 = true ∧ v.f3 = false ∧ v.f4 = 0) ∨
 (v.f0 = 3 ∧ v.f1.f0 = 0 ∧ v.f1.f1 = 0 ∧ v.f2 = eB ∧ v.f4 = 0) ∨
 (v.f0 = 4 ∧ v.f1.f0 = 0 ∧ v.f1.f1 = 0 ∧ v.f2 = eB ∧ v.f3 = false ∧ 1 ≤ v.f4 ∧ v.f4 ≤ 8) := by
 unfold litB at h
 rw [Bool.and_eq_true, decide_eq_true_eq] at h
 obtain ⟨h, h0, h1⟩ := h
 unfold valB at h
 simp only [Bool.or_eq_true, Bool.and_eq_true, beq_iff_eq, Bool.not_eq_true', decide_eq_true_eq] at h
 rcases h with (((h | h) | h) | h) | h
 ·exact absurd h.1.1.1.1.1 h0
 ·obtain ⟨⟨⟨⟨a, b⟩, c⟩, d⟩, e⟩ := h
  have h1 := h1.resolve_left (fun hh => hh a)
  exact .inl ⟨a, b, eq_eB c, d, e, h1.1, h1.2⟩
 ·obtain ⟨⟨⟨⟨⟨⟨a, b⟩, c⟩, d⟩, e⟩, f⟩, g⟩ := h
  exact .inr (.inl ⟨a, b, c, d, e, f, g⟩)
 ·obtain ⟨⟨⟨⟨a, b⟩, c⟩, d⟩, e⟩ := h
  exact .inr (.inr (.inl ⟨a, b, c, eq_eB d, e⟩))
 ·obtain ⟨⟨⟨⟨⟨a, b⟩, c⟩, d⟩, e⟩, f, g⟩ := h
  exact .inr (.inr (.inr ⟨a, b, c, eq_eB d, e, f, g⟩))
theorem lit_val {v : S46} (h : litB v = true) : valB v.f0 v.f1.f0 v.f1.f1 v.f2 v.f3 v.f4 = true := by
 unfold litB at h
 rw [Bool.and_eq_true] at h
 exact h.1
theorem faults_size (e : Int) (h1 : 1 ≤ e) (h8 : e ≤ 8) : (Nbu.getD (e - 1).toNat ByteArray.empty).size ≤ 8 := by
 have : e = 1 ∨ e = 2 ∨ e = 3 ∨ e = 4 ∨ e = 5 ∨ e = 6 ∨ e = 7 ∨ e = 8 := by omega
 rcases this with rfl | rfl | rfl | rfl | rfl | rfl | rfl | rfl <;> decide
theorem txt_one (t : Tk) : txt [t] = Nd2 t := by rw [Nby, Ndl, List.append_nil]
theorem wrote_eq {B : Nat} {w : World} {g : Nat} {bs T U : List UInt8} {lv : Value} {a : Int} (e : T = U) {en : Ending} {w' : World} (h : en = .returned (.tuple #[]) ∧ Wrote B w g (bs ++ T) lv a w') : en = .returned (.tuple #[]) ∧ Wrote B w g (bs ++ U) lv a w' := e ▸ h
theorem text_f {K : Nat} (hK : 1000003 ≤ K) {n d e : Int} {tx : ByteArray} {b : Bool} (hR : numB n d = true) (h0 : 0 ≤ n) (hd : (1000000 : Int) % d = 0) (hv : valB 1 n d tx b e = true) : Nbs.f K 1 n d tx b e = some (⟨(numL n d).toArray⟩, 0, 0, 0, ⟨#[]⟩, false, 0) := by
 unfold Nbs.f Nbe.f
 rw [Ncp _ _ _ _ _ _ _ (by omega), hv]
 simp only [Option.bind_some, if_true]
 rw [if_neg (by decide), num_text_f hR h0 hd hK]
 rfl
theorem truth_f {K : Nat} (hK : 1000003 ≤ K) {n d e : Int} {tx : ByteArray} {b : Bool} (hv : valB 3 n d tx b e = true) : Nbs.f K 3 n d tx b e = some (if b then tTRUE else tFALSE, 0, 0, 0, ⟨#[]⟩, false, 0) := by
 unfold Nbs.f Nbe.f
 rw [Ncp _ _ _ _ _ _ _ (by omega), hv]
 simp only [Option.bind_some, if_true]
 rw [if_neg (by decide), if_neg (by decide)]
 cases b <;> rfl
theorem leaf_val {w0 : World} (hG : GL w0) {lv : Value} {v : S46} (h : litB v = true) : LeafW w0 lv theLf (nVal v) := by
 refine ⟨fun _ => ?_, fun hh => absurd hh (show ¬ ((1 : Int) = 2 ∨ (1 : Int) = 3) by decide), fun hh => absurd hh (show ¬ (1 : Int) = 3 by decide)⟩
 intro w g bs a hp hlen
 obtain ⟨kd, ⟨n, d⟩, tx, b, e⟩ := v
 have hv := lit_val h
 show Calls Tryz.prog 75 #[.pointer (some ⟨g, 0, none⟩), .agg #[.int .i64 kd, .int .i64 n, .int .i64 d, .string tx, .bool b, .int .i64 e]] w (fun e' w' => e' = .returned (.tuple #[]) ∧ Wrote w0.heap.size w g (bs ++ txt [valTk ⟨kd, ⟨n, d⟩, tx, b, e⟩]) lv a w')
 rw [txt_one]
 rcases lit_cases h with ⟨h0, hN, h2, h3, h4, h5, h6⟩ | ⟨h0, h1, h2, h3, h4, h5, h6⟩ | ⟨h0, h1, h2, h3, h4⟩ | ⟨h0, h1, h2, h3, h4, h5, h6⟩
 ·simp only at h0 hN h2 h3 h4 h5 h6 hv
  subst h0
  have hb := hN
  unfold numB at hb
  obtain ⟨-, b1, b2, b3, -⟩ := of_decide_eq_true hb
  have hsz := num_len h5 b1 b2 b3
  exact Nel hp.pr hp.bel hG (t := ⟨(numL n d).toArray⟩) (by decide) (fun w hw => show_text (kd := 1) (k := 1000003) hw (by rw [Ncp _ _ _ _ _ _ _ (by omega)]; exact congrArg some hv) (by decide) (by decide) (text_f (Nat.le_refl _) hN h5 h6 hv)) (by rw [Nak]; omega) hlen
 ·simp only at h0 h1 h2 h3 h4 h5 h6 hv
  subst h0
  have hr : Nav.f tx ⟨#[34]⟩ ⟨#[34, 34]⟩ = some ⟨(Lib.replaceAll tx.data.toList [34] [34, 34]).toArray⟩ := by
   unfold Nav.f
   have hc := Lib.countB_le ⟨#[34]⟩ (by decide) tx.size tx (Nat.le_refl _)
   have e2 : (⟨#[34, 34]⟩ : ByteArray).size = 2 := rfl
   rw [if_pos ⟨by omega, by decide, by rw [e2]; omega⟩]
  have hl := dblL_len tx.data.toList
  have hz : tx.data.toList.length = tx.size := Array.length_toList
  exact literal_text (kd := 2) (rt := ⟨(Lib.replaceAll tx.data.toList [34] [34, 34]).toArray⟩) hp.pr hp.bel hG hr (by rw [Nak]; have e := congrArg List.length (Net tx.data.toList); omega) hlen
 ·simp only at h0 h1 h2 h3 h4 hv
  subst h0
  refine Nel hp.pr hp.bel hG (t := if b then tTRUE else tFALSE) (by decide) (fun w hw => show_text (kd := 3) (k := 1000003) hw (by rw [Ncp _ _ _ _ _ _ _ (by omega)]; exact congrArg some hv) (by decide) (by decide) (truth_f (Nat.le_refl _) hv)) (by cases b <;> decide) hlen
 ·simp only at h0 h1 h2 h3 h4 h5 h6 hv
  subst h0
  exact Nel hp.pr hp.bel hG (t := Nbu.getD (e - 1).toNat ByteArray.empty) (by decide) (fun w hw => show_fault (kd := 4) (k := 1000003) hw (by rw [Ncp _ _ _ _ _ _ _ (by omega)]; exact congrArg some hv) h5 h6) (by have := faults_size e h5 h6; omega) hlen
theorem Nep {r : S48} (h : refR r = true) : (r.f0 = eB ∨ Ndw r.f0 = true) ∧ 0 ≤ r.f1 ∧ r.f1 < 65536 ∧ 0 ≤ r.f2 ∧ r.f2 < 256 := by
 unfold refR refB at h
 simp only [Bool.and_eq_true, Bool.or_eq_true, beq_iff_eq, decide_eq_true_eq] at h
 obtain ⟨h1, h2⟩ := h
 refine ⟨?_, h2⟩
 rcases h1 with h1 | h1
 ·exact .inl (eq_eB h1)
 ·exact .inr h1
theorem eB_size {s : ByteArray} : s.size = 0 ↔ s = eB := by
 constructor
 ·intro h; exact eq_eB ((Ndi s).mpr h)
 ·rintro rfl; rfl
theorem cell_text {r : S48} {k : Nat} (hk : k = (colL r.f2).length) : cellW r (nameL r.f1 r.f2) k = txt (refT theLf r) := by
 subst hk
 unfold cellW refT nameL
 rw [List.take_left, List.drop_left]
 have e : theLf.cel r = ⟨(celL r).toArray⟩ := rfl
 by_cases h0 : r.f0 = eB
 ·rw [if_pos (eB_size.2 h0), if_pos h0, txt_one, e, tk3]
  simp [celL]
 ·rw [if_neg (fun h => h0 (eB_size.1 h)), if_neg h0, Nby, Nby, txt_one, e, tk3, tk3]
  simp [celL, mk, mB, tk5]
theorem cell_leaf {w0 : World} (hG : GL w0) {lv : Value} {r : S48} (h : refR r = true) (hs : r.f0.size ≤ 1000) {w : World} {g : Nat} {bs : List UInt8} {a : Int} (hp : Pr w0 lv w g bs a) (hlen : bs.length ≤ 1000000000) :
 Calls Tryz.prog 76 #[.pointer (some ⟨g, 0, none⟩), v48 r] w fun e w' => e = .returned (.tuple #[]) ∧ Wrote w0.heap.size w g (bs ++ txt (refT theLf r)) lv a w' := by
 obtain ⟨-, h1, h2, h3, h4⟩ := Nep h
 have hn := name_f h1 h2 h3 h4
 have hl := name_len (c := r.f2) h1 h2
 have hk := name_index h1 h2 h3 h4
 have := cell_any hp.pr hp.bel hG r (nm := ⟨(nameL r.f1 r.f2).toArray⟩) (k := (colL r.f2).length) hn hk (by rw [Nak]; unfold nameL; rw [List.length_append]; omega) (by rw [Nak]; omega) (fun j b hj => name_ascii h1 h2 h3 h4 b (List.mem_of_getElem? hj)) hs hlen
 exact this.mono fun e w' hh => wrote_eq (cell_text rfl) hh
theorem sheet_size {s : ByteArray} (h : Ndw s = true) : s.size ≤ 16 := by
 unfold Ndw at h
 simp only [Bool.and_eq_true, decide_eq_true_eq] at h
 omega
theorem refR_size {r : S48} (h : refR r = true) : r.f0.size ≤ 1000 := by
 rcases (Nep h).1 with h | h
 ·rw [eB_size.2 h]; omega
 ·have := sheet_size h; omega
theorem good_leaf {w0 : World} (hG : GL w0) {lv : Value} {n : S50} {c : Int} (h : Good n c) : LeafW w0 lv theLf n := by
 cases h with
 | val v hv => exact leaf_val hG hv
 | cell r hr => exact ⟨fun hh => absurd hh (show ¬ (2 : Int) = 1 by decide), fun _ w g bs a hp hlen => cell_leaf hG hr (refR_size hr) hp hlen, fun hh => absurd hh (show ¬ (2 : Int) = 3 by decide)⟩
 | area r s hr hs h0 =>
  refine ⟨fun hh => absurd hh (show ¬ (3 : Int) = 1 by decide), fun _ w g bs a hp hlen => cell_leaf hG hr (refR_size hr) hp hlen, fun _ w g bs a hp hlen => ?_⟩
  have := cell_leaf hG hs (refR_size hs) hp hlen
  unfold refT at this
  rw [if_pos h0] at this
  exact this
 | un o h1 h3 => exact ⟨fun hh => absurd hh (show ¬ (4 : Int) = 1 by decide), fun hh => absurd hh (show ¬ ((4 : Int) = 2 ∨ (4 : Int) = 3) by decide), fun hh => absurd hh (show ¬ (4 : Int) = 3 by decide)⟩
 | bin o ho => exact ⟨fun hh => absurd hh (show ¬ (5 : Int) = 1 by decide), fun hh => absurd hh (show ¬ ((5 : Int) = 2 ∨ (5 : Int) = 3) by decide), fun hh => absurd hh (show ¬ (5 : Int) = 3 by decide)⟩
 | call m c hm h0 h30 => exact ⟨fun hh => absurd hh (show ¬ (6 : Int) = 1 by decide), fun hh => absurd hh (show ¬ ((6 : Int) = 2 ∨ (6 : Int) = 3) by decide), fun hh => absurd hh (show ¬ (6 : Int) = 3 by decide)⟩
theorem fn_size {s : ByteArray} (h : fnB s = true) : s.size ≤ 16 := by
 unfold fnB at h
 simp only [Bool.and_eq_true] at h
 exact sheet_size h.1
theorem good_node {n : S50} {c : Int} (h : Good n c) : NodeW n := by
 cases h with
 | val v hv => exact ⟨fun hh => absurd hh (show ¬ (1 : Int) = 5 by decide), show eB.size ≤ 100000 by decide, show (0 : Int) ≤ 100000 by decide, fun hh => absurd rfl hh⟩
 | cell r hr => exact ⟨fun hh => absurd hh (show ¬ (2 : Int) = 5 by decide), show eB.size ≤ 100000 by decide, show (0 : Int) ≤ 100000 by decide, fun _ hh => absurd rfl hh⟩
 | area r s hr hs h0 => exact ⟨fun hh => absurd hh (show ¬ (3 : Int) = 5 by decide), show eB.size ≤ 100000 by decide, show (0 : Int) ≤ 100000 by decide, fun _ _ hh => absurd rfl hh⟩
 | un o h1 h3 => exact ⟨fun hh => absurd hh (show ¬ (4 : Int) = 5 by decide), show eB.size ≤ 100000 by decide, show (0 : Int) ≤ 100000 by decide, fun _ _ _ _ _ => rfl⟩
 | bin o ho =>
  refine ⟨fun _ => ?_, show eB.size ≤ 100000 by decide, show (0 : Int) ≤ 100000 by decide, fun _ _ _ _ hh => absurd rfl hh⟩
  show Ndv o = Nb9 o
  unfold binO at ho
  unfold Ndv
  rw [if_neg (by omega), if_neg (by omega)]
 | call m c hm h0 h30 => exact ⟨fun hh => absurd hh (show ¬ (6 : Int) = 5 by decide), by have := fn_size hm; show m.size ≤ 100000; omega, by show c ≤ 100000; omega, fun _ _ _ hh => absurd rfl hh⟩
theorem tk_len (t : Tk) (h : t.1 ≠ 2) : (Nd2 t).length = t.2.size := by unfold Nd2; rw [if_neg h]; exact Array.length_toList
theorem print_tree {A : Option Addr} {c : Nat} {l : List S50} {w : World} (hG : GL w) (hC : Kd.C k50 w A l.length l) (hc : l.length ≤ c) {K : Nat} (hcc : Na7.f K l = some 0) {K2 : Nat} {T : List Tk} (ht : tkF theLf K2 1 l = some (T, [])) (hlen : (txt T).length ≤ 1000000000) (hne : txt T ≠ []) :
 Calls Tryz.prog 26 #[.slice A l.length c] w fun en w' => en = .returned (.tuple #[.string ⟨(txt T).toArray⟩, .int .i64 0]) ∧ Below w.heap.size w w' := by
 obtain ⟨d, hd, -, hl⟩ := check_back hcc
 have hg := hd.good
 exact print_ok hG hC hc (by omega) hcc (fun w0 h0 n hn => good_leaf h0 (good_of n (hg n hn))) (fun n hn => good_node (good_of n (hg n hn))) ht hlen hne
def qend : List UInt8 → Option Nat
 | [] => none
 | c :: r => if c = 34 then (match r with | [] => some 0 | d :: r' => if d = 34 then (qend r').map (· + 2) else some 0) else (qend r).map (· + 1)
def badAt : List UInt8 → Option Nat
 | [] => none
 | c :: r => if c.toNat < 32 ∨ 126 < c.toNat then some 0 else (badAt r).map (· + 1)
def undblL (l : List UInt8) : List UInt8 := Lib.replaceAll l [34, 34] [34]
theorem lb_ext {a b : ByteArray} (h : a.data.toList = b.data.toList) : a = b := ByteArray.ext (Array.toList_inj.1 h)
theorem ext_list (l : List UInt8) (a b : Nat) : (⟨l.toArray⟩ : ByteArray).extract a b = ⟨((l.drop a).take (b - a)).toArray⟩ := by
 apply lb_ext
 rw [ByteArray.data_extract, Array.toList_extract, List.extract_eq_take_drop]
theorem ext_drop (l : List UInt8) (a : Nat) : (⟨l.toArray⟩ : ByteArray).extract a (⟨l.toArray⟩ : ByteArray).size = ⟨(l.drop a).toArray⟩ := by
 apply lb_ext
 rw [drop_list]
theorem ext_take (l : List UInt8) (b : Nat) : (⟨l.toArray⟩ : ByteArray).extract 0 b = ⟨(l.take b).toArray⟩ := by
 rw [ext_list]; simp
theorem bt_list (l : List UInt8) (i : Nat) (h : i < l.length) : bt ⟨l.toArray⟩ (i : Int) = (l[i].toNat : Int) := by
 rw [bt_nat _ i (by rw [Nak]; exact h)]
theorem bt_cons (c : UInt8) (r : List UInt8) : bt ⟨(c :: r).toArray⟩ 0 = (c.toNat : Int) := bt0 c r
theorem byte_eq {c : UInt8} {n : Nat} (hn : n < 256) : c.toNat = n ↔ c = UInt8.ofNat n := by
 constructor
 ·intro h; rw [← h, UInt8.ofNat_toNat]
 ·rintro rfl; exact nat8 hn
theorem qend_ne {c : UInt8} {r : List UInt8} (h : c ≠ 34) : qend (c :: r) = (qend r).map (· + 1) := by
 rw [qend.eq_def]
 simp only [if_neg h]
theorem ixb_none : ∀ (l : List UInt8), Lib.indexByte l 34 = -1 → qend l = none
 | [], _ => rfl
 | c :: r, h => by
  unfold Lib.indexByte at h
  by_cases hc : c = 34
  ·rw [if_pos (by rw [beq_iff_eq]; exact hc)] at h; cases h
  ·rw [if_neg (by rw [beq_iff_eq]; exact hc)] at h
   have hg := Lib.indexByte_ge r 34
   have : Lib.indexByte r 34 = -1 := by
    by_cases hh : Lib.indexByte r 34 = -1
    ·exact hh
    ·rw [if_neg (by rw [beq_iff_eq]; exact hh)] at h; omega
   rw [qend_ne hc, ixb_none r this]; rfl
theorem ixb_some : ∀ (l : List UInt8) (k : Nat), Lib.indexByte l 34 = (k : Int) → k < l.length ∧ qend l = (match l.drop (k + 1) with | [] => some k | d :: r' => if d = 34 then (qend r').map (· + (k + 2)) else some k)
 | [], k, h => by
  rw [show Lib.indexByte [] 34 = -1 from rfl] at h; omega
 | c :: r, k, h => by
  unfold Lib.indexByte at h
  by_cases hc : c = 34
  ·rw [if_pos (by rw [beq_iff_eq]; exact hc)] at h
   obtain rfl : k = 0 := by omega
   refine ⟨by simp, ?_⟩
   rw [qend.eq_def]
   simp only [if_pos hc, List.drop_succ_cons, List.drop_zero]
  ·rw [if_neg (by rw [beq_iff_eq]; exact hc)] at h
   have hg := Lib.indexByte_ge r 34
   have hne : Lib.indexByte r 34 ≠ -1 := by
    intro hh
    rw [if_pos (by rw [beq_iff_eq]; exact hh)] at h; omega
   rw [if_neg (by rw [beq_iff_eq]; exact hne)] at h
   obtain ⟨j, rfl⟩ : ∃ j, k = j + 1 := ⟨k - 1, by omega⟩
   obtain ⟨h1, h2⟩ := ixb_some r j (by omega)
   refine ⟨by simp; omega, ?_⟩
   rw [qend_ne hc, h2, List.drop_succ_cons]
   cases r.drop (j + 1) with
   | nil => rfl
   | cons d r' =>
    simp only
    by_cases hd : d = 34
    ·rw [if_pos hd, if_pos hd, Option.map_map]
     congr 1
    ·rw [if_neg hd, if_neg hd]; rfl
theorem qend_le : ∀ (n : Nat) (l : List UInt8) (e : Nat), l.length ≤ n → qend l = some e → e < l.length
 | 0, l, e, hn, h => by
  obtain rfl := List.eq_nil_of_length_eq_zero (Nat.le_zero.1 hn)
  cases h
 | n + 1, [], e, hn, h => by cases h
 | n + 1, c :: r, e, hn, h => by
  rw [qend.eq_def] at h
  simp only at h
  split at h
  ·cases r with
   | nil => cases h; simp
   | cons d r' =>
    simp only at h
    split at h
    ·obtain ⟨e', h1, rfl⟩ := Option.map_eq_some_iff.1 h
     have := qend_le n r' e' (by simp at hn; omega) h1
     simp; omega
    ·cases h; simp
  ·obtain ⟨e', h1, rfl⟩ := Option.map_eq_some_iff.1 h
   have := qend_le n r e' (by simp at hn; omega) h1
   simp; omega
def quotL (l : List UInt8) : List UInt8 × Nat × Int :=
 match qend (l.drop 1) with
 | none => ([], 0, 41)
 | some e => match badAt (l.take (e + 2)) with
  | some i => ([], i, 40)
  | none => (undblL ((l.drop 1).take e), e + 2, 0)
theorem wr_nat {n : Nat} (h : n ≤ 1000000000000) : wrap64 (n : Int) = (n : Int) := by unfold wrap64; omega
theorem quot_l1 (l : List UInt8) (hl : l.length ≤ 100000) (E : Nat) (h2 : 2 ≤ E) (hE : E ≤ l.length) : ∀ (d i K : Nat), E - i = d → i ≤ E → d < K →
 Naj.l1 K ⟨l.toArray⟩ (E : Int) (E : Int) (i : Int) = some (match badAt ((l.take E).drop i) with | some b => (⟨#[]⟩, ((i + b : Nat) : Int), 40) | none => (⟨(undblL ((l.drop 1).take (E - 2))).toArray⟩, (E : Int), 0)) := by
 intro d
 induction d with
 | zero =>
  intro i K hd hi hK
  obtain ⟨K, rfl⟩ : ∃ y, K = y + 1 := ⟨K - 1, by omega⟩
  obtain rfl : i = E := by omega
  have w1 : wrap64 ((i : Int) - 1) = ((i - 1 : Nat) : Int) := by unfold wrap64; omega
  rw [Naj.l1, if_neg (by omega), w1, if_pos (by omega), if_pos (by rw [Nak]; omega)]
  have hr : Nav.f ((⟨l.toArray⟩ : ByteArray).extract 1 ((i - 1 : Nat) : Int).toNat) ⟨#[34, 34]⟩ ⟨#[34]⟩ = some ⟨(undblL ((l.drop 1).take (i - 2))).toArray⟩ := by
   rw [Int.toNat_natCast, ext_list, show i - 1 - 1 = i - 2 by omega]
   unfold Nav.f
   have hc := Lib.countB_le ⟨#[34, 34]⟩ (by decide) _ (⟨((l.drop 1).take (i - 2)).toArray⟩ : ByteArray) (Nat.le_refl _)
   have e1 : (⟨#[34]⟩ : ByteArray).size = 1 := rfl
   have hz : ((l.drop 1).take (i - 2)).length ≤ 100000 := by rw [List.length_take, List.length_drop]; omega
   rw [Nak] at hc
   rw [if_pos ⟨by rw [Nak]; omega, by decide, by rw [e1, Nak]; omega⟩]
   rfl
  rw [hr]
  have : (l.take i).drop i = [] := List.drop_eq_nil_of_le (by rw [List.length_take]; omega)
  rw [this]; rfl
 | succ d ih =>
  intro i K hd hi hK
  obtain ⟨K, rfl⟩ : ∃ y, K = y + 1 := ⟨K - 1, by omega⟩
  have hil : i < l.length := by omega
  have hcons : (l.take E).drop i = l[i] :: (l.take E).drop (i + 1) := by
   rw [List.drop_eq_getElem_cons (by rw [List.length_take]; omega)]
   simp
  have hb := bt_list l i hil
  rw [Naj.l1, if_pos (by omega), if_pos (by omega), if_pos (by rw [Nak]; omega), hb, hcons, badAt]
  by_cases h1 : l[i].toNat < 32
  ·rw [if_pos (by omega), if_pos (.inl h1)]; rfl
  rw [if_neg (by omega)]
  by_cases h3 : 126 < l[i].toNat
  ·rw [if_pos (by omega), if_pos (.inr h3)]; rfl
  rw [if_neg (by omega), if_neg (by omega), wr1 (by omega) (by omega), show ((i : Int) + 1) = ((i + 1 : Nat) : Int) by omega, ih (i + 1) K (by omega) (by omega) (by omega)]
  cases badAt ((l.take E).drop (i + 1)) with
  | none => rfl
  | some b => simp only [Option.map_some]; rw [show i + 1 + b = i + (b + 1) by omega]
theorem quot_l0 (l : List UInt8) (hl : l.length ≤ 100000) : ∀ (d j K : Nat), l.length - j = d → 1 ≤ j → j ≤ l.length → d + l.length + 5 ≤ K →
 Naj.l0 K ⟨l.toArray⟩ (j : Int) = some (match qend (l.drop j) with
  | none => (⟨#[]⟩, 0, 41)
  | some e => match badAt (l.take (j + e + 1)) with
   | some i => (⟨#[]⟩, (i : Int), 40)
   | none => (⟨(undblL ((l.drop 1).take (j + e - 1))).toArray⟩, ((j + e + 1 : Nat) : Int), 0)) := by
 intro d
 induction d using Nat.strongRecOn with
 | _ d ih =>
  intro j K hd h1 hj hK
  obtain ⟨K, rfl⟩ : ∃ y, K = y + 1 := ⟨K - 1, by omega⟩
  have hx : strings_IndexByte.f ((⟨l.toArray⟩ : ByteArray).extract (j : Int).toNat (⟨l.toArray⟩ : ByteArray).size) 34 = some (Lib.indexByte (l.drop j) 34) := by
   rw [Int.toNat_natCast, ext_drop]; rfl
  rw [Naj.l0, if_pos (by omega), if_pos (by rw [Nak]; omega), hx]
  simp only [Option.bind_some]
  have hge := Lib.indexByte_ge (l.drop j) 34
  by_cases hn : Lib.indexByte (l.drop j) 34 < 0
  ·rw [if_pos hn, ixb_none _ (by omega)]
  ·obtain ⟨k, hk⟩ : ∃ k : Nat, Lib.indexByte (l.drop j) 34 = (k : Int) := ⟨(Lib.indexByte (l.drop j) 34).toNat, by omega⟩
   obtain ⟨hkl, hq⟩ := ixb_some _ k hk
   rw [List.length_drop] at hkl
   have w0 : wrap64 ((j : Int) + wrap64 ((k : Int) + 1)) = ((j + k + 1 : Nat) : Int) := by
    rw [wr1 (by omega) (by omega)]; unfold wrap64; omega
   rw [if_neg hn, hk, w0, Nak, hq, List.drop_drop]
   have hj1 : ∀ K', l.length + 3 ≤ K' → Naj.j1 K' ⟨l.toArray⟩ ((j + k + 1 : Nat) : Int) = some (match badAt (l.take (j + k + 1)) with | some i => (⟨#[]⟩, (i : Int), 40) | none => (⟨(undblL ((l.drop 1).take (j + k - 1))).toArray⟩, ((j + k + 1 : Nat) : Int), 0)) := by
    intro K' hK'
    obtain ⟨K', rfl⟩ : ∃ y, K' = y + 1 := ⟨K' - 1, by omega⟩
    have := quot_l1 l hl (j + k + 1) (by omega) (by omega) (j + k + 1) 0 K' (by omega) (by omega) (by omega)
    rw [List.drop_zero, show j + k + 1 - 2 = j + k - 1 by omega] at this
    simp only [Nat.zero_add] at this
    rw [Naj.j1]
    exact this
   by_cases he : (((j + k + 1 : Nat) : Int)) = (l.length : Int)
   ·rw [if_pos he, hj1 K (by omega), show j + (k + 1) = j + k + 1 by omega, List.drop_eq_nil_of_le (show l.length ≤ j + k + 1 by omega)]
   ·rw [if_neg he, if_pos (by omega), if_pos (by omega)]
    have hil : j + k + 1 < l.length := by omega
    have hb := bt_list l (j + k + 1) hil
    rw [hb, show j + (k + 1) = j + k + 1 by omega, List.drop_eq_getElem_cons hil]
    simp only
    by_cases h34 : l[j + k + 1] = 34
    ·have h34' : ((l[j + k + 1].toNat : Nat) : Int) = 34 := by rw [h34]; rfl
     rw [if_pos h34', if_pos h34, wr1 (by omega) (by omega), show (((j + k + 1 : Nat) : Int) + 1) = ((j + k + 2 : Nat) : Int) by omega, ih (l.length - (j + k + 2)) (by omega) (j + k + 2) K rfl (by omega) (by omega) (by omega)]
     rw [show j + k + 1 + 1 = j + k + 2 by omega]
     cases qend (l.drop (j + k + 2)) with
     | none => rfl
     | some e =>
      simp only [Option.map_some]
      rw [show j + k + 2 + e + 1 = j + (e + (k + 2)) + 1 by omega, show j + k + 2 + e - 1 = j + (e + (k + 2)) - 1 by omega]
    ·have h34' : ¬ ((l[j + k + 1].toNat : Nat) : Int) = 34 := by
      intro hh
      exact h34 ((byte_eq (n := 34) (by decide)).1 (by omega))
     rw [if_neg h34', if_neg h34, hj1 K (by omega)]
theorem quot_f (r : List UInt8) (hl : r.length < 100000) {K : Nat} (hK : 2 * (r.length + 1) + 10 ≤ K) : Naj.f K ⟨(34 :: r).toArray⟩ = some (⟨(quotL (34 :: r)).1.toArray⟩, ((quotL (34 :: r)).2.1 : Int), (quotL (34 :: r)).2.2) := by
 unfold Naj.f quotL
 have := quot_l0 (34 :: r) (by simp; omega) r.length 1 K (by simp) (by omega) (by simp) (by simp; omega)
 rw [show (1 : Int) = ((1 : Nat) : Int) from rfl, this]
 cases qend ((34 :: r).drop 1) with
 | none => rfl
 | some e =>
  simp only
  rw [show 1 + e + 1 = e + 2 by omega, show 1 + e - 1 = e by omega]
  cases badAt ((34 :: r).take (e + 2)) with
  | none => rfl
  | some i => rfl
end Go.Proofs.YtejbbceidnaloaaGreatDoor.P
