import Derived.Test.YtejbbceidnaloaaGreatDoorV25
import Derived.Lib.ItoaNum
import Derived.Test.YtejbbceidnaloaaGreatDoorV28
import Derived.Lib.SplitLaws
import Derived.Lib.Replace
set_option linter.unusedVariables false
set_option linter.unusedSimpArgs false
set_option maxRecDepth 100000
set_option maxHeartbeats 8000000
namespace Go.Proofs.YtejbbceidnaloaaGreatDoor.P
open Go.RowKit AW AL AM
def decB (n : Int) : ByteArray := ⟨(Lib.decDigits n.toNat).toArray⟩
theorem itoa_dig {n : Int} (h : 0 ≤ n) : (⟨(Lib.itoa n).toArray⟩ : ByteArray) = decB n := by
 unfold Lib.itoa decB; rw [if_neg (by omega)]
def isDig (c : UInt8) : Prop := 48 ≤ c.toNat ∧ c.toNat ≤ 57
def Nck (a : Nat) (l : List UInt8) : Nat := l.foldl (fun a c => a * 10 + (c.toNat - 48)) a
theorem Nd7 (a : Nat) : Nck a [] = a := by unfold Nck; exact List.foldl_nil
theorem Ndc (a : Nat) (c : UInt8) (l : List UInt8) : Nck a (c :: l) = Nck (a * 10 + (c.toNat - 48)) l := by unfold Nck; exact List.foldl_cons ..
theorem decVal_ge : ∀ (l : List UInt8) (a : Nat), a ≤ Nck a l := by
 intro l
 induction l with
 | nil => intro a; rw [Nd7]; exact Nat.le_refl _
 | cons c l ih =>
  intro a
  rw [Ndc]
  have := ih (a * 10 + (c.toNat - 48))
  omega
theorem decVal_snoc (d : UInt8) : ∀ (l : List UInt8) (a : Nat), Nck a (l ++ [d]) = Nck a l * 10 + (d.toNat - 48) := by
 intro l
 induction l with
 | nil => intro a; rw [List.nil_append, Ndc, Nd7, Nd7]
 | cons c l ih => intro a; rw [List.cons_append, Ndc, Ndc]; exact ih _
theorem decVal_lt : ∀ (l : List UInt8) (a : Nat), (∀ c ∈ l, isDig c) → Nck a l < (a + 1) * 10 ^ l.length := by
 intro l
 induction l with
 | nil => intro a _; rw [Nd7, List.length_nil]; omega
 | cons c l ih =>
  intro a h
  rw [Ndc, List.length_cons]
  have hc := h c (List.mem_cons_self ..)
  refine Nat.lt_of_lt_of_le (ih (a * 10 + (c.toNat - 48)) (fun d hd => h d (List.mem_cons_of_mem _ hd))) ?_
  rw [Nat.pow_succ, Nat.mul_comm (10 ^ l.length) 10, ← Nat.mul_assoc]
  refine Nat.mul_le_mul_right _ ?_
  unfold isDig at hc
  omega
def canon (l : List UInt8) : Prop := (∀ c ∈ l, isDig c) ∧ ∃ c r, l = c :: r ∧ c.toNat ≠ 48
theorem dig_toNat {i : Nat} (h : i < 10) : (UInt8.ofNat (48 + i)).toNat = 48 + i := by
 rw [UInt8.toNat_ofNat']; omega
theorem dec_canon : ∀ (u : Nat), (∀ c ∈ Lib.decDigits u, isDig c) ∧ Nck 0 (Lib.decDigits u) = u ∧ (0 < u → canon (Lib.decDigits u)) := by
 intro u
 induction u using Nat.strongRecOn with
 | _ u ih =>
  unfold Lib.decDigits
  split
  ·rename_i h
   have e := dig_toNat h
   have d : ∀ c ∈ [UInt8.ofNat (48 + u)], isDig c := by
    intro c hc
    rw [List.mem_singleton] at hc
    subst hc
    unfold isDig
    omega
   refine ⟨d, ?_, fun hu => ⟨d, _, _, rfl, by omega⟩⟩
   rw [Ndc, Nd7]
   omega
  ·rename_i h
   obtain ⟨d, v, c⟩ := ih (u / 10) (by omega)
   have e := dig_toNat (i := u % 10) (by omega)
   have d' : ∀ c ∈ Lib.decDigits (u / 10) ++ [UInt8.ofNat (48 + u % 10)], isDig c := by
    intro x hx
    rcases List.mem_append.mp hx with hx | hx
    ·exact d x hx
    ·rw [List.mem_singleton] at hx
     subst hx
     unfold isDig
     omega
   refine ⟨d', ?_, fun hu => ⟨d', ?_⟩⟩
   ·rw [decVal_snoc, v, e]; omega
   ·obtain ⟨_, x, r, hx, hn⟩ := c (by omega)
    exact ⟨x, r ++ [UInt8.ofNat (48 + u % 10)], by rw [hx]; rfl, hn⟩
theorem bt0 (a : UInt8) (l : List UInt8) : bt ⟨(a :: l).toArray⟩ 0 = (a.toNat : Int) := by
 unfold bt
 rw [dif_pos (show (0 : Int).toNat < (⟨(a :: l).toArray⟩ : ByteArray).size by show 0 < (a :: l).toArray.size; simp)]
 rfl
theorem drop_list (l : List UInt8) (n : Nat) : ((⟨l.toArray⟩ : ByteArray).extract n (⟨l.toArray⟩ : ByteArray).size).data.toList = l.drop n := by
 have e : (⟨l.toArray⟩ : ByteArray).size = l.length := by show l.toArray.size = _; simp
 rw [e, ByteArray.data_extract, Array.toList_extract, List.extract_eq_take_drop]
 simp only
 rw [List.take_of_length_le (by simp)]
theorem Nal (l : List UInt8) : (⟨l.toArray⟩ : ByteArray).size = l.length := by show l.toArray.size = _; simp
def colL (n : Int) : List UInt8 := if n < 26 then [UInt8.ofNat (65 + n).toNat] else [UInt8.ofNat (65 + n / 26 - 1).toNat, UInt8.ofNat (65 + n % 26).toNat]
theorem colB_list (n : Int) (h0 : 0 ≤ n) (h1 : n < 256) : colB n = ⟨(colL n).toArray⟩ := by
 unfold colB colL
 rw [if_neg (by omega), if_neg (by omega)]
 split <;> rfl
theorem nat8 {n : Nat} (h : n < 256) : (UInt8.ofNat n).toNat = n := by rw [UInt8.toNat_ofNat']; omega
theorem list_text (s : ByteArray) : s = ⟨s.data.toList.toArray⟩ := by cases s; rfl
theorem New (l m : List UInt8) : (⟨l.toArray⟩ : ByteArray) ++ ⟨m.toArray⟩ = ⟨(l ++ m).toArray⟩ := by
 apply ByteArray.ext
 rw [ByteArray.data_append]
 simp
theorem ix_cons_eq (c : UInt8) (l : List UInt8) : Lib.index (c :: l) [c] = 0 := by
 rw [Lib.index, if_pos (by simp [List.isPrefixOf])]
theorem ix_cons_ne {b c : UInt8} (l : List UInt8) (h : b ≠ c) : Lib.index (b :: l) [c] = if Lib.index l [c] == -1 then -1 else Lib.index l [c] + 1 := by
 rw [Lib.index, if_neg (by simp [List.isPrefixOf, Ne.symm h])]
theorem Ne0 (c : UInt8) (new : List UInt8) : ∀ (s : List UInt8) (k : Nat), Lib.count s [c] ≤ k → Lib.replaceK [c] new k s = s.flatMap fun b => if b = c then new else [b]
 | [], k, _ => by
  cases k with
  | zero => rfl
  | succ k => rfl
 | b :: l, k, h => by
  by_cases hb : b = c
  ·subst hb
   rw [Lib.count_cons_eq] at h
   obtain ⟨k, rfl⟩ : ∃ k', k = k' + 1 := ⟨k - 1, by omega⟩
   rw [Lib.replaceK_hit _ _ _ _ 0 (ix_cons_eq _ _)]
   have ih := Ne0 b new l k (by omega)
   simp only [List.take_zero, List.nil_append, List.length_cons, List.length_nil, Nat.zero_add, List.drop_succ_cons, List.drop_zero, List.flatMap_cons, if_true]
   rw [ih]
  ·rw [Lib.count_cons_ne _ _ _ hb] at h
   have ih := Ne0 c new l k h
   simp only [List.flatMap_cons, if_neg hb, List.singleton_append]
   rw [← ih]
   cases k with
   | zero => rfl
   | succ k =>
    rcases Lib.index_spec l [c] with ⟨h1, _⟩ | ⟨i, h1, _⟩
    ·rw [Lib.replaceK, Lib.replaceK, ix_cons_ne l hb, h1]; rfl
    ·have h2 : Lib.index (b :: l) [c] = ((i + 1 : Nat) : Int) := by
      rw [ix_cons_ne l hb, h1, if_neg (by rw [beq_iff_eq]; omega)]; rfl
     rw [Lib.replaceK_hit _ _ _ _ _ h1, Lib.replaceK_hit _ _ _ _ _ h2]
     simp only [List.take_succ_cons, List.length_cons, List.length_nil, Nat.zero_add, List.cons_append]
     rw [show i + 1 + 1 = (i + 1) + 1 from rfl, List.drop_succ_cons]
def dblL (l : List UInt8) : List UInt8 := l.flatMap fun b => if b = 34 then [34, 34] else [b]
theorem Nfd (l : List UInt8) : Lib.replaceAll l [34] [34, 34] = dblL l := by
 unfold Lib.replaceAll Lib.replace
 rw [if_neg (by decide), show Lib.replaceNum l [34] (-1) = Lib.count l [34] by unfold Lib.replaceNum; rw [if_pos (by omega)]]
 exact Ne0 34 [34, 34] l _ (Nat.le_refl _)
theorem dblL_len : ∀ l : List UInt8, (dblL l).length ≤ 2 * l.length
 | [] => Nat.le_refl _
 | b :: l => by
  have ih := dblL_len l
  unfold dblL at ih ⊢
  rw [List.flatMap_cons, List.length_append, List.length_cons]
  split <;> simp only [List.length_cons, List.length_nil] <;> omega
theorem dec_le : ∀ (n u : Nat), u < 10 ^ (n + 1) → (Lib.decDigits u).length ≤ n + 1
 | 0, u, h => by
  rw [Lib.decDigits, dif_pos (by simpa using h)]; simp
 | n + 1, u, h => by
  rw [Lib.decDigits]
  split
  ·simp
  ·have ih := dec_le n (u / 10) (by rw [Nat.div_lt_iff_lt_mul (by decide)]; rw [Nat.pow_succ] at h; exact h)
   rw [List.length_append, List.length_singleton]; omega
theorem colL_up {c : Int} (h0 : 0 ≤ c) (h1 : c < 256) : ∀ b ∈ colL c, 65 ≤ b.toNat ∧ b.toNat ≤ 90 := by
 intro b hb
 unfold colL at hb
 split at hb
 ·rw [List.mem_singleton] at hb
  rw [hb, nat8 (by omega)]; omega
 ·rcases List.mem_cons.1 hb with rfl | hb
  ·rw [nat8 (by omega)]; omega
  ·rw [List.mem_singleton] at hb
   rw [hb, nat8 (by omega)]; omega
theorem colL_len (c : Int) : 1 ≤ (colL c).length ∧ (colL c).length ≤ 2 := by unfold colL; split <;> simp
theorem nines {b : UInt8} : ([49, 50, 51, 52, 53, 54, 55, 56, 57] : List UInt8).contains b = true ↔ 49 ≤ b.toNat ∧ b.toNat ≤ 57 := by
 constructor
 ·intro h
  have hm := List.contains_iff_mem.1 h
  simp only [List.mem_cons, List.not_mem_nil, or_false] at hm
  rcases hm with rfl | rfl | rfl | rfl | rfl | rfl | rfl | rfl | rfl <;> decide
 ·intro h
  have hb : b = UInt8.ofNat b.toNat := by rw [UInt8.ofNat_toNat]
  rw [hb]
  obtain ⟨h1, h2⟩ := h
  generalize b.toNat = n at *
  have : n = 49 ∨ n = 50 ∨ n = 51 ∨ n = 52 ∨ n = 53 ∨ n = 54 ∨ n = 55 ∨ n = 56 ∨ n = 57 := by omega
  rcases this with rfl | rfl | rfl | rfl | rfl | rfl | rfl | rfl | rfl <;> decide
theorem ixany_skip (chars : List UInt8) : ∀ (l m : List UInt8), (∀ b ∈ l, chars.contains b = false) → Lib.indexAny m chars = 0 → Lib.indexAny (l ++ m) chars = (l.length : Int)
 | [], m, _, h => by simpa using h
 | b :: l, m, hl, h => by
  have ih := ixany_skip chars l m (fun x hx => hl x (List.mem_cons_of_mem _ hx)) h
  rw [List.cons_append, Lib.indexAny, if_neg (by rw [hl b (List.mem_cons_self ..)]; decide), ih, if_neg (by rw [beq_iff_eq]; omega), List.length_cons]
  rfl
def nameL (r c : Int) : List UInt8 := colL c ++ Lib.decDigits (r + 1).toNat
theorem name_index {r c : Int} (h0 : 0 ≤ r) (h1 : r < 65536) (h2 : 0 ≤ c) (h3 : c < 256) : Lib.indexAny (nameL r c) [49, 50, 51, 52, 53, 54, 55, 56, 57] = ((colL c).length : Int) := by
 refine ixany_skip _ _ _ (fun b hb => ?_) ?_
 ·have := colL_up h2 h3 b hb
  rw [Bool.eq_false_iff]
  intro h
  have := nines.1 h
  omega
 ·obtain ⟨d, _, cn⟩ := dec_canon (r + 1).toNat
  obtain ⟨_, x, l, hx, hn⟩ := cn (by omega)
  have hd := d x (by rw [hx]; exact List.mem_cons_self ..)
  unfold isDig at hd
  rw [hx, Lib.indexAny, if_pos (nines.2 (by omega))]
theorem name_ascii {r c : Int} (h0 : 0 ≤ r) (h1 : r < 65536) (h2 : 0 ≤ c) (h3 : c < 256) : ∀ b ∈ nameL r c, b.toNat < 128 := by
 intro b hb
 rcases List.mem_append.1 hb with hb | hb
 ·have := colL_up h2 h3 b hb; omega
 ·have := (dec_canon (r + 1).toNat).1 b hb
  unfold isDig at this
  omega
theorem name_len {r c : Int} (h0 : 0 ≤ r) (h1 : r < 65536) : (nameL r c).length ≤ 8 := by
 have := dec_le 4 (r + 1).toNat (by omega)
 have := colL_len c
 unfold nameL
 rw [List.length_append]; omega
theorem name_f {r c : Int} (h0 : 0 ≤ r) (h1 : r < 65536) (h2 : 0 ≤ c) (h3 : c < 256) : Nbc.f 0 r c = some ⟨(nameL r c).toArray⟩ := by
 have hw : wrap64 (r + 1) = r + 1 := by unfold wrap64; omega
 have hi : Naz.f (r + 1) = some (decB (r + 1)) := by
  unfold Naz.f
  rw [if_pos (by omega), itoa_dig (by omega)]
 unfold Nbc.f
 rw [Nev, hw, decide_eq_true ⟨h0, h1, h2, h3⟩]
 simp only [Option.bind_some, if_true, Ne3.f, hi]
 have hc := colL_len c
 have hd := dec_le 4 (r + 1).toNat (by omega)
 rw [colB_list c h2 h3]
 unfold decB
 rw [if_pos (by rw [Nal, Nal]; omega), New]
 rfl
def numL (n d : Int) : List UInt8 :=
 Lib.decDigits (n / d).toNat ++ (if d = 1 then [] else 46 :: Lib.trimRightB ((Lib.decDigits (1000000 + n % d * (1000000 / d)).toNat).drop 1) 48)
theorem trimR_len (l : List UInt8) (c : UInt8) : (Lib.trimRightB l c).length ≤ l.length := by
 unfold Lib.trimRightB
 rw [List.length_reverse]
 have := (List.dropWhile_sublist (l := l.reverse) (fun x => x == c)).length_le
 rw [List.length_reverse] at this
 exact this
theorem num_len {n d : Int} (h0 : 0 ≤ n) (h1 : n ≤ 1000000000000) (h2 : 1 ≤ d) (h3 : d ≤ 1000000) : (numL n d).length ≤ 30 := by
 have hq : 0 ≤ n / d ∧ n / d ≤ n := ⟨Int.ediv_nonneg h0 (by omega), Int.ediv_le_self _ h0⟩
 have e1 := dec_le 12 (n / d).toNat (by omega)
 have hr : 0 ≤ n % d ∧ n % d < d := ⟨Int.emod_nonneg _ (by omega), Int.emod_lt_of_pos _ (by omega)⟩
 have hm : n % d * (1000000 / d) ≤ 1000000 := by
  have a1 : n % d * (1000000 / d) ≤ d * (1000000 / d) := Int.mul_le_mul_of_nonneg_right (by omega) (Int.ediv_nonneg (by omega) (by omega))
  have a2 : d * (1000000 / d) ≤ 1000000 := Int.mul_ediv_self_le (by omega)
  omega
 have hm0 : 0 ≤ n % d * (1000000 / d) := Int.mul_nonneg hr.1 (Int.ediv_nonneg (by omega) (by omega))
 have e2 := dec_le 7 (1000000 + n % d * (1000000 / d)).toNat (by omega)
 unfold numL
 rw [List.length_append]
 split
 ·simp only [List.length_nil]; omega
 ·have := trimR_len ((Lib.decDigits (1000000 + n % d * (1000000 / d)).toNat).drop 1) 48
  rw [List.length_drop] at this
  rw [List.length_cons]; omega
theorem itoa_f {n : Int} (h0 : 0 ≤ n) (h1 : n ≤ 9223372036854775807) : Naz.f n = some ⟨(Lib.decDigits n.toNat).toArray⟩ := by
 unfold Naz.f
 rw [if_pos (by omega), itoa_dig h0]; rfl
theorem trim_f {l : List UInt8} (h : l.length ≤ 1000000) : Ncc.f ⟨l.toArray⟩ ⟨#[48]⟩ = some ⟨(Lib.trimRightB l 48).toArray⟩ := by
 unfold Ncc.f
 rw [if_pos ⟨rfl, by decide, by rw [Nal]; omega⟩]; rfl
theorem dec_pos (u : Nat) : 1 ≤ (Lib.decDigits u).length := by
 rw [Lib.decDigits]; split <;> simp
theorem tail_list (l : List UInt8) : (⟨l.toArray⟩ : ByteArray).extract 1 (⟨l.toArray⟩ : ByteArray).size = ⟨(l.drop 1).toArray⟩ := by
 apply ByteArray.ext
 have := drop_list l 1
 exact Array.toList_inj.1 (by rw [this])
theorem num_text_f {n d : Int} (hR : numB n d = true) (h0 : 0 ≤ n) (hd : (1000000 : Int) % d = 0) {K : Nat} (hK : 1000003 ≤ K) : Nau.f K n d = some ⟨(numL n d).toArray⟩ := by
 have hb := hR
 unfold numB at hb
 obtain ⟨-, h1, h2, h3, -⟩ := of_decide_eq_true hb
 have hq : 0 ≤ n / d ∧ n / d ≤ n := ⟨Int.ediv_nonneg h0 (by omega), Int.ediv_le_self _ h0⟩
 have hr : 0 ≤ n % d ∧ n % d < d := ⟨Int.emod_nonneg _ (by omega), Int.emod_lt_of_pos _ (by omega)⟩
 have hm : n % d * (1000000 / d) ≤ 1000000 := by
  have a1 : n % d * (1000000 / d) ≤ d * (1000000 / d) := Int.mul_le_mul_of_nonneg_right (by omega) (Int.ediv_nonneg (by omega) (by omega))
  have a2 : d * (1000000 / d) ≤ 1000000 := Int.mul_ediv_self_le (by omega)
  omega
 have hm0 : 0 ≤ n % d * (1000000 / d) := Int.mul_nonneg hr.1 (Int.ediv_nonneg (by omega) (by omega))
 have hk : 0 ≤ 1000000 / d ∧ (1000000 / d : Int) ≤ 1000000 := ⟨Int.ediv_nonneg (by omega) (by omega), Int.ediv_le_self _ (by omega)⟩
 have e1 := dec_le 12 (n / d).toNat (by omega)
 have e2 := dec_le 7 (1000000 + n % d * (1000000 / d)).toNat (by omega)
 have e3 := dec_pos (1000000 + n % d * (1000000 / d)).toNat
 obtain ⟨K, rfl⟩ : ∃ K', K = K' + 1 := ⟨K - 1, by omega⟩
 have hs : Nb3.f n = some n := by
  unfold Nb3.f
  rw [if_neg (by omega)]
  congr 1
  simp [IntKind.wrap, IntKind.bits]
  omega
 have w1 : wrap64 n = n := by unfold wrap64; omega
 have w2 : wrap64 (n / d) = n / d := by unfold wrap64; omega
 have w3 : wrap64 (1000000 / d : Int) = 1000000 / d := by unfold wrap64; omega
 have w4 : wrap64 (n % d * (1000000 / d)) = n % d * (1000000 / d) := by unfold wrap64; omega
 have w5 : wrap64 (1000000 + n % d * (1000000 / d)) = 1000000 + n % d * (1000000 / d) := by unfold wrap64; omega
 have t1 : Int.tdiv n d = n / d := Int.tdiv_eq_ediv_of_nonneg h0
 have t2 : Int.tmod n d = n % d := Int.tmod_eq_emod_of_nonneg h0
 unfold Nau.f Neo.f
 rw [Nfh n d _ (by omega), hR]
 simp only [Option.bind_some, if_true]
 rw [hs]
 simp only [Option.bind_some]
 rw [if_neg (by omega), w1, Nau.j0, if_neg (by omega), if_pos hd, t1, t2, w2, w3, w4, w5, itoa_f hq.1 (by omega)]
 simp only [Option.bind_some]
 have z0 : (⟨#[]⟩ : ByteArray) ++ ⟨(Lib.decDigits (n / d).toNat).toArray⟩ = ⟨(Lib.decDigits (n / d).toNat).toArray⟩ := by
  rw [show (⟨#[]⟩ : ByteArray) = ⟨([] : List UInt8).toArray⟩ from rfl, New]; rfl
 have z1 : (⟨#[]⟩ : ByteArray).size = 0 := rfl
 rw [z0, z1, Nal, if_pos (by omega)]
 unfold numL
 by_cases hd1 : d = 1
 ·rw [if_pos hd1, if_pos hd1, List.append_nil]
 ·rw [if_neg hd1, if_neg hd1, itoa_f (by omega) (by omega)]
  simp only [Option.bind_some]
  rw [if_pos (by omega), Nal, if_pos (by omega), ← Nal, tail_list, trim_f (by rw [List.length_drop]; omega)]
  simp only [Option.bind_some]
  have e4 := trimR_len ((Lib.decDigits (1000000 + n % d * (1000000 / d)).toNat).drop 1) 48
  rw [List.length_drop] at e4
  rw [show (⟨#[46]⟩ : ByteArray) = ⟨([46] : List UInt8).toArray⟩ from rfl, New, Nal, Nal, if_pos (by simp only [List.length_append, List.length_singleton]; omega), New]
  simp
mutual
inductive Tre : List S50 → Nat → Prop
 | node (n : S50) (c : Nat) (p : List S50) (d : Nat) : Naq n = (c : Int) → Frs c p d → Tre (n :: p) (d + 1)
inductive Frs : Nat → List S50 → Nat → Prop
 | nil : Frs 0 [] 0
 | cons (p q : List S50) (c d e : Nat) : Tre p d → Frs c q e → Frs (c + 1) (p ++ q) (max d e)
end
theorem parts_le (x : S50) : Naq x ≤ 30 := by
 unfold Naq Nd4 partsV1 partsV2 partsV3 partsV4 partsV5 partsV6
 repeat' split
 all_goals omega
theorem Tre.pos {p : List S50} {d : Nat} (h : Tre p d) : 1 ≤ p.length ∧ 1 ≤ d ∧ d ≤ p.length := by
 induction h using Tre.rec (motive_2 := fun c p d _ => c ≤ p.length ∧ d ≤ p.length) with
 | node n c p d h1 h2 ih => simp only [List.length_cons]; omega
 | nil => exact ⟨Nat.le_refl _, Nat.le_refl _⟩
 | cons p q c d e h1 h2 i1 i2 => simp only [List.length_append]; omega
theorem mxN (a b : Nat) : mx (a : Int) (b : Int) = ((max a b : Nat) : Int) := by unfold mx; split <;> omega
theorem wr1 {i : Int} (h0 : 0 ≤ i) (h1 : i ≤ 1000000000000) : wrap64 (i + 1) = i + 1 := by unfold wrap64; omega
theorem getD_drop {l p q : List S50} {n : S50} {i : Nat} (h : l.drop i = n :: p) : i < l.length ∧ Ncw l (i : Int) = n ∧ l.drop (i + 1) = p := by
 have hi : i < l.length := by
  refine Nat.lt_of_not_le fun hh => ?_
  rw [List.drop_eq_nil_of_le hh] at h
  cases h
 rw [List.drop_eq_getElem_cons hi] at h
 injection h with h1 h2
 refine ⟨hi, ?_, h2⟩
 unfold Ncw
 simp [List.getD, hi, h1]
theorem over_back (l : List S50) (hl : l.length ≤ 100000000) : ∀ (K : Nat),
 (∀ (i : Nat) (e d : Int), Nai.f K l (i : Int) = some (e, d) → 0 ≤ e → ∃ (p q : List S50) (dd : Nat), l.drop i = p ++ q ∧ Tre p dd ∧ e = ((i + p.length : Nat) : Int) ∧ d = (dd : Int)) ∧
 (∀ (i dn c dp : Nat) (e d : Int), i ≤ l.length → dn + c ≤ 100 → dp ≤ 100000000 → Nai.l0 K l (i : Int) (dp : Int) ((dn + c : Nat) : Int) (dn : Int) = some (e, d) → 0 ≤ e → ∃ (p q : List S50) (dd : Nat), l.drop i = p ++ q ∧ Frs c p dd ∧ e = ((i + p.length : Nat) : Int) ∧ d = ((max dp dd + 1 : Nat) : Int)) := by
 intro K
 induction K with
 | zero =>
  refine ⟨?_, ?_⟩
  ·intro i e d h; rw [Nai.f] at h; cases h
  ·intro i dn c dp e d _ _ _ h; rw [Nai.l0] at h; cases h
 | succ K ih =>
  obtain ⟨ih1, ih2⟩ := ih
  refine ⟨?_, ?_⟩
  ·intro i e d h he
   rw [Nai.f] at h
   split at h
   ·cases h; omega
   rename_i hi
   rw [if_pos (by omega), if_pos (by omega)] at h
   have hil : i < l.length := by omega
   have hx := List.drop_eq_getElem_cons hil
   obtain ⟨-, hn, -⟩ := getD_drop (q := []) hx
   rw [hn] at h
   change (if Naq l[i] < 0 then some ((-1 : Int), (0 : Int)) else _) = _ at h
   split at h
   ·cases h; omega
   rename_i hp
   have hle := parts_le l[i]
   obtain ⟨c, hc⟩ : ∃ c : Nat, Naq l[i] = (c : Int) := ⟨(Naq l[i]).toNat, by omega⟩
   rw [wr1 (by omega) (by omega), hc, show ((i : Int) + 1) = ((i + 1 : Nat) : Int) by omega, show (c : Int) = ((0 + c : Nat) : Int) by omega] at h
   obtain ⟨p, q, dd, h1, h2, h3, h4⟩ := ih2 (i + 1) 0 c 0 e d (by omega) (by omega) (by omega) h he
   refine ⟨l[i] :: p, q, dd + 1, ?_, .node _ c p dd hc h2, ?_, ?_⟩
   ·rw [hx, h1]; rfl
   ·rw [h3]; simp only [List.length_cons]; omega
   ·rw [h4]; omega
  ·intro i dn c dp e d hi hc hdp h he
   rw [Nai.l0] at h
   by_cases hlt : (dn : Int) < ((dn + c : Nat) : Int)
   ·rw [if_pos hlt] at h
    obtain ⟨⟨e1, d1⟩, ho, h⟩ := Option.bind_eq_some_iff.1 h
    change (if e1 < 0 then some ((-1 : Int), (0 : Int)) else _) = _ at h
    split at h
    ·cases h; omega
    rename_i he1
    obtain ⟨p, q, dd, h1, h2, h3, h4⟩ := ih1 i e1 d1 ho (by omega)
    have hpos := h2.pos
    have hlen := congrArg List.length h1
    simp only [List.length_drop, List.length_append] at hlen
    obtain ⟨c, rfl⟩ : ∃ c', c = c' + 1 := ⟨c - 1, by omega⟩
    rw [h3, h4, mxN, wr1 (by omega) (by omega), show ((dn : Int) + 1) = ((dn + 1 : Nat) : Int) by omega, show dn + (c + 1) = dn + 1 + c by omega] at h
    obtain ⟨p2, q2, dd2, g1, g2, g3, g4⟩ := ih2 (i + p.length) (dn + 1) c (max dp dd) e d (by omega) (by omega) (by omega) h he
    have hq : q = p2 ++ q2 := by rw [← g1, ← List.drop_drop, h1, List.drop_left]
    refine ⟨p ++ p2, q2, max dd dd2, ?_, .cons p p2 c dd dd2 h2 g2, ?_, ?_⟩
    ·rw [h1, hq, List.append_assoc]
    ·rw [g3]; simp only [List.length_append]; omega
    ·rw [g4, Nat.max_assoc]
   ·rw [if_neg hlt] at h
    obtain rfl : c = 0 := by omega
    cases h
    refine ⟨[], l.drop i, 0, rfl, .nil, by simp, ?_⟩
    rw [wr1 (by omega) (by omega)]; omega
theorem over_some (l : List S50) (hl : l.length ≤ 100000000) : ∀ (m : Nat),
 (∀ (i K : Nat), l.length - i ≤ m → 2 * m + 1 ≤ K → ∃ x, Nai.f K l (i : Int) = some x) ∧
 (∀ (i dn c dp K : Nat), i ≤ l.length → l.length - i ≤ m → dn + c ≤ 100 → dp ≤ 100000000 → 2 * m + 2 ≤ K → ∃ x, Nai.l0 K l (i : Int) (dp : Int) ((dn + c : Nat) : Int) (dn : Int) = some x) := by
 intro m
 induction m with
 | zero =>
  have hf : ∀ (i K : Nat), l.length - i ≤ 0 → 2 * 0 + 1 ≤ K → ∃ x, Nai.f K l (i : Int) = some x := by
   intro i K hi hK
   obtain ⟨K, rfl⟩ : ∃ K', K = K' + 1 := ⟨K - 1, by omega⟩
   exact ⟨_, by rw [Nai.f, if_pos (by omega)]⟩
  refine ⟨hf, ?_⟩
  intro i dn c dp K hil hi hc hdp hK
  obtain ⟨K, rfl⟩ : ∃ K', K = K' + 1 := ⟨K - 1, by omega⟩
  rw [Nai.l0]
  by_cases hlt : (dn : Int) < ((dn + c : Nat) : Int)
  ·obtain ⟨K, rfl⟩ : ∃ K', K = K' + 1 := ⟨K - 1, by omega⟩
   rw [if_pos hlt, Nai.f, if_pos (by omega)]
   exact ⟨_, rfl⟩
  ·rw [if_neg hlt]; exact ⟨_, rfl⟩
 | succ m ih =>
  obtain ⟨ih1, ih2⟩ := ih
  have hf : ∀ (i K : Nat), l.length - i ≤ m + 1 → 2 * (m + 1) + 1 ≤ K → ∃ x, Nai.f K l (i : Int) = some x := by
   intro i K hi hK
   obtain ⟨K, rfl⟩ : ∃ K', K = K' + 1 := ⟨K - 1, by omega⟩
   rw [Nai.f]
   by_cases hil : (l.length : Int) ≤ (i : Int)
   ·exact ⟨_, if_pos hil⟩
   rw [if_neg hil, if_pos (by omega), if_pos (by omega)]
   have hil : i < l.length := by omega
   obtain ⟨-, hn, -⟩ := getD_drop (q := []) (List.drop_eq_getElem_cons hil)
   rw [hn]
   show ∃ x, (if Naq l[i] < 0 then some ((-1 : Int), (0 : Int)) else _) = some x
   split
   ·exact ⟨_, rfl⟩
   rename_i hp
   have hle := parts_le l[i]
   obtain ⟨c, hc⟩ : ∃ c : Nat, Naq l[i] = (c : Int) := ⟨(Naq l[i]).toNat, by omega⟩
   rw [wr1 (by omega) (by omega), hc, show ((i : Int) + 1) = ((i + 1 : Nat) : Int) by omega, show (c : Int) = ((0 + c : Nat) : Int) by omega]
   exact ih2 (i + 1) 0 c 0 K (by omega) (by omega) (by omega) (by omega) (by omega)
  refine ⟨hf, ?_⟩
  intro i dn c dp K hil hi hc hdp hK
  obtain ⟨K, rfl⟩ : ∃ K', K = K' + 1 := ⟨K - 1, by omega⟩
  rw [Nai.l0]
  by_cases hlt : (dn : Int) < ((dn + c : Nat) : Int)
  ·rw [if_pos hlt]
   obtain ⟨⟨e1, d1⟩, ho⟩ := hf i K (by omega) (by omega)
   rw [ho]
   show ∃ x, (if e1 < 0 then some ((-1 : Int), (0 : Int)) else _) = some x
   split
   ·exact ⟨_, rfl⟩
   rename_i he
   obtain ⟨p, q, dd, h1, h2, h3, h4⟩ := (over_back l hl K).1 i e1 d1 ho (by omega)
   have hpos := h2.pos
   have hlen := congrArg List.length h1
   simp only [List.length_drop, List.length_append] at hlen
   obtain ⟨c, rfl⟩ : ∃ c', c = c' + 1 := ⟨c - 1, by omega⟩
   rw [h3, h4, mxN, wr1 (by omega) (by omega), show ((dn : Int) + 1) = ((dn + 1 : Nat) : Int) by omega, show dn + (c + 1) = dn + 1 + c by omega]
   exact ih2 (i + p.length) (dn + 1) c (max dp dd) K (by omega) (by omega) (by omega) (by omega) (by omega)
  ·rw [if_neg hlt]; exact ⟨_, rfl⟩
theorem eq_eB {s : ByteArray} (h : s.toList = []) : s = eB := by
 have h0 := (Nd6 s).mp h
 obtain ⟨d⟩ := s
 have : d = #[] := Array.eq_empty_of_size_eq_zero h0
 rw [this]; rfl
def litB (v : S46) : Bool := valB v.f0 v.f1.f0 v.f1.f1 v.f2 v.f3 v.f4 && decide (v.f0 ≠ 0 ∧ (v.f0 ≠ 1 ∨ 0 ≤ v.f1.f0 ∧ (1000000 : Int) % v.f1.f1 = 0))
def refR (r : S48) : Bool := refB r.f0 r.f1 r.f2
def binO (o : Int) : Prop := (11 ≤ o ∧ o ≤ 16) ∨ (21 ≤ o ∧ o ≤ 26)
inductive Good : S50 → Int → Prop
 | val (v : S46) : litB v = true → Good (nVal v) 0
 | cell (r : S48) : refR r = true → Good (nCell r) 0
 | area (r s : S48) : refR r = true → refR s = true → s.f0 = eB → Good (nArea r s) 0
 | un (o : Int) : 1 ≤ o → o ≤ 3 → Good (nUn o) 1
 | bin (o : Int) : binO o → Good (nBin o) 2
 | call (m : ByteArray) (c : Int) : fnB m = true → 0 ≤ c → c ≤ 30 → Good (nCall m c) c
theorem Nec (n : S50) (h : 0 ≤ Naq n) : Good n (Naq n) := by
 obtain ⟨k, ⟨v0, ⟨v1, v2⟩, v3, v4, v5⟩, o, m, ag, ⟨a0, a1, a2, a3, a4⟩, ⟨b0, b1, b2, b3, b4⟩⟩ := n
 unfold Naq at h ⊢
 simp only at h ⊢
 unfold Nd4 at h ⊢
 by_cases h1 : k = 1
 ·subst h1
  simp only [if_true] at h ⊢
  unfold partsV1 at h ⊢
  split at h
  ·rename_i hr
   split at h
   ·rename_i hv
    rw [if_pos hr, if_pos hv]
    unfold rest1 at hr
    obtain ⟨rfl, hm, rfl, ha, rfl, rfl, rfl, rfl, hb, rfl, rfl, rfl, rfl⟩ := of_decide_eq_true hr
    rw [eq_eB hm, eq_eB ha, eq_eB hb]
    exact .val ⟨v0, ⟨v1, v2⟩, v3, v4, v5⟩ (by unfold litB; rw [Bool.and_eq_true]; exact ⟨hv.1, decide_eq_true hv.2⟩)
   ·omega
  ·omega
 rw [if_neg h1] at h ⊢
 by_cases h2 : k = 2
 ·subst h2
  simp only [if_true] at h ⊢
  unfold partsV2 at h ⊢
  split at h
  ·rename_i hr
   split at h
   ·rename_i hv
    rw [if_pos hr, if_pos hv]
    unfold rest2 at hr
    obtain ⟨rfl, rfl, rfl, hv3, rfl, rfl, rfl, hm, rfl, hb, rfl, rfl, rfl, rfl⟩ := of_decide_eq_true hr
    rw [eq_eB hm, eq_eB hv3, eq_eB hb]
    exact .cell ⟨a0, a1, a2, a3, a4⟩ hv.1
   ·omega
  ·omega
 rw [if_neg h2] at h ⊢
 by_cases h3 : k = 3
 ·subst h3
  simp only [if_true] at h ⊢
  unfold partsV3 at h ⊢
  split at h
  ·rename_i hr
   split at h
   ·rename_i hv
    rw [if_pos hr, if_pos hv]
    unfold rest3 at hr
    obtain ⟨rfl, rfl, rfl, hv3, rfl, rfl, rfl, hm, rfl⟩ := of_decide_eq_true hr
    have hb := eq_eB hv.2.2
    rw [eq_eB hm, eq_eB hv3]
    exact .area ⟨a0, a1, a2, a3, a4⟩ ⟨b0, b1, b2, b3, b4⟩ hv.1 hv.2.1 hb
   ·omega
  ·omega
 rw [if_neg h3] at h ⊢
 by_cases h4 : k = 4
 ·subst h4
  simp only [if_true] at h ⊢
  unfold partsV4 at h ⊢
  split at h
  ·rename_i hr
   split at h
   ·rename_i hv
    rw [if_pos hr, if_pos hv]
    unfold rest4 at hr
    obtain ⟨rfl, rfl, rfl, hv3, rfl, rfl, hm, rfl, ha, rfl, rfl, rfl, rfl, hb, rfl, rfl, rfl, rfl⟩ := of_decide_eq_true hr
    rw [eq_eB hm, eq_eB hv3, eq_eB ha, eq_eB hb]
    exact .un o hv.1 hv.2
   ·omega
  ·omega
 rw [if_neg h4] at h ⊢
 by_cases h5 : k = 5
 ·subst h5
  simp only [if_true] at h ⊢
  unfold partsV5 at h ⊢
  split at h
  ·rename_i hr
   split at h
   ·rename_i hv
    rw [if_pos hr, if_pos hv]
    unfold rest5 at hr
    obtain ⟨rfl, rfl, rfl, hv3, rfl, rfl, hm, rfl, ha, rfl, rfl, rfl, rfl, hb, rfl, rfl, rfl, rfl⟩ := of_decide_eq_true hr
    rw [eq_eB hm, eq_eB hv3, eq_eB ha, eq_eB hb]
    exact .bin o hv
   ·omega
  ·omega
 rw [if_neg h5] at h ⊢
 by_cases h6 : k = 6
 ·subst h6
  simp only [if_true] at h ⊢
  unfold partsV6 at h ⊢
  split at h
  ·rename_i hr
   split at h
   ·rename_i hv
    rw [if_pos hr, if_pos hv]
    unfold rest6 at hr
    obtain ⟨rfl, rfl, rfl, hv3, rfl, rfl, rfl, ha, rfl, rfl, rfl, rfl, hb, rfl, rfl, rfl, rfl⟩ := of_decide_eq_true hr
    rw [eq_eB hv3, eq_eB ha, eq_eB hb]
    exact .call m ag hv.1 hv.2.1 hv.2.2
   ·omega
  ·omega
 rw [if_neg h6] at h
 omega
theorem Tre.good {p : List S50} {d : Nat} (h : Tre p d) : ∀ n ∈ p, 0 ≤ Naq n := by
 induction h using Tre.rec (motive_2 := fun c p d _ => ∀ n ∈ p, 0 ≤ Naq n) with
 | node n c p d h1 h2 ih =>
  intro m hm
  rcases List.mem_cons.1 hm with rfl | hm
  ·omega
  ·exact ih m hm
 | nil => rename_i m hm; cases hm
 | cons p q c d e h1 h2 i1 i2 =>
  rename_i m hm
  rcases List.mem_append.1 hm with hm | hm
  ·exact i1 m hm
  ·exact i2 m hm
theorem Nep {K : Nat} {l : List S50} (h : Na7.f K l = some 0) : ∃ d, Tre l d ∧ d ≤ 32 ∧ l.length ≤ 256 := by
 unfold Na7.f at h
 split at h
 ·cases h
 rename_i hl
 obtain ⟨⟨e, d⟩, ho, h⟩ := Option.bind_eq_some_iff.1 h
 simp only at h
 split at h
 ·rename_i he
  split at h
  ·cases h
  ·rename_i hd
   obtain ⟨p, q, dd, h1, h2, h3, h4⟩ := (over_back l (by omega) K).1 0 e d ho (by omega)
   rw [List.drop_zero] at h1
   have hlen := congrArg List.length h1
   rw [List.length_append] at hlen
   have hq : q = [] := List.eq_nil_of_length_eq_zero (by omega)
   rw [hq, List.append_nil] at h1
   rw [← h1] at h2
   exact ⟨dd, h2, by omega, by omega⟩
 ·cases h
theorem check_some (l : List S50) {K : Nat} (hK : 600 ≤ K) : ∃ c, Na7.f K l = some c ∧ (c = 0 ∨ c = 51 ∨ c = 52 ∨ c = 53) := by
 unfold Na7.f
 split
 ·exact ⟨_, rfl, by omega⟩
 ·obtain ⟨⟨e, d⟩, h⟩ := (over_some l (by omega) 256).1 0 K (by omega) (by omega)
  rw [show ((0 : Nat) : Int) = 0 from rfl] at h
  rw [h]
  show ∃ c, (if e = (l.length : Int) then (if d > 32 then some (51 : Int) else some 0) else some 53) = some c ∧ _
  split
  ·split
   ·exact ⟨_, rfl, by omega⟩
   ·exact ⟨_, rfl, by omega⟩
  ·exact ⟨_, rfl, by omega⟩
theorem tre_tk (L : Lf) : ∀ (m : Nat),
 (∀ (p : List S50) (d K : Nat) (least : Int) (q : List S50), Tre p d → p.length ≤ m → 2 * p.length + 1 ≤ K → ∃ T, T ≠ [] ∧ tkF L K least (p ++ q) = some (T, q)) ∧
 (∀ (c : Nat) (p : List S50) (d K : Nat) (first : Bool) (q : List S50), Frs c p d → p.length ≤ m → 2 * p.length + 2 ≤ K → ∃ T, atkF L K first (c : Int) (p ++ q) = some (T, q)) := by
 intro m
 induction m with
 | zero =>
  refine ⟨?_, ?_⟩
  ·intro p d K least q h hp
   have := h.pos
   omega
  ·intro c p d K first q h hp hK
   obtain ⟨K, rfl⟩ : ∃ K', K = K' + 1 := ⟨K - 1, by omega⟩
   cases h with
   | nil => exact ⟨[], by rw [atkF, if_pos (by omega)]; rfl⟩
   | cons p q c d e h1 h2 =>
    have := h1.pos
    simp only [List.length_append] at hp
    omega
 | succ m ih =>
  obtain ⟨ih1, ih2⟩ := ih
  have hf : ∀ (p : List S50) (d K : Nat) (least : Int) (q : List S50), Tre p d → p.length ≤ m + 1 → 2 * p.length + 1 ≤ K → ∃ T, T ≠ [] ∧ tkF L K least (p ++ q) = some (T, q) := by
   intro p d K least q h hp hK
   obtain ⟨K, rfl⟩ : ∃ K', K = K' + 1 := ⟨K - 1, by omega⟩
   cases h with
   | node n c p d h1 h2 =>
    simp only [List.length_cons] at hp hK
    suffices hs : ∃ U, U ≠ [] ∧ (if n.f0 = 1 then some ([L.val n.f1], p ++ q)
     else if n.f0 = 2 then some (refT L n.f5, p ++ q)
     else if n.f0 = 3 then some (refT L n.f5 ++ [mk [58], (3, L.cel n.f6)], p ++ q)
     else if n.f0 = 6 then (atkF L K true n.f4 (p ++ q)).map fun (T, q) => ((3, n.f3) :: mk [40] :: (T ++ [mk [41]]), q)
     else if n.f0 = 5 then (tkF L K (Nct n.f2) (p ++ q)).bind fun (T, q) => (tkF L K (Nct n.f2 + 1) q).map fun (U, p) => (T ++ (5, signB n.f2) :: U, p)
     else if n.f2 = 3 then (tkF L K 7 (p ++ q)).map fun (T, q) => (T ++ [mk [37]], q)
     else (tkF L K 6 (p ++ q)).map fun (T, q) => ((5, signB n.f2) :: T, q)) = some (U, q) by
     obtain ⟨U, h0, hU⟩ := hs
     refine ⟨bra (decide (Nea n < least)) U, ?_, ?_⟩
     ·unfold bra; split
      ·simp
      ·exact h0
     ·rw [List.cons_append, tkF, hU]; rfl
    have hg := Nec n (by omega)
    rw [h1] at hg
    generalize hcc : (c : Int) = cc at hg
    have nil_of : c = 0 → p = [] := by
     intro h0; subst h0
     cases h2; rfl
    cases hg with
    | val v hv =>
     obtain rfl := nil_of (by omega)
     exact ⟨[L.val v], by simp, rfl⟩
    | cell r hr =>
     obtain rfl := nil_of (by omega)
     exact ⟨refT L r, by unfold refT; split <;> simp, rfl⟩
    | area r s hr hs h0 =>
     obtain rfl := nil_of (by omega)
     exact ⟨refT L r ++ [mk [58], (3, L.cel s)], by simp, rfl⟩
    | un o h1 h3 =>
     obtain rfl : c = 1 := by omega
     have hp1 : ∃ d', Tre p d' := by
      cases h2 with
      | cons p1 q1 c d e g1 g2 =>
       cases g2
       exact ⟨d, by rw [List.append_nil]; exact g1⟩
     obtain ⟨d', hp1⟩ := hp1
     by_cases ho : o = 3
     ·obtain ⟨U, hU0, hU⟩ := ih1 p d' K 7 q hp1 (by omega) (by omega)
      refine ⟨U ++ [mk [37]], by simp, ?_⟩
      subst ho
      show (tkF L K 7 (p ++ q)).map (fun (T, q) => (T ++ [mk [37]], q)) = _
      rw [hU]; rfl
     ·obtain ⟨U, hU0, hU⟩ := ih1 p d' K 6 q hp1 (by omega) (by omega)
      refine ⟨(5, signB o) :: U, by simp, ?_⟩
      show (if o = 3 then (tkF L K 7 (p ++ q)).map (fun (T, q) => (T ++ [mk [37]], q)) else (tkF L K 6 (p ++ q)).map fun (T, q) => ((5, signB o) :: T, q)) = _
      rw [if_neg ho, hU]; rfl
    | bin o ho =>
     obtain rfl : c = 2 := by omega
     cases h2 with
     | cons p1 q1 c d e g1 g2 =>
      cases g2 with
      | cons p2 q2 c d e g3 g4 =>
       cases g4
       simp only [List.length_append, List.length_nil] at hp hK
       have hpos := g1.pos
       obtain ⟨U1, -, hU1⟩ := ih1 p1 _ K (Nct o) (p2 ++ q) g1 (by omega) (by omega)
       obtain ⟨U2, -, hU2⟩ := ih1 p2 _ K (Nct o + 1) q g3 (by omega) (by omega)
       refine ⟨U1 ++ (5, signB o) :: U2, by simp, ?_⟩
       show (tkF L K (Nct o) (p1 ++ (p2 ++ []) ++ q)).bind (fun (T, q) => (tkF L K (Nct o + 1) q).map fun (U, p) => (T ++ (5, signB o) :: U, p)) = _
       rw [List.append_nil, List.append_assoc, hU1]
       show (tkF L K (Nct o + 1) (p2 ++ q)).map (fun (U, p) => (U1 ++ (5, signB o) :: U, p)) = _
       rw [hU2]; rfl
    | call m n hm h0 h30 =>
     obtain ⟨T, hT⟩ := ih2 c p _ K true q h2 (by omega) (by omega)
     refine ⟨(3, m) :: mk [40] :: (T ++ [mk [41]]), by simp, ?_⟩
     subst hcc
     show (atkF L K true (c : Int) (p ++ q)).map (fun (T, q) => ((3, m) :: mk [40] :: (T ++ [mk [41]]), q)) = _
     rw [hT]; rfl
  refine ⟨hf, ?_⟩
  intro c p d K first q h hp hK
  obtain ⟨K, rfl⟩ : ∃ K', K = K' + 1 := ⟨K - 1, by omega⟩
  cases h with
  | nil => exact ⟨[], by rw [atkF, if_pos (by omega)]; rfl⟩
  | cons p q2 c d e h1 h2 =>
   simp only [List.length_append] at hp hK
   have hpos := h1.pos
   obtain ⟨T, -, hT⟩ := hf p _ K 1 (q2 ++ q) h1 (by omega) (by omega)
   obtain ⟨U, hU⟩ := ih2 c q2 _ K false q h2 (by omega) (by omega)
   refine ⟨(if first then T else mk [44] :: T) ++ U, ?_⟩
   rw [atkF, if_neg (by omega), List.append_assoc, hT]
   show (atkF L K false (((c + 1 : Nat) : Int) - 1) (q2 ++ q)).map (fun (U, p) => ((if first then T else mk [44] :: T) ++ U, p)) = _
   rw [show (((c + 1 : Nat) : Int) - 1) = (c : Int) by omega, hU]; rfl
end Go.Proofs.YtejbbceidnaloaaGreatDoor.P
