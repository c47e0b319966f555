import Derived.Test.YtejbbceidnaloaaGreatDoorM21
import Derived.Lib.SplitLaws
import Derived.Lib.Replace
namespace Go.Proofs.YtejbbceidnaloaaGreatDoor.P
open Go.RowKit Go.Proofs.YtejbbceidnaloaaGreatDoorW.PrintWords Go.Proofs.YtejbbceidnaloaaGreatDoorW.PrintLast Go.Proofs.YtejbbceidnaloaaGreatDoorW.PrintMore
set_option linter.unusedVariables false
set_option linter.unusedSimpArgs false
theorem ix_cons_eq (c : UInt8) (l : List UInt8) : Lib.index (c :: l) [c] = 0 := by
 rw [Lib.index, if_pos (by simp [List.isPrefixOf])]
theorem ix_cons_ne {b c : UInt8} (l : List UInt8) (h : b ≠ c) : Lib.index (b :: l) [c] = if Lib.index l [c] == -1 then -1 else Lib.index l [c] + 1 := by
 rw [Lib.index, if_neg (by simp [List.isPrefixOf, Ne.symm h])]
theorem replaceK_one (c : UInt8) (new : List UInt8) : ∀ (s : List UInt8) (k : Nat), Lib.count s [c] ≤ k → Lib.replaceK [c] new k s = s.flatMap fun b => if b = c then new else [b]
 | [], k, _ => by
  cases k with
  | zero => rfl
  | succ k => rfl
 | b :: l, k, h => by
  by_cases hb : b = c
  ·subst hb
   rw [Lib.count_cons_eq] at h
   obtain ⟨k, rfl⟩ : ∃ k', k = k' + 1 := ⟨k - 1, by omega⟩
   rw [Lib.replaceK_hit _ _ _ _ 0 (ix_cons_eq _ _)]
   have ih := replaceK_one b new l k (by omega)
   simp only [List.take_zero, List.nil_append, List.length_cons, List.length_nil, Nat.zero_add, List.drop_succ_cons, List.drop_zero, List.flatMap_cons, if_true]
   rw [ih]
  ·rw [Lib.count_cons_ne _ _ _ hb] at h
   have ih := replaceK_one c new l k h
   simp only [List.flatMap_cons, if_neg hb, List.singleton_append]
   rw [← ih]
   cases k with
   | zero => rfl
   | succ k =>
    rcases Lib.index_spec l [c] with ⟨h1, _⟩ | ⟨i, h1, _⟩
    ·rw [Lib.replaceK, Lib.replaceK, ix_cons_ne l hb, h1]; rfl
    ·have h2 : Lib.index (b :: l) [c] = ((i + 1 : Nat) : Int) := by
      rw [ix_cons_ne l hb, h1, if_neg (by rw [beq_iff_eq]; omega)]; rfl
     rw [Lib.replaceK_hit _ _ _ _ _ h1, Lib.replaceK_hit _ _ _ _ _ h2]
     simp only [List.take_succ_cons, List.length_cons, List.length_nil, Nat.zero_add, List.cons_append]
     rw [show i + 1 + 1 = (i + 1) + 1 from rfl, List.drop_succ_cons]
def dblL (l : List UInt8) : List UInt8 := l.flatMap fun b => if b = 34 then [34, 34] else [b]
theorem replaceAll_dbl (l : List UInt8) : Lib.replaceAll l [34] [34, 34] = dblL l := by
 unfold Lib.replaceAll Lib.replace
 rw [if_neg (by decide), show Lib.replaceNum l [34] (-1) = Lib.count l [34] by unfold Lib.replaceNum; rw [if_pos (by omega)]]
 exact replaceK_one 34 [34, 34] l _ (Nat.le_refl _)
theorem dblL_len : ∀ l : List UInt8, (dblL l).length ≤ 2 * l.length
 | [] => Nat.le_refl _
 | b :: l => by
  have ih := dblL_len l
  unfold dblL at ih ⊢
  rw [List.flatMap_cons, List.length_append, List.length_cons]
  split <;> simp only [List.length_cons, List.length_nil] <;> omega
theorem dec_le : ∀ (n u : Nat), u < 10 ^ (n + 1) → (Lib.decDigits u).length ≤ n + 1
 | 0, u, h => by
  rw [Lib.decDigits, dif_pos (by simpa using h)]; simp
 | n + 1, u, h => by
  rw [Lib.decDigits]
  split
  ·simp
  ·have ih := dec_le n (u / 10) (by rw [Nat.div_lt_iff_lt_mul (by decide)]; rw [Nat.pow_succ] at h; exact h)
   rw [List.length_append, List.length_singleton]; omega
theorem colL_up {c : Int} (h0 : 0 ≤ c) (h1 : c < 256) : ∀ b ∈ colL c, 65 ≤ b.toNat ∧ b.toNat ≤ 90 := by
 intro b hb
 unfold colL at hb
 split at hb
 ·rw [List.mem_singleton] at hb
  rw [hb, nat8 (by omega)]; omega
 ·rcases List.mem_cons.1 hb with rfl | hb
  ·rw [nat8 (by omega)]; omega
  ·rw [List.mem_singleton] at hb
   rw [hb, nat8 (by omega)]; omega
theorem colL_len (c : Int) : 1 ≤ (colL c).length ∧ (colL c).length ≤ 2 := by unfold colL; split <;> simp
theorem nines {b : UInt8} : ([49, 50, 51, 52, 53, 54, 55, 56, 57] : List UInt8).contains b = true ↔ 49 ≤ b.toNat ∧ b.toNat ≤ 57 := by
 constructor
 ·intro h
  have hm := List.contains_iff_mem.1 h
  simp only [List.mem_cons, List.not_mem_nil, or_false] at hm
  rcases hm with rfl | rfl | rfl | rfl | rfl | rfl | rfl | rfl | rfl <;> decide
 ·intro h
  have hb : b = UInt8.ofNat b.toNat := by rw [UInt8.ofNat_toNat]
  rw [hb]
  obtain ⟨h1, h2⟩ := h
  generalize b.toNat = n at *
  have : n = 49 ∨ n = 50 ∨ n = 51 ∨ n = 52 ∨ n = 53 ∨ n = 54 ∨ n = 55 ∨ n = 56 ∨ n = 57 := by omega
  rcases this with rfl | rfl | rfl | rfl | rfl | rfl | rfl | rfl | rfl <;> decide
theorem ixany_skip (chars : List UInt8) : ∀ (l m : List UInt8), (∀ b ∈ l, chars.contains b = false) → Lib.indexAny m chars = 0 → Lib.indexAny (l ++ m) chars = (l.length : Int)
 | [], m, _, h => by simpa using h
 | b :: l, m, hl, h => by
  have ih := ixany_skip chars l m (fun x hx => hl x (List.mem_cons_of_mem _ hx)) h
  rw [List.cons_append, Lib.indexAny, if_neg (by rw [hl b (List.mem_cons_self ..)]; decide), ih, if_neg (by rw [beq_iff_eq]; omega), List.length_cons]
  rfl
def nameL (r c : Int) : List UInt8 := colL c ++ Lib.decDigits (r + 1).toNat
theorem name_index {r c : Int} (h0 : 0 ≤ r) (h1 : r < 65536) (h2 : 0 ≤ c) (h3 : c < 256) : Lib.indexAny (nameL r c) [49, 50, 51, 52, 53, 54, 55, 56, 57] = ((colL c).length : Int) := by
 refine ixany_skip _ _ _ (fun b hb => ?_) ?_
 ·have := colL_up h2 h3 b hb
  rw [Bool.eq_false_iff]
  intro h
  have := nines.1 h
  omega
 ·obtain ⟨d, _, cn⟩ := dec_canon (r + 1).toNat
  obtain ⟨_, x, l, hx, hn⟩ := cn (by omega)
  have hd := d x (by rw [hx]; exact List.mem_cons_self ..)
  unfold isDig at hd
  rw [hx, Lib.indexAny, if_pos (nines.2 (by omega))]
theorem name_ascii {r c : Int} (h0 : 0 ≤ r) (h1 : r < 65536) (h2 : 0 ≤ c) (h3 : c < 256) : ∀ b ∈ nameL r c, b.toNat < 128 := by
 intro b hb
 rcases List.mem_append.1 hb with hb | hb
 ·have := colL_up h2 h3 b hb; omega
 ·have := (dec_canon (r + 1).toNat).1 b hb
  unfold isDig at this
  omega
theorem name_len {r c : Int} (h0 : 0 ≤ r) (h1 : r < 65536) : (nameL r c).length ≤ 8 := by
 have := dec_le 4 (r + 1).toNat (by omega)
 have := colL_len c
 unfold nameL
 rw [List.length_append]; omega
theorem name_f {r c : Int} (h0 : 0 ≤ r) (h1 : r < 65536) (h2 : 0 ≤ c) (h3 : c < 256) : place_Name_g.f 0 r c = some ⟨(nameL r c).toArray⟩ := by
 have hw : wrap64 (r + 1) = r + 1 := by unfold wrap64; omega
 have hi : strconv_Itoa_g.f (r + 1) = some (decB (r + 1)) := by
  unfold strconv_Itoa_g.f
  rw [if_pos (by omega), itoa_dig (by omega)]
 unfold place_Name_g.f
 rw [place_Right_f, hw, decide_eq_true ⟨h0, h1, h2, h3⟩]
 simp only [Option.bind_some, if_true, place_Col.f, hi]
 have hc := colL_len c
 have hd := dec_le 4 (r + 1).toNat (by omega)
 rw [colB_list c h2 h3]
 unfold decB
 rw [if_pos (by rw [size_list, size_list]; omega), append_list]
 rfl
def numL (n d : Int) : List UInt8 :=
 Lib.decDigits (n / d).toNat ++ (if d = 1 then [] else 46 :: Lib.trimRightB ((Lib.decDigits (1000000 + n % d * (1000000 / d)).toNat).drop 1) 48)
theorem trimR_len (l : List UInt8) (c : UInt8) : (Lib.trimRightB l c).length ≤ l.length := by
 unfold Lib.trimRightB
 rw [List.length_reverse]
 have := (List.dropWhile_sublist (l := l.reverse) (fun x => x == c)).length_le
 rw [List.length_reverse] at this
 exact this
theorem num_len {n d : Int} (h0 : 0 ≤ n) (h1 : n ≤ 1000000000000) (h2 : 1 ≤ d) (h3 : d ≤ 1000000) : (numL n d).length ≤ 30 := by
 have hq : 0 ≤ n / d ∧ n / d ≤ n := ⟨Int.ediv_nonneg h0 (by omega), Int.ediv_le_self _ h0⟩
 have e1 := dec_le 12 (n / d).toNat (by omega)
 have hr : 0 ≤ n % d ∧ n % d < d := ⟨Int.emod_nonneg _ (by omega), Int.emod_lt_of_pos _ (by omega)⟩
 have hm : n % d * (1000000 / d) ≤ 1000000 := by
  have a1 : n % d * (1000000 / d) ≤ d * (1000000 / d) := Int.mul_le_mul_of_nonneg_right (by omega) (Int.ediv_nonneg (by omega) (by omega))
  have a2 : d * (1000000 / d) ≤ 1000000 := Int.mul_ediv_self_le (by omega)
  omega
 have hm0 : 0 ≤ n % d * (1000000 / d) := Int.mul_nonneg hr.1 (Int.ediv_nonneg (by omega) (by omega))
 have e2 := dec_le 7 (1000000 + n % d * (1000000 / d)).toNat (by omega)
 unfold numL
 rw [List.length_append]
 split
 ·simp only [List.length_nil]; omega
 ·have := trimR_len ((Lib.decDigits (1000000 + n % d * (1000000 / d)).toNat).drop 1) 48
  rw [List.length_drop] at this
  rw [List.length_cons]; omega
theorem itoa_f {n : Int} (h0 : 0 ≤ n) (h1 : n ≤ 9223372036854775807) : strconv_Itoa_g.f n = some ⟨(Lib.decDigits n.toNat).toArray⟩ := by
 unfold strconv_Itoa_g.f
 rw [if_pos (by omega), itoa_dig h0]; rfl
theorem trim_f {l : List UInt8} (h : l.length ≤ 1000000) : strings_TrimRight.f ⟨l.toArray⟩ ⟨#[48]⟩ = some ⟨(Lib.trimRightB l 48).toArray⟩ := by
 unfold strings_TrimRight.f
 rw [if_pos ⟨rfl, by decide, by rw [size_list]; omega⟩]; rfl
theorem dec_pos (u : Nat) : 1 ≤ (Lib.decDigits u).length := by
 rw [Lib.decDigits]; split <;> simp
theorem tail_list (l : List UInt8) : (⟨l.toArray⟩ : ByteArray).extract 1 (⟨l.toArray⟩ : ByteArray).size = ⟨(l.drop 1).toArray⟩ := by
 apply ByteArray.ext
 have := drop_list l 1
 exact Array.toList_inj.1 (by rw [this])
theorem num_text_f {n d : Int} (hR : numB n d = true) (h0 : 0 ≤ n) (hd : (1000000 : Int) % d = 0) {K : Nat} (hK : 1000003 ≤ K) : num_Text_g.f K n d = some ⟨(numL n d).toArray⟩ := by
 have hb := hR
 unfold numB at hb
 obtain ⟨-, h1, h2, h3, -⟩ := of_decide_eq_true hb
 have hq : 0 ≤ n / d ∧ n / d ≤ n := ⟨Int.ediv_nonneg h0 (by omega), Int.ediv_le_self _ h0⟩
 have hr : 0 ≤ n % d ∧ n % d < d := ⟨Int.emod_nonneg _ (by omega), Int.emod_lt_of_pos _ (by omega)⟩
 have hm : n % d * (1000000 / d) ≤ 1000000 := by
  have a1 : n % d * (1000000 / d) ≤ d * (1000000 / d) := Int.mul_le_mul_of_nonneg_right (by omega) (Int.ediv_nonneg (by omega) (by omega))
  have a2 : d * (1000000 / d) ≤ 1000000 := Int.mul_ediv_self_le (by omega)
  omega
 have hm0 : 0 ≤ n % d * (1000000 / d) := Int.mul_nonneg hr.1 (Int.ediv_nonneg (by omega) (by omega))
 have hk : 0 ≤ 1000000 / d ∧ (1000000 / d : Int) ≤ 1000000 := ⟨Int.ediv_nonneg (by omega) (by omega), Int.ediv_le_self _ (by omega)⟩
 have e1 := dec_le 12 (n / d).toNat (by omega)
 have e2 := dec_le 7 (1000000 + n % d * (1000000 / d)).toNat (by omega)
 have e3 := dec_pos (1000000 + n % d * (1000000 / d)).toNat
 obtain ⟨K, rfl⟩ : ∃ K', K = K' + 1 := ⟨K - 1, by omega⟩
 have hs : num_size.f n = some n := by
  unfold num_size.f
  rw [if_neg (by omega)]
  congr 1
  simp [IntKind.wrap, IntKind.bits]
  omega
 have w1 : wrap64 n = n := by unfold wrap64; omega
 have w2 : wrap64 (n / d) = n / d := by unfold wrap64; omega
 have w3 : wrap64 (1000000 / d : Int) = 1000000 / d := by unfold wrap64; omega
 have w4 : wrap64 (n % d * (1000000 / d)) = n % d * (1000000 / d) := by unfold wrap64; omega
 have w5 : wrap64 (1000000 + n % d * (1000000 / d)) = 1000000 + n % d * (1000000 / d) := by unfold wrap64; omega
 have t1 : Int.tdiv n d = n / d := Int.tdiv_eq_ediv_of_nonneg h0
 have t2 : Int.tmod n d = n % d := Int.tmod_eq_emod_of_nonneg h0
 unfold num_Text_g.f num_taken.f
 rw [num_Right_f n d _ (by omega), hR]
 simp only [Option.bind_some, if_true]
 rw [hs]
 simp only [Option.bind_some]
 rw [if_neg (by omega), w1, num_Text_g.j0, if_neg (by omega), if_pos hd, t1, t2, w2, w3, w4, w5, itoa_f hq.1 (by omega)]
 simp only [Option.bind_some]
 have z0 : (⟨#[]⟩ : ByteArray) ++ ⟨(Lib.decDigits (n / d).toNat).toArray⟩ = ⟨(Lib.decDigits (n / d).toNat).toArray⟩ := by
  rw [show (⟨#[]⟩ : ByteArray) = ⟨([] : List UInt8).toArray⟩ from rfl, append_list]; rfl
 have z1 : (⟨#[]⟩ : ByteArray).size = 0 := rfl
 rw [z0, z1, size_list, if_pos (by omega)]
 unfold numL
 by_cases hd1 : d = 1
 ·rw [if_pos hd1, if_pos hd1, List.append_nil]
 ·rw [if_neg hd1, if_neg hd1, itoa_f (by omega) (by omega)]
  simp only [Option.bind_some]
  rw [if_pos (by omega), size_list, if_pos (by omega), ← size_list, tail_list, trim_f (by rw [List.length_drop]; omega)]
  simp only [Option.bind_some]
  have e4 := trimR_len ((Lib.decDigits (1000000 + n % d * (1000000 / d)).toNat).drop 1) 48
  rw [List.length_drop] at e4
  rw [show (⟨#[46]⟩ : ByteArray) = ⟨([46] : List UInt8).toArray⟩ from rfl, append_list, size_list, size_list, if_pos (by simp only [List.length_append, List.length_singleton]; omega), append_list]
  simp
mutual
inductive Tre : List S50 → Nat → Prop
 | node (n : S50) (c : Nat) (p : List S50) (d : Nat) : partsS n = (c : Int) → Frs c p d → Tre (n :: p) (d + 1)
inductive Frs : Nat → List S50 → Nat → Prop
 | nil : Frs 0 [] 0
 | cons (p q : List S50) (c d e : Nat) : Tre p d → Frs c q e → Frs (c + 1) (p ++ q) (max d e)
end
theorem parts_le (x : S50) : partsS x ≤ 30 := by
 unfold partsS partsF partsV1 partsV2 partsV3 partsV4 partsV5 partsV6
 repeat' split
 all_goals omega
theorem Tre.pos {p : List S50} {d : Nat} (h : Tre p d) : 1 ≤ p.length ∧ 1 ≤ d ∧ d ≤ p.length := by
 induction h using Tre.rec (motive_2 := fun c p d _ => c ≤ p.length ∧ d ≤ p.length) with
 | node n c p d h1 h2 ih => simp only [List.length_cons]; omega
 | nil => exact ⟨Nat.le_refl _, Nat.le_refl _⟩
 | cons p q c d e h1 h2 i1 i2 => simp only [List.length_append]; omega
theorem mxN (a b : Nat) : mx (a : Int) (b : Int) = ((max a b : Nat) : Int) := by unfold mx; split <;> omega
theorem wr1 {i : Int} (h0 : 0 ≤ i) (h1 : i ≤ 1000000000000) : wrap64 (i + 1) = i + 1 := by unfold wrap64; omega
theorem getD_drop {l p q : List S50} {n : S50} {i : Nat} (h : l.drop i = n :: p) : i < l.length ∧ rd_T50 l (i : Int) = n ∧ l.drop (i + 1) = p := by
 have hi : i < l.length := by
  refine Nat.lt_of_not_le fun hh => ?_
  rw [List.drop_eq_nil_of_le hh] at h
  cases h
 rw [List.drop_eq_getElem_cons hi] at h
 injection h with h1 h2
 refine ⟨hi, ?_, h2⟩
 unfold rd_T50
 simp [List.getD, hi, h1]
theorem over_back (l : List S50) (hl : l.length ≤ 100000000) : ∀ (K : Nat),
 (∀ (i : Nat) (e d : Int), tree_over.f K l (i : Int) = some (e, d) → 0 ≤ e → ∃ (p q : List S50) (dd : Nat), l.drop i = p ++ q ∧ Tre p dd ∧ e = ((i + p.length : Nat) : Int) ∧ d = (dd : Int)) ∧
 (∀ (i dn c dp : Nat) (e d : Int), i ≤ l.length → dn + c ≤ 100 → dp ≤ 100000000 → tree_over.l0 K l (i : Int) (dp : Int) ((dn + c : Nat) : Int) (dn : Int) = some (e, d) → 0 ≤ e → ∃ (p q : List S50) (dd : Nat), l.drop i = p ++ q ∧ Frs c p dd ∧ e = ((i + p.length : Nat) : Int) ∧ d = ((max dp dd + 1 : Nat) : Int)) := by
 intro K
 induction K with
 | zero =>
  refine ⟨?_, ?_⟩
  ·intro i e d h; rw [tree_over.f] at h; cases h
  ·intro i dn c dp e d _ _ _ h; rw [tree_over.l0] at h; cases h
 | succ K ih =>
  obtain ⟨ih1, ih2⟩ := ih
  refine ⟨?_, ?_⟩
  ·intro i e d h he
   rw [tree_over.f] at h
   split at h
   ·cases h; omega
   rename_i hi
   rw [if_pos (by omega), if_pos (by omega)] at h
   have hil : i < l.length := by omega
   have hx := List.drop_eq_getElem_cons hil
   obtain ⟨-, hn, -⟩ := getD_drop (q := []) hx
   rw [hn] at h
   change (if partsS l[i] < 0 then some ((-1 : Int), (0 : Int)) else _) = _ at h
   split at h
   ·cases h; omega
   rename_i hp
   have hle := parts_le l[i]
   obtain ⟨c, hc⟩ : ∃ c : Nat, partsS l[i] = (c : Int) := ⟨(partsS l[i]).toNat, by omega⟩
   rw [wr1 (by omega) (by omega), hc, show ((i : Int) + 1) = ((i + 1 : Nat) : Int) by omega, show (c : Int) = ((0 + c : Nat) : Int) by omega] at h
   obtain ⟨p, q, dd, h1, h2, h3, h4⟩ := ih2 (i + 1) 0 c 0 e d (by omega) (by omega) (by omega) h he
   refine ⟨l[i] :: p, q, dd + 1, ?_, .node _ c p dd hc h2, ?_, ?_⟩
   ·rw [hx, h1]; rfl
   ·rw [h3]; simp only [List.length_cons]; omega
   ·rw [h4]; omega
  ·intro i dn c dp e d hi hc hdp h he
   rw [tree_over.l0] at h
   by_cases hlt : (dn : Int) < ((dn + c : Nat) : Int)
   ·rw [if_pos hlt] at h
    obtain ⟨⟨e1, d1⟩, ho, h⟩ := Option.bind_eq_some_iff.1 h
    change (if e1 < 0 then some ((-1 : Int), (0 : Int)) else _) = _ at h
    split at h
    ·cases h; omega
    rename_i he1
    obtain ⟨p, q, dd, h1, h2, h3, h4⟩ := ih1 i e1 d1 ho (by omega)
    have hpos := h2.pos
    have hlen := congrArg List.length h1
    simp only [List.length_drop, List.length_append] at hlen
    obtain ⟨c, rfl⟩ : ∃ c', c = c' + 1 := ⟨c - 1, by omega⟩
    rw [h3, h4, mxN, wr1 (by omega) (by omega), show ((dn : Int) + 1) = ((dn + 1 : Nat) : Int) by omega, show dn + (c + 1) = dn + 1 + c by omega] at h
    obtain ⟨p2, q2, dd2, g1, g2, g3, g4⟩ := ih2 (i + p.length) (dn + 1) c (max dp dd) e d (by omega) (by omega) (by omega) h he
    have hq : q = p2 ++ q2 := by rw [← g1, ← List.drop_drop, h1, List.drop_left]
    refine ⟨p ++ p2, q2, max dd dd2, ?_, .cons p p2 c dd dd2 h2 g2, ?_, ?_⟩
    ·rw [h1, hq, List.append_assoc]
    ·rw [g3]; simp only [List.length_append]; omega
    ·rw [g4, Nat.max_assoc]
   ·rw [if_neg hlt] at h
    obtain rfl : c = 0 := by omega
    cases h
    refine ⟨[], l.drop i, 0, rfl, .nil, by simp, ?_⟩
    rw [wr1 (by omega) (by omega)]; omega
theorem over_some (l : List S50) (hl : l.length ≤ 100000000) : ∀ (m : Nat),
 (∀ (i K : Nat), l.length - i ≤ m → 2 * m + 1 ≤ K → ∃ x, tree_over.f K l (i : Int) = some x) ∧
 (∀ (i dn c dp K : Nat), i ≤ l.length → l.length - i ≤ m → dn + c ≤ 100 → dp ≤ 100000000 → 2 * m + 2 ≤ K → ∃ x, tree_over.l0 K l (i : Int) (dp : Int) ((dn + c : Nat) : Int) (dn : Int) = some x) := by
 intro m
 induction m with
 | zero =>
  have hf : ∀ (i K : Nat), l.length - i ≤ 0 → 2 * 0 + 1 ≤ K → ∃ x, tree_over.f K l (i : Int) = some x := by
   intro i K hi hK
   obtain ⟨K, rfl⟩ : ∃ K', K = K' + 1 := ⟨K - 1, by omega⟩
   exact ⟨_, by rw [tree_over.f, if_pos (by omega)]⟩
  refine ⟨hf, ?_⟩
  intro i dn c dp K hil hi hc hdp hK
  obtain ⟨K, rfl⟩ : ∃ K', K = K' + 1 := ⟨K - 1, by omega⟩
  rw [tree_over.l0]
  by_cases hlt : (dn : Int) < ((dn + c : Nat) : Int)
  ·obtain ⟨K, rfl⟩ : ∃ K', K = K' + 1 := ⟨K - 1, by omega⟩
   rw [if_pos hlt, tree_over.f, if_pos (by omega)]
   exact ⟨_, rfl⟩
  ·rw [if_neg hlt]; exact ⟨_, rfl⟩
 | succ m ih =>
  obtain ⟨ih1, ih2⟩ := ih
  have hf : ∀ (i K : Nat), l.length - i ≤ m + 1 → 2 * (m + 1) + 1 ≤ K → ∃ x, tree_over.f K l (i : Int) = some x := by
   intro i K hi hK
   obtain ⟨K, rfl⟩ : ∃ K', K = K' + 1 := ⟨K - 1, by omega⟩
   rw [tree_over.f]
   by_cases hil : (l.length : Int) ≤ (i : Int)
   ·exact ⟨_, if_pos hil⟩
   rw [if_neg hil, if_pos (by omega), if_pos (by omega)]
   have hil : i < l.length := by omega
   obtain ⟨-, hn, -⟩ := getD_drop (q := []) (List.drop_eq_getElem_cons hil)
   rw [hn]
   show ∃ x, (if partsS l[i] < 0 then some ((-1 : Int), (0 : Int)) else _) = some x
   split
   ·exact ⟨_, rfl⟩
   rename_i hp
   have hle := parts_le l[i]
   obtain ⟨c, hc⟩ : ∃ c : Nat, partsS l[i] = (c : Int) := ⟨(partsS l[i]).toNat, by omega⟩
   rw [wr1 (by omega) (by omega), hc, show ((i : Int) + 1) = ((i + 1 : Nat) : Int) by omega, show (c : Int) = ((0 + c : Nat) : Int) by omega]
   exact ih2 (i + 1) 0 c 0 K (by omega) (by omega) (by omega) (by omega) (by omega)
  refine ⟨hf, ?_⟩
  intro i dn c dp K hil hi hc hdp hK
  obtain ⟨K, rfl⟩ : ∃ K', K = K' + 1 := ⟨K - 1, by omega⟩
  rw [tree_over.l0]
  by_cases hlt : (dn : Int) < ((dn + c : Nat) : Int)
  ·rw [if_pos hlt]
   obtain ⟨⟨e1, d1⟩, ho⟩ := hf i K (by omega) (by omega)
   rw [ho]
   show ∃ x, (if e1 < 0 then some ((-1 : Int), (0 : Int)) else _) = some x
   split
   ·exact ⟨_, rfl⟩
   rename_i he
   obtain ⟨p, q, dd, h1, h2, h3, h4⟩ := (over_back l hl K).1 i e1 d1 ho (by omega)
   have hpos := h2.pos
   have hlen := congrArg List.length h1
   simp only [List.length_drop, List.length_append] at hlen
   obtain ⟨c, rfl⟩ : ∃ c', c = c' + 1 := ⟨c - 1, by omega⟩
   rw [h3, h4, mxN, wr1 (by omega) (by omega), show ((dn : Int) + 1) = ((dn + 1 : Nat) : Int) by omega, show dn + (c + 1) = dn + 1 + c by omega]
   exact ih2 (i + p.length) (dn + 1) c (max dp dd) K (by omega) (by omega) (by omega) (by omega) (by omega)
  ·rw [if_neg hlt]; exact ⟨_, rfl⟩
theorem eq_eB {s : ByteArray} (h : s.toList = []) : s = eB := by
 have h0 := (toList_nil s).mp h
 obtain ⟨d⟩ := s
 have : d = #[] := Array.eq_empty_of_size_eq_zero h0
 rw [this]; rfl
def litB (v : S46) : Bool := valB v.f0 v.f1.f0 v.f1.f1 v.f2 v.f3 v.f4 && decide (v.f0 ≠ 0 ∧ (v.f0 ≠ 1 ∨ 0 ≤ v.f1.f0 ∧ (1000000 : Int) % v.f1.f1 = 0))
def refR (r : S48) : Bool := refB r.f0 r.f1 r.f2
def binO (o : Int) : Prop := (11 ≤ o ∧ o ≤ 16) ∨ (21 ≤ o ∧ o ≤ 26)
inductive Good : S50 → Int → Prop
 | val (v : S46) : litB v = true → Good (nVal v) 0
 | cell (r : S48) : refR r = true → Good (nCell r) 0
 | area (r s : S48) : refR r = true → refR s = true → s.f0 = eB → Good (nArea r s) 0
 | un (o : Int) : 1 ≤ o → o ≤ 3 → Good (nUn o) 1
 | bin (o : Int) : binO o → Good (nBin o) 2
 | call (m : ByteArray) (c : Int) : fnB m = true → 0 ≤ c → c ≤ 30 → Good (nCall m c) c
theorem good_of (n : S50) (h : 0 ≤ partsS n) : Good n (partsS n) := by
 obtain ⟨k, ⟨v0, ⟨v1, v2⟩, v3, v4, v5⟩, o, m, ag, ⟨a0, a1, a2, a3, a4⟩, ⟨b0, b1, b2, b3, b4⟩⟩ := n
 unfold partsS at h ⊢
 simp only at h ⊢
 unfold partsF at h ⊢
 by_cases h1 : k = 1
 ·subst h1
  simp only [if_true] at h ⊢
  unfold partsV1 at h ⊢
  split at h
  ·rename_i hr
   split at h
   ·rename_i hv
    rw [if_pos hr, if_pos hv]
    unfold rest1 at hr
    obtain ⟨rfl, hm, rfl, ha, rfl, rfl, rfl, rfl, hb, rfl, rfl, rfl, rfl⟩ := of_decide_eq_true hr
    rw [eq_eB hm, eq_eB ha, eq_eB hb]
    exact .val ⟨v0, ⟨v1, v2⟩, v3, v4, v5⟩ (by unfold litB; rw [Bool.and_eq_true]; exact ⟨hv.1, decide_eq_true hv.2⟩)
   ·omega
  ·omega
 rw [if_neg h1] at h ⊢
 by_cases h2 : k = 2
 ·subst h2
  simp only [if_true] at h ⊢
  unfold partsV2 at h ⊢
  split at h
  ·rename_i hr
   split at h
   ·rename_i hv
    rw [if_pos hr, if_pos hv]
    unfold rest2 at hr
    obtain ⟨rfl, rfl, rfl, hv3, rfl, rfl, rfl, hm, rfl, hb, rfl, rfl, rfl, rfl⟩ := of_decide_eq_true hr
    rw [eq_eB hm, eq_eB hv3, eq_eB hb]
    exact .cell ⟨a0, a1, a2, a3, a4⟩ hv.1
   ·omega
  ·omega
 rw [if_neg h2] at h ⊢
 by_cases h3 : k = 3
 ·subst h3
  simp only [if_true] at h ⊢
  unfold partsV3 at h ⊢
  split at h
  ·rename_i hr
   split at h
   ·rename_i hv
    rw [if_pos hr, if_pos hv]
    unfold rest3 at hr
    obtain ⟨rfl, rfl, rfl, hv3, rfl, rfl, rfl, hm, rfl⟩ := of_decide_eq_true hr
    have hb := eq_eB hv.2.2
    rw [eq_eB hm, eq_eB hv3]
    exact .area ⟨a0, a1, a2, a3, a4⟩ ⟨b0, b1, b2, b3, b4⟩ hv.1 hv.2.1 hb
   ·omega
  ·omega
 rw [if_neg h3] at h ⊢
 by_cases h4 : k = 4
 ·subst h4
  simp only [if_true] at h ⊢
  unfold partsV4 at h ⊢
  split at h
  ·rename_i hr
   split at h
   ·rename_i hv
    rw [if_pos hr, if_pos hv]
    unfold rest4 at hr
    obtain ⟨rfl, rfl, rfl, hv3, rfl, rfl, hm, rfl, ha, rfl, rfl, rfl, rfl, hb, rfl, rfl, rfl, rfl⟩ := of_decide_eq_true hr
    rw [eq_eB hm, eq_eB hv3, eq_eB ha, eq_eB hb]
    exact .un o hv.1 hv.2
   ·omega
  ·omega
 rw [if_neg h4] at h ⊢
 by_cases h5 : k = 5
 ·subst h5
  simp only [if_true] at h ⊢
  unfold partsV5 at h ⊢
  split at h
  ·rename_i hr
   split at h
   ·rename_i hv
    rw [if_pos hr, if_pos hv]
    unfold rest5 at hr
    obtain ⟨rfl, rfl, rfl, hv3, rfl, rfl, hm, rfl, ha, rfl, rfl, rfl, rfl, hb, rfl, rfl, rfl, rfl⟩ := of_decide_eq_true hr
    rw [eq_eB hm, eq_eB hv3, eq_eB ha, eq_eB hb]
    exact .bin o hv
   ·omega
  ·omega
 rw [if_neg h5] at h ⊢
 by_cases h6 : k = 6
 ·subst h6
  simp only [if_true] at h ⊢
  unfold partsV6 at h ⊢
  split at h
  ·rename_i hr
   split at h
   ·rename_i hv
    rw [if_pos hr, if_pos hv]
    unfold rest6 at hr
    obtain ⟨rfl, rfl, rfl, hv3, rfl, rfl, rfl, ha, rfl, rfl, rfl, rfl, hb, rfl, rfl, rfl, rfl⟩ := of_decide_eq_true hr
    rw [eq_eB hv3, eq_eB ha, eq_eB hb]
    exact .call m ag hv.1 hv.2.1 hv.2.2
   ·omega
  ·omega
 rw [if_neg h6] at h
 omega
theorem Tre.good {p : List S50} {d : Nat} (h : Tre p d) : ∀ n ∈ p, 0 ≤ partsS n := by
 induction h using Tre.rec (motive_2 := fun c p d _ => ∀ n ∈ p, 0 ≤ partsS n) with
 | node n c p d h1 h2 ih =>
  intro m hm
  rcases List.mem_cons.1 hm with rfl | hm
  ·omega
  ·exact ih m hm
 | nil => rename_i m hm; cases hm
 | cons p q c d e h1 h2 i1 i2 =>
  rename_i m hm
  rcases List.mem_append.1 hm with hm | hm
  ·exact i1 m hm
  ·exact i2 m hm
theorem check_back {K : Nat} {l : List S50} (h : tree_Check.f K l = some 0) : ∃ d, Tre l d ∧ d ≤ 32 ∧ l.length ≤ 256 := by
 unfold tree_Check.f at h
 split at h
 ·cases h
 rename_i hl
 obtain ⟨⟨e, d⟩, ho, h⟩ := Option.bind_eq_some_iff.1 h
 simp only at h
 split at h
 ·rename_i he
  split at h
  ·cases h
  ·rename_i hd
   obtain ⟨p, q, dd, h1, h2, h3, h4⟩ := (over_back l (by omega) K).1 0 e d ho (by omega)
   rw [List.drop_zero] at h1
   have hlen := congrArg List.length h1
   rw [List.length_append] at hlen
   have hq : q = [] := List.eq_nil_of_length_eq_zero (by omega)
   rw [hq, List.append_nil] at h1
   rw [← h1] at h2
   exact ⟨dd, h2, by omega, by omega⟩
 ·cases h
theorem check_some (l : List S50) {K : Nat} (hK : 600 ≤ K) : ∃ c, tree_Check.f K l = some c ∧ (c = 0 ∨ c = 51 ∨ c = 52 ∨ c = 53) := by
 unfold tree_Check.f
 split
 ·exact ⟨_, rfl, by omega⟩
 ·obtain ⟨⟨e, d⟩, h⟩ := (over_some l (by omega) 256).1 0 K (by omega) (by omega)
  rw [show ((0 : Nat) : Int) = 0 from rfl] at h
  rw [h]
  show ∃ c, (if e = (l.length : Int) then (if d > 32 then some (51 : Int) else some 0) else some 53) = some c ∧ _
  split
  ·split
   ·exact ⟨_, rfl, by omega⟩
   ·exact ⟨_, rfl, by omega⟩
  ·exact ⟨_, rfl, by omega⟩
theorem tre_tk (L : Lf) : ∀ (m : Nat),
 (∀ (p : List S50) (d K : Nat) (least : Int) (q : List S50), Tre p d → p.length ≤ m → 2 * p.length + 1 ≤ K → ∃ T, T ≠ [] ∧ tkF L K least (p ++ q) = some (T, q)) ∧
 (∀ (c : Nat) (p : List S50) (d K : Nat) (first : Bool) (q : List S50), Frs c p d → p.length ≤ m → 2 * p.length + 2 ≤ K → ∃ T, atkF L K first (c : Int) (p ++ q) = some (T, q)) := by
 intro m
 induction m with
 | zero =>
  refine ⟨?_, ?_⟩
  ·intro p d K least q h hp
   have := h.pos
   omega
  ·intro c p d K first q h hp hK
   obtain ⟨K, rfl⟩ : ∃ K', K = K' + 1 := ⟨K - 1, by omega⟩
   cases h with
   | nil => exact ⟨[], by rw [atkF, if_pos (by omega)]; rfl⟩
   | cons p q c d e h1 h2 =>
    have := h1.pos
    simp only [List.length_append] at hp
    omega
 | succ m ih =>
  obtain ⟨ih1, ih2⟩ := ih
  have hf : ∀ (p : List S50) (d K : Nat) (least : Int) (q : List S50), Tre p d → p.length ≤ m + 1 → 2 * p.length + 1 ≤ K → ∃ T, T ≠ [] ∧ tkF L K least (p ++ q) = some (T, q) := by
   intro p d K least q h hp hK
   obtain ⟨K, rfl⟩ : ∃ K', K = K' + 1 := ⟨K - 1, by omega⟩
   cases h with
   | node n c p d h1 h2 =>
    simp only [List.length_cons] at hp hK
    suffices hs : ∃ U, U ≠ [] ∧ (if n.f0 = 1 then some ([L.val n.f1], p ++ q)
     else if n.f0 = 2 then some (refT L n.f5, p ++ q)
     else if n.f0 = 3 then some (refT L n.f5 ++ [mk [58], (3, L.cel n.f6)], p ++ q)
     else if n.f0 = 6 then (atkF L K true n.f4 (p ++ q)).map fun (T, q) => ((3, n.f3) :: mk [40] :: (T ++ [mk [41]]), q)
     else if n.f0 = 5 then (tkF L K (tightO n.f2) (p ++ q)).bind fun (T, q) => (tkF L K (tightO n.f2 + 1) q).map fun (U, p) => (T ++ (5, signB n.f2) :: U, p)
     else if n.f2 = 3 then (tkF L K 7 (p ++ q)).map fun (T, q) => (T ++ [mk [37]], q)
     else (tkF L K 6 (p ++ q)).map fun (T, q) => ((5, signB n.f2) :: T, q)) = some (U, q) by
     obtain ⟨U, h0, hU⟩ := hs
     refine ⟨bra (decide (tightN n < least)) U, ?_, ?_⟩
     ·unfold bra; split
      ·simp
      ·exact h0
     ·rw [List.cons_append, tkF, hU]; rfl
    have hg := good_of n (by omega)
    rw [h1] at hg
    generalize hcc : (c : Int) = cc at hg
    have nil_of : c = 0 → p = [] := by
     intro h0; subst h0
     cases h2; rfl
    cases hg with
    | val v hv =>
     obtain rfl := nil_of (by omega)
     exact ⟨[L.val v], by simp, rfl⟩
    | cell r hr =>
     obtain rfl := nil_of (by omega)
     exact ⟨refT L r, by unfold refT; split <;> simp, rfl⟩
    | area r s hr hs h0 =>
     obtain rfl := nil_of (by omega)
     exact ⟨refT L r ++ [mk [58], (3, L.cel s)], by simp, rfl⟩
    | un o h1 h3 =>
     obtain rfl : c = 1 := by omega
     have hp1 : ∃ d', Tre p d' := by
      cases h2 with
      | cons p1 q1 c d e g1 g2 =>
       cases g2
       exact ⟨d, by rw [List.append_nil]; exact g1⟩
     obtain ⟨d', hp1⟩ := hp1
     by_cases ho : o = 3
     ·obtain ⟨U, hU0, hU⟩ := ih1 p d' K 7 q hp1 (by omega) (by omega)
      refine ⟨U ++ [mk [37]], by simp, ?_⟩
      subst ho
      show (tkF L K 7 (p ++ q)).map (fun (T, q) => (T ++ [mk [37]], q)) = _
      rw [hU]; rfl
     ·obtain ⟨U, hU0, hU⟩ := ih1 p d' K 6 q hp1 (by omega) (by omega)
      refine ⟨(5, signB o) :: U, by simp, ?_⟩
      show (if o = 3 then (tkF L K 7 (p ++ q)).map (fun (T, q) => (T ++ [mk [37]], q)) else (tkF L K 6 (p ++ q)).map fun (T, q) => ((5, signB o) :: T, q)) = _
      rw [if_neg ho, hU]; rfl
    | bin o ho =>
     obtain rfl : c = 2 := by omega
     cases h2 with
     | cons p1 q1 c d e g1 g2 =>
      cases g2 with
      | cons p2 q2 c d e g3 g4 =>
       cases g4
       simp only [List.length_append, List.length_nil] at hp hK
       have hpos := g1.pos
       obtain ⟨U1, -, hU1⟩ := ih1 p1 _ K (tightO o) (p2 ++ q) g1 (by omega) (by omega)
       obtain ⟨U2, -, hU2⟩ := ih1 p2 _ K (tightO o + 1) q g3 (by omega) (by omega)
       refine ⟨U1 ++ (5, signB o) :: U2, by simp, ?_⟩
       show (tkF L K (tightO o) (p1 ++ (p2 ++ []) ++ q)).bind (fun (T, q) => (tkF L K (tightO o + 1) q).map fun (U, p) => (T ++ (5, signB o) :: U, p)) = _
       rw [List.append_nil, List.append_assoc, hU1]
       show (tkF L K (tightO o + 1) (p2 ++ q)).map (fun (U, p) => (U1 ++ (5, signB o) :: U, p)) = _
       rw [hU2]; rfl
    | call m n hm h0 h30 =>
     obtain ⟨T, hT⟩ := ih2 c p _ K true q h2 (by omega) (by omega)
     refine ⟨(3, m) :: mk [40] :: (T ++ [mk [41]]), by simp, ?_⟩
     subst hcc
     show (atkF L K true (c : Int) (p ++ q)).map (fun (T, q) => ((3, m) :: mk [40] :: (T ++ [mk [41]]), q)) = _
     rw [hT]; rfl
  refine ⟨hf, ?_⟩
  intro c p d K first q h hp hK
  obtain ⟨K, rfl⟩ : ∃ K', K = K' + 1 := ⟨K - 1, by omega⟩
  cases h with
  | nil => exact ⟨[], by rw [atkF, if_pos (by omega)]; rfl⟩
  | cons p q2 c d e h1 h2 =>
   simp only [List.length_append] at hp hK
   have hpos := h1.pos
   obtain ⟨T, -, hT⟩ := hf p _ K 1 (q2 ++ q) h1 (by omega) (by omega)
   obtain ⟨U, hU⟩ := ih2 c q2 _ K false q h2 (by omega) (by omega)
   refine ⟨(if first then T else mk [44] :: T) ++ U, ?_⟩
   rw [atkF, if_neg (by omega), List.append_assoc, hT]
   show (atkF L K false (((c + 1 : Nat) : Int) - 1) (q2 ++ q)).map (fun (U, p) => ((if first then T else mk [44] :: T) ++ U, p)) = _
   rw [show (((c + 1 : Nat) : Int) - 1) = (c : Int) by omega, hU]; rfl
def valTk (v : S46) : Tk :=
 if v.f0 = 2 then (2, v.f2) else if v.f0 = 4 then (4, faultsL.getD (v.f4 - 1).toNat ByteArray.empty) else if v.f0 = 3 then (3, if v.f3 then tTRUE else tFALSE) else (1, ⟨(numL v.f1.f0 v.f1.f1).toArray⟩)
def celL (r : S48) : List UInt8 := (if r.f4 then [36] else []) ++ colL r.f2 ++ (if r.f3 then [36] else []) ++ Lib.decDigits (r.f1 + 1).toNat
def theLf : Lf := ⟨valTk, fun r => ⟨(celL r).toArray⟩⟩
theorem lit_cases {v : S46} (h : litB v = true) :
 (v.f0 = 1 ∧ numB v.f1.f0 v.f1.f1 = true ∧ v.f2 = eB ∧ v.f3 = false ∧ v.f4 = 0 ∧ 0 ≤ v.f1.f0 ∧ (1000000 : Int) % v.f1.f1 = 0) ∨
 (v.f0 = 2 ∧ v.f1.f0 = 0 ∧ v.f1.f1 = 0 ∧ v.f2.size ≤ 256 ∧ plainB v.f2 = true ∧ v.f3 = false ∧ v.f4 = 0) ∨
 (v.f0 = 3 ∧ v.f1.f0 = 0 ∧ v.f1.f1 = 0 ∧ v.f2 = eB ∧ v.f4 = 0) ∨
 (v.f0 = 4 ∧ v.f1.f0 = 0 ∧ v.f1.f1 = 0 ∧ v.f2 = eB ∧ v.f3 = false ∧ 1 ≤ v.f4 ∧ v.f4 ≤ 8) := by
 unfold litB at h
 rw [Bool.and_eq_true, decide_eq_true_eq] at h
 obtain ⟨h, h0, h1⟩ := h
 unfold valB at h
 simp only [Bool.or_eq_true, Bool.and_eq_true, beq_iff_eq, Bool.not_eq_true', decide_eq_true_eq] at h
 rcases h with (((h | h) | h) | h) | h
 ·exact absurd h.1.1.1.1.1 h0
 ·obtain ⟨⟨⟨⟨a, b⟩, c⟩, d⟩, e⟩ := h
  have h1 := h1.resolve_left (fun hh => hh a)
  exact .inl ⟨a, b, eq_eB c, d, e, h1.1, h1.2⟩
 ·obtain ⟨⟨⟨⟨⟨⟨a, b⟩, c⟩, d⟩, e⟩, f⟩, g⟩ := h
  exact .inr (.inl ⟨a, b, c, d, e, f, g⟩)
 ·obtain ⟨⟨⟨⟨a, b⟩, c⟩, d⟩, e⟩ := h
  exact .inr (.inr (.inl ⟨a, b, c, eq_eB d, e⟩))
 ·obtain ⟨⟨⟨⟨⟨a, b⟩, c⟩, d⟩, e⟩, f, g⟩ := h
  exact .inr (.inr (.inr ⟨a, b, c, eq_eB d, e, f, g⟩))
theorem lit_val {v : S46} (h : litB v = true) : valB v.f0 v.f1.f0 v.f1.f1 v.f2 v.f3 v.f4 = true := by
 unfold litB at h
 rw [Bool.and_eq_true] at h
 exact h.1
theorem faults_size (e : Int) (h1 : 1 ≤ e) (h8 : e ≤ 8) : (faultsL.getD (e - 1).toNat ByteArray.empty).size ≤ 8 := by
 have : e = 1 ∨ e = 2 ∨ e = 3 ∨ e = 4 ∨ e = 5 ∨ e = 6 ∨ e = 7 ∨ e = 8 := by omega
 rcases this with rfl | rfl | rfl | rfl | rfl | rfl | rfl | rfl <;> decide
theorem txt_one (t : Tk) : txt [t] = tkText t := by rw [txt_cons, txt_nil, List.append_nil]
theorem wrote_eq {B : Nat} {w : World} {g : Nat} {bs T U : List UInt8} {lv : Value} {a : Int} (e : T = U) {en : Ending} {w' : World} (h : en = .returned (.tuple #[]) ∧ Wrote B w g (bs ++ T) lv a w') : en = .returned (.tuple #[]) ∧ Wrote B w g (bs ++ U) lv a w' := e ▸ h
theorem text_f {K : Nat} (hK : 1000003 ≤ K) {n d e : Int} {tx : ByteArray} {b : Bool} (hR : numB n d = true) (h0 : 0 ≤ n) (hd : (1000000 : Int) % d = 0) (hv : valB 1 n d tx b e = true) : value_AsText_g.f K 1 n d tx b e = some (⟨(numL n d).toArray⟩, 0, 0, 0, ⟨#[]⟩, false, 0) := by
 unfold value_AsText_g.f value_taken.f
 rw [value_Right_f _ _ _ _ _ _ _ (by omega), hv]
 simp only [Option.bind_some, if_true]
 rw [if_neg (by decide), num_text_f hR h0 hd hK]
 rfl
theorem truth_f {K : Nat} (hK : 1000003 ≤ K) {n d e : Int} {tx : ByteArray} {b : Bool} (hv : valB 3 n d tx b e = true) : value_AsText_g.f K 3 n d tx b e = some (if b then tTRUE else tFALSE, 0, 0, 0, ⟨#[]⟩, false, 0) := by
 unfold value_AsText_g.f value_taken.f
 rw [value_Right_f _ _ _ _ _ _ _ (by omega), hv]
 simp only [Option.bind_some, if_true]
 rw [if_neg (by decide), if_neg (by decide)]
 cases b <;> rfl
theorem leaf_val {w0 : World} (hG : GL w0) {lv : Value} {v : S46} (h : litB v = true) : LeafW w0 lv theLf (nVal v) := by
 refine ⟨fun _ => ?_, fun hh => absurd hh (show ¬ ((1 : Int) = 2 ∨ (1 : Int) = 3) by decide), fun hh => absurd hh (show ¬ (1 : Int) = 3 by decide)⟩
 intro w g bs a hp hlen
 obtain ⟨kd, ⟨n, d⟩, tx, b, e⟩ := v
 have hv := lit_val h
 show Calls Tryz.prog 75 #[.pointer (some ⟨g, 0, none⟩), .agg #[.int .i64 kd, .int .i64 n, .int .i64 d, .string tx, .bool b, .int .i64 e]] w (fun e' w' => e' = .returned (.tuple #[]) ∧ Wrote w0.heap.size w g (bs ++ txt [valTk ⟨kd, ⟨n, d⟩, tx, b, e⟩]) lv a w')
 rw [txt_one]
 rcases lit_cases h with ⟨h0, hN, h2, h3, h4, h5, h6⟩ | ⟨h0, h1, h2, h3, h4, h5, h6⟩ | ⟨h0, h1, h2, h3, h4⟩ | ⟨h0, h1, h2, h3, h4, h5, h6⟩
 ·simp only at h0 hN h2 h3 h4 h5 h6 hv
  subst h0
  have hb := hN
  unfold numB at hb
  obtain ⟨-, b1, b2, b3, -⟩ := of_decide_eq_true hb
  have hsz := num_len h5 b1 b2 b3
  exact literal_show hp.pr hp.bel hG (t := ⟨(numL n d).toArray⟩) (by decide) (fun w hw => show_text (kd := 1) (k := 1000003) hw (by rw [value_Right_f _ _ _ _ _ _ _ (by omega)]; exact congrArg some hv) (by decide) (by decide) (text_f (Nat.le_refl _) hN h5 h6 hv)) (by rw [size_list]; omega) hlen
 ·simp only at h0 h1 h2 h3 h4 h5 h6 hv
  subst h0
  have hr : strings_ReplaceAll_g.f tx ⟨#[34]⟩ ⟨#[34, 34]⟩ = some ⟨(Lib.replaceAll tx.data.toList [34] [34, 34]).toArray⟩ := by
   unfold strings_ReplaceAll_g.f
   have hc := Lib.countB_le ⟨#[34]⟩ (by decide) tx.size tx (Nat.le_refl _)
   have e2 : (⟨#[34, 34]⟩ : ByteArray).size = 2 := rfl
   rw [if_pos ⟨by omega, by decide, by rw [e2]; omega⟩]
  have hl := dblL_len tx.data.toList
  have hz : tx.data.toList.length = tx.size := Array.length_toList
  exact literal_text (kd := 2) (rt := ⟨(Lib.replaceAll tx.data.toList [34] [34, 34]).toArray⟩) hp.pr hp.bel hG hr (by rw [size_list]; have e := congrArg List.length (replaceAll_dbl tx.data.toList); omega) hlen
 ·simp only at h0 h1 h2 h3 h4 hv
  subst h0
  refine literal_show hp.pr hp.bel hG (t := if b then tTRUE else tFALSE) (by decide) (fun w hw => show_text (kd := 3) (k := 1000003) hw (by rw [value_Right_f _ _ _ _ _ _ _ (by omega)]; exact congrArg some hv) (by decide) (by decide) (truth_f (Nat.le_refl _) hv)) (by cases b <;> decide) hlen
 ·simp only at h0 h1 h2 h3 h4 h5 h6 hv
  subst h0
  exact literal_show hp.pr hp.bel hG (t := faultsL.getD (e - 1).toNat ByteArray.empty) (by decide) (fun w hw => show_fault (kd := 4) (k := 1000003) hw (by rw [value_Right_f _ _ _ _ _ _ _ (by omega)]; exact congrArg some hv) h5 h6) (by have := faults_size e h5 h6; omega) hlen
theorem refR_cases {r : S48} (h : refR r = true) : (r.f0 = eB ∨ sheetB r.f0 = true) ∧ 0 ≤ r.f1 ∧ r.f1 < 65536 ∧ 0 ≤ r.f2 ∧ r.f2 < 256 := by
 unfold refR refB at h
 simp only [Bool.and_eq_true, Bool.or_eq_true, beq_iff_eq, decide_eq_true_eq] at h
 obtain ⟨h1, h2⟩ := h
 refine ⟨?_, h2⟩
 rcases h1 with h1 | h1
 ·exact .inl (eq_eB h1)
 ·exact .inr h1
theorem eB_size {s : ByteArray} : s.size = 0 ↔ s = eB := by
 constructor
 ·intro h; exact eq_eB ((toList_nil s).mpr h)
 ·rintro rfl; rfl
theorem cell_text {r : S48} {k : Nat} (hk : k = (colL r.f2).length) : cellW r (nameL r.f1 r.f2) k = txt (refT theLf r) := by
 subst hk
 unfold cellW refT nameL
 rw [List.take_left, List.drop_left]
 have e : theLf.cel r = ⟨(celL r).toArray⟩ := rfl
 by_cases h0 : r.f0 = eB
 ·rw [if_pos (eB_size.2 h0), if_pos h0, txt_one, e, tk3]
  simp [celL]
 ·rw [if_neg (fun h => h0 (eB_size.1 h)), if_neg h0, txt_cons, txt_cons, txt_one, e, tk3, tk3]
  simp [celL, mk, mB, tk5]
theorem cell_leaf {w0 : World} (hG : GL w0) {lv : Value} {r : S48} (h : refR r = true) (hs : r.f0.size ≤ 1000) {w : World} {g : Nat} {bs : List UInt8} {a : Int} (hp : Pr w0 lv w g bs a) (hlen : bs.length ≤ 1000000000) :
 Calls Tryz.prog 76 #[.pointer (some ⟨g, 0, none⟩), v48 r] w fun e w' => e = .returned (.tuple #[]) ∧ Wrote w0.heap.size w g (bs ++ txt (refT theLf r)) lv a w' := by
 obtain ⟨-, h1, h2, h3, h4⟩ := refR_cases h
 have hn := name_f h1 h2 h3 h4
 have hl := name_len (c := r.f2) h1 h2
 have hk := name_index h1 h2 h3 h4
 have := cell_any hp.pr hp.bel hG r (nm := ⟨(nameL r.f1 r.f2).toArray⟩) (k := (colL r.f2).length) hn hk (by rw [size_list]; unfold nameL; rw [List.length_append]; omega) (by rw [size_list]; omega) (fun j b hj => name_ascii h1 h2 h3 h4 b (List.mem_of_getElem? hj)) hs hlen
 exact this.mono fun e w' hh => wrote_eq (cell_text rfl) hh
theorem sheet_size {s : ByteArray} (h : sheetB s = true) : s.size ≤ 16 := by
 unfold sheetB at h
 simp only [Bool.and_eq_true, decide_eq_true_eq] at h
 omega
theorem refR_size {r : S48} (h : refR r = true) : r.f0.size ≤ 1000 := by
 rcases (refR_cases h).1 with h | h
 ·rw [eB_size.2 h]; omega
 ·have := sheet_size h; omega
theorem good_leaf {w0 : World} (hG : GL w0) {lv : Value} {n : S50} {c : Int} (h : Good n c) : LeafW w0 lv theLf n := by
 cases h with
 | val v hv => exact leaf_val hG hv
 | cell r hr => exact ⟨fun hh => absurd hh (show ¬ (2 : Int) = 1 by decide), fun _ w g bs a hp hlen => cell_leaf hG hr (refR_size hr) hp hlen, fun hh => absurd hh (show ¬ (2 : Int) = 3 by decide)⟩
 | area r s hr hs h0 =>
  refine ⟨fun hh => absurd hh (show ¬ (3 : Int) = 1 by decide), fun _ w g bs a hp hlen => cell_leaf hG hr (refR_size hr) hp hlen, fun _ w g bs a hp hlen => ?_⟩
  have := cell_leaf hG hs (refR_size hs) hp hlen
  unfold refT at this
  rw [if_pos h0] at this
  exact this
 | un o h1 h3 => exact ⟨fun hh => absurd hh (show ¬ (4 : Int) = 1 by decide), fun hh => absurd hh (show ¬ ((4 : Int) = 2 ∨ (4 : Int) = 3) by decide), fun hh => absurd hh (show ¬ (4 : Int) = 3 by decide)⟩
 | bin o ho => exact ⟨fun hh => absurd hh (show ¬ (5 : Int) = 1 by decide), fun hh => absurd hh (show ¬ ((5 : Int) = 2 ∨ (5 : Int) = 3) by decide), fun hh => absurd hh (show ¬ (5 : Int) = 3 by decide)⟩
 | call m c hm h0 h30 => exact ⟨fun hh => absurd hh (show ¬ (6 : Int) = 1 by decide), fun hh => absurd hh (show ¬ ((6 : Int) = 2 ∨ (6 : Int) = 3) by decide), fun hh => absurd hh (show ¬ (6 : Int) = 3 by decide)⟩
theorem fn_size {s : ByteArray} (h : fnB s = true) : s.size ≤ 16 := by
 unfold fnB at h
 simp only [Bool.and_eq_true] at h
 exact sheet_size h.1
theorem good_node {n : S50} {c : Int} (h : Good n c) : NodeW n := by
 cases h with
 | val v hv => exact ⟨fun hh => absurd hh (show ¬ (1 : Int) = 5 by decide), show eB.size ≤ 100000 by decide, show (0 : Int) ≤ 100000 by decide, fun hh => absurd rfl hh⟩
 | cell r hr => exact ⟨fun hh => absurd hh (show ¬ (2 : Int) = 5 by decide), show eB.size ≤ 100000 by decide, show (0 : Int) ≤ 100000 by decide, fun _ hh => absurd rfl hh⟩
 | area r s hr hs h0 => exact ⟨fun hh => absurd hh (show ¬ (3 : Int) = 5 by decide), show eB.size ≤ 100000 by decide, show (0 : Int) ≤ 100000 by decide, fun _ _ hh => absurd rfl hh⟩
 | un o h1 h3 => exact ⟨fun hh => absurd hh (show ¬ (4 : Int) = 5 by decide), show eB.size ≤ 100000 by decide, show (0 : Int) ≤ 100000 by decide, fun _ _ _ _ _ => rfl⟩
 | bin o ho =>
  refine ⟨fun _ => ?_, show eB.size ≤ 100000 by decide, show (0 : Int) ≤ 100000 by decide, fun _ _ _ _ hh => absurd rfl hh⟩
  show tightS o = tightO o
  unfold binO at ho
  unfold tightS
  rw [if_neg (by omega), if_neg (by omega)]
 | call m c hm h0 h30 => exact ⟨fun hh => absurd hh (show ¬ (6 : Int) = 5 by decide), by have := fn_size hm; show m.size ≤ 100000; omega, by show c ≤ 100000; omega, fun _ _ _ hh => absurd rfl hh⟩
theorem tk_len (t : Tk) (h : t.1 ≠ 2) : (tkText t).length = t.2.size := by unfold tkText; rw [if_neg h]; exact Array.length_toList
theorem print_tree {A : Option Addr} {c : Nat} {l : List S50} {w : World} (hG : GL w) (hC : Kd.C k50 w A l.length l) (hc : l.length ≤ c) {K : Nat} (hcc : tree_Check.f K l = some 0) {K2 : Nat} {T : List Tk} (ht : tkF theLf K2 1 l = some (T, [])) (hlen : (txt T).length ≤ 1000000000) (hne : txt T ≠ []) :
 Calls Tryz.prog 26 #[.slice A l.length c] w fun en w' => en = .returned (.tuple #[.string ⟨(txt T).toArray⟩, .int .i64 0]) ∧ Below w.heap.size w w' := by
 obtain ⟨d, hd, -, hl⟩ := check_back hcc
 have hg := hd.good
 exact print_ok hG hC hc (by omega) hcc (fun w0 h0 n hn => good_leaf h0 (good_of n (hg n hn))) (fun n hn => good_node (good_of n (hg n hn))) ht hlen hne
def qend : List UInt8 → Option Nat
 | [] => none
 | c :: r => if c = 34 then (match r with | [] => some 0 | d :: r' => if d = 34 then (qend r').map (· + 2) else some 0) else (qend r).map (· + 1)
def badAt : List UInt8 → Option Nat
 | [] => none
 | c :: r => if c.toNat < 32 ∨ 126 < c.toNat then some 0 else (badAt r).map (· + 1)
def undblL (l : List UInt8) : List UInt8 := Lib.replaceAll l [34, 34] [34]
theorem lb_ext {a b : ByteArray} (h : a.data.toList = b.data.toList) : a = b := ByteArray.ext (Array.toList_inj.1 h)
theorem ext_list (l : List UInt8) (a b : Nat) : (⟨l.toArray⟩ : ByteArray).extract a b = ⟨((l.drop a).take (b - a)).toArray⟩ := by
 apply lb_ext
 rw [ByteArray.data_extract, Array.toList_extract, List.extract_eq_take_drop]
theorem ext_drop (l : List UInt8) (a : Nat) : (⟨l.toArray⟩ : ByteArray).extract a (⟨l.toArray⟩ : ByteArray).size = ⟨(l.drop a).toArray⟩ := by
 apply lb_ext
 rw [drop_list]
theorem ext_take (l : List UInt8) (b : Nat) : (⟨l.toArray⟩ : ByteArray).extract 0 b = ⟨(l.take b).toArray⟩ := by
 rw [ext_list]; simp
theorem bt_list (l : List UInt8) (i : Nat) (h : i < l.length) : bt ⟨l.toArray⟩ (i : Int) = (l[i].toNat : Int) := by
 rw [bt_nat _ i (by rw [size_list]; exact h)]
theorem bt_cons (c : UInt8) (r : List UInt8) : bt ⟨(c :: r).toArray⟩ 0 = (c.toNat : Int) := bt0 c r
theorem byte_eq {c : UInt8} {n : Nat} (hn : n < 256) : c.toNat = n ↔ c = UInt8.ofNat n := by
 constructor
 ·intro h; rw [← h, UInt8.ofNat_toNat]
 ·rintro rfl; exact nat8 hn
theorem qend_ne {c : UInt8} {r : List UInt8} (h : c ≠ 34) : qend (c :: r) = (qend r).map (· + 1) := by
 rw [qend.eq_def]
 simp only [if_neg h]
theorem ixb_none : ∀ (l : List UInt8), Lib.indexByte l 34 = -1 → qend l = none
 | [], _ => rfl
 | c :: r, h => by
  unfold Lib.indexByte at h
  by_cases hc : c = 34
  ·rw [if_pos (by rw [beq_iff_eq]; exact hc)] at h; cases h
  ·rw [if_neg (by rw [beq_iff_eq]; exact hc)] at h
   have hg := Lib.indexByte_ge r 34
   have : Lib.indexByte r 34 = -1 := by
    by_cases hh : Lib.indexByte r 34 = -1
    ·exact hh
    ·rw [if_neg (by rw [beq_iff_eq]; exact hh)] at h; omega
   rw [qend_ne hc, ixb_none r this]; rfl
theorem ixb_some : ∀ (l : List UInt8) (k : Nat), Lib.indexByte l 34 = (k : Int) → k < l.length ∧ qend l = (match l.drop (k + 1) with | [] => some k | d :: r' => if d = 34 then (qend r').map (· + (k + 2)) else some k)
 | [], k, h => by
  rw [show Lib.indexByte [] 34 = -1 from rfl] at h; omega
 | c :: r, k, h => by
  unfold Lib.indexByte at h
  by_cases hc : c = 34
  ·rw [if_pos (by rw [beq_iff_eq]; exact hc)] at h
   obtain rfl : k = 0 := by omega
   refine ⟨by simp, ?_⟩
   rw [qend.eq_def]
   simp only [if_pos hc, List.drop_succ_cons, List.drop_zero]
  ·rw [if_neg (by rw [beq_iff_eq]; exact hc)] at h
   have hg := Lib.indexByte_ge r 34
   have hne : Lib.indexByte r 34 ≠ -1 := by
    intro hh
    rw [if_pos (by rw [beq_iff_eq]; exact hh)] at h; omega
   rw [if_neg (by rw [beq_iff_eq]; exact hne)] at h
   obtain ⟨j, rfl⟩ : ∃ j, k = j + 1 := ⟨k - 1, by omega⟩
   obtain ⟨h1, h2⟩ := ixb_some r j (by omega)
   refine ⟨by simp; omega, ?_⟩
   rw [qend_ne hc, h2, List.drop_succ_cons]
   cases r.drop (j + 1) with
   | nil => rfl
   | cons d r' =>
    simp only
    by_cases hd : d = 34
    ·rw [if_pos hd, if_pos hd, Option.map_map]
     congr 1
    ·rw [if_neg hd, if_neg hd]; rfl
theorem qend_le : ∀ (n : Nat) (l : List UInt8) (e : Nat), l.length ≤ n → qend l = some e → e < l.length
 | 0, l, e, hn, h => by
  obtain rfl := List.eq_nil_of_length_eq_zero (Nat.le_zero.1 hn)
  cases h
 | n + 1, [], e, hn, h => by cases h
 | n + 1, c :: r, e, hn, h => by
  rw [qend.eq_def] at h
  simp only at h
  split at h
  ·cases r with
   | nil => cases h; simp
   | cons d r' =>
    simp only at h
    split at h
    ·obtain ⟨e', h1, rfl⟩ := Option.map_eq_some_iff.1 h
     have := qend_le n r' e' (by simp at hn; omega) h1
     simp; omega
    ·cases h; simp
  ·obtain ⟨e', h1, rfl⟩ := Option.map_eq_some_iff.1 h
   have := qend_le n r e' (by simp at hn; omega) h1
   simp; omega
def quotL (l : List UInt8) : List UInt8 × Nat × Int :=
 match qend (l.drop 1) with
 | none => ([], 0, 41)
 | some e => match badAt (l.take (e + 2)) with
  | some i => ([], i, 40)
  | none => (undblL ((l.drop 1).take e), e + 2, 0)
theorem wr_nat {n : Nat} (h : n ≤ 1000000000000) : wrap64 (n : Int) = (n : Int) := by unfold wrap64; omega
theorem quot_l1 (l : List UInt8) (hl : l.length ≤ 100000) (E : Nat) (h2 : 2 ≤ E) (hE : E ≤ l.length) : ∀ (d i K : Nat), E - i = d → i ≤ E → d < K →
 lex_quoted_g.l1 K ⟨l.toArray⟩ (E : Int) (E : Int) (i : Int) = some (match badAt ((l.take E).drop i) with | some b => (⟨#[]⟩, ((i + b : Nat) : Int), 40) | none => (⟨(undblL ((l.drop 1).take (E - 2))).toArray⟩, (E : Int), 0)) := by
 intro d
 induction d with
 | zero =>
  intro i K hd hi hK
  obtain ⟨K, rfl⟩ : ∃ y, K = y + 1 := ⟨K - 1, by omega⟩
  obtain rfl : i = E := by omega
  have w1 : wrap64 ((i : Int) - 1) = ((i - 1 : Nat) : Int) := by unfold wrap64; omega
  rw [lex_quoted_g.l1, if_neg (by omega), w1, if_pos (by omega), if_pos (by rw [size_list]; omega)]
  have hr : strings_ReplaceAll_g.f ((⟨l.toArray⟩ : ByteArray).extract 1 ((i - 1 : Nat) : Int).toNat) ⟨#[34, 34]⟩ ⟨#[34]⟩ = some ⟨(undblL ((l.drop 1).take (i - 2))).toArray⟩ := by
   rw [Int.toNat_natCast, ext_list, show i - 1 - 1 = i - 2 by omega]
   unfold strings_ReplaceAll_g.f
   have hc := Lib.countB_le ⟨#[34, 34]⟩ (by decide) _ (⟨((l.drop 1).take (i - 2)).toArray⟩ : ByteArray) (Nat.le_refl _)
   have e1 : (⟨#[34]⟩ : ByteArray).size = 1 := rfl
   have hz : ((l.drop 1).take (i - 2)).length ≤ 100000 := by rw [List.length_take, List.length_drop]; omega
   rw [size_list] at hc
   rw [if_pos ⟨by rw [size_list]; omega, by decide, by rw [e1, size_list]; omega⟩]
   rfl
  rw [hr]
  have : (l.take i).drop i = [] := List.drop_eq_nil_of_le (by rw [List.length_take]; omega)
  rw [this]; rfl
 | succ d ih =>
  intro i K hd hi hK
  obtain ⟨K, rfl⟩ : ∃ y, K = y + 1 := ⟨K - 1, by omega⟩
  have hil : i < l.length := by omega
  have hcons : (l.take E).drop i = l[i] :: (l.take E).drop (i + 1) := by
   rw [List.drop_eq_getElem_cons (by rw [List.length_take]; omega)]
   simp
  have hb := bt_list l i hil
  rw [lex_quoted_g.l1, if_pos (by omega), if_pos (by omega), if_pos (by rw [size_list]; omega), hb, hcons, badAt]
  by_cases h1 : l[i].toNat < 32
  ·rw [if_pos (by omega), if_pos (.inl h1)]; rfl
  rw [if_neg (by omega)]
  by_cases h3 : 126 < l[i].toNat
  ·rw [if_pos (by omega), if_pos (.inr h3)]; rfl
  rw [if_neg (by omega), if_neg (by omega), wr1 (by omega) (by omega), show ((i : Int) + 1) = ((i + 1 : Nat) : Int) by omega, ih (i + 1) K (by omega) (by omega) (by omega)]
  cases badAt ((l.take E).drop (i + 1)) with
  | none => rfl
  | some b => simp only [Option.map_some]; rw [show i + 1 + b = i + (b + 1) by omega]
theorem quot_l0 (l : List UInt8) (hl : l.length ≤ 100000) : ∀ (d j K : Nat), l.length - j = d → 1 ≤ j → j ≤ l.length → d + l.length + 5 ≤ K →
 lex_quoted_g.l0 K ⟨l.toArray⟩ (j : Int) = some (match qend (l.drop j) with
  | none => (⟨#[]⟩, 0, 41)
  | some e => match badAt (l.take (j + e + 1)) with
   | some i => (⟨#[]⟩, (i : Int), 40)
   | none => (⟨(undblL ((l.drop 1).take (j + e - 1))).toArray⟩, ((j + e + 1 : Nat) : Int), 0)) := by
 intro d
 induction d using Nat.strongRecOn with
 | _ d ih =>
  intro j K hd h1 hj hK
  obtain ⟨K, rfl⟩ : ∃ y, K = y + 1 := ⟨K - 1, by omega⟩
  have hx : strings_IndexByte.f ((⟨l.toArray⟩ : ByteArray).extract (j : Int).toNat (⟨l.toArray⟩ : ByteArray).size) 34 = some (Lib.indexByte (l.drop j) 34) := by
   rw [Int.toNat_natCast, ext_drop]; rfl
  rw [lex_quoted_g.l0, if_pos (by omega), if_pos (by rw [size_list]; omega), hx]
  simp only [Option.bind_some]
  have hge := Lib.indexByte_ge (l.drop j) 34
  by_cases hn : Lib.indexByte (l.drop j) 34 < 0
  ·rw [if_pos hn, ixb_none _ (by omega)]
  ·obtain ⟨k, hk⟩ : ∃ k : Nat, Lib.indexByte (l.drop j) 34 = (k : Int) := ⟨(Lib.indexByte (l.drop j) 34).toNat, by omega⟩
   obtain ⟨hkl, hq⟩ := ixb_some _ k hk
   rw [List.length_drop] at hkl
   have w0 : wrap64 ((j : Int) + wrap64 ((k : Int) + 1)) = ((j + k + 1 : Nat) : Int) := by
    rw [wr1 (by omega) (by omega)]; unfold wrap64; omega
   rw [if_neg hn, hk, w0, size_list, hq, List.drop_drop]
   have hj1 : ∀ K', l.length + 3 ≤ K' → lex_quoted_g.j1 K' ⟨l.toArray⟩ ((j + k + 1 : Nat) : Int) = some (match badAt (l.take (j + k + 1)) with | some i => (⟨#[]⟩, (i : Int), 40) | none => (⟨(undblL ((l.drop 1).take (j + k - 1))).toArray⟩, ((j + k + 1 : Nat) : Int), 0)) := by
    intro K' hK'
    obtain ⟨K', rfl⟩ : ∃ y, K' = y + 1 := ⟨K' - 1, by omega⟩
    have := quot_l1 l hl (j + k + 1) (by omega) (by omega) (j + k + 1) 0 K' (by omega) (by omega) (by omega)
    rw [List.drop_zero, show j + k + 1 - 2 = j + k - 1 by omega] at this
    simp only [Nat.zero_add] at this
    rw [lex_quoted_g.j1]
    exact this
   by_cases he : (((j + k + 1 : Nat) : Int)) = (l.length : Int)
   ·rw [if_pos he, hj1 K (by omega), show j + (k + 1) = j + k + 1 by omega, List.drop_eq_nil_of_le (show l.length ≤ j + k + 1 by omega)]
   ·rw [if_neg he, if_pos (by omega), if_pos (by omega)]
    have hil : j + k + 1 < l.length := by omega
    have hb := bt_list l (j + k + 1) hil
    rw [hb, show j + (k + 1) = j + k + 1 by omega, List.drop_eq_getElem_cons hil]
    simp only
    by_cases h34 : l[j + k + 1] = 34
    ·have h34' : ((l[j + k + 1].toNat : Nat) : Int) = 34 := by rw [h34]; rfl
     rw [if_pos h34', if_pos h34, wr1 (by omega) (by omega), show (((j + k + 1 : Nat) : Int) + 1) = ((j + k + 2 : Nat) : Int) by omega, ih (l.length - (j + k + 2)) (by omega) (j + k + 2) K rfl (by omega) (by omega) (by omega)]
     rw [show j + k + 1 + 1 = j + k + 2 by omega]
     cases qend (l.drop (j + k + 2)) with
     | none => rfl
     | some e =>
      simp only [Option.map_some]
      rw [show j + k + 2 + e + 1 = j + (e + (k + 2)) + 1 by omega, show j + k + 2 + e - 1 = j + (e + (k + 2)) - 1 by omega]
    ·have h34' : ¬ ((l[j + k + 1].toNat : Nat) : Int) = 34 := by
      intro hh
      exact h34 ((byte_eq (n := 34) (by decide)).1 (by omega))
     rw [if_neg h34', if_neg h34, hj1 K (by omega)]
theorem quot_f (r : List UInt8) (hl : r.length < 100000) {K : Nat} (hK : 2 * (r.length + 1) + 10 ≤ K) : lex_quoted_g.f K ⟨(34 :: r).toArray⟩ = some (⟨(quotL (34 :: r)).1.toArray⟩, ((quotL (34 :: r)).2.1 : Int), (quotL (34 :: r)).2.2) := by
 unfold lex_quoted_g.f quotL
 have := quot_l0 (34 :: r) (by simp; omega) r.length 1 K (by simp) (by omega) (by simp) (by simp; omega)
 rw [show (1 : Int) = ((1 : Nat) : Int) from rfl, this]
 cases qend ((34 :: r).drop 1) with
 | none => rfl
 | some e =>
  simp only
  rw [show 1 + e + 1 = e + 2 by omega, show 1 + e - 1 = e by omega]
  cases badAt ((34 :: r).take (e + 2)) with
  | none => rfl
  | some i => rfl
end Go.Proofs.YtejbbceidnaloaaGreatDoor.P
