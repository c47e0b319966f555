import Derived.Test.YtejbbceidnaloaaGreatDoorB29
import Derived.Lib.ItoaNum
import Derived.Lib.SplitLaws
import Derived.Lib.Replace
set_option linter.unusedVariables false
set_option linter.unusedSimpArgs false
set_option maxRecDepth 100000
set_option maxHeartbeats 8000000
namespace Go.Proofs.YtejbbceidnaloaaGreatDoor.P
open Go.RowKit AW AL AM
section
set_option maxHeartbeats 2000000
structure NodeW (n : S50) : Prop where
 op : n.f0 = 5 → Nd4 n.f2 = Nbu n.f2
 nm : n.f3.size ≤ 100000
 ar : n.f4 ≤ 100000
 kd : n.f0 ≠ 1 → n.f0 ≠ 2 → n.f0 ≠ 3 → n.f0 ≠ 6 → n.f0 ≠ 5 → n.f0 = 4
theorem prints_all {w0 : World} {A : Option Addr} {c : Nat} {l : List S50} {L : Lf} (hC : Kd.C k50 w0 A l.length l) (hl : l.length ≤ 100000) (lf : ∀ n ∈ l, LeafW w0 (.slice A l.length c) L n) (nw : ∀ n ∈ l, NodeW n) : ∀ k, Prints w0 (.slice A l.length c) L l k := by
 intro k
 induction k using Nat.strongRecOn with
 | _ k ih =>
  cases k with
  | zero => intro least w g bs a T q hp ht hlen; rw [tkF] at ht; cases ht
  | succ k =>
   intro least w g bs a T q hp ht hlen
   have hal : a < l.length := by
    refine Nat.lt_of_not_le fun h => ?_
    rw [List.drop_eq_nil_of_le h, tkF] at ht
    cases ht
   have hx := List.drop_eq_getElem_cons hal
   obtain ⟨ad, cs, rfl, hcl, hK, hcell⟩ := Kd.C_get (Kd.C_below hC hp.bel) z50 (a : Int) (by omega) (by omega)
   rw [show l.getD ((a : Int)).toNat z50 = l[a] by simp [List.getD, hal]] at hK
   have hm : l[a] ∈ l := List.getElem_mem hal
   have h1 := lf _ hm
   have h2 := nw _ hm
   obtain rfl := New hK
   rw [hx] at ht
   generalize l[a] = x at *
   obtain ⟨k0, ⟨vk, ⟨vn, vd⟩, vt, vb, ve⟩, op, nm, ar, ⟨s5, r5, c5, p5, q5⟩, ⟨s6, r6, c6, p6, q6⟩⟩ := x
   exact node_one hp hal hl (ih k (Nat.lt_succ_self k)) (call_one (fun j hj => ih j (by omega)) hl) h1 h2.op h2.nm h2.ar h2.kd (fun j v hv => by rw [add_add]; exact hcell j v hv) ht hlen
theorem print_err {k : Nat} {A : Option Addr} {c : Nat} {l : List S50} {w : World} (hC : Kd.C k50 w A l.length l) (hc : l.length ≤ c) {e : Int} (hcc : Na2.f k l = some e) (he : e ≠ 0) :
 Calls Tryz.prog 26 #[.slice A l.length c] w fun en w' => en = .returned (.tuple #[.string ⟨#[]⟩, .int .i64 e]) ∧ Below w.heap.size w w' := by
 have HC := lh (Na2.calls k A c l e w hC hc hcc)
 have b2 : (e != 0) = true := bne_iff_ne.mpr he
 clear hC hcc hc he
 go_enter Tryz.func26, Tryz.ntmps26
 go_wp2_with (go_at_call 28; (with_reducible refine (HC.out).mono ?_); rintro en w1 ⟨rfl, hb⟩; have HB := lh hb; clear hb)
 go_ret2
 exact ⟨rfl, HB.out⟩
theorem print_ok {k k2 : Nat} {A : Option Addr} {c : Nat} {l : List S50} {w : World} (hG : GL w) (hC : Kd.C k50 w A l.length l) (hc : l.length ≤ c) (hl : l.length ≤ 100000) (hcc : Na2.f k l = some 0) {L : Lf} {T : List Tk}
 (lf : ∀ w0, GL w0 → ∀ n ∈ l, LeafW w0 (.slice A l.length c) L n) (nw : ∀ n ∈ l, NodeW n) (ht : tkF L k2 1 l = some (T, [])) (hlen : (txt T).length ≤ 1000000000) (hne : txt T ≠ []) :
 Calls Tryz.prog 26 #[.slice A l.length c] w fun en w' => en = .returned (.tuple #[.string ⟨(txt T).toArray⟩, .int .i64 0]) ∧ Below w.heap.size w w' := by
 have HC := lh (Na2.calls k A c l 0 w hC hc hcc)
 have HK := lh hC
 have HG := lh hG
 have HLF := lh lf
 have HNW := lh nw
 have HT := lh ht
 have HLEN := lh hlen
 have HL := lh hl
 have HNE := lh hne
 clear hC hcc hc hG lf nw ht hlen hl hne
 go_enter Tryz.func26, Tryz.ntmps26
 go_upto_region 5 with (first
  | (go_at_call 28; (with_reducible refine (HC.out).mono ?_); rintro en w1 ⟨rfl, hb⟩; have HB := lh hb; clear hb)
  | ((with_reducible refine gD 13 rfl ?_); refine bX 13 #[.pointer none, .slice none 0 0, .slice A l.length c, .int .i64 0] 87 ?_; intro g hg_ w2 hb_ hl_; have ZG := lh (show w1.heap.size ≤ g from hg_ ▸ Nat.le_refl _); have HB2 := lh hl_; have J := lh hb_; clear hb_ hl_ hg_))
 have HPR := lh (show Pr w1 (.slice A l.length c) w2 g [] ((0 : Nat) : Int) from ⟨⟨ZG.out, .pointer none, .slice none 0 0, .inl rfl, J.out, own_nil _ _ _ _, by simp [Value.ownBlock]⟩, HB2.out⟩)
 have HN := lh (prints_all (Kd.C_below HK.out HB.out) HL.out (HLF.out w1 (HG.out.below HB.out)) HNW.out k2 1 w2 g [] 0 T [] HPR.out (by rw [List.drop_zero]; exact HT.out) (by rw [List.nil_append]; exact HLEN.out))
 go_upto_region 6 with (go_at_call 50; (with_reducible refine (HN.out).mono ?_); rintro en w3 ⟨rfl, hw⟩; have HW := lh hw; clear hw)
 have HS := lh (string_some (l := txt T) (by have h := HW.out.pr; rw [List.nil_append] at h; exact h) HNE.out)
 have HBB := lh (Nac HB.out (HB2.out.trans (HW.out.bel.mono (by omega))))
 go_wp2_with (go_at_call 51; (with_reducible refine (HS.out).mono ?_); rintro en w4 ⟨rfl, hb⟩; have HB4 := lh hb; clear hb)
 go_ret2
 refine ⟨rfl, ?_⟩
 exact HBB.out.trans (HB4.out.mono (by have := HB.out.size; omega))
end
def decB (n : Int) : ByteArray := ⟨(Lib.decDigits n.toNat).toArray⟩
theorem itoa_dig {n : Int} (h : 0 ≤ n) : (⟨(Lib.itoa n).toArray⟩ : ByteArray) = decB n := by
 unfold Lib.itoa decB; rw [if_neg (by omega)]
def isDig (c : UInt8) : Prop := 48 ≤ c.toNat ∧ c.toNat ≤ 57
def Nb1 (a : Nat) (l : List UInt8) : Nat := l.foldl (fun a c => a * 10 + (c.toNat - 48)) a
theorem Nds (a : Nat) : Nb1 a [] = a := by unfold Nb1; exact List.foldl_nil
theorem Ncz (a : Nat) (c : UInt8) (l : List UInt8) : Nb1 a (c :: l) = Nb1 (a * 10 + (c.toNat - 48)) l := by unfold Nb1; exact List.foldl_cons ..
theorem decVal_ge : ∀ (l : List UInt8) (a : Nat), a ≤ Nb1 a l := by
 intro l
 induction l with
 | nil => intro a; rw [Nds]; exact Nat.le_refl _
 | cons c l ih =>
  intro a
  rw [Ncz]
  have := ih (a * 10 + (c.toNat - 48))
  omega
theorem decVal_snoc (d : UInt8) : ∀ (l : List UInt8) (a : Nat), Nb1 a (l ++ [d]) = Nb1 a l * 10 + (d.toNat - 48) := by
 intro l
 induction l with
 | nil => intro a; rw [List.nil_append, Ncz, Nds, Nds]
 | cons c l ih => intro a; rw [List.cons_append, Ncz, Ncz]; exact ih _
theorem decVal_lt : ∀ (l : List UInt8) (a : Nat), (∀ c ∈ l, isDig c) → Nb1 a l < (a + 1) * 10 ^ l.length := by
 intro l
 induction l with
 | nil => intro a _; rw [Nds, List.length_nil]; omega
 | cons c l ih =>
  intro a h
  rw [Ncz, List.length_cons]
  have hc := h c (List.mem_cons_self ..)
  refine Nat.lt_of_lt_of_le (ih (a * 10 + (c.toNat - 48)) (fun d hd => h d (List.mem_cons_of_mem _ hd))) ?_
  rw [Nat.pow_succ, Nat.mul_comm (10 ^ l.length) 10, ← Nat.mul_assoc]
  refine Nat.mul_le_mul_right _ ?_
  unfold isDig at hc
  omega
def canon (l : List UInt8) : Prop := (∀ c ∈ l, isDig c) ∧ ∃ c r, l = c :: r ∧ c.toNat ≠ 48
theorem dig_toNat {i : Nat} (h : i < 10) : (UInt8.ofNat (48 + i)).toNat = 48 + i := by
 rw [UInt8.toNat_ofNat']; omega
theorem dec_canon : ∀ (u : Nat), (∀ c ∈ Lib.decDigits u, isDig c) ∧ Nb1 0 (Lib.decDigits u) = u ∧ (0 < u → canon (Lib.decDigits u)) := by
 intro u
 induction u using Nat.strongRecOn with
 | _ u ih =>
  unfold Lib.decDigits
  split
  ·rename_i h
   have e := dig_toNat h
   have d : ∀ c ∈ [UInt8.ofNat (48 + u)], isDig c := by
    intro c hc
    rw [List.mem_singleton] at hc
    subst hc
    unfold isDig
    omega
   refine ⟨d, ?_, fun hu => ⟨d, _, _, rfl, by omega⟩⟩
   rw [Ncz, Nds]
   omega
  ·rename_i h
   obtain ⟨d, v, c⟩ := ih (u / 10) (by omega)
   have e := dig_toNat (i := u % 10) (by omega)
   have d' : ∀ c ∈ Lib.decDigits (u / 10) ++ [UInt8.ofNat (48 + u % 10)], isDig c := by
    intro x hx
    rcases List.mem_append.mp hx with hx | hx
    ·exact d x hx
    ·rw [List.mem_singleton] at hx
     subst hx
     unfold isDig
     omega
   refine ⟨d', ?_, fun hu => ⟨d', ?_⟩⟩
   ·rw [decVal_snoc, v, e]; omega
   ·obtain ⟨_, x, r, hx, hn⟩ := c (by omega)
    exact ⟨x, r ++ [UInt8.ofNat (48 + u % 10)], by rw [hx]; rfl, hn⟩
theorem bt0 (a : UInt8) (l : List UInt8) : bt ⟨(a :: l).toArray⟩ 0 = (a.toNat : Int) := by
 unfold bt
 rw [dif_pos (show (0 : Int).toNat < (⟨(a :: l).toArray⟩ : ByteArray).size by show 0 < (a :: l).toArray.size; simp)]
 rfl
theorem drop_list (l : List UInt8) (n : Nat) : ((⟨l.toArray⟩ : ByteArray).extract n (⟨l.toArray⟩ : ByteArray).size).data.toList = l.drop n := by
 have e : (⟨l.toArray⟩ : ByteArray).size = l.length := by show l.toArray.size = _; simp
 rw [e, ByteArray.data_extract, Array.toList_extract, List.extract_eq_take_drop]
 simp only
 rw [List.take_of_length_le (by simp)]
theorem Nal (l : List UInt8) : (⟨l.toArray⟩ : ByteArray).size = l.length := by show l.toArray.size = _; simp
def colL (n : Int) : List UInt8 := if n < 26 then [UInt8.ofNat (65 + n).toNat] else [UInt8.ofNat (65 + n / 26 - 1).toNat, UInt8.ofNat (65 + n % 26).toNat]
theorem colB_list (n : Int) (h0 : 0 ≤ n) (h1 : n < 256) : colB n = ⟨(colL n).toArray⟩ := by
 unfold colB colL
 rw [if_neg (by omega), if_neg (by omega)]
 split <;> rfl
theorem nat8 {n : Nat} (h : n < 256) : (UInt8.ofNat n).toNat = n := by rw [UInt8.toNat_ofNat']; omega
theorem list_text (s : ByteArray) : s = ⟨s.data.toList.toArray⟩ := by cases s; rfl
theorem Nei (l m : List UInt8) : (⟨l.toArray⟩ : ByteArray) ++ ⟨m.toArray⟩ = ⟨(l ++ m).toArray⟩ := by
 apply ByteArray.ext
 rw [ByteArray.data_append]
 simp
theorem ix_cons_eq (c : UInt8) (l : List UInt8) : Lib.index (c :: l) [c] = 0 := by
 rw [Lib.index, if_pos (by simp [List.isPrefixOf])]
theorem ix_cons_ne {b c : UInt8} (l : List UInt8) (h : b ≠ c) : Lib.index (b :: l) [c] = if Lib.index l [c] == -1 then -1 else Lib.index l [c] + 1 := by
 rw [Lib.index, if_neg (by simp [List.isPrefixOf, Ne.symm h])]
theorem Neo (c : UInt8) (new : List UInt8) : ∀ (s : List UInt8) (k : Nat), Lib.count s [c] ≤ k → Lib.replaceK [c] new k s = s.flatMap fun b => if b = c then new else [b]
 | [], k, _ => by
  cases k with
  | zero => rfl
  | succ k => rfl
 | b :: l, k, h => by
  by_cases hb : b = c
  ·subst hb
   rw [Lib.count_cons_eq] at h
   obtain ⟨k, rfl⟩ : ∃ k', k = k' + 1 := ⟨k - 1, by omega⟩
   rw [Lib.replaceK_hit _ _ _ _ 0 (ix_cons_eq _ _)]
   have ih := Neo b new l k (by omega)
   simp only [List.take_zero, List.nil_append, List.length_cons, List.length_nil, Nat.zero_add, List.drop_succ_cons, List.drop_zero, List.flatMap_cons, if_true]
   rw [ih]
  ·rw [Lib.count_cons_ne _ _ _ hb] at h
   have ih := Neo c new l k h
   simp only [List.flatMap_cons, if_neg hb, List.singleton_append]
   rw [← ih]
   cases k with
   | zero => rfl
   | succ k =>
    rcases Lib.index_spec l [c] with ⟨h1, _⟩ | ⟨i, h1, _⟩
    ·rw [Lib.replaceK, Lib.replaceK, ix_cons_ne l hb, h1]; rfl
    ·have h2 : Lib.index (b :: l) [c] = ((i + 1 : Nat) : Int) := by
      rw [ix_cons_ne l hb, h1, if_neg (by rw [beq_iff_eq]; omega)]; rfl
     rw [Lib.replaceK_hit _ _ _ _ _ h1, Lib.replaceK_hit _ _ _ _ _ h2]
     simp only [List.take_succ_cons, List.length_cons, List.length_nil, Nat.zero_add, List.cons_append]
     rw [show i + 1 + 1 = (i + 1) + 1 from rfl, List.drop_succ_cons]
def dblL (l : List UInt8) : List UInt8 := l.flatMap fun b => if b = 34 then [34, 34] else [b]
theorem Ne0 (l : List UInt8) : Lib.replaceAll l [34] [34, 34] = dblL l := by
 unfold Lib.replaceAll Lib.replace
 rw [if_neg (by decide), show Lib.replaceNum l [34] (-1) = Lib.count l [34] by unfold Lib.replaceNum; rw [if_pos (by omega)]]
 exact Neo 34 [34, 34] l _ (Nat.le_refl _)
theorem dblL_len : ∀ l : List UInt8, (dblL l).length ≤ 2 * l.length
 | [] => Nat.le_refl _
 | b :: l => by
  have ih := dblL_len l
  unfold dblL at ih ⊢
  rw [List.flatMap_cons, List.length_append, List.length_cons]
  split <;> simp only [List.length_cons, List.length_nil] <;> omega
theorem dec_le : ∀ (n u : Nat), u < 10 ^ (n + 1) → (Lib.decDigits u).length ≤ n + 1
 | 0, u, h => by
  rw [Lib.decDigits, dif_pos (by simpa using h)]; simp
 | n + 1, u, h => by
  rw [Lib.decDigits]
  split
  ·simp
  ·have ih := dec_le n (u / 10) (by rw [Nat.div_lt_iff_lt_mul (by decide)]; rw [Nat.pow_succ] at h; exact h)
   rw [List.length_append, List.length_singleton]; omega
theorem colL_up {c : Int} (h0 : 0 ≤ c) (h1 : c < 256) : ∀ b ∈ colL c, 65 ≤ b.toNat ∧ b.toNat ≤ 90 := by
 intro b hb
 unfold colL at hb
 split at hb
 ·rw [List.mem_singleton] at hb
  rw [hb, nat8 (by omega)]; omega
 ·rcases List.mem_cons.1 hb with rfl | hb
  ·rw [nat8 (by omega)]; omega
  ·rw [List.mem_singleton] at hb
   rw [hb, nat8 (by omega)]; omega
theorem colL_len (c : Int) : 1 ≤ (colL c).length ∧ (colL c).length ≤ 2 := by unfold colL; split <;> simp
theorem nines {b : UInt8} : ([49, 50, 51, 52, 53, 54, 55, 56, 57] : List UInt8).contains b = true ↔ 49 ≤ b.toNat ∧ b.toNat ≤ 57 := by
 constructor
 ·intro h
  have hm := List.contains_iff_mem.1 h
  simp only [List.mem_cons, List.not_mem_nil, or_false] at hm
  rcases hm with rfl | rfl | rfl | rfl | rfl | rfl | rfl | rfl | rfl <;> decide
 ·intro h
  have hb : b = UInt8.ofNat b.toNat := by rw [UInt8.ofNat_toNat]
  rw [hb]
  obtain ⟨h1, h2⟩ := h
  generalize b.toNat = n at *
  have : n = 49 ∨ n = 50 ∨ n = 51 ∨ n = 52 ∨ n = 53 ∨ n = 54 ∨ n = 55 ∨ n = 56 ∨ n = 57 := by omega
  rcases this with rfl | rfl | rfl | rfl | rfl | rfl | rfl | rfl | rfl <;> decide
theorem ixany_skip (chars : List UInt8) : ∀ (l m : List UInt8), (∀ b ∈ l, chars.contains b = false) → Lib.indexAny m chars = 0 → Lib.indexAny (l ++ m) chars = (l.length : Int)
 | [], m, _, h => by simpa using h
 | b :: l, m, hl, h => by
  have ih := ixany_skip chars l m (fun x hx => hl x (List.mem_cons_of_mem _ hx)) h
  rw [List.cons_append, Lib.indexAny, if_neg (by rw [hl b (List.mem_cons_self ..)]; decide), ih, if_neg (by rw [beq_iff_eq]; omega), List.length_cons]
  rfl
def nameL (r c : Int) : List UInt8 := colL c ++ Lib.decDigits (r + 1).toNat
theorem name_index {r c : Int} (h0 : 0 ≤ r) (h1 : r < 65536) (h2 : 0 ≤ c) (h3 : c < 256) : Lib.indexAny (nameL r c) [49, 50, 51, 52, 53, 54, 55, 56, 57] = ((colL c).length : Int) := by
 refine ixany_skip _ _ _ (fun b hb => ?_) ?_
 ·have := colL_up h2 h3 b hb
  rw [Bool.eq_false_iff]
  intro h
  have := nines.1 h
  omega
 ·obtain ⟨d, _, cn⟩ := dec_canon (r + 1).toNat
  obtain ⟨_, x, l, hx, hn⟩ := cn (by omega)
  have hd := d x (by rw [hx]; exact List.mem_cons_self ..)
  unfold isDig at hd
  rw [hx, Lib.indexAny, if_pos (nines.2 (by omega))]
theorem name_ascii {r c : Int} (h0 : 0 ≤ r) (h1 : r < 65536) (h2 : 0 ≤ c) (h3 : c < 256) : ∀ b ∈ nameL r c, b.toNat < 128 := by
 intro b hb
 rcases List.mem_append.1 hb with hb | hb
 ·have := colL_up h2 h3 b hb; omega
 ·have := (dec_canon (r + 1).toNat).1 b hb
  unfold isDig at this
  omega
theorem name_len {r c : Int} (h0 : 0 ≤ r) (h1 : r < 65536) : (nameL r c).length ≤ 8 := by
 have := dec_le 4 (r + 1).toNat (by omega)
 have := colL_len c
 unfold nameL
 rw [List.length_append]; omega
theorem name_f {r c : Int} (h0 : 0 ≤ r) (h1 : r < 65536) (h2 : 0 ≤ c) (h3 : c < 256) : Na5.f 0 r c = some ⟨(nameL r c).toArray⟩ := by
 have hw : wrap64 (r + 1) = r + 1 := by unfold wrap64; omega
 have hi : Nau.f (r + 1) = some (decB (r + 1)) := by
  unfold Nau.f
  rw [if_pos (by omega), itoa_dig (by omega)]
 unfold Na5.f
 rw [Nef, hw, decide_eq_true ⟨h0, h1, h2, h3⟩]
 simp only [Option.bind_some, if_true, Neq.f, hi]
 have hc := colL_len c
 have hd := dec_le 4 (r + 1).toNat (by omega)
 rw [colB_list c h2 h3]
 unfold decB
 rw [if_pos (by rw [Nal, Nal]; omega), Nei]
 rfl
def numL (n d : Int) : List UInt8 :=
 Lib.decDigits (n / d).toNat ++ (if d = 1 then [] else 46 :: Lib.trimRightB ((Lib.decDigits (1000000 + n % d * (1000000 / d)).toNat).drop 1) 48)
theorem trimR_len (l : List UInt8) (c : UInt8) : (Lib.trimRightB l c).length ≤ l.length := by
 unfold Lib.trimRightB
 rw [List.length_reverse]
 have := (List.dropWhile_sublist (l := l.reverse) (fun x => x == c)).length_le
 rw [List.length_reverse] at this
 exact this
theorem num_len {n d : Int} (h0 : 0 ≤ n) (h1 : n ≤ 1000000000000) (h2 : 1 ≤ d) (h3 : d ≤ 1000000) : (numL n d).length ≤ 30 := by
 have hq : 0 ≤ n / d ∧ n / d ≤ n := ⟨Int.ediv_nonneg h0 (by omega), Int.ediv_le_self _ h0⟩
 have e1 := dec_le 12 (n / d).toNat (by omega)
 have hr : 0 ≤ n % d ∧ n % d < d := ⟨Int.emod_nonneg _ (by omega), Int.emod_lt_of_pos _ (by omega)⟩
 have hm : n % d * (1000000 / d) ≤ 1000000 := by
  have a1 : n % d * (1000000 / d) ≤ d * (1000000 / d) := Int.mul_le_mul_of_nonneg_right (by omega) (Int.ediv_nonneg (by omega) (by omega))
  have a2 : d * (1000000 / d) ≤ 1000000 := Int.mul_ediv_self_le (by omega)
  omega
 have hm0 : 0 ≤ n % d * (1000000 / d) := Int.mul_nonneg hr.1 (Int.ediv_nonneg (by omega) (by omega))
 have e2 := dec_le 7 (1000000 + n % d * (1000000 / d)).toNat (by omega)
 unfold numL
 rw [List.length_append]
 split
 ·simp only [List.length_nil]; omega
 ·have := trimR_len ((Lib.decDigits (1000000 + n % d * (1000000 / d)).toNat).drop 1) 48
  rw [List.length_drop] at this
  rw [List.length_cons]; omega
theorem itoa_f {n : Int} (h0 : 0 ≤ n) (h1 : n ≤ 9223372036854775807) : Nau.f n = some ⟨(Lib.decDigits n.toNat).toArray⟩ := by
 unfold Nau.f
 rw [if_pos (by omega), itoa_dig h0]; rfl
theorem trim_f {l : List UInt8} (h : l.length ≤ 1000000) : Nbt.f ⟨l.toArray⟩ ⟨#[48]⟩ = some ⟨(Lib.trimRightB l 48).toArray⟩ := by
 unfold Nbt.f
 rw [if_pos ⟨rfl, by decide, by rw [Nal]; omega⟩]; rfl
theorem dec_pos (u : Nat) : 1 ≤ (Lib.decDigits u).length := by
 rw [Lib.decDigits]; split <;> simp
theorem tail_list (l : List UInt8) : (⟨l.toArray⟩ : ByteArray).extract 1 (⟨l.toArray⟩ : ByteArray).size = ⟨(l.drop 1).toArray⟩ := by
 apply ByteArray.ext
 have := drop_list l 1
 exact Array.toList_inj.1 (by rw [this])
theorem num_text_f {n d : Int} (hR : numB n d = true) (h0 : 0 ≤ n) (hd : (1000000 : Int) % d = 0) {K : Nat} (hK : 1000003 ≤ K) : Naq.f K n d = some ⟨(numL n d).toArray⟩ := by
 have hb := hR
 unfold numB at hb
 obtain ⟨-, h1, h2, h3, -⟩ := of_decide_eq_true hb
 have hq : 0 ≤ n / d ∧ n / d ≤ n := ⟨Int.ediv_nonneg h0 (by omega), Int.ediv_le_self _ h0⟩
 have hr : 0 ≤ n % d ∧ n % d < d := ⟨Int.emod_nonneg _ (by omega), Int.emod_lt_of_pos _ (by omega)⟩
 have hm : n % d * (1000000 / d) ≤ 1000000 := by
  have a1 : n % d * (1000000 / d) ≤ d * (1000000 / d) := Int.mul_le_mul_of_nonneg_right (by omega) (Int.ediv_nonneg (by omega) (by omega))
  have a2 : d * (1000000 / d) ≤ 1000000 := Int.mul_ediv_self_le (by omega)
  omega
 have hm0 : 0 ≤ n % d * (1000000 / d) := Int.mul_nonneg hr.1 (Int.ediv_nonneg (by omega) (by omega))
 have hk : 0 ≤ 1000000 / d ∧ (1000000 / d : Int) ≤ 1000000 := ⟨Int.ediv_nonneg (by omega) (by omega), Int.ediv_le_self _ (by omega)⟩
 have e1 := dec_le 12 (n / d).toNat (by omega)
 have e2 := dec_le 7 (1000000 + n % d * (1000000 / d)).toNat (by omega)
 have e3 := dec_pos (1000000 + n % d * (1000000 / d)).toNat
 obtain ⟨K, rfl⟩ : ∃ K', K = K' + 1 := ⟨K - 1, by omega⟩
 have hs : Nbo.f n = some n := by
  unfold Nbo.f
  rw [if_neg (by omega)]
  congr 1
  simp [IntKind.wrap, IntKind.bits]
  omega
 have w1 : wrap64 n = n := by unfold wrap64; omega
 have w2 : wrap64 (n / d) = n / d := by unfold wrap64; omega
 have w3 : wrap64 (1000000 / d : Int) = 1000000 / d := by unfold wrap64; omega
 have w4 : wrap64 (n % d * (1000000 / d)) = n % d * (1000000 / d) := by unfold wrap64; omega
 have w5 : wrap64 (1000000 + n % d * (1000000 / d)) = 1000000 + n % d * (1000000 / d) := by unfold wrap64; omega
 have t1 : Int.tdiv n d = n / d := Int.tdiv_eq_ediv_of_nonneg h0
 have t2 : Int.tmod n d = n % d := Int.tmod_eq_emod_of_nonneg h0
 unfold Naq.f Neb.f
 rw [Ne5 n d _ (by omega), hR]
 simp only [Option.bind_some, if_true]
 rw [hs]
 simp only [Option.bind_some]
 rw [if_neg (by omega), w1, Naq.j0, if_neg (by omega), if_pos hd, t1, t2, w2, w3, w4, w5, itoa_f hq.1 (by omega)]
 simp only [Option.bind_some]
 have z0 : (⟨#[]⟩ : ByteArray) ++ ⟨(Lib.decDigits (n / d).toNat).toArray⟩ = ⟨(Lib.decDigits (n / d).toNat).toArray⟩ := by
  rw [show (⟨#[]⟩ : ByteArray) = ⟨([] : List UInt8).toArray⟩ from rfl, Nei]; rfl
 have z1 : (⟨#[]⟩ : ByteArray).size = 0 := rfl
 rw [z0, z1, Nal, if_pos (by omega)]
 unfold numL
 by_cases hd1 : d = 1
 ·rw [if_pos hd1, if_pos hd1, List.append_nil]
 ·rw [if_neg hd1, if_neg hd1, itoa_f (by omega) (by omega)]
  simp only [Option.bind_some]
  rw [if_pos (by omega), Nal, if_pos (by omega), ← Nal, tail_list, trim_f (by rw [List.length_drop]; omega)]
  simp only [Option.bind_some]
  have e4 := trimR_len ((Lib.decDigits (1000000 + n % d * (1000000 / d)).toNat).drop 1) 48
  rw [List.length_drop] at e4
  rw [show (⟨#[46]⟩ : ByteArray) = ⟨([46] : List UInt8).toArray⟩ from rfl, Nei, Nal, Nal, if_pos (by simp only [List.length_append, List.length_singleton]; omega), Nei]
  simp
def valTk (v : S46) : Tk :=
 if v.f0 = 2 then (2, v.f2) else if v.f0 = 4 then (4, Nbx.getD (v.f4 - 1).toNat ByteArray.empty) else if v.f0 = 3 then (3, if v.f3 then tTRUE else tFALSE) else (1, ⟨(numL v.f1.f0 v.f1.f1).toArray⟩)
def celL (r : S48) : List UInt8 := (if r.f4 then [36] else []) ++ colL r.f2 ++ (if r.f3 then [36] else []) ++ Lib.decDigits (r.f1 + 1).toNat
def theLf : Lf := ⟨valTk, fun r => ⟨(celL r).toArray⟩⟩
theorem lit_cases {v : S46} (h : litB v = true) :
 (v.f0 = 1 ∧ numB v.f1.f0 v.f1.f1 = true ∧ v.f2 = eB ∧ v.f3 = false ∧ v.f4 = 0 ∧ 0 ≤ v.f1.f0 ∧ (1000000 : Int) % v.f1.f1 = 0) ∨
 (v.f0 = 2 ∧ v.f1.f0 = 0 ∧ v.f1.f1 = 0 ∧ v.f2.size ≤ 256 ∧ plainB v.f2 = true ∧ v.f3 = false ∧ v.f4 = 0) ∨
 (v.f0 = 3 ∧ v.f1.f0 = 0 ∧ v.f1.f1 = 0 ∧ v.f2 = eB ∧ v.f4 = 0) ∨
 (v.f0 = 4 ∧ v.f1.f0 = 0 ∧ v.f1.f1 = 0 ∧ v.f2 = eB ∧ v.f3 = false ∧ 1 ≤ v.f4 ∧ v.f4 ≤ 8) := by
 unfold litB at h
 rw [Bool.and_eq_true, decide_eq_true_eq] at h
 obtain ⟨h, h0, h1⟩ := h
 unfold valB at h
 simp only [Bool.or_eq_true, Bool.and_eq_true, beq_iff_eq, Bool.not_eq_true', decide_eq_true_eq] at h
 rcases h with (((h | h) | h) | h) | h
 ·exact absurd h.1.1.1.1.1 h0
 ·obtain ⟨⟨⟨⟨a, b⟩, c⟩, d⟩, e⟩ := h
  have h1 := h1.resolve_left (fun hh => hh a)
  exact .inl ⟨a, b, eq_eB c, d, e, h1.1, h1.2⟩
 ·obtain ⟨⟨⟨⟨⟨⟨a, b⟩, c⟩, d⟩, e⟩, f⟩, g⟩ := h
  exact .inr (.inl ⟨a, b, c, d, e, f, g⟩)
 ·obtain ⟨⟨⟨⟨a, b⟩, c⟩, d⟩, e⟩ := h
  exact .inr (.inr (.inl ⟨a, b, c, eq_eB d, e⟩))
 ·obtain ⟨⟨⟨⟨⟨a, b⟩, c⟩, d⟩, e⟩, f, g⟩ := h
  exact .inr (.inr (.inr ⟨a, b, c, eq_eB d, e, f, g⟩))
theorem lit_val {v : S46} (h : litB v = true) : valB v.f0 v.f1.f0 v.f1.f1 v.f2 v.f3 v.f4 = true := by
 unfold litB at h
 rw [Bool.and_eq_true] at h
 exact h.1
theorem faults_size (e : Int) (h1 : 1 ≤ e) (h8 : e ≤ 8) : (Nbx.getD (e - 1).toNat ByteArray.empty).size ≤ 8 := by
 have : e = 1 ∨ e = 2 ∨ e = 3 ∨ e = 4 ∨ e = 5 ∨ e = 6 ∨ e = 7 ∨ e = 8 := by omega
 rcases this with rfl | rfl | rfl | rfl | rfl | rfl | rfl | rfl <;> decide
theorem Ne4 (t : Tk) : txt [t] = Nco t := by rw [Nb0, Ndu, List.append_nil]
theorem wrote_eq {B : Nat} {w : World} {g : Nat} {bs T U : List UInt8} {lv : Value} {a : Int} (e : T = U) {en : Ending} {w' : World} (h : en = .returned (.tuple #[]) ∧ Wrote B w g (bs ++ T) lv a w') : en = .returned (.tuple #[]) ∧ Wrote B w g (bs ++ U) lv a w' := e ▸ h
theorem text_f {K : Nat} (hK : 1000003 ≤ K) {n d e : Int} {tx : ByteArray} {b : Bool} (hR : numB n d = true) (h0 : 0 ≤ n) (hd : (1000000 : Int) % d = 0) (hv : valB 1 n d tx b e = true) : Nbv.f K 1 n d tx b e = some (⟨(numL n d).toArray⟩, 0, 0, 0, ⟨#[]⟩, false, 0) := by
 unfold Nbv.f Nbg.f
 rw [Ncu _ _ _ _ _ _ _ (by omega), hv]
 simp only [Option.bind_some, if_true]
 rw [if_neg (by decide), num_text_f hR h0 hd hK]
 rfl
theorem truth_f {K : Nat} (hK : 1000003 ≤ K) {n d e : Int} {tx : ByteArray} {b : Bool} (hv : valB 3 n d tx b e = true) : Nbv.f K 3 n d tx b e = some (if b then tTRUE else tFALSE, 0, 0, 0, ⟨#[]⟩, false, 0) := by
 unfold Nbv.f Nbg.f
 rw [Ncu _ _ _ _ _ _ _ (by omega), hv]
 simp only [Option.bind_some, if_true]
 rw [if_neg (by decide), if_neg (by decide)]
 cases b <;> rfl
theorem leaf_val {w0 : World} (hG : GL w0) {lv : Value} {v : S46} (h : litB v = true) : LeafW w0 lv theLf (nVal v) := by
 refine ⟨fun _ => ?_, fun hh => absurd hh (show ¬ ((1 : Int) = 2 ∨ (1 : Int) = 3) by decide), fun hh => absurd hh (show ¬ (1 : Int) = 3 by decide)⟩
 intro w g bs a hp hlen
 obtain ⟨kd, ⟨n, d⟩, tx, b, e⟩ := v
 have hv := lit_val h
 show Calls Tryz.prog 75 #[.pointer (some ⟨g, 0, none⟩), .agg #[.int .i64 kd, .int .i64 n, .int .i64 d, .string tx, .bool b, .int .i64 e]] w (fun e' w' => e' = .returned (.tuple #[]) ∧ Wrote w0.heap.size w g (bs ++ txt [valTk ⟨kd, ⟨n, d⟩, tx, b, e⟩]) lv a w')
 rw [Ne4]
 rcases lit_cases h with ⟨h0, hN, h2, h3, h4, h5, h6⟩ | ⟨h0, h1, h2, h3, h4, h5, h6⟩ | ⟨h0, h1, h2, h3, h4⟩ | ⟨h0, h1, h2, h3, h4, h5, h6⟩
 ·simp only at h0 hN h2 h3 h4 h5 h6 hv
  subst h0
  have hb := hN
  unfold numB at hb
  obtain ⟨-, b1, b2, b3, -⟩ := of_decide_eq_true hb
  have hsz := num_len h5 b1 b2 b3
  exact Ner hp.pr hp.bel hG (t := ⟨(numL n d).toArray⟩) (by decide) (fun w hw => show_text (kd := 1) (k := 1000003) hw (by rw [Ncu _ _ _ _ _ _ _ (by omega)]; exact congrArg some hv) (by decide) (by decide) (text_f (Nat.le_refl _) hN h5 h6 hv)) (by rw [Nal]; omega) hlen
 ·simp only at h0 h1 h2 h3 h4 h5 h6 hv
  subst h0
  have hr : Nav.f tx ⟨#[34]⟩ ⟨#[34, 34]⟩ = some ⟨(Lib.replaceAll tx.data.toList [34] [34, 34]).toArray⟩ := by
   unfold Nav.f
   have hc := Lib.countB_le ⟨#[34]⟩ (by decide) tx.size tx (Nat.le_refl _)
   have e2 : (⟨#[34, 34]⟩ : ByteArray).size = 2 := rfl
   rw [if_pos ⟨by omega, by decide, by rw [e2]; omega⟩]
  have hl := dblL_len tx.data.toList
  have hz : tx.data.toList.length = tx.size := Array.length_toList
  exact literal_text (kd := 2) (rt := ⟨(Lib.replaceAll tx.data.toList [34] [34, 34]).toArray⟩) hp.pr hp.bel hG hr (by rw [Nal]; have e := congrArg List.length (Ne0 tx.data.toList); omega) hlen
 ·simp only at h0 h1 h2 h3 h4 hv
  subst h0
  refine Ner hp.pr hp.bel hG (t := if b then tTRUE else tFALSE) (by decide) (fun w hw => show_text (kd := 3) (k := 1000003) hw (by rw [Ncu _ _ _ _ _ _ _ (by omega)]; exact congrArg some hv) (by decide) (by decide) (truth_f (Nat.le_refl _) hv)) (by cases b <;> decide) hlen
 ·simp only at h0 h1 h2 h3 h4 h5 h6 hv
  subst h0
  exact Ner hp.pr hp.bel hG (t := Nbx.getD (e - 1).toNat ByteArray.empty) (by decide) (fun w hw => show_fault (kd := 4) (k := 1000003) hw (by rw [Ncu _ _ _ _ _ _ _ (by omega)]; exact congrArg some hv) h5 h6) (by have := faults_size e h5 h6; omega) hlen
theorem Nev {r : S48} (h : refR r = true) : (r.f0 = eB ∨ Nd5 r.f0 = true) ∧ 0 ≤ r.f1 ∧ r.f1 < 65536 ∧ 0 ≤ r.f2 ∧ r.f2 < 256 := by
 unfold refR refB at h
 simp only [Bool.and_eq_true, Bool.or_eq_true, beq_iff_eq, decide_eq_true_eq] at h
 obtain ⟨h1, h2⟩ := h
 refine ⟨?_, h2⟩
 rcases h1 with h1 | h1
 ·exact .inl (eq_eB h1)
 ·exact .inr h1
theorem eB_size {s : ByteArray} : s.size = 0 ↔ s = eB := by
 constructor
 ·intro h; exact eq_eB ((Ndq s).mpr h)
 ·rintro rfl; rfl
theorem cell_text {r : S48} {k : Nat} (hk : k = (colL r.f2).length) : cellW r (nameL r.f1 r.f2) k = txt (refT theLf r) := by
 subst hk
 unfold cellW refT nameL
 rw [List.take_left, List.drop_left]
 have e : theLf.cel r = ⟨(celL r).toArray⟩ := rfl
 by_cases h0 : r.f0 = eB
 ·rw [if_pos (eB_size.2 h0), if_pos h0, Ne4, e, tk3]
  simp [celL]
 ·rw [if_neg (fun h => h0 (eB_size.1 h)), if_neg h0, Nb0, Nb0, Ne4, e, tk3, tk3]
  simp [celL, mk, mB, tk5]
theorem cell_leaf {w0 : World} (hG : GL w0) {lv : Value} {r : S48} (h : refR r = true) (hs : r.f0.size ≤ 1000) {w : World} {g : Nat} {bs : List UInt8} {a : Int} (hp : Pr w0 lv w g bs a) (hlen : bs.length ≤ 1000000000) :
 Calls Tryz.prog 76 #[.pointer (some ⟨g, 0, none⟩), v48 r] w fun e w' => e = .returned (.tuple #[]) ∧ Wrote w0.heap.size w g (bs ++ txt (refT theLf r)) lv a w' := by
 obtain ⟨-, h1, h2, h3, h4⟩ := Nev h
 have hn := name_f h1 h2 h3 h4
 have hl := name_len (c := r.f2) h1 h2
 have hk := name_index h1 h2 h3 h4
 have := cell_any hp.pr hp.bel hG r (nm := ⟨(nameL r.f1 r.f2).toArray⟩) (k := (colL r.f2).length) hn hk (by rw [Nal]; unfold nameL; rw [List.length_append]; omega) (by rw [Nal]; omega) (fun j b hj => name_ascii h1 h2 h3 h4 b (List.mem_of_getElem? hj)) hs hlen
 exact this.mono fun e w' hh => wrote_eq (cell_text rfl) hh
theorem sheet_size {s : ByteArray} (h : Nd5 s = true) : s.size ≤ 16 := by
 unfold Nd5 at h
 simp only [Bool.and_eq_true, decide_eq_true_eq] at h
 omega
theorem refR_size {r : S48} (h : refR r = true) : r.f0.size ≤ 1000 := by
 rcases (Nev h).1 with h | h
 ·rw [eB_size.2 h]; omega
 ·have := sheet_size h; omega
theorem good_leaf {w0 : World} (hG : GL w0) {lv : Value} {n : S50} {c : Int} (h : Good n c) : LeafW w0 lv theLf n := by
 cases h with
 | val v hv => exact leaf_val hG hv
 | cell r hr => exact ⟨fun hh => absurd hh (show ¬ (2 : Int) = 1 by decide), fun _ w g bs a hp hlen => cell_leaf hG hr (refR_size hr) hp hlen, fun hh => absurd hh (show ¬ (2 : Int) = 3 by decide)⟩
 | area r s hr hs h0 =>
  refine ⟨fun hh => absurd hh (show ¬ (3 : Int) = 1 by decide), fun _ w g bs a hp hlen => cell_leaf hG hr (refR_size hr) hp hlen, fun _ w g bs a hp hlen => ?_⟩
  have := cell_leaf hG hs (refR_size hs) hp hlen
  unfold refT at this
  rw [if_pos h0] at this
  exact this
 | un o h1 h3 => exact ⟨fun hh => absurd hh (show ¬ (4 : Int) = 1 by decide), fun hh => absurd hh (show ¬ ((4 : Int) = 2 ∨ (4 : Int) = 3) by decide), fun hh => absurd hh (show ¬ (4 : Int) = 3 by decide)⟩
 | bin o ho => exact ⟨fun hh => absurd hh (show ¬ (5 : Int) = 1 by decide), fun hh => absurd hh (show ¬ ((5 : Int) = 2 ∨ (5 : Int) = 3) by decide), fun hh => absurd hh (show ¬ (5 : Int) = 3 by decide)⟩
 | call m c hm h0 h30 => exact ⟨fun hh => absurd hh (show ¬ (6 : Int) = 1 by decide), fun hh => absurd hh (show ¬ ((6 : Int) = 2 ∨ (6 : Int) = 3) by decide), fun hh => absurd hh (show ¬ (6 : Int) = 3 by decide)⟩
theorem fn_size {s : ByteArray} (h : fnB s = true) : s.size ≤ 16 := by
 unfold fnB at h
 simp only [Bool.and_eq_true] at h
 exact sheet_size h.1
theorem good_node {n : S50} {c : Int} (h : Good n c) : NodeW n := by
 cases h with
 | val v hv => exact ⟨fun hh => absurd hh (show ¬ (1 : Int) = 5 by decide), show eB.size ≤ 100000 by decide, show (0 : Int) ≤ 100000 by decide, fun hh => absurd rfl hh⟩
 | cell r hr => exact ⟨fun hh => absurd hh (show ¬ (2 : Int) = 5 by decide), show eB.size ≤ 100000 by decide, show (0 : Int) ≤ 100000 by decide, fun _ hh => absurd rfl hh⟩
 | area r s hr hs h0 => exact ⟨fun hh => absurd hh (show ¬ (3 : Int) = 5 by decide), show eB.size ≤ 100000 by decide, show (0 : Int) ≤ 100000 by decide, fun _ _ hh => absurd rfl hh⟩
 | un o h1 h3 => exact ⟨fun hh => absurd hh (show ¬ (4 : Int) = 5 by decide), show eB.size ≤ 100000 by decide, show (0 : Int) ≤ 100000 by decide, fun _ _ _ _ _ => rfl⟩
 | bin o ho =>
  refine ⟨fun _ => ?_, show eB.size ≤ 100000 by decide, show (0 : Int) ≤ 100000 by decide, fun _ _ _ _ hh => absurd rfl hh⟩
  show Nd4 o = Nbu o
  unfold binO at ho
  unfold Nd4
  rw [if_neg (by omega), if_neg (by omega)]
 | call m c hm h0 h30 => exact ⟨fun hh => absurd hh (show ¬ (6 : Int) = 5 by decide), by have := fn_size hm; show m.size ≤ 100000; omega, by show c ≤ 100000; omega, fun _ _ _ hh => absurd rfl hh⟩
theorem tk_len (t : Tk) (h : t.1 ≠ 2) : (Nco t).length = t.2.size := by unfold Nco; rw [if_neg h]; exact Array.length_toList
theorem print_tree {A : Option Addr} {c : Nat} {l : List S50} {w : World} (hG : GL w) (hC : Kd.C k50 w A l.length l) (hc : l.length ≤ c) {K : Nat} (hcc : Na2.f K l = some 0) {K2 : Nat} {T : List Tk} (ht : tkF theLf K2 1 l = some (T, [])) (hlen : (txt T).length ≤ 1000000000) (hne : txt T ≠ []) :
 Calls Tryz.prog 26 #[.slice A l.length c] w fun en w' => en = .returned (.tuple #[.string ⟨(txt T).toArray⟩, .int .i64 0]) ∧ Below w.heap.size w w' := by
 obtain ⟨d, hd, -, hl⟩ := Ney hcc
 have hg := hd.good
 exact print_ok hG hC hc (by omega) hcc (fun w0 h0 n hn => good_leaf h0 (good_of n (hg n hn))) (fun n hn => good_node (good_of n (hg n hn))) ht hlen hne
end Go.Proofs.YtejbbceidnaloaaGreatDoor.P
