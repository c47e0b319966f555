import Derived.Test.YtejbbceidnaloaaGreatDoorM26
import Derived.Lib.DecodeN
namespace Go.Proofs.YtejbbceidnaloaaGreatDoor.P
open Go.RowKit Go.Proofs.YtejbbceidnaloaaGreatDoorW.PrintWords Go.Proofs.YtejbbceidnaloaaGreatDoorW.PrintLast Go.Proofs.YtejbbceidnaloaaGreatDoorW.PrintMore
set_option linter.unusedVariables false
set_option linter.unusedSimpArgs false
theorem get_list (l : List UInt8) (i : Nat) (h : i < l.length) : (⟨l.toArray⟩ : ByteArray).get! i = l[i] := by
 show l.toArray[i]! = l[i]
 simp [h]
theorem decode1 (l : List UInt8) (i : Nat) (h : i < l.length) (hb : l[i].toNat < 128) : Utf8.decode ⟨l.toArray⟩ i = (l[i].toNat, 1) := by
 rw [Lib.decode_at, get_list l i h, size_list]
 unfold Lib.decodeN
 rw [if_pos hb]
theorem idx_up : ∀ (ups pre rest : List UInt8) (x : UInt8) (f : Nat), (∀ c ∈ ups, 65 ≤ c.toNat ∧ c.toNat ≤ 90) → x.toNat < 65 → ups.length < f →
 Lib.idxFuncFrom notUp true ⟨(pre ++ (ups ++ x :: rest)).toArray⟩ f pre.length = ((pre.length + ups.length : Nat) : Int)
 | [], pre, rest, x, f, _, hx, hf => by
  obtain ⟨f, rfl⟩ : ∃ y, f = y + 1 := ⟨f - 1, by omega⟩
  have hlt : pre.length < (pre ++ ([] ++ x :: rest)).length := by simp
  have hg : (pre ++ ([] ++ x :: rest))[pre.length]'hlt = x := by simp
  rw [Lib.idxFuncFrom, if_pos (by rw [size_list]; exact hlt), decode1 _ _ hlt (by rw [hg]; omega), hg, if_pos (by unfold notUp; rw [decide_eq_true (show ((x.toNat : Nat) : Int) < 65 by omega)]; rfl)]
  simp
 | c :: ups, pre, rest, x, f, hu, hx, hf => by
  obtain ⟨f, rfl⟩ : ∃ y, f = y + 1 := ⟨f - 1, by omega⟩
  have hc := hu c (List.mem_cons_self ..)
  have hlt : pre.length < (pre ++ (c :: ups ++ x :: rest)).length := by simp
  have hg : (pre ++ (c :: ups ++ x :: rest))[pre.length]'hlt = c := by simp
  rw [Lib.idxFuncFrom, if_pos (by rw [size_list]; exact hlt), decode1 _ _ hlt (by rw [hg]; omega), hg, if_neg (by unfold notUp; rw [decide_eq_false (show ¬ ((c.toNat : Nat) : Int) < 65 by omega), decide_eq_false (show ¬ ((c.toNat : Nat) : Int) > 90 by omega)]; decide)]
  have ih := idx_up ups (pre ++ [c]) rest x f (fun y hy => hu y (List.mem_cons_of_mem _ hy)) hx (by simp at hf; omega)
  rw [show pre ++ (c :: ups ++ x :: rest) = pre ++ [c] ++ (ups ++ x :: rest) by simp]
  rw [show pre.length + 1 = (pre ++ [c]).length by simp]
  rw [ih]
  simp only [List.length_append, List.length_cons, List.length_nil]
  omega
theorem cut_dol (l : List UInt8) : cutS ⟨(36 :: l).toArray⟩ = (⟨l.toArray⟩, true) := by
 have h : dolB ⟨(36 :: l).toArray⟩ = true := by
  unfold dolB
  rw [size_list, ext_take, ByteArray.toList_eq, ByteArray.toList_eq]
  simp
  omega
 unfold cutS
 rw [if_pos h, ext_drop]; rfl
theorem cut_not {c : UInt8} (l : List UInt8) (h : c ≠ 36) : cutS ⟨(c :: l).toArray⟩ = (⟨(c :: l).toArray⟩, false) := by
 have h : dolB ⟨(c :: l).toArray⟩ = false := by
  unfold dolB
  rw [size_list, ext_take, ByteArray.toList_eq, ByteArray.toList_eq]
  simp [h]
 unfold cutS
 rw [if_neg (by rw [h]; decide)]
theorem cell_back {r : S48} (h : refR r = true) : cellO ⟨(celL r).toArray⟩ = some ⟨eB, r.f1, r.f2, r.f3, r.f4⟩ := by
 obtain ⟨-, h1, h2, h3, h4⟩ := refR_cases h
 obtain ⟨hd, hv, hc⟩ := dec_canon (r.f1 + 1).toNat
 have hups := colL_up h3 h4
 have hcl := colL_len r.f2
 obtain ⟨x, ds, hx, hx0⟩ := (hc (by omega)).2
 have hdx := hd x (by rw [hx]; exact List.mem_cons_self ..)
 have e1 : cutS ⟨(celL r).toArray⟩ = (⟨(colL r.f2 ++ (if r.f3 then [36] else []) ++ Lib.decDigits (r.f1 + 1).toNat).toArray⟩, r.f4) := by
  unfold celL
  cases r.f4 with
  | true => exact cut_dol _
  | false =>
   cases hcc : colL r.f2 with
   | nil => rw [hcc] at hcl; simp at hcl
   | cons c q =>
    have := hups c (by rw [hcc]; exact List.mem_cons_self ..)
    refine cut_not (c := c) (q ++ (if r.f3 then [36] else []) ++ Lib.decDigits (r.f1 + 1).toNat) ?_
    rintro rfl
    exact absurd this.1 (by decide)
 have hix : ∀ tl : List UInt8, (∃ y z, tl = y :: z ∧ y.toNat < 65) → Lib.idxFunc notUp true ⟨(colL r.f2 ++ tl).toArray⟩ = ((colL r.f2).length : Int) := by
  rintro tl ⟨y, z, rfl, hy⟩
  have := idx_up (colL r.f2) [] z y (⟨(colL r.f2 ++ y :: z).toArray⟩ : ByteArray).size hups hy (by rw [size_list]; simp)
  unfold Lib.idxFunc
  simpa using this
 have hread : readF ⟨(colL r.f2 ++ Lib.decDigits (r.f1 + 1).toNat).toArray⟩ = (r.f1, r.f2, true) := by rw [readF_list, read_name r.f1 r.f2 h1 h2 h3 h4]
 unfold isDig at hdx
 cases h5 : r.f3 with
 | true =>
  have hi := hix (36 :: Lib.decDigits (r.f1 + 1).toNat) ⟨36, _, rfl, by decide⟩
  have e2 : cutS ⟨(celL r).toArray⟩ = (⟨(colL r.f2 ++ (36 :: Lib.decDigits (r.f1 + 1).toNat)).toArray⟩, r.f4) := by rw [e1, h5]; simp
  unfold cellO
  rw [e2]
  simp only [hi]
  rw [if_neg (by omega), Int.toNat_natCast, ext_drop, List.drop_left, cut_dol, ext_take, List.take_left, append_list, hread]
  simp only
  rw [size_list, hx, bt_cons, if_pos ⟨by first | trivial | rfl, by simp, by omega, by omega⟩]
 | false =>
  have hi := hix (Lib.decDigits (r.f1 + 1).toNat) ⟨x, ds, hx, by omega⟩
  have e2 : cutS ⟨(celL r).toArray⟩ = (⟨(colL r.f2 ++ Lib.decDigits (r.f1 + 1).toNat).toArray⟩, r.f4) := by rw [e1, h5]; simp
  unfold cellO
  rw [e2]
  simp only [hi]
  rw [if_neg (by omega), Int.toNat_natCast, ext_drop, List.drop_left, ext_take, List.take_left, hx, cut_not ds (show x ≠ 36 by rintro rfl; revert hdx; decide), ← hx, append_list, hread]
  simp only
  rw [size_list, hx, bt_cons, if_pos ⟨by first | trivial | rfl, by simp, by omega, by omega⟩]
theorem cell_backO {r : S48} (h : refR r = true) : theO.cell (theLf.cel r) = some ⟨eB, r.f1, r.f2, r.f3, r.f4⟩ := by
 have e : theO.cell = cellO := rfl
 have e2 : theLf.cel r = ⟨(celL r).toArray⟩ := rfl
 rw [e, e2]
 exact cell_back h
theorem cel_truth {r : S48} (h : refR r = true) : theLf.cel r ≠ tTRUE ∧ theLf.cel r ≠ tFALSE := by
 obtain ⟨-, h1, h2, h3, h4⟩ := refR_cases h
 obtain ⟨hd, hv, hc⟩ := dec_canon (r.f1 + 1).toNat
 obtain ⟨x, ds, hx, hx0⟩ := (hc (by omega)).2
 have hm : x ∈ celL r := by unfold celL; rw [hx]; simp
 have hdx := hd x (by rw [hx]; exact List.mem_cons_self ..)
 unfold isDig at hdx
 have key : ∀ t : ByteArray, (∀ c ∈ t.data.toList, 65 ≤ c.toNat) → theLf.cel r ≠ t := by
  rintro t ht rfl
  have := ht x (by show x ∈ (⟨(celL r).toArray⟩ : ByteArray).data.toList; rw [list_data]; exact hm)
  omega
 exact ⟨key _ (by decide), key _ (by decide)⟩
theorem fault_ix {e : Int} (h1 : 1 ≤ e) (h8 : e ≤ 8) : ((faultIx (faultsL.getD (e - 1).toNat ByteArray.empty) : Nat) : Int) + 1 = e := by
 have : e = 1 ∨ e = 2 ∨ e = 3 ∨ e = 4 ∨ e = 5 ∨ e = 6 ∨ e = 7 ∨ e = 8 := by omega
 rcases this with rfl | rfl | rfl | rfl | rfl | rfl | rfl | rfl <;> decide
theorem good_ok {n : S50} {c : Int} (h : Good n c) : LeafOk theO theLf n := by
 cases h with
 | val v hv =>
  refine .inl ⟨v, rfl, ?_⟩
  show ((valTk v).1 = 1 ∧ theO.num (valTk v).2 = some v) ∨ ((valTk v).1 = 2 ∧ (valTk v).2.size ≤ 256 ∧ theO.txt (valTk v).2 = v) ∨ ((valTk v).1 = 3 ∧ (((valTk v).2 = tTRUE ∧ v = theO.tru true) ∨ ((valTk v).2 = tFALSE ∧ v = theO.tru false))) ∨ ((valTk v).1 = 4 ∧ theO.flt (valTk v).2 = v)
  rcases lit_cases hv with ⟨h0, hN, h2, h3, h4, h5, h6⟩ | ⟨h0, h1, h2, h3, h4, h5, h6⟩ | ⟨h0, h1, h2, h3, h4⟩ | ⟨h0, h1, h2, h3, h4, h5, h6⟩
  ·left
   obtain ⟨-, N, D, e1, e2, hno⟩ := num_back hN h5 h6
   rw [val_num h0]
   refine ⟨rfl, ?_⟩
   show (numOf (⟨(numL v.f1.f0 v.f1.f1).toArray⟩ : ByteArray).data.toList).map _ = _
   rw [list_data, hno]
   obtain ⟨kd, ⟨n, d⟩, tx, b, e⟩ := v
   simp only at h0 h2 h3 h4 e1 e2
   subst h0 h2 h3 h4 e1 e2
   rfl
  ·right; left
   rw [val_txt h0]
   refine ⟨rfl, h3, ?_⟩
   show (if plainB v.f2 then _ else _) = v
   rw [if_pos h4]
   obtain ⟨kd, ⟨n, d⟩, tx, b, e⟩ := v
   simp only at h0 h1 h2 h5 h6
   subst h0 h1 h2 h5 h6
   rfl
  ·right; right; left
   rw [val_tru h0]
   refine ⟨rfl, ?_⟩
   obtain ⟨kd, ⟨n, d⟩, tx, b, e⟩ := v
   simp only at h0 h1 h2 h3 h4
   subst h0 h1 h2 h3 h4
   cases b with
   | true => exact .inl ⟨rfl, rfl⟩
   | false => exact .inr ⟨rfl, rfl⟩
  ·right; right; right
   rw [val_flt h0]
   refine ⟨rfl, ?_⟩
   show (⟨4, ⟨0, 0⟩, eB, false, (faultIx (faultsL.getD (v.f4 - 1).toNat ByteArray.empty) : Int) + 1⟩ : S46) = v
   rw [fault_ix h5 h6]
   obtain ⟨kd, ⟨n, d⟩, tx, b, e⟩ := v
   simp only at h0 h1 h2 h3 h4
   subst h0 h1 h2 h3 h4
   rfl
 | cell r hr => exact .inr (.inl ⟨r, rfl, (refR_cases hr).1, (cel_truth hr).1, (cel_truth hr).2, cell_backO hr⟩)
 | area r s hr hs h0 =>
  refine .inr (.inr (.inl ⟨r, s, rfl, (refR_cases hr).1, (cel_truth hr).1, (cel_truth hr).2, cell_backO hr, h0, ?_⟩))
  have := cell_backO hs
  rw [sheet_ne h0] at this
  exact this
 | un o h1 h3 => exact .inr (.inr (.inr (.inl ⟨o, rfl, by omega⟩)))
 | bin o ho =>
  refine .inr (.inr (.inr (.inr (.inl ⟨o, rfl, ?_, ?_⟩))))
  ·unfold binO at ho
   have : o = 11 ∨ o = 12 ∨ o = 13 ∨ o = 14 ∨ o = 15 ∨ o = 16 ∨ o = 21 ∨ o = 22 ∨ o = 23 ∨ o = 24 ∨ o = 25 ∨ o = 26 := by omega
   rcases this with rfl | rfl | rfl | rfl | rfl | rfl | rfl | rfl | rfl | rfl | rfl | rfl <;> decide
  ·unfold binO at ho; omega
 | call m c hm h0 h30 => exact .inr (.inr (.inr (.inr (.inr ⟨m, c, rfl, hm, h0, h30⟩))))
theorem parse_print {l : List S50} (h : chk l = 0) (hl : (printL l).1.length ≤ 1024) : parseL (printL l).1 = (l, 0, 0) := by
 obtain ⟨T, hT, h1, h2⟩ := print_tk h
 have hp : printL l = (txt T, 0) := by unfold printL; rw [if_pos h, hT]
 rw [hp] at hl ⊢
 simp only at hl ⊢
 obtain ⟨d, hd, -, hl256⟩ := check_back (l := l) (K := 600) (by rw [chk_f, h])
 have hg := hd.good
 have hsc := scan_print hg hT
 have hHas : Has (toks 0 T) 0 T := has_toks T [] 0
 obtain ⟨p, hpe, hr⟩ := (rt_all theO theLf 600).1 1 l T [] (by decide) (by decide) (fun n hn => good_ok (good_of n (hg n hn))) hT
 rw [List.append_nil] at hpe
 subst hpe
 have hrd := hr (toks 0 T) ((txt T).length : Int) 0 hHas
 rw [Int.zero_add] at hrd
 have hend : markA (toks 0 T) (T.length : Int) = eB := markA_end (ts := toks 0 T) (by rw [toks_len]; exact Int.le_refl _)
 obtain ⟨K, hK⟩ := Rd.bin theO (toks 0 T) ((txt T).length : Int) hrd (by decide) (by decide) (by rw [hend]; exact ⟨by decide, by decide, by decide, fun _ => by decide, fun _ hh => absurd (by decide) hh⟩) (by rw [hend]; exact fun _ hh => absurd (by decide) hh)
 have hw : wholeF theO (toks 0 T) ((txt T).length : Int) K = some (.ok l) := by
  unfold wholeF
  rw [ok_bnd hK]
  simp only
  rw [if_neg (by rw [toks_len]; omega)]; rfl
 have hx : wholeX (toks 0 T) ((txt T).length : Int) = .ok l := by
  have a := wholeF_le theO (toks 0 T) ((txt T).length : Int) (Nat.le_max_left K (16 * (toks 0 T).length + 12)) hw
  have b := wf_up (ts := toks 0 T) (e := ((txt T).length : Int)) (Nat.le_max_right K (16 * (toks 0 T).length + 12))
  rw [a] at b
  exact (Option.some.inj b).symm
 unfold parseL
 rw [if_neg (by omega), hsc]
 simp only
 rw [hx]
 simp only
 rw [if_pos h]
theorem quot_at (c : UInt8) (r : List UInt8) (h : (quotL (c :: r)).2.2 ≠ 0) : (quotL (c :: r)).2.1 ≤ (c :: r).length := by
 unfold quotL at h ⊢
 cases hq : qend ((c :: r).drop 1) with
 | none => simp
 | some e =>
  rw [hq] at h
  simp only at h ⊢
  cases hb : badAt ((c :: r).take (e + 2)) with
  | some i =>
   have := badAt_le _ _ hb
   rw [List.length_take] at this
   simp only; omega
  | none => rw [hb] at h; exact absurd rfl h
theorem next_at (c : UInt8) (r : List UInt8) (h : (nextL (c :: r)).2.2.2 ≠ 0) : (nextL (c :: r)).2.2.1 ≤ (c :: r).length := by
 rw [nextL] at h ⊢
 split
 ·exact num_le _
 rename_i hd
 rw [if_neg hd] at h
 split
 ·rename_i h34
  rw [if_pos h34] at h
  exact quot_at c r h
 ·split
  ·exact runL_le _ _
  ·have hpre : ∀ L, (beginsL (c :: r) L).length ≤ (c :: r).length := by
    intro L
    obtain ⟨q, hq⟩ := begins_pre (c :: r) L
    have := congrArg List.length hq
    rw [List.length_append] at this
    omega
   split
   ·split
    ·simp
    ·exact hpre _
   ·split
    ·exact hpre _
    ·split <;> simp
theorem scan_at : ∀ (n : Nat) (l : List UInt8) (k p : Nat) (c q : Int), l.length ≤ n → scanL k p l = .error (c, q) → (p : Int) ≤ q ∧ q ≤ ((p + l.length : Nat) : Int)
 | n, l, 0, p, c, q, hn, h => by cases h
 | n, [], k + 1, p, c, q, hn, h => by cases h
 | 0, d :: r, k + 1, p, c, q, hn, h => by simp at hn
 | n + 1, d :: r, k + 1, p, c, q, hn, h => by
  simp only [List.length_cons] at hn
  rw [scanL] at h
  split at h
  ·have := scan_at n r k (p + 1) c q (by omega) h
   rw [List.length_cons]; omega
  ·split at h
   ·rename_i h0
    have hl := next_len d r h0
    split at h
    ·cases h
    ·rename_i e he
     cases h
     have := scan_at n _ k _ c q (by rw [List.length_drop, List.length_cons]; omega) he
     rw [List.length_drop] at this
     omega
   ·rename_i h0
    have := next_at d r h0
    cases h
    omega
theorem toks_at : ∀ (n : Nat) (l : List UInt8) (k p : Nat) (ts : List S39), l.length ≤ n → scanL k p l = .ok ts → ∀ t ∈ ts, (p : Int) ≤ t.f2 ∧ t.f2 ≤ ((p + l.length : Nat) : Int)
 | n, l, 0, p, ts, hn, h => by cases h; intro t ht; cases ht
 | n, [], k + 1, p, ts, hn, h => by cases h; intro t ht; cases ht
 | 0, c :: r, k + 1, p, ts, hn, h => by simp at hn
 | n + 1, c :: r, k + 1, p, ts, hn, h => by
  simp only [List.length_cons] at hn
  rw [scanL] at h
  split at h
  ·intro t ht
   have := toks_at n r k (p + 1) ts (by omega) h t ht
   rw [List.length_cons]; omega
  ·split at h
   ·rename_i h0
    have hl := next_len c r h0
    split at h
    ·rename_i us hu
     cases h
     intro t ht
     rcases List.mem_cons.1 ht with rfl | ht
     ·show (p : Int) ≤ (p : Int) ∧ (p : Int) ≤ _
      omega
     ·have := toks_at n _ k _ us (by rw [List.length_drop, List.length_cons]; omega) hu t ht
      rw [List.length_drop] at this
      omega
    ·cases h
   ·cases h
theorem fail_at {ts : List S39} {n : Nat} (h : ∀ t ∈ ts, (0 : Int) ≤ t.f2 ∧ t.f2 ≤ (n : Int)) (i : Int) : 0 ≤ failAt ts (n : Int) i ∧ failAt ts (n : Int) i ≤ n := by
 unfold failAt
 split
 ·rcases tokA_mem (ts := ts) i with e | e
  ·rw [e]
   show (0 : Int) ≤ 0 ∧ (0 : Int) ≤ n
   omega
  ·exact h _ e
 ·omega
theorem parse_cases (l : List UInt8) : ((parseL l).2.1 = 0 ∧ (parseL l).2.2 = 0 ∧ chk (parseL l).1 = 0) ∨ ((parseL l).2.1 ≠ 0 ∧ (parseL l).1 = [] ∧ 0 ≤ (parseL l).2.2 ∧ (parseL l).2.2 ≤ l.length) := by
 unfold parseL
 by_cases hl : 1024 < l.length
 ·rw [if_pos hl]
  exact .inr ⟨by decide, rfl, by show (0 : Int) ≤ 0; omega, by show (0 : Int) ≤ _; omega⟩
 rw [if_neg hl]
 cases hsc : scanL l.length 0 l with
 | error q =>
  obtain ⟨c, p⟩ := q
  have h1 := scan_er _ l _ _ c p (Nat.le_refl _) hsc
  have h2 := scan_at _ l _ _ c p (Nat.le_refl _) hsc
  rw [Nat.zero_add] at h2
  exact .inr ⟨h1, rfl, h2.1, h2.2⟩
 | ok ts =>
  simp only
  have ht := toks_at _ l _ _ ts (Nat.le_refl _) hsc
  rw [Nat.zero_add] at ht
  cases hw : wholeX ts (l.length : Int) with
  | error q =>
   obtain ⟨c, p⟩ := q
   have hf := wholeX_f ts (l.length : Int)
   rw [hw] at hf
   obtain ⟨hc, i, hi⟩ := whole_er theO ts _ _ c p hf
   have hp := fail_at (n := l.length) ht i
   rw [← hi] at hp
   exact .inr ⟨by show c ≠ 0; omega, rfl, hp.1, hp.2⟩
  | ok t =>
   simp only
   by_cases hc : chk t = 0
   ·rw [if_pos hc]
    exact .inl ⟨rfl, rfl, hc⟩
   ·rw [if_neg hc]
    exact .inr ⟨hc, rfl, by show (0 : Int) ≤ 0; omega, by show (0 : Int) ≤ _; omega⟩
section
set_option maxRecDepth 100000
theorem able6_true : ab6.f = some true := by kernel_rfl
theorem cut61_nil : strings_CutPrefix.f ⟨([] : List UInt8).toArray⟩ ⟨#[61]⟩ = some (⟨([] : List UInt8).toArray⟩, false) := by kernel_rfl
theorem cut61_cons (c : UInt8) (r : List UInt8) : strings_CutPrefix.f ⟨(c :: r).toArray⟩ ⟨#[61]⟩ = some (if c = 61 then (⟨r.toArray⟩, true) else (⟨(c :: r).toArray⟩, false)) := by
 unfold strings_CutPrefix.f stringslite_CutPrefix.f stringslite_HasPrefix.f
 have hs : (((⟨(c :: r).toArray⟩ : ByteArray).size : Nat) : Int) = (r.length : Int) + 1 := by simp [ByteArray.size]
 have h1 : (((⟨#[61]⟩ : ByteArray).size : Nat) : Int) = 1 := rfl
 have h2 : (⟨(c :: r).toArray⟩ : ByteArray).extract 0 (1 : Int).toNat = ⟨([c] : List UInt8).toArray⟩ := ext_take (c :: r) 1
 have h3 : (⟨(c :: r).toArray⟩ : ByteArray).extract (1 : Int).toNat (⟨(c :: r).toArray⟩ : ByteArray).size = ⟨r.toArray⟩ := ext_drop (c :: r) 1
 rw [hs, h1, h2, h3, if_pos (by omega), if_pos (by omega), if_pos (by omega)]
 simp only [Option.bind_some]
 by_cases hc : c = 61
 ·subst hc
  rw [if_pos rfl, show (((⟨([61] : List UInt8).toArray⟩ : ByteArray).toList == (⟨#[61]⟩ : ByteArray).toList)) = true from by simp, if_pos rfl, if_pos (by omega), if_pos (by omega)]
  rfl
 ·rw [if_neg hc, show (((⟨([c] : List UInt8).toArray⟩ : ByteArray).toList == (⟨#[61]⟩ : ByteArray).toList)) = false from by rw [beq_eq_false_iff_ne, ByteArray.toList_eq, ByteArray.toList_eq]; intro h; injection h with h; exact hc h, if_neg (by decide)]
  rfl
theorem copy_plain (l : List UInt8) (h : l.head? ≠ some 61) (a b : Int) : move_Copy_g.f ⟨l.toArray⟩ a b = some (⟨l.toArray⟩, 0) := by
 unfold move_Copy_g.f
 cases l with
 | nil => rw [cut61_nil]; rfl
 | cons c r =>
  rw [cut61_cons, if_neg (by intro hc; subst hc; exact h rfl)]
  rfl
theorem mv_zero (r : S48) (h : refR r = true) : mvR 0 0 r = (r, true) := by
 obtain ⟨s, a, b, p, q⟩ := r
 have hr : 0 ≤ a ∧ a < 65536 ∧ 0 ≤ b ∧ b < 256 := by
  unfold refR refB at h
  simp only [Bool.and_eq_true, decide_eq_true_eq] at h
  omega
 have hR : place_Right.f 0 a b = some true := by
  unfold place_Right.f place_sheet.f place_row.f place_column.f
  simp [hr.1, hr.2.1, hr.2.2.1, hr.2.2.2]
 have hw : wrap64 (a + 0) = a ∧ wrap64 (b + 0) = b := by unfold wrap64; omega
 have hS : place_Shift.f 100 0 a b 0 0 = some (0, a, b, true) := by
  unfold place_Shift.f
  rw [hR, Option.bind_some, if_pos rfl, if_neg (by decide), if_neg (by decide), if_neg (by decide), show decide ((0 : Int) > 256) = false from rfl, place_Shift.j0, if_neg (by decide), hw.1, hw.2, hR]
  rfl
 unfold mvR
 simp only [ite_self, hS]
theorem sh_zero (n : S50) (h : 0 ≤ partsS n) : shN 0 0 n = n := by
 have hg := good_of n h
 generalize partsS n = z at hg
 cases hg with
 | cell r hr => unfold shN; rw [if_pos (show (nCell r).f0 = 2 from rfl), show (nCell r).f5 = r from rfl, mv_zero r hr]; rfl
 | area r s hr hs he => unfold shN; rw [if_neg (by show ¬ (3 : Int) = 2; decide), if_pos (show (nArea r s).f0 = 3 from rfl), show (nArea r s).f5 = r from rfl, show (nArea r s).f6 = s from rfl, mv_zero r hr, mv_zero s hs]; rfl
 | _ => rfl
theorem sh_all {l : List S50} (h : chk l = 0) : l.map (shN 0 0) = l := by
 obtain ⟨d, hd, -, -⟩ := check_back (l := l) (K := 600) (by rw [chk_f, h])
 have hg := hd.good
 clear hd h
 induction l with
 | nil => rfl
 | cons x r ih => rw [List.map_cons, sh_zero x (hg x (List.mem_cons_self ..)), ih (fun n hn => hg n (List.mem_cons_of_mem _ hn))]
theorem copy_form (r : List UInt8) : move_Copy_g.f ⟨(61 :: r).toArray⟩ 0 0 = some (if (parseL r).2.1 = 0 then (if 1024 ≤ (printL (parseL r).1).1.length then (⟨#[]⟩, 2) else (⟨(61 :: (printL (parseL r).1).1).toArray⟩, 0)) else (⟨#[]⟩, (parseL r).2.1)) := by
 unfold move_Copy_g.f tree_Parse_g.f
 rw [cut61_cons, if_pos rfl]
 simp only [Option.bind_some, if_true]
 rcases parse_cases r with ⟨h1, h2, h3⟩ | ⟨h1, h2, h3, h4⟩
 ·rw [if_pos h1, if_pos h1]
  unfold move_Shift_g.f
  rw [if_pos h3, sh_all h3]
  simp only [Option.bind_some]
  unfold tree_Print_g.f
  simp only [Option.bind_some]
  have hs : (⟨(printL (parseL r).1).1.toArray⟩ : ByteArray).size = (printL (parseL r).1).1.length := rfl
  rw [hs]
  have hb : (printL (parseL r).1).1.length ≤ 256000 := by
   obtain ⟨T, hT, -, hl⟩ := print_tk h3
   unfold printL
   rw [if_pos h3, hT]
   exact hl
  by_cases hl : 1024 ≤ (printL (parseL r).1).1.length
  ·rw [if_pos (by omega), if_pos hl]
  ·rw [if_neg (by omega), if_neg hl, if_pos (by omega)]
   congr 2
 ·rw [if_neg h1, if_neg h1]
theorem texts_law (l : List UInt8) : mtx.f 5 ⟨l.toArray⟩ = some true := by
 unfold mtx.f
 rw [able6_true]
 simp only [Option.bind_some, if_true]
 by_cases hh : l.head? = some 61
 ·obtain ⟨r, rfl⟩ : ∃ r, l = 61 :: r := by
   cases l with
   | nil => cases hh
   | cons c r => injection hh with hc; exact ⟨r, by rw [hc]⟩
  have hs : (((⟨(61 :: r).toArray⟩ : ByteArray).size : Nat) : Int) = (r.length : Int) + 1 := by simp [ByteArray.size]
  have hb : bt ⟨(61 :: r).toArray⟩ 0 = 61 := rfl
  have hx : (⟨(61 :: r).toArray⟩ : ByteArray).extract 1 (⟨(61 :: r).toArray⟩ : ByteArray).size = ⟨r.toArray⟩ := ext_drop (61 :: r) 1
  rw [copy_form]
  simp only [Option.bind_some]
  rw [hs, if_neg (by omega), if_pos (by omega), hb, show ((61 : Int) != 61) = false from rfl, mtx.j0, if_neg (by decide), hs, if_pos (by omega), hx]
  unfold tree_Parse_g.f
  simp only [Option.bind_some]
  rcases parse_cases r with ⟨h1, h2, h3⟩ | ⟨h1, h2, h3, h4⟩
  ·rw [if_pos h1, if_pos h1]
   unfold tree_Print_g.f
   simp only [Option.bind_some]
   have hz : (⟨(printL (parseL r).1).1.toArray⟩ : ByteArray).size = (printL (parseL r).1).1.length := rfl
   have hb : (printL (parseL r).1).1.length ≤ 256000 := by
    obtain ⟨T, hT, -, hl⟩ := print_tk h3
    unfold printL
    rw [if_pos h3, hT]
    exact hl
   rw [hz]
   by_cases hl : 1024 ≤ (printL (parseL r).1).1.length
   ·rw [if_pos (by omega), if_pos hl]
    show (if (2 : Int) = 2 then some ((⟨#[]⟩ : ByteArray).toList == ([] : List UInt8)) else some false) = some true
    rw [if_pos rfl, ByteArray.toList_eq]; rfl
   ·rw [if_neg (by omega), if_neg hl]
    have hp := parse_print h3 (by omega)
    rw [copy_form, hp]
    simp only [Option.bind_some, if_true]
    rw [if_neg hl, if_pos (by omega)]
    have hc : (⟨#[61]⟩ : ByteArray) ++ (⟨(printL (parseL r).1).1.toArray⟩ : ByteArray) = ⟨(61 :: (printL (parseL r).1).1).toArray⟩ := by
     congr 2
    rw [hc, if_pos rfl]
    simp
  ·rw [if_neg h1, if_neg h1]
   simp only
   rw [if_pos trivial, ByteArray.toList_eq]; rfl
 ·rw [copy_plain l hh]
  simp only [Option.bind_some]
  have hj : mtx.j0 5 ⟨l.toArray⟩ ⟨l.toArray⟩ 0 true = some true := by
   rw [mtx.j0, if_pos rfl, copy_plain l hh]
   simp
  by_cases h0 : ((⟨l.toArray⟩ : ByteArray).size : Int) = 0
  ·rw [if_pos h0]; exact hj
  ·have hp : 0 < ((⟨l.toArray⟩ : ByteArray).size : Int) := by omega
   rw [if_neg h0, if_pos hp]
   cases l with
   | nil => exact absurd rfl h0
   | cons c r =>
    have hb : bt ⟨(c :: r).toArray⟩ 0 = (c.toNat : Int) := rfl
    have hne : ((c.toNat : Int) != 61) = true := by
     rw [bne_iff_ne]
     intro he
     apply hh
     have : c = 61 := by apply UInt8.toNat.inj; show c.toNat = 61; omega
     rw [this]; rfl
    rw [hb, hne]
    exact hj
theorem texts_calls (W : World) (s : ByteArray) (hG : GL W) : Calls Tryz.prog 18 #[.string s] W fun e w' => e = .returned (.bool true) ∧ Below W.heap.size W w' := by
 have := mtx.calls 5 ⟨s.data.toList.toArray⟩ true W hG (aM rfl) (texts_law s.data.toList)
 have e : (⟨s.data.toList.toArray⟩ : ByteArray) = s := by cases s; simp
 rw [e] at this
 exact this
end
end Go.Proofs.YtejbbceidnaloaaGreatDoor.P
