import Derived.Test.YtejbbceidnaloaaGreatDoorF29
set_option linter.unusedVariables false
set_option linter.unusedSimpArgs false
set_option maxRecDepth 100000
set_option maxHeartbeats 8000000
namespace Go.Proofs.YtejbbceidnaloaaGreatDoor.P
open Go.RowKit AW AL AM
def Na9 (l : List UInt8) : List (List UInt8) → List UInt8
 | [] => []
 | t :: ts => if t.isPrefixOf l then t else Na9 l ts
def Nci : List (List UInt8) := Nbu.map fun b => b.data.toList
def Nc3 : List (List UInt8) := pairsL.map fun b => b.data.toList
def Nex : List UInt8 := [43, 45, 42, 47, 94, 38, 37, 40, 41, 44, 58, 33, 61, 60, 62]
def numLx (l : List UInt8) : Nat :=
 runL digB l + (match l.drop (runL digB l) with | [] => 0 | c :: r => if c = 46 ∧ 0 < runL digB r then 1 + runL digB r else 0)
def nextL : List UInt8 → Int × List UInt8 × Nat × Int
 | [] => (0, [], 0, 40)
 | c :: r =>
  if digB c.toNat = true then (1, (c :: r).take (numLx (c :: r)), numLx (c :: r), 0)
  else if c = 34 then (2, quotL (c :: r))
  else if letB c.toNat = true ∨ c = 36 then (3, (c :: r).take (runL wordB (c :: r)), runL wordB (c :: r), 0)
  else if c = 35 then (if Na9 (c :: r) Nci = [] then (0, [], 0, 40) else (4, Na9 (c :: r) Nci, (Na9 (c :: r) Nci).length, 0))
  else if Na9 (c :: r) Nc3 ≠ [] then (5, Na9 (c :: r) Nc3, (Na9 (c :: r) Nc3).length, 0)
  else if Nex.contains c then (5, [c], 1, 0) else (0, [], 0, 40)
theorem prefix_f (l m : List UInt8) (hl : l.length ≤ 100000) : strings_HasPrefix.f ⟨l.toArray⟩ ⟨m.toArray⟩ = some (m.isPrefixOf l) := by
 unfold strings_HasPrefix.f stringslite_HasPrefix.f
 rw [Nak, Nak]
 by_cases h : (m.length : Int) ≤ (l.length : Int)
 ·rw [if_pos h, if_pos (by omega), if_pos h, Int.toNat_natCast, ext_take]
  simp only [Option.bind_some]
  congr 1
  rw [ByteArray.toList_eq, ByteArray.toList_eq]
  show (l.take m.length == m) = m.isPrefixOf l
  rw [Bool.eq_iff_iff, beq_iff_eq, List.isPrefixOf_iff_prefix, List.prefix_iff_eq_take]
  exact eq_comm
 ·rw [if_neg h]
  simp only [Option.bind_some]
  congr 1
  rw [eq_comm, Bool.eq_false_iff]
  intro hp
  have := (List.isPrefixOf_iff_prefix.1 hp).length_le
  omega
theorem begins_l0 (l : List UInt8) (hl : l.length ≤ 100000) (L : List ByteArray) (hL : L.length ≤ 1000) : ∀ (d i K : Nat), L.length - i = d → i ≤ L.length → d < K →
 Na8.l0 K ⟨l.toArray⟩ L (L.length : Int) (i : Int) = some ⟨(Na9 l ((L.drop i).map fun b => b.data.toList)).toArray⟩ := by
 intro d
 induction d with
 | zero =>
  intro i K hd hi hK
  obtain ⟨K, rfl⟩ : ∃ y, K = y + 1 := ⟨K - 1, by omega⟩
  rw [Na8.l0, if_neg (by omega), List.drop_eq_nil_of_le (by omega)]; rfl
 | succ d ih =>
  intro i K hd hi hK
  obtain ⟨K, rfl⟩ : ∃ y, K = y + 1 := ⟨K - 1, by omega⟩
  have hil : i < L.length := by omega
  have hr : rdOf ByteArray.empty L (i : Int) = ⟨(L[i].data.toList).toArray⟩ := by
   unfold rdOf
   simp [List.getD, hil]
  rw [Na8.l0, if_pos (by omega), if_pos (by omega), if_pos (by omega), hr, prefix_f _ _ hl, List.drop_eq_getElem_cons hil, List.map_cons, Na9]
  simp only [Option.bind_some]
  by_cases hp : (L[i].data.toList).isPrefixOf l = true
  ·rw [if_pos hp, if_pos hp]
  ·rw [if_neg hp, if_neg hp, wr1 (by omega) (by omega), show ((i : Int) + 1) = ((i + 1 : Nat) : Int) by omega]
   exact ih (i + 1) K (by omega) (by omega) (by omega)
theorem begins_f (l : List UInt8) (hl : l.length ≤ 100000) (L : List ByteArray) (hL : L.length ≤ 8) : Na8.f 12 ⟨l.toArray⟩ L = some ⟨(Na9 l (L.map fun b => b.data.toList)).toArray⟩ := by
 have := begins_l0 l hl L (by omega) L.length 0 12 rfl (by omega) (by omega)
 rw [List.drop_zero] at this
 exact this
theorem Nda (l : List UInt8) : ∀ L : List (List UInt8), ∃ r, l = Na9 l L ++ r
 | [] => ⟨l, rfl⟩
 | t :: ts => by
  rw [Na9]
  split
  ·rename_i h
   obtain ⟨r, hr⟩ := List.isPrefixOf_iff_prefix.1 h
   exact ⟨r, hr.symm⟩
  ·exact Nda l ts
theorem begins_mem (l : List UInt8) : ∀ L : List (List UInt8), Na9 l L ≠ [] → Na9 l L ∈ L
 | [], h => absurd rfl h
 | t :: ts, h => by
  rw [Na9] at h ⊢
  split
  ·exact List.mem_cons_self ..
  ·rename_i hp
   rw [if_neg hp] at h
   exact List.mem_cons_of_mem _ (begins_mem l ts h)
theorem num_list (l : List UInt8) : numN ⟨l.toArray⟩ = numLx l := by
 unfold numN numLx runN
 have e0 : (⟨l.toArray⟩ : ByteArray).data.toList = l := by simp
 rw [e0, ext_drop, Nak]
 have hle := Nd0 digB l
 have e1 : (⟨(l.drop (runL digB l + 1)).toArray⟩ : ByteArray).data.toList = l.drop (runL digB l + 1) := by simp
 rw [e1]
 by_cases h : runL digB l < l.length
 ·rw [List.drop_eq_getElem_cons h]
  simp only
  have hb := bt_list l _ h
  rw [hb]
  by_cases h46 : l[runL digB l] = 46
  ·have h46' : ((l[runL digB l].toNat : Nat) : Int) = 46 := by rw [h46]; rfl
   by_cases hr : 0 < runL digB (l.drop (runL digB l + 1))
   ·rw [if_pos ⟨h, h46', hr⟩, if_pos ⟨h46, hr⟩]; omega
   ·rw [if_neg (fun hh => hr hh.2.2), if_neg (fun hh => hr hh.2)]; rfl
  ·have h46' : ¬ ((l[runL digB l].toNat : Nat) : Int) = 46 := fun hh => h46 ((byte_eq (n := 46) (by decide)).1 (by omega))
   rw [if_neg (fun hh => h46' hh.2.1), if_neg (fun hh => h46 hh.1)]; rfl
 ·rw [if_neg (fun hh => h hh.1), List.drop_eq_nil_of_le (by omega)]; rfl
theorem num_le (l : List UInt8) : numLx l ≤ l.length := by
 unfold numLx
 have hle := Nd0 digB l
 split
 ·omega
 ·rename_i c r h
  have hl := congrArg List.length h
  rw [List.length_drop, List.length_cons] at hl
  have := Nd0 digB r
  by_cases h46 : c = 46 ∧ 0 < runL digB r
  ·rw [if_pos h46]; omega
  ·rw [if_neg h46]; omega
theorem num_pos {c : UInt8} {r : List UInt8} (h : digB c.toNat = true) : 1 ≤ numLx (c :: r) := by
 unfold numLx
 have : 1 ≤ runL digB (c :: r) := by rw [runL, if_pos h]; omega
 omega
theorem word_pos {c : UInt8} {r : List UInt8} (h : letB c.toNat = true ∨ c = 36) : 1 ≤ runL wordB (c :: r) := by
 rw [runL, if_pos (by
  unfold wordB
  rcases h with h | h
  ·rw [h]; rfl
  ·rw [h]; decide)]
 omega
def asNext (x : Int × List UInt8 × Nat × Int) : Int × ByteArray × Int × Int × Int := (x.1, ⟨x.2.1.toArray⟩, 0, (x.2.2.1 : Int), x.2.2.2)
theorem nx_list (l : List UInt8) (kd : Int) (n : Nat) : nxF ⟨l.toArray⟩ kd n = asNext (if n = 0 then (0, [], 0, 40) else (kd, l.take n, n, 0)) := by
 unfold nxF
 split
 ·rfl
 ·rw [ext_take]; rfl
theorem singles_ix (c : UInt8) : (0 ≤ Lib.indexByte Nex c) ↔ Nex.contains c = true := by
 have h : ∀ l : List UInt8, (0 ≤ Lib.indexByte l c) ↔ l.contains c = true := by
  intro l
  induction l with
  | nil => simp [Lib.indexByte]
  | cons b l ih =>
   unfold Lib.indexByte
   by_cases hb : (b == c) = true
   ·rw [if_pos hb]
    simp only [List.contains_cons]
    rw [beq_iff_eq] at hb
    simp [hb]
   ·rw [if_neg hb]
    have hg := Lib.indexByte_ge l c
    rw [List.contains_cons]
    have hb' : (c == b) = false := by rw [beq_eq_false_iff_ne]; intro hh; exact hb (by rw [beq_iff_eq, hh])
    rw [hb', Bool.false_or, ← ih]
    split
    ·rename_i he
     rw [beq_iff_eq] at he
     omega
    ·rename_i he
     rw [beq_iff_eq] at he
     omega
 exact h Nex
theorem next_f (c : UInt8) (r : List UInt8) (hl : r.length < 100000) : Ncx.f ⟨(c :: r).toArray⟩ = some (asNext (nextL (c :: r))) := by
 unfold Ncx.f
 have hb := bt_cons c r
 rw [Nak, if_pos ⟨by simp, by simp; omega⟩, hb, nextL]
 have e0 : (⟨(c :: r).toArray⟩ : ByteArray).data.toList = c :: r := by simp
 have cB : ∀ n : Nat, n < 256 → (((c.toNat : Nat) : Int) = (n : Int) ↔ c = UInt8.ofNat n) := fun n hn => ⟨fun h => (byte_eq hn).1 (by omega), fun h => by have := (byte_eq hn).2 h; omega⟩
 have i34 : ((c.toNat : Nat) : Int) = 34 ↔ c = 34 := cB 34 (by decide)
 have i35 : ((c.toNat : Nat) : Int) = 35 ↔ c = 35 := cB 35 (by decide)
 have i36 : ((c.toNat : Nat) : Int) = 36 ↔ c = 36 := cB 36 (by decide)
 by_cases hd : digB ((c.toNat : Nat) : Int) = true
 ·rw [if_pos hd, if_pos hd, num_list, if_pos (num_le _), nx_list, if_neg (by have := num_pos (r := r) hd; omega)]
 rw [if_neg hd, if_neg hd]
 by_cases h34 : c = 34
 ·subst h34
  rw [if_pos (by rfl), if_pos rfl, quot_f r hl (by simp)]; rfl
 rw [if_neg (fun hh => h34 (i34.1 hh)), if_neg h34]
 have hrun : runN wordB ⟨(c :: r).toArray⟩ = runL wordB (c :: r) := by unfold runN; rw [e0]
 by_cases hlt : letB ((c.toNat : Nat) : Int) = true
 ·rw [if_pos hlt, if_pos (.inl hlt), hrun, nx_list, if_neg (by have := word_pos (r := r) (.inl hlt); omega)]
 rw [if_neg hlt]
 by_cases h36 : c = 36
 ·rw [if_pos (by rw [h36]; rfl), if_pos (.inr h36), hrun, nx_list, if_neg (by have := word_pos (r := r) (.inr h36); omega)]
 rw [if_neg (fun hh => h36 (i36.1 hh)), if_neg (show ¬ (letB ((c.toNat : Nat) : Int) = true ∨ c = 36) from fun hh => hh.elim hlt h36)]
 by_cases h35 : c = 35
 ·rw [if_pos (by rw [h35]; rfl), if_pos h35, begins_f _ (by simp; omega) Nbu (by decide)]
  simp only [Option.bind_some]
  show (if (⟨(Na9 (c :: r) Nci).toArray⟩ : ByteArray).size ≤ (c :: r).length then some (nxF ⟨(c :: r).toArray⟩ 4 (⟨(Na9 (c :: r) Nci).toArray⟩ : ByteArray).size) else none) = _
  obtain ⟨q, hq⟩ := Nda (c :: r) Nci
  have hle : (Na9 (c :: r) Nci).length ≤ (c :: r).length := by rw [congrArg List.length hq, List.length_append]; omega
  rw [Nak, if_pos hle, nx_list]
  have ht : (c :: r).take (Na9 (c :: r) Nci).length = Na9 (c :: r) Nci := by
   generalize Na9 (c :: r) Nci = b at *
   rw [hq, List.take_left]
  rw [ht]
  by_cases he : Na9 (c :: r) Nci = []
  ·rw [if_pos he, he]; rfl
  ·rw [if_neg he, if_neg (fun hh => he (List.eq_nil_of_length_eq_zero hh))]
 rw [if_neg (fun hh => h35 (i35.1 hh)), if_neg h35, begins_f _ (by simp; omega) pairsL (by decide)]
 simp only [Option.bind_some]
 show (if (⟨(Na9 (c :: r) Nc3).toArray⟩ : ByteArray).size = 0 then some (nxF ⟨(c :: r).toArray⟩ 5 (if 0 ≤ markI ⟨(c :: r).toArray⟩ then 1 else 0)) else if (⟨(Na9 (c :: r) Nc3).toArray⟩ : ByteArray).size ≤ (c :: r).length then some (nxF ⟨(c :: r).toArray⟩ 5 (⟨(Na9 (c :: r) Nc3).toArray⟩ : ByteArray).size) else none) = _
 obtain ⟨q, hq⟩ := Nda (c :: r) Nc3
 have hle : (Na9 (c :: r) Nc3).length ≤ (c :: r).length := by rw [congrArg List.length hq, List.length_append]; omega
 have ht : (c :: r).take (Na9 (c :: r) Nc3).length = Na9 (c :: r) Nc3 := by
  generalize Na9 (c :: r) Nc3 = b at *
  rw [hq, List.take_left]
 rw [Nak, nx_list, nx_list, ht]
 by_cases he : Na9 (c :: r) Nc3 = []
 ·have hne : ¬ (Na9 (c :: r) Nc3 ≠ []) := fun hh => hh he
  rw [if_pos (by rw [he]; rfl)]
  have hm : markI ⟨(c :: r).toArray⟩ = Lib.indexByte Nex c := by
   unfold markI
   rw [hb, Int.toNat_natCast]
   show Lib.indexByte Nex c.toNat.toUInt8 = _
   congr 1
   exact UInt8.ofNat_toNat
  rw [hm]
  by_cases hs : Nex.contains c = true
  ·rw [if_pos ((singles_ix c).2 hs), if_neg hne, if_pos hs]; rfl
  ·rw [if_neg (fun hh => hs ((singles_ix c).1 hh)), if_neg hne, if_neg hs]; rfl
 ·rw [if_neg (fun hh => he (List.eq_nil_of_length_eq_zero hh)), if_pos hle, if_pos he, if_neg (fun hh => he (List.eq_nil_of_length_eq_zero hh))]
def scanL : Nat → Nat → List UInt8 → Except (Int × Int) (List S39)
 | 0, _, _ => .ok []
 | _ + 1, _, [] => .ok []
 | k + 1, p, c :: r => if c = 32 then scanL k (p + 1) r
  else if (nextL (c :: r)).2.2.2 = 0 then
   (match scanL k (p + (nextL (c :: r)).2.2.1) ((c :: r).drop (nextL (c :: r)).2.2.1) with
   | .ok ts => .ok (⟨(nextL (c :: r)).1, ⟨(nextL (c :: r)).2.1.toArray⟩, (p : Int)⟩ :: ts)
   | .error e => .error e)
  else .error ((nextL (c :: r)).2.2.2, ((p + (nextL (c :: r)).2.2.1 : Nat) : Int))
theorem quot_len (l : List UInt8) (h : (quotL l).2.2 = 0) : 1 ≤ (quotL l).2.1 ∧ (quotL l).2.1 ≤ l.length := by
 unfold quotL at h ⊢
 cases hq : qend (l.drop 1) with
 | none => rw [hq] at h; exact absurd h (show ¬ (41 : Int) = 0 by decide)
 | some e =>
  rw [hq] at h
  simp only at h ⊢
  have := qend_le _ _ e (Nat.le_refl _) hq
  rw [List.length_drop] at this
  cases hb : badAt (l.take (e + 2)) with
  | some i => rw [hb] at h; exact absurd h (by show ¬ (40 : Int) = 0; decide)
  | none => simp only; omega
theorem badAt_le : ∀ (l : List UInt8) (i : Nat), badAt l = some i → i < l.length
 | [], i, h => by cases h
 | c :: r, i, h => by
  rw [badAt] at h
  split at h
  ·cases h; simp
  ·obtain ⟨j, hj, rfl⟩ := Option.map_eq_some_iff.1 h
   have := badAt_le r j hj
   simp; omega
theorem quot_le (l : List UInt8) : (quotL l).2.1 ≤ l.length + 1 := by
 unfold quotL
 cases hq : qend (l.drop 1) with
 | none => simp
 | some e =>
  simp only
  have := qend_le _ _ e (Nat.le_refl _) hq
  rw [List.length_drop] at this
  cases hb : badAt (l.take (e + 2)) with
  | some i =>
   have := badAt_le _ _ hb
   rw [List.length_take] at this
   simp only; omega
  | none => simp only; omega
theorem Nd9 (c : UInt8) (r : List UInt8) (h : (nextL (c :: r)).2.2.2 = 0) : 1 ≤ (nextL (c :: r)).2.2.1 ∧ (nextL (c :: r)).2.2.1 ≤ (c :: r).length := by
 rw [nextL] at h ⊢
 split
 ·rename_i hd
  exact ⟨num_pos hd, num_le _⟩
 ·rename_i hd
  rw [if_neg hd] at h
  split
  ·rename_i h34
   rw [if_pos h34] at h
   exact quot_len _ h
  ·rename_i h34
   rw [if_neg h34] at h
   split
   ·rename_i hl
    exact ⟨word_pos hl, Nd0 _ _⟩
   ·rename_i hl
    rw [if_neg hl] at h
    have hpre : ∀ L, Na9 (c :: r) L ≠ [] → 1 ≤ (Na9 (c :: r) L).length ∧ (Na9 (c :: r) L).length ≤ (c :: r).length := by
     intro L hL
     obtain ⟨q, hq⟩ := Nda (c :: r) L
     have := congrArg List.length hq
     rw [List.length_append] at this
     exact ⟨List.length_pos_iff.2 hL, by omega⟩
    split
    ·rename_i h35
     rw [if_pos h35] at h
     split
     ·rename_i he
      rw [if_pos he] at h
      exact absurd h (by show ¬ (40 : Int) = 0; decide)
     ·rename_i he
      exact hpre _ he
    ·rename_i h35
     rw [if_neg h35] at h
     split
     ·rename_i he
      exact hpre _ he
     ·rename_i he
      rw [if_neg he] at h
      split
      ·simp
      ·rename_i hs
       rw [if_neg hs] at h
       exact absurd h (by show ¬ (40 : Int) = 0; decide)
theorem next_le (c : UInt8) (r : List UInt8) : (nextL (c :: r)).2.2.1 ≤ (c :: r).length + 1 := by
 by_cases h : (nextL (c :: r)).2.2.2 = 0
 ·have := Nd9 c r h; omega
 ·rw [nextL] at h ⊢
  split
  ·have := num_le (c :: r); show numLx (c :: r) ≤ _; omega
  ·split
   ·exact quot_le _
   ·split
    ·have := Nd0 wordB (c :: r); show runL wordB (c :: r) ≤ _; omega
    ·have hpre : ∀ L, (Na9 (c :: r) L).length ≤ (c :: r).length := by
      intro L
      obtain ⟨q, hq⟩ := Nda (c :: r) L
      have := congrArg List.length hq
      rw [List.length_append] at this
      omega
     split
     ·split
      ·simp
      ·have := hpre Nci; simp only; omega
     ·split
      ·have := hpre Nc3; simp only; omega
      ·split <;> simp
theorem scanL_up : ∀ (n : Nat) (l : List UInt8) (k k' p : Nat), l.length ≤ n → l.length ≤ k → l.length ≤ k' → scanL k p l = scanL k' p l
 | _, [], k, k', p, _, _, _ => by
  have h : ∀ k, scanL k p [] = .ok [] := fun k => by cases k <;> rfl
  rw [h, h]
 | 0, c :: r, k, k', p, h, _, _ => by simp at h
 | n + 1, c :: r, k, k', p, h, h1, h2 => by
  obtain ⟨k, rfl⟩ : ∃ y, k = y + 1 := ⟨k - 1, by simp at h1; omega⟩
  obtain ⟨k', rfl⟩ : ∃ y, k' = y + 1 := ⟨k' - 1, by simp at h2; omega⟩
  simp only [List.length_cons] at h h1 h2
  rw [scanL, scanL]
  by_cases hc : c = 32
  ·rw [if_pos hc, if_pos hc]
   exact scanL_up n r k k' _ (by omega) (by omega) (by omega)
  ·rw [if_neg hc, if_neg hc]
   by_cases h0 : (nextL (c :: r)).2.2.2 = 0
   ·have hn := Nd9 c r h0
    rw [if_pos h0, if_pos h0]
    rw [scanL_up n ((c :: r).drop (nextL (c :: r)).2.2.1) k k' _ (by rw [List.length_drop, List.length_cons]; omega) (by rw [List.length_drop, List.length_cons]; omega) (by rw [List.length_drop, List.length_cons]; omega)]
   ·rw [if_neg h0, if_neg h0]
theorem ext_drop_n (l : List UInt8) (a : Nat) : (⟨l.toArray⟩ : ByteArray).extract ((a : Nat) : Int).toNat l.length = ⟨(l.drop a).toArray⟩ := by
 rw [Int.toNat_natCast, ← Nak l, ext_drop]
def asScan (acc : List S39) : Except (Int × Int) (List S39) → List S39 × Int × Int
 | .ok ts => (acc ++ ts, 0, 0)
 | .error (c, p) => ([], c, p)
theorem scan_l0 (l : List UInt8) (hl : l.length ≤ 1024) : ∀ (d i K : Nat) (acc : List S39), l.length - i = d → i ≤ l.length → acc.length ≤ i → d < K →
 Nba.l0 K ⟨l.toArray⟩ acc (i : Int) = some (asScan acc (scanL d i (l.drop i))) := by
 intro d
 induction d using Nat.strongRecOn with
 | _ d ih =>
  intro i K acc hd hi ha hK
  obtain ⟨K, rfl⟩ : ∃ y, K = y + 1 := ⟨K - 1, by omega⟩
  rw [Nba.l0, Nak]
  by_cases hil : i < l.length
  ·have hx := List.drop_eq_getElem_cons hil
   have hb := bt_list l i hil
   obtain ⟨d, rfl⟩ : ∃ y, d = y + 1 := ⟨d - 1, by omega⟩
   rw [if_pos (by omega), if_pos (by omega), hb, hx, scanL]
   by_cases h32 : l[i] = 32
   ·have h32' : ((l[i].toNat : Nat) : Int) = 32 := by rw [h32]; rfl
    rw [if_pos h32', if_pos h32, wr1 (by omega) (by omega), show ((i : Int) + 1) = ((i + 1 : Nat) : Int) by omega]
    exact ih d (by omega) (i + 1) K acc (by omega) (by omega) (by omega) (by omega)
   ·have h32' : ¬ ((l[i].toNat : Nat) : Int) = 32 := fun hh => h32 ((byte_eq (n := 32) (by decide)).1 (by omega))
    rw [if_neg h32', if_neg h32, if_pos (by omega), ext_drop_n, hx, next_f _ _ (by rw [List.length_drop]; omega)]
    simp only [Option.bind_some]
    have hlen : (l[i] :: l.drop (i + 1)).length = d + 1 := by rw [← hx, List.length_drop]; omega
    have hnl := next_le l[i] (l.drop (i + 1))
    rw [hlen] at hnl
    have hn := Nd9 l[i] (l.drop (i + 1))
    rw [hlen] at hn
    have hdr : ∀ n, l.drop (i + n) = (l[i] :: l.drop (i + 1)).drop n := fun n => by rw [← hx, List.drop_drop]
    clear hb h32 h32' hx
    generalize nextL (l[i] :: l.drop (i + 1)) = x at *
    generalize l[i] :: l.drop (i + 1) = y at *
    obtain ⟨x1, x2, n, e⟩ := x
    show (if e = 0 then (if acc.length < 4398046511104 then Nba.l0 K ⟨l.toArray⟩ (acc ++ [⟨x1, ⟨x2.toArray⟩, (i : Int)⟩]) (wrap64 ((i : Int) + ((n : Nat) : Int))) else none) else some ([], e, wrap64 ((i : Int) + ((n : Nat) : Int)))) = some (asScan acc (if e = 0 then (match scanL d (i + n) (y.drop n) with | .ok ts => .ok (⟨x1, ⟨x2.toArray⟩, (i : Int)⟩ :: ts) | .error e => .error e) else .error (e, ((i + n : Nat) : Int))))
    simp only at hn hnl
    have hw : wrap64 ((i : Int) + ((n : Nat) : Int)) = ((i + n : Nat) : Int) := by unfold wrap64; omega
    rw [hw]
    by_cases h0 : e = 0
    ·have hn := hn h0
     have hac : acc.length < 4398046511104 := Nat.lt_of_le_of_lt ha (Nat.lt_of_le_of_lt (Nat.le_of_lt hil) (Nat.lt_of_le_of_lt hl (by decide)))
     rw [if_pos h0, if_pos h0, if_pos hac]
     rw [ih (l.length - (i + n)) (by omega) (i + n) K _ rfl (by omega) (by rw [List.length_append, List.length_singleton]; omega) (by omega)]
     rw [hdr n, scanL_up (d + 1) _ (l.length - (i + n)) d _ (by rw [List.length_drop, hlen]; omega) (by rw [List.length_drop, hlen]; omega) (by rw [List.length_drop, hlen]; omega)]
     cases scanL d (i + n) (y.drop n) with
     | ok ts => simp [asScan]
     | error e => rfl
    ·rw [if_neg h0, if_neg h0]
     simp only [asScan]
  ·rw [if_neg (by omega), List.drop_eq_nil_of_le (by omega)]
   have h : scanL d i [] = .ok [] := by cases d <;> rfl
   rw [h]; simp [asScan]
theorem scan_f (l : List UInt8) {K : Nat} (hK : l.length < K) : Nba.f K ⟨l.toArray⟩ = some (if 1024 < l.length then ([], 2, 0) else asScan [] (scanL l.length 0 l)) := by
 unfold Nba.f
 rw [Nak]
 by_cases h : 1024 < l.length
 ·rw [if_pos (by omega), if_pos h]
 ·rw [if_neg (by omega), if_neg h]
  have := scan_l0 l (by omega) l.length 0 K [] rfl (by omega) (by simp) hK
  rw [List.drop_zero] at this
  exact this
def StopD : List UInt8 → Prop
 | [] => True
 | c :: _ => ¬ isDig c
theorem digits_l0 (l r : List UInt8) (hl : l.length ≤ 100000) (hr : StopD r) : ∀ (b pre : List UInt8) (v K : Nat), l = pre ++ (b ++ r) → v ≤ 1000000000000000000 → (∀ c ∈ b, isDig c) → 2 * b.length + 2 ≤ K →
 Naq.l0 K ⟨l.toArray⟩ (v : Int) (pre.length : Int) = some (if Nb0 v b ≤ 1000000000000000000 then (((Nb0 v b : Nat) : Int), ⟨r.toArray⟩, decide (0 < pre.length + b.length)) else (0, ⟨#[]⟩, false))
 | [], pre, v, K, h, hv, hd, hK => by
  obtain ⟨K, rfl⟩ : ∃ y, K = y + 2 := ⟨K - 2, by omega⟩
  have hlen := congrArg List.length h
  simp only [List.length_append, List.length_nil] at hlen
  have hend : Naq.j1 (K + 1) ⟨l.toArray⟩ (v : Int) (pre.length : Int) false = some ((v : Int), ⟨r.toArray⟩, decide (0 < pre.length)) := by
   rw [Naq.j1, if_neg (by decide), if_pos (by omega), Nak, if_pos (by omega), ext_drop_n]
   have : l.drop pre.length = r := by rw [h, List.nil_append, List.drop_left]
   rw [this]
   congr 3
   simp
  rw [Ndk, if_pos hv, List.length_nil, Nat.add_zero, Naq.l0, Nak]
  by_cases hlt : (pre.length : Int) < (l.length : Int)
  ·rw [if_pos hlt, if_pos (by omega)]
   have hil : pre.length < l.length := by omega
   have hb := bt_list l pre.length hil
   cases r with
   | nil => simp at hlen; omega
   | cons c r =>
    have hc : l[pre.length] = c := by simp [h]
    rw [hb, hc]
    unfold StopD isDig at hr
    by_cases h48 : ((c.toNat : Nat) : Int) ≥ 48
    ·rw [if_pos h48, decide_eq_false (by omega), hend, Nat.add_zero]
    ·rw [if_neg h48, hend, Nat.add_zero]
  ·rw [if_neg hlt, hend, Nat.add_zero]
 | c :: b, pre, v, K, h, hv, hd, hK => by
  obtain ⟨K, rfl⟩ : ∃ y, K = y + 2 := ⟨K - 2, by omega⟩
  have hlen := congrArg List.length h
  simp only [List.length_append, List.length_cons] at hlen hK
  have hil : pre.length < l.length := by omega
  have hb := bt_list l pre.length hil
  have hc : l[pre.length] = c := by simp [h]
  have hdc := hd c (List.mem_cons_self ..)
  unfold isDig at hdc
  have hm : (((c.toNat : Nat) : Int) - 48) % 256 = ((c.toNat - 48 : Nat) : Int) := by omega
  rw [Naq.l0, Nak, if_pos (by omega), if_pos (by omega), hb, hc, if_pos (by omega), decide_eq_true (by omega), Naq.j1, if_pos rfl, if_pos (by omega), Nak, if_pos (by omega), hb, hc, hm, Ncs]
  by_cases hov : v * 10 + (c.toNat - 48) ≤ 1000000000000000000
  ·rw [if_neg (by omega)]
   have hw : wrap64 (wrap64 (10 * (v : Int)) + ((c.toNat - 48 : Nat) : Int)) = ((v * 10 + (c.toNat - 48) : Nat) : Int) := by
    have : wrap64 (10 * (v : Int)) = 10 * (v : Int) := by unfold wrap64; omega
    rw [this]; unfold wrap64; omega
   rw [hw, wr1 (by omega) (by omega), show ((pre.length : Int) + 1) = (((pre ++ [c]).length : Nat) : Int) by simp]
   rw [digits_l0 l r hl hr b (pre ++ [c]) _ K (by rw [h]; simp) hov (fun x hx => hd x (List.mem_cons_of_mem _ hx)) (by omega)]
   simp only [List.length_append, List.length_cons, List.length_nil]
   rw [show pre.length + (0 + 1) + b.length = pre.length + (b.length + 1) by omega]
  ·rw [if_pos (by omega), if_neg (by have := decVal_ge b (v * 10 + (c.toNat - 48)); omega)]
theorem digits_f (a r : List UInt8) (hl : (a ++ r).length ≤ 100000) (hr : StopD r) (hd : ∀ c ∈ a, isDig c) {K : Nat} (hK : 2 * a.length + 2 ≤ K) :
 Naq.f K ⟨(a ++ r).toArray⟩ = some (if Nb0 0 a ≤ 1000000000000000000 then (((Nb0 0 a : Nat) : Int), ⟨r.toArray⟩, decide (0 < a.length)) else (0, ⟨#[]⟩, false)) := by
 have := digits_l0 (a ++ r) r hl hr a [] 0 K rfl (by omega) hd hK
 unfold Naq.f
 refine this.trans ?_
 simp
theorem power_l0 : ∀ (d i k K : Nat) (x : Int), k - i = d → i ≤ k → k ≤ 6 → d < K → 0 ≤ x → x * 10 ^ d ≤ 1000000000000 → Nbt.l0 K x (k : Int) (i : Int) = some (x * 10 ^ d)
 | 0, i, k, K, x, hd, hi, hk, hK, h0, hx => by
  obtain ⟨K, rfl⟩ : ∃ y, K = y + 1 := ⟨K - 1, by omega⟩
  rw [Nbt.l0, if_neg (by omega)]; simp
 | d + 1, i, k, K, x, hd, hi, hk, hK, h0, hx => by
  obtain ⟨K, rfl⟩ : ∃ y, K = y + 1 := ⟨K - 1, by omega⟩
  have e : x * 10 ^ (d + 1) = x * 10 * 10 ^ d := by rw [Int.pow_succ, Int.mul_comm (10 ^ d : Int) 10, Int.mul_assoc]
  have hp : (1 : Int) ≤ 10 ^ d := by
   have : (0 : Int) < 10 ^ d := Int.pow_pos (by decide)
   omega
  have hle : x * 10 ≤ x * 10 * 10 ^ d := by
   have := Int.mul_le_mul_of_nonneg_left hp (show 0 ≤ x * 10 by omega)
   omega
  have hw : wrap64 (x * 10) = x * 10 := by unfold wrap64; omega
  rw [Nbt.l0, if_pos (by omega), hw, wr1 (by omega) (by omega), show ((i : Int) + 1) = ((i + 1 : Nat) : Int) by omega, e]
  exact power_l0 d (i + 1) k K (x * 10) (by omega) (by omega) hk (by omega) (by omega) (by omega)
theorem pow_le6 {k : Nat} (hk : k ≤ 6) : 10 ^ k ≤ 1000000 := Nat.pow_le_pow_right (by decide) hk
theorem power_f {k : Nat} (hk : k ≤ 6) {K : Nat} (hK : 8 ≤ K) : Nbt.f K (k : Int) = some (((10 ^ k : Nat)) : Int) := by
 have hp := pow_le6 hk
 have e : ((10 ^ k : Nat) : Int) = 1 * (10 : Int) ^ k := by rw [Int.natCast_pow, Int.one_mul]; rfl
 unfold Nbt.f
 rw [e]
 exact power_l0 k 0 k K 1 rfl (by omega) hk (by omega) (by decide) (by rw [← e]; omega)
def mkN (n d : Nat) : Option (Nat × Nat) := if n / Nat.gcd n d ≤ 1000000000000 ∧ d / Nat.gcd n d ≤ 1000000 then some (n / Nat.gcd n d, d / Nat.gcd n d) else none
def asRead : Option (Nat × Nat) → Int × Int × Bool
 | some (n, d) => ((n : Int), (d : Int), true)
 | none => (0, 0, false)
theorem u64_nat {n : Nat} (h : n < 18446744073709551616) : IntKind.u64.wrap (n : Int) = (n : Int) := by
 simp only [IntKind.wrap]
 simp [IntKind.bits, IntKind.signed]
 omega
theorem make_f {n d : Nat} (hn : n ≤ 9000000000000000000) (h1 : 1 ≤ d) (h2 : d ≤ 1000000) {K : Nat} (hK : 1000003 ≤ K) : Nbf.f K (n : Int) (d : Int) = some (asRead (mkN n d)) := by
 have hs : ∀ m : Nat, m ≤ 9000000000000000000 → Nbm.f (m : Int) = some (m : Int) := by
  intro m hm
  unfold Nbm.f
  rw [if_neg (by omega), u64_nat (by omega)]
 have hg : 0 < Nat.gcd n d := Nat.gcd_pos_of_pos_right _ (by omega)
 obtain ⟨K, rfl⟩ : ∃ y, K = y + 1 := ⟨K - 1, by omega⟩
 unfold Nbf.f
 rw [if_neg (by omega), hs n hn, hs d (by omega)]
 simp only [Option.bind_some]
 unfold Nb8.f
 rw [gcd_l0 (K + 1) n d (by omega)]
 simp only [Option.bind_some]
 have t1 : Int.tdiv (n : Int) ((Nat.gcd n d : Nat) : Int) = ((n / Nat.gcd n d : Nat) : Int) := rfl
 have t2 : Int.tdiv (d : Int) ((Nat.gcd n d : Nat) : Int) = ((d / Nat.gcd n d : Nat) : Int) := rfl
 have l1 : n / Nat.gcd n d ≤ n := Nat.div_le_self _ _
 have l2 : d / Nat.gcd n d ≤ d := Nat.div_le_self _ _
 rw [if_neg (by omega), t1, t2, u64_nat (by omega), u64_nat (by omega)]
 unfold mkN
 generalize n / Nat.gcd n d = x at *
 generalize d / Nat.gcd n d = y at *
 by_cases hx : (x : Int) > 1000000000000
 ·rw [if_pos hx, Nbf.j0, if_pos rfl, if_neg (by omega)]; rfl
 ·rw [if_neg hx]
  by_cases hy : (y : Int) > 1000000
  ·rw [decide_eq_true hy, Nbf.j0, if_pos rfl, if_neg (by omega)]; rfl
  ·have hw1 : wrap64 (x : Int) = (x : Int) := wr_nat (by omega)
   have hw2 : wrap64 (y : Int) = (y : Int) := wr_nat (by omega)
   rw [decide_eq_false hy, Nbf.j0, if_neg (by decide), if_neg (by rw [decide_eq_false (show ¬ (n : Int) < 0 by omega), decide_eq_false (show ¬ (d : Int) < 0 by omega)]; decide), if_pos (by omega), hw1, hw2]
   rfl
theorem wr_big {n : Nat} (h : n ≤ 9000000000000000000) : wrap64 (n : Int) = (n : Int) := by unfold wrap64; omega
theorem frac_arith {A B P : Nat} (hA : A ≤ 1000000000000) (hP : P ≤ 1000000) (hB : B < P) : wrap64 ((A : Int) * (P : Int)) = ((A * P : Nat) : Int) ∧ wrap64 (((A * P : Nat) : Int) + (B : Int)) = ((A * P + B : Nat) : Int) ∧ A * P + B ≤ 9000000000000000000 := by
 have hm : A * P ≤ 1000000000000000000 := Nat.le_trans (Nat.mul_le_mul hA hP) (by decide)
 rw [← Int.natCast_mul]
 generalize A * P = M at *
 rw [← Int.natCast_add]
 exact ⟨wr_big (by omega), wr_big (by omega), by omega⟩
theorem cut_no (c p : UInt8) (r : List UInt8) (hl : r.length < 100000) (h : c ≠ p) : strings_CutPrefix.f ⟨(c :: r).toArray⟩ ⟨#[p]⟩ = some (⟨(c :: r).toArray⟩, false) := by
 unfold strings_CutPrefix.f stringslite_CutPrefix.f
 have := prefix_f (c :: r) [p] (by simp; omega)
 unfold strings_HasPrefix.f at this
 obtain ⟨b, hb, he⟩ := Option.bind_eq_some_iff.1 this
 have hp : ([p] : List UInt8).isPrefixOf (c :: r) = false := by simp [List.isPrefixOf, Ne.symm h]
 rw [hp] at he
 rw [show (⟨#[p]⟩ : ByteArray) = ⟨([p] : List UInt8).toArray⟩ from rfl, hb]
 simp only [Option.bind_some]
 cases he
 rfl
theorem read_int {a : List UInt8} (hl : a.length ≤ 10000) (h0 : a ≠ []) (hd : ∀ c ∈ a, isDig c) {K : Nat} (hK : 1000003 ≤ K) :
 Na5.f K ⟨a.toArray⟩ = some (asRead (if Nb0 0 a ≤ 1000000000000000000 then mkN (Nb0 0 a) 1 else none)) := by
 cases a with
 | nil => exact absurd rfl h0
 | cons c r =>
  have hdc := hd c (List.mem_cons_self ..)
  simp only [List.length_cons] at hl
  unfold Na5.f
  rw [cut_no c 45 r (by omega) (by intro h; rw [h] at hdc; unfold isDig at hdc; revert hdc; decide)]
  simp only [Option.bind_some]
  have := digits_f (c :: r) [] (by simp; omega) trivial hd (K := K) (by simp; omega)
  rw [List.append_nil] at this
  rw [this]
  by_cases hv : Nb0 0 (c :: r) ≤ 1000000000000000000
  ·rw [if_pos hv, if_pos hv]
   simp only [Option.bind_some, List.length_cons]
   rw [if_pos (decide_eq_true (by omega)), if_pos (show (⟨([] : List UInt8).toArray⟩ : ByteArray).toList = [] by rw [ByteArray.toList_eq]), if_neg (by decide), show (1 : Int) = ((1 : Nat) : Int) from rfl, make_f (by omega) (by omega) (by omega) hK]
   rfl
  ·rw [if_neg hv, if_neg hv]
   rfl
theorem read_frac {a b : List UInt8} (hl : a.length + b.length ≤ 10000) (ha : a ≠ []) (hb : b ≠ []) (hda : ∀ c ∈ a, isDig c) (hdb : ∀ c ∈ b, isDig c) {K : Nat} (hK : 1000006 ≤ K) :
 Na5.f K ⟨(a ++ 46 :: b).toArray⟩ = some (asRead (if Nb0 0 a ≤ 1000000000000 ∧ b.length ≤ 6 then mkN (Nb0 0 a * 10 ^ b.length + Nb0 0 b) (10 ^ b.length) else none)) := by
 cases a with
 | nil => exact absurd rfl ha
 | cons c r =>
  have hdc := hda c (List.mem_cons_self ..)
  simp only [List.length_cons] at hl
  unfold Na5.f
  rw [List.cons_append, cut_no c 45 (r ++ 46 :: b) (by simp; omega) (by intro h; rw [h] at hdc; unfold isDig at hdc; revert hdc; decide)]
  simp only [Option.bind_some]
  rw [← List.cons_append, digits_f (c :: r) (46 :: b) (by simp; omega) (show ¬ isDig 46 by unfold isDig; decide) hda (K := K) (by simp; omega)]
  by_cases hv : Nb0 0 (c :: r) ≤ 1000000000000000000
  ·rw [if_pos hv]
   simp only [Option.bind_some, List.length_cons]
   have hne : ¬ (⟨(46 :: b).toArray⟩ : ByteArray).toList = [] := by rw [ByteArray.toList_eq]; simp
   rw [if_pos (decide_eq_true (by omega)), if_neg hne, Nak, if_pos (by simp; omega), ← Nak, ext_drop, List.drop_succ_cons, List.drop_zero]
   have hd2 := digits_f b [] (by simp; omega) trivial hdb (K := K) (by omega)
   rw [List.append_nil] at hd2
   rw [hd2]
   have hbl : 0 < b.length := List.length_pos_iff.2 hb
   obtain ⟨K, rfl⟩ : ∃ y, K = y + 2 := ⟨K - 2, by omega⟩
   have hfail : ∀ (y : Int), Na5.j1 (K + 1) false ((Nb0 0 (c :: r) : Nat) : Int) ⟨(46 :: b).toArray⟩ y true = some (asRead none) := fun y => by rw [Na5.j1, if_pos rfl]; rfl
   by_cases hv2 : Nb0 0 b ≤ 1000000000000000000
   ·rw [if_pos hv2]
    simp only [Option.bind_some]
    rw [if_pos (decide_eq_true hbl)]
    have hbe : ((⟨([] : List UInt8).toArray⟩ : ByteArray).toList != ([] : List UInt8)) = false := by rw [ByteArray.toList_eq]; rfl
    rw [hbe, Na5.j0, if_neg (by decide), Nak, if_pos (by simp only [List.length_cons]; omega), bt_cons, if_neg (by decide), if_pos (by decide)]
    by_cases h7 : (((46 :: b).length : Nat) : Int) > 7
    ·rw [if_pos h7, hfail, if_neg (by simp only [List.length_cons] at h7; omega)]
    ·rw [if_neg h7]
     have hb6 : b.length ≤ 6 := by simp only [List.length_cons] at h7; omega
     by_cases hbig : ((Nb0 0 (c :: r) : Nat) : Int) > 1000000000000
     ·rw [decide_eq_true hbig, hfail, if_neg (by omega)]
     ·have hbl2 := decVal_lt b 0 hdb
      have hp := pow_le6 hb6
      have hpp : 1 ≤ 10 ^ b.length := Nat.pos_of_ne_zero (by simp)
      have hw0 : wrap64 ((((46 :: b).length : Nat) : Int) - 1) = (b.length : Int) := by simp only [List.length_cons]; unfold wrap64; omega
      rw [decide_eq_false hbig, Na5.j1, if_neg (by decide), Nak, hw0, power_f hb6 (by omega)]
      simp only [Option.bind_some]
      obtain ⟨hw1, hw2, hbnd⟩ := frac_arith (A := Nb0 0 (c :: r)) (B := Nb0 0 b) (P := 10 ^ b.length) (by omega) hp (by rw [Nat.zero_add, Nat.one_mul] at hbl2; exact hbl2)
      have hcnd : Nb0 0 (c :: r) ≤ 1000000000000 ∧ b.length ≤ 6 := ⟨by omega, hb6⟩
      have hmk := make_f (K := K) hbnd hpp hp (by omega)
      rw [if_neg (by decide), hw1, hw2, hmk, if_pos hcnd]
      rfl
   ·rw [if_neg hv2]
    simp only [Option.bind_some]
    rw [if_neg (by decide), Na5.j0, if_pos rfl, if_neg (fun h => by
     have hbl2 := decVal_lt b 0 hdb
     have hp := pow_le6 h.2
     omega)]
    rfl
  ·rw [if_neg hv, if_neg (by omega)]
   rfl
end Go.Proofs.YtejbbceidnaloaaGreatDoor.P
