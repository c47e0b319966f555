import Derived.Test.YtejbbceidnaloaaGreatDoorB30
set_option linter.unusedVariables false
set_option linter.unusedSimpArgs false
set_option maxRecDepth 100000
set_option maxHeartbeats 8000000
namespace Go.Proofs.YtejbbceidnaloaaGreatDoor.P
open Go.RowKit AW AL AM
def qend : List UInt8 → Option Nat
 | [] => none
 | c :: r => if c = 34 then (match r with | [] => some 0 | d :: r' => if d = 34 then (qend r').map (· + 2) else some 0) else (qend r).map (· + 1)
def badAt : List UInt8 → Option Nat
 | [] => none
 | c :: r => if c.toNat < 32 ∨ 126 < c.toNat then some 0 else (badAt r).map (· + 1)
def undblL (l : List UInt8) : List UInt8 := Lib.replaceAll l [34, 34] [34]
theorem lb_ext {a b : ByteArray} (h : a.data.toList = b.data.toList) : a = b := ByteArray.ext (Array.toList_inj.1 h)
theorem ext_list (l : List UInt8) (a b : Nat) : (⟨l.toArray⟩ : ByteArray).extract a b = ⟨((l.drop a).take (b - a)).toArray⟩ := by
 apply lb_ext
 rw [ByteArray.data_extract, Array.toList_extract, List.extract_eq_take_drop]
theorem ext_drop (l : List UInt8) (a : Nat) : (⟨l.toArray⟩ : ByteArray).extract a (⟨l.toArray⟩ : ByteArray).size = ⟨(l.drop a).toArray⟩ := by
 apply lb_ext
 rw [drop_list]
theorem ext_take (l : List UInt8) (b : Nat) : (⟨l.toArray⟩ : ByteArray).extract 0 b = ⟨(l.take b).toArray⟩ := by
 rw [ext_list]; simp
theorem bt_list (l : List UInt8) (i : Nat) (h : i < l.length) : bt ⟨l.toArray⟩ (i : Int) = (l[i].toNat : Int) := by
 rw [bt_nat _ i (by rw [Nal]; exact h)]
theorem bt_cons (c : UInt8) (r : List UInt8) : bt ⟨(c :: r).toArray⟩ 0 = (c.toNat : Int) := bt0 c r
theorem byte_eq {c : UInt8} {n : Nat} (hn : n < 256) : c.toNat = n ↔ c = UInt8.ofNat n := by
 constructor
 ·intro h; rw [← h, UInt8.ofNat_toNat]
 ·rintro rfl; exact nat8 hn
theorem qend_ne {c : UInt8} {r : List UInt8} (h : c ≠ 34) : qend (c :: r) = (qend r).map (· + 1) := by
 rw [qend.eq_def]
 simp only [if_neg h]
theorem ixb_none : ∀ (l : List UInt8), Lib.indexByte l 34 = -1 → qend l = none
 | [], _ => rfl
 | c :: r, h => by
  unfold Lib.indexByte at h
  by_cases hc : c = 34
  ·rw [if_pos (by rw [beq_iff_eq]; exact hc)] at h; cases h
  ·rw [if_neg (by rw [beq_iff_eq]; exact hc)] at h
   have hg := Lib.indexByte_ge r 34
   have : Lib.indexByte r 34 = -1 := by
    by_cases hh : Lib.indexByte r 34 = -1
    ·exact hh
    ·rw [if_neg (by rw [beq_iff_eq]; exact hh)] at h; omega
   rw [qend_ne hc, ixb_none r this]; rfl
theorem ixb_some : ∀ (l : List UInt8) (k : Nat), Lib.indexByte l 34 = (k : Int) → k < l.length ∧ qend l = (match l.drop (k + 1) with | [] => some k | d :: r' => if d = 34 then (qend r').map (· + (k + 2)) else some k)
 | [], k, h => by
  rw [show Lib.indexByte [] 34 = -1 from rfl] at h; omega
 | c :: r, k, h => by
  unfold Lib.indexByte at h
  by_cases hc : c = 34
  ·rw [if_pos (by rw [beq_iff_eq]; exact hc)] at h
   obtain rfl : k = 0 := by omega
   refine ⟨by simp, ?_⟩
   rw [qend.eq_def]
   simp only [if_pos hc, List.drop_succ_cons, List.drop_zero]
  ·rw [if_neg (by rw [beq_iff_eq]; exact hc)] at h
   have hg := Lib.indexByte_ge r 34
   have hne : Lib.indexByte r 34 ≠ -1 := by
    intro hh
    rw [if_pos (by rw [beq_iff_eq]; exact hh)] at h; omega
   rw [if_neg (by rw [beq_iff_eq]; exact hne)] at h
   obtain ⟨j, rfl⟩ : ∃ j, k = j + 1 := ⟨k - 1, by omega⟩
   obtain ⟨h1, h2⟩ := ixb_some r j (by omega)
   refine ⟨by simp; omega, ?_⟩
   rw [qend_ne hc, h2, List.drop_succ_cons]
   cases r.drop (j + 1) with
   | nil => rfl
   | cons d r' =>
    simp only
    by_cases hd : d = 34
    ·rw [if_pos hd, if_pos hd, Option.map_map]
     congr 1
    ·rw [if_neg hd, if_neg hd]; rfl
theorem qend_le : ∀ (n : Nat) (l : List UInt8) (e : Nat), l.length ≤ n → qend l = some e → e < l.length
 | 0, l, e, hn, h => by
  obtain rfl := List.eq_nil_of_length_eq_zero (Nat.le_zero.1 hn)
  cases h
 | n + 1, [], e, hn, h => by cases h
 | n + 1, c :: r, e, hn, h => by
  rw [qend.eq_def] at h
  simp only at h
  split at h
  ·cases r with
   | nil => cases h; simp
   | cons d r' =>
    simp only at h
    split at h
    ·obtain ⟨e', h1, rfl⟩ := Option.map_eq_some_iff.1 h
     have := qend_le n r' e' (by simp at hn; omega) h1
     simp; omega
    ·cases h; simp
  ·obtain ⟨e', h1, rfl⟩ := Option.map_eq_some_iff.1 h
   have := qend_le n r e' (by simp at hn; omega) h1
   simp; omega
def quotL (l : List UInt8) : List UInt8 × Nat × Int :=
 match qend (l.drop 1) with
 | none => ([], 0, 41)
 | some e => match badAt (l.take (e + 2)) with
  | some i => ([], i, 40)
  | none => (undblL ((l.drop 1).take e), e + 2, 0)
theorem wr_nat {n : Nat} (h : n ≤ 1000000000000) : wrap64 (n : Int) = (n : Int) := by unfold wrap64; omega
theorem quot_l1 (l : List UInt8) (hl : l.length ≤ 100000) (E : Nat) (h2 : 2 ≤ E) (hE : E ≤ l.length) : ∀ (d i K : Nat), E - i = d → i ≤ E → d < K →
 Nak.l1 K ⟨l.toArray⟩ (E : Int) (E : Int) (i : Int) = some (match badAt ((l.take E).drop i) with | some b => (⟨#[]⟩, ((i + b : Nat) : Int), 40) | none => (⟨(undblL ((l.drop 1).take (E - 2))).toArray⟩, (E : Int), 0)) := by
 intro d
 induction d with
 | zero =>
  intro i K hd hi hK
  obtain ⟨K, rfl⟩ : ∃ y, K = y + 1 := ⟨K - 1, by omega⟩
  obtain rfl : i = E := by omega
  have w1 : wrap64 ((i : Int) - 1) = ((i - 1 : Nat) : Int) := by unfold wrap64; omega
  rw [Nak.l1, if_neg (by omega), w1, if_pos (by omega), if_pos (by rw [Nal]; omega)]
  have hr : Nav.f ((⟨l.toArray⟩ : ByteArray).extract 1 ((i - 1 : Nat) : Int).toNat) ⟨#[34, 34]⟩ ⟨#[34]⟩ = some ⟨(undblL ((l.drop 1).take (i - 2))).toArray⟩ := by
   rw [Int.toNat_natCast, ext_list, show i - 1 - 1 = i - 2 by omega]
   unfold Nav.f
   have hc := Lib.countB_le ⟨#[34, 34]⟩ (by decide) _ (⟨((l.drop 1).take (i - 2)).toArray⟩ : ByteArray) (Nat.le_refl _)
   have e1 : (⟨#[34]⟩ : ByteArray).size = 1 := rfl
   have hz : ((l.drop 1).take (i - 2)).length ≤ 100000 := by rw [List.length_take, List.length_drop]; omega
   rw [Nal] at hc
   rw [if_pos ⟨by rw [Nal]; omega, by decide, by rw [e1, Nal]; omega⟩]
   rfl
  rw [hr]
  have : (l.take i).drop i = [] := List.drop_eq_nil_of_le (by rw [List.length_take]; omega)
  rw [this]; rfl
 | succ d ih =>
  intro i K hd hi hK
  obtain ⟨K, rfl⟩ : ∃ y, K = y + 1 := ⟨K - 1, by omega⟩
  have hil : i < l.length := by omega
  have hcons : (l.take E).drop i = l[i] :: (l.take E).drop (i + 1) := by
   rw [List.drop_eq_getElem_cons (by rw [List.length_take]; omega)]
   simp
  have hb := bt_list l i hil
  rw [Nak.l1, if_pos (by omega), if_pos (by omega), if_pos (by rw [Nal]; omega), hb, hcons, badAt]
  by_cases h1 : l[i].toNat < 32
  ·rw [if_pos (by omega), if_pos (.inl h1)]; rfl
  rw [if_neg (by omega)]
  by_cases h3 : 126 < l[i].toNat
  ·rw [if_pos (by omega), if_pos (.inr h3)]; rfl
  rw [if_neg (by omega), if_neg (by omega), wr1 (by omega) (by omega), show ((i : Int) + 1) = ((i + 1 : Nat) : Int) by omega, ih (i + 1) K (by omega) (by omega) (by omega)]
  cases badAt ((l.take E).drop (i + 1)) with
  | none => rfl
  | some b => simp only [Option.map_some]; rw [show i + 1 + b = i + (b + 1) by omega]
theorem quot_l0 (l : List UInt8) (hl : l.length ≤ 100000) : ∀ (d j K : Nat), l.length - j = d → 1 ≤ j → j ≤ l.length → d + l.length + 5 ≤ K →
 Nak.l0 K ⟨l.toArray⟩ (j : Int) = some (match qend (l.drop j) with
  | none => (⟨#[]⟩, 0, 41)
  | some e => match badAt (l.take (j + e + 1)) with
   | some i => (⟨#[]⟩, (i : Int), 40)
   | none => (⟨(undblL ((l.drop 1).take (j + e - 1))).toArray⟩, ((j + e + 1 : Nat) : Int), 0)) := by
 intro d
 induction d using Nat.strongRecOn with
 | _ d ih =>
  intro j K hd h1 hj hK
  obtain ⟨K, rfl⟩ : ∃ y, K = y + 1 := ⟨K - 1, by omega⟩
  have hx : strings_IndexByte.f ((⟨l.toArray⟩ : ByteArray).extract (j : Int).toNat (⟨l.toArray⟩ : ByteArray).size) 34 = some (Lib.indexByte (l.drop j) 34) := by
   rw [Int.toNat_natCast, ext_drop]; rfl
  rw [Nak.l0, if_pos (by omega), if_pos (by rw [Nal]; omega), hx]
  simp only [Option.bind_some]
  have hge := Lib.indexByte_ge (l.drop j) 34
  by_cases hn : Lib.indexByte (l.drop j) 34 < 0
  ·rw [if_pos hn, ixb_none _ (by omega)]
  ·obtain ⟨k, hk⟩ : ∃ k : Nat, Lib.indexByte (l.drop j) 34 = (k : Int) := ⟨(Lib.indexByte (l.drop j) 34).toNat, by omega⟩
   obtain ⟨hkl, hq⟩ := ixb_some _ k hk
   rw [List.length_drop] at hkl
   have w0 : wrap64 ((j : Int) + wrap64 ((k : Int) + 1)) = ((j + k + 1 : Nat) : Int) := by
    rw [wr1 (by omega) (by omega)]; unfold wrap64; omega
   rw [if_neg hn, hk, w0, Nal, hq, List.drop_drop]
   have hj1 : ∀ K', l.length + 3 ≤ K' → Nak.j1 K' ⟨l.toArray⟩ ((j + k + 1 : Nat) : Int) = some (match badAt (l.take (j + k + 1)) with | some i => (⟨#[]⟩, (i : Int), 40) | none => (⟨(undblL ((l.drop 1).take (j + k - 1))).toArray⟩, ((j + k + 1 : Nat) : Int), 0)) := by
    intro K' hK'
    obtain ⟨K', rfl⟩ : ∃ y, K' = y + 1 := ⟨K' - 1, by omega⟩
    have := quot_l1 l hl (j + k + 1) (by omega) (by omega) (j + k + 1) 0 K' (by omega) (by omega) (by omega)
    rw [List.drop_zero, show j + k + 1 - 2 = j + k - 1 by omega] at this
    simp only [Nat.zero_add] at this
    rw [Nak.j1]
    exact this
   by_cases he : (((j + k + 1 : Nat) : Int)) = (l.length : Int)
   ·rw [if_pos he, hj1 K (by omega), show j + (k + 1) = j + k + 1 by omega, List.drop_eq_nil_of_le (show l.length ≤ j + k + 1 by omega)]
   ·rw [if_neg he, if_pos (by omega), if_pos (by omega)]
    have hil : j + k + 1 < l.length := by omega
    have hb := bt_list l (j + k + 1) hil
    rw [hb, show j + (k + 1) = j + k + 1 by omega, List.drop_eq_getElem_cons hil]
    simp only
    by_cases h34 : l[j + k + 1] = 34
    ·have h34' : ((l[j + k + 1].toNat : Nat) : Int) = 34 := by rw [h34]; rfl
     rw [if_pos h34', if_pos h34, wr1 (by omega) (by omega), show (((j + k + 1 : Nat) : Int) + 1) = ((j + k + 2 : Nat) : Int) by omega, ih (l.length - (j + k + 2)) (by omega) (j + k + 2) K rfl (by omega) (by omega) (by omega)]
     rw [show j + k + 1 + 1 = j + k + 2 by omega]
     cases qend (l.drop (j + k + 2)) with
     | none => rfl
     | some e =>
      simp only [Option.map_some]
      rw [show j + k + 2 + e + 1 = j + (e + (k + 2)) + 1 by omega, show j + k + 2 + e - 1 = j + (e + (k + 2)) - 1 by omega]
    ·have h34' : ¬ ((l[j + k + 1].toNat : Nat) : Int) = 34 := by
      intro hh
      exact h34 ((byte_eq (n := 34) (by decide)).1 (by omega))
     rw [if_neg h34', if_neg h34, hj1 K (by omega)]
theorem quot_f (r : List UInt8) (hl : r.length < 100000) {K : Nat} (hK : 2 * (r.length + 1) + 10 ≤ K) : Nak.f K ⟨(34 :: r).toArray⟩ = some (⟨(quotL (34 :: r)).1.toArray⟩, ((quotL (34 :: r)).2.1 : Int), (quotL (34 :: r)).2.2) := by
 unfold Nak.f quotL
 have := quot_l0 (34 :: r) (by simp; omega) r.length 1 K (by simp) (by omega) (by simp) (by simp; omega)
 rw [show (1 : Int) = ((1 : Nat) : Int) from rfl, this]
 cases qend ((34 :: r).drop 1) with
 | none => rfl
 | some e =>
  simp only
  rw [show 1 + e + 1 = e + 2 by omega, show 1 + e - 1 = e by omega]
  cases badAt ((34 :: r).take (e + 2)) with
  | none => rfl
  | some i => rfl
def Na1 (l : List UInt8) : List (List UInt8) → List UInt8
 | [] => []
 | t :: ts => if t.isPrefixOf l then t else Na1 l ts
def Nb9 : List (List UInt8) := Nbx.map fun b => b.data.toList
def Nb6 : List (List UInt8) := Nej.map fun b => b.data.toList
def Ncp : List UInt8 := [43, 45, 42, 47, 94, 38, 37, 40, 41, 44, 58, 33, 61, 60, 62]
def numLx (l : List UInt8) : Nat :=
 runL digB l + (match l.drop (runL digB l) with | [] => 0 | c :: r => if c = 46 ∧ 0 < runL digB r then 1 + runL digB r else 0)
def nextL : List UInt8 → Int × List UInt8 × Nat × Int
 | [] => (0, [], 0, 40)
 | c :: r =>
  if digB c.toNat = true then (1, (c :: r).take (numLx (c :: r)), numLx (c :: r), 0)
  else if c = 34 then (2, quotL (c :: r))
  else if letB c.toNat = true ∨ c = 36 then (3, (c :: r).take (runL wordB (c :: r)), runL wordB (c :: r), 0)
  else if c = 35 then (if Na1 (c :: r) Nb9 = [] then (0, [], 0, 40) else (4, Na1 (c :: r) Nb9, (Na1 (c :: r) Nb9).length, 0))
  else if Na1 (c :: r) Nb6 ≠ [] then (5, Na1 (c :: r) Nb6, (Na1 (c :: r) Nb6).length, 0)
  else if Ncp.contains c then (5, [c], 1, 0) else (0, [], 0, 40)
theorem prefix_f (l m : List UInt8) (hl : l.length ≤ 100000) : strings_HasPrefix.f ⟨l.toArray⟩ ⟨m.toArray⟩ = some (m.isPrefixOf l) := by
 unfold strings_HasPrefix.f stringslite_HasPrefix.f
 rw [Nal, Nal]
 by_cases h : (m.length : Int) ≤ (l.length : Int)
 ·rw [if_pos h, if_pos (by omega), if_pos h, Int.toNat_natCast, ext_take]
  simp only [Option.bind_some]
  congr 1
  rw [ByteArray.toList_eq, ByteArray.toList_eq]
  show (l.take m.length == m) = m.isPrefixOf l
  rw [Bool.eq_iff_iff, beq_iff_eq, List.isPrefixOf_iff_prefix, List.prefix_iff_eq_take]
  exact eq_comm
 ·rw [if_neg h]
  simp only [Option.bind_some]
  congr 1
  rw [eq_comm, Bool.eq_false_iff]
  intro hp
  have := (List.isPrefixOf_iff_prefix.1 hp).length_le
  omega
theorem begins_l0 (l : List UInt8) (hl : l.length ≤ 100000) (L : List ByteArray) (hL : L.length ≤ 1000) : ∀ (d i K : Nat), L.length - i = d → i ≤ L.length → d < K →
 Nba.l0 K ⟨l.toArray⟩ L (L.length : Int) (i : Int) = some ⟨(Na1 l ((L.drop i).map fun b => b.data.toList)).toArray⟩ := by
 intro d
 induction d with
 | zero =>
  intro i K hd hi hK
  obtain ⟨K, rfl⟩ : ∃ y, K = y + 1 := ⟨K - 1, by omega⟩
  rw [Nba.l0, if_neg (by omega), List.drop_eq_nil_of_le (by omega)]; rfl
 | succ d ih =>
  intro i K hd hi hK
  obtain ⟨K, rfl⟩ : ∃ y, K = y + 1 := ⟨K - 1, by omega⟩
  have hil : i < L.length := by omega
  have hr : rdOf ByteArray.empty L (i : Int) = ⟨(L[i].data.toList).toArray⟩ := by
   unfold rdOf
   simp [List.getD, hil]
  rw [Nba.l0, if_pos (by omega), if_pos (by omega), if_pos (by omega), hr, prefix_f _ _ hl, List.drop_eq_getElem_cons hil, List.map_cons, Na1]
  simp only [Option.bind_some]
  by_cases hp : (L[i].data.toList).isPrefixOf l = true
  ·rw [if_pos hp, if_pos hp]
  ·rw [if_neg hp, if_neg hp, wr1 (by omega) (by omega), show ((i : Int) + 1) = ((i + 1 : Nat) : Int) by omega]
   exact ih (i + 1) K (by omega) (by omega) (by omega)
theorem begins_f (l : List UInt8) (hl : l.length ≤ 100000) (L : List ByteArray) (hL : L.length ≤ 8) : Nba.f 12 ⟨l.toArray⟩ L = some ⟨(Na1 l (L.map fun b => b.data.toList)).toArray⟩ := by
 have := begins_l0 l hl L (by omega) L.length 0 12 rfl (by omega) (by omega)
 rw [List.drop_zero] at this
 exact this
theorem Ndt (l : List UInt8) : ∀ L : List (List UInt8), ∃ r, l = Na1 l L ++ r
 | [] => ⟨l, rfl⟩
 | t :: ts => by
  rw [Na1]
  split
  ·rename_i h
   obtain ⟨r, hr⟩ := List.isPrefixOf_iff_prefix.1 h
   exact ⟨r, hr.symm⟩
  ·exact Ndt l ts
theorem begins_mem (l : List UInt8) : ∀ L : List (List UInt8), Na1 l L ≠ [] → Na1 l L ∈ L
 | [], h => absurd rfl h
 | t :: ts, h => by
  rw [Na1] at h ⊢
  split
  ·exact List.mem_cons_self ..
  ·rename_i hp
   rw [if_neg hp] at h
   exact List.mem_cons_of_mem _ (begins_mem l ts h)
theorem num_list (l : List UInt8) : numN ⟨l.toArray⟩ = numLx l := by
 unfold numN numLx runN
 have e0 : (⟨l.toArray⟩ : ByteArray).data.toList = l := by simp
 rw [e0, ext_drop, Nal]
 have hle := Ndw digB l
 have e1 : (⟨(l.drop (runL digB l + 1)).toArray⟩ : ByteArray).data.toList = l.drop (runL digB l + 1) := by simp
 rw [e1]
 by_cases h : runL digB l < l.length
 ·rw [List.drop_eq_getElem_cons h]
  simp only
  have hb := bt_list l _ h
  rw [hb]
  by_cases h46 : l[runL digB l] = 46
  ·have h46' : ((l[runL digB l].toNat : Nat) : Int) = 46 := by rw [h46]; rfl
   by_cases hr : 0 < runL digB (l.drop (runL digB l + 1))
   ·rw [if_pos ⟨h, h46', hr⟩, if_pos ⟨h46, hr⟩]; omega
   ·rw [if_neg (fun hh => hr hh.2.2), if_neg (fun hh => hr hh.2)]; rfl
  ·have h46' : ¬ ((l[runL digB l].toNat : Nat) : Int) = 46 := fun hh => h46 ((byte_eq (n := 46) (by decide)).1 (by omega))
   rw [if_neg (fun hh => h46' hh.2.1), if_neg (fun hh => h46 hh.1)]; rfl
 ·rw [if_neg (fun hh => h hh.1), List.drop_eq_nil_of_le (by omega)]; rfl
theorem num_le (l : List UInt8) : numLx l ≤ l.length := by
 unfold numLx
 have hle := Ndw digB l
 split
 ·omega
 ·rename_i c r h
  have hl := congrArg List.length h
  rw [List.length_drop, List.length_cons] at hl
  have := Ndw digB r
  by_cases h46 : c = 46 ∧ 0 < runL digB r
  ·rw [if_pos h46]; omega
  ·rw [if_neg h46]; omega
theorem num_pos {c : UInt8} {r : List UInt8} (h : digB c.toNat = true) : 1 ≤ numLx (c :: r) := by
 unfold numLx
 have : 1 ≤ runL digB (c :: r) := by rw [runL, if_pos h]; omega
 omega
theorem word_pos {c : UInt8} {r : List UInt8} (h : letB c.toNat = true ∨ c = 36) : 1 ≤ runL wordB (c :: r) := by
 rw [runL, if_pos (by
  unfold wordB
  rcases h with h | h
  ·rw [h]; rfl
  ·rw [h]; decide)]
 omega
def asNext (x : Int × List UInt8 × Nat × Int) : Int × ByteArray × Int × Int × Int := (x.1, ⟨x.2.1.toArray⟩, 0, (x.2.2.1 : Int), x.2.2.2)
theorem nx_list (l : List UInt8) (kd : Int) (n : Nat) : nxF ⟨l.toArray⟩ kd n = asNext (if n = 0 then (0, [], 0, 40) else (kd, l.take n, n, 0)) := by
 unfold nxF
 split
 ·rfl
 ·rw [ext_take]; rfl
theorem singles_ix (c : UInt8) : (0 ≤ Lib.indexByte Ncp c) ↔ Ncp.contains c = true := by
 have h : ∀ l : List UInt8, (0 ≤ Lib.indexByte l c) ↔ l.contains c = true := by
  intro l
  induction l with
  | nil => simp [Lib.indexByte]
  | cons b l ih =>
   unfold Lib.indexByte
   by_cases hb : (b == c) = true
   ·rw [if_pos hb]
    simp only [List.contains_cons]
    rw [beq_iff_eq] at hb
    simp [hb]
   ·rw [if_neg hb]
    have hg := Lib.indexByte_ge l c
    rw [List.contains_cons]
    have hb' : (c == b) = false := by rw [beq_eq_false_iff_ne]; intro hh; exact hb (by rw [beq_iff_eq, hh])
    rw [hb', Bool.false_or, ← ih]
    split
    ·rename_i he
     rw [beq_iff_eq] at he
     omega
    ·rename_i he
     rw [beq_iff_eq] at he
     omega
 exact h Ncp
theorem next_f (c : UInt8) (r : List UInt8) (hl : r.length < 100000) : Nc4.f ⟨(c :: r).toArray⟩ = some (asNext (nextL (c :: r))) := by
 unfold Nc4.f
 have hb := bt_cons c r
 rw [Nal, if_pos ⟨by simp, by simp; omega⟩, hb, nextL]
 have e0 : (⟨(c :: r).toArray⟩ : ByteArray).data.toList = c :: r := by simp
 have cB : ∀ n : Nat, n < 256 → (((c.toNat : Nat) : Int) = (n : Int) ↔ c = UInt8.ofNat n) := fun n hn => ⟨fun h => (byte_eq hn).1 (by omega), fun h => by have := (byte_eq hn).2 h; omega⟩
 have i34 : ((c.toNat : Nat) : Int) = 34 ↔ c = 34 := cB 34 (by decide)
 have i35 : ((c.toNat : Nat) : Int) = 35 ↔ c = 35 := cB 35 (by decide)
 have i36 : ((c.toNat : Nat) : Int) = 36 ↔ c = 36 := cB 36 (by decide)
 by_cases hd : digB ((c.toNat : Nat) : Int) = true
 ·rw [if_pos hd, if_pos hd, num_list, if_pos (num_le _), nx_list, if_neg (by have := num_pos (r := r) hd; omega)]
 rw [if_neg hd, if_neg hd]
 by_cases h34 : c = 34
 ·subst h34
  rw [if_pos (by rfl), if_pos rfl, quot_f r hl (by simp)]; rfl
 rw [if_neg (fun hh => h34 (i34.1 hh)), if_neg h34]
 have hrun : runN wordB ⟨(c :: r).toArray⟩ = runL wordB (c :: r) := by unfold runN; rw [e0]
 by_cases hlt : letB ((c.toNat : Nat) : Int) = true
 ·rw [if_pos hlt, if_pos (.inl hlt), hrun, nx_list, if_neg (by have := word_pos (r := r) (.inl hlt); omega)]
 rw [if_neg hlt]
 by_cases h36 : c = 36
 ·rw [if_pos (by rw [h36]; rfl), if_pos (.inr h36), hrun, nx_list, if_neg (by have := word_pos (r := r) (.inr h36); omega)]
 rw [if_neg (fun hh => h36 (i36.1 hh)), if_neg (show ¬ (letB ((c.toNat : Nat) : Int) = true ∨ c = 36) from fun hh => hh.elim hlt h36)]
 by_cases h35 : c = 35
 ·rw [if_pos (by rw [h35]; rfl), if_pos h35, begins_f _ (by simp; omega) Nbx (by decide)]
  simp only [Option.bind_some]
  show (if (⟨(Na1 (c :: r) Nb9).toArray⟩ : ByteArray).size ≤ (c :: r).length then some (nxF ⟨(c :: r).toArray⟩ 4 (⟨(Na1 (c :: r) Nb9).toArray⟩ : ByteArray).size) else none) = _
  obtain ⟨q, hq⟩ := Ndt (c :: r) Nb9
  have hle : (Na1 (c :: r) Nb9).length ≤ (c :: r).length := by rw [congrArg List.length hq, List.length_append]; omega
  rw [Nal, if_pos hle, nx_list]
  have ht : (c :: r).take (Na1 (c :: r) Nb9).length = Na1 (c :: r) Nb9 := by
   generalize Na1 (c :: r) Nb9 = b at *
   rw [hq, List.take_left]
  rw [ht]
  by_cases he : Na1 (c :: r) Nb9 = []
  ·rw [if_pos he, he]; rfl
  ·rw [if_neg he, if_neg (fun hh => he (List.eq_nil_of_length_eq_zero hh))]
 rw [if_neg (fun hh => h35 (i35.1 hh)), if_neg h35, begins_f _ (by simp; omega) Nej (by decide)]
 simp only [Option.bind_some]
 show (if (⟨(Na1 (c :: r) Nb6).toArray⟩ : ByteArray).size = 0 then some (nxF ⟨(c :: r).toArray⟩ 5 (if 0 ≤ markI ⟨(c :: r).toArray⟩ then 1 else 0)) else if (⟨(Na1 (c :: r) Nb6).toArray⟩ : ByteArray).size ≤ (c :: r).length then some (nxF ⟨(c :: r).toArray⟩ 5 (⟨(Na1 (c :: r) Nb6).toArray⟩ : ByteArray).size) else none) = _
 obtain ⟨q, hq⟩ := Ndt (c :: r) Nb6
 have hle : (Na1 (c :: r) Nb6).length ≤ (c :: r).length := by rw [congrArg List.length hq, List.length_append]; omega
 have ht : (c :: r).take (Na1 (c :: r) Nb6).length = Na1 (c :: r) Nb6 := by
  generalize Na1 (c :: r) Nb6 = b at *
  rw [hq, List.take_left]
 rw [Nal, nx_list, nx_list, ht]
 by_cases he : Na1 (c :: r) Nb6 = []
 ·have hne : ¬ (Na1 (c :: r) Nb6 ≠ []) := fun hh => hh he
  rw [if_pos (by rw [he]; rfl)]
  have hm : markI ⟨(c :: r).toArray⟩ = Lib.indexByte Ncp c := by
   unfold markI
   rw [hb, Int.toNat_natCast]
   show Lib.indexByte Ncp c.toNat.toUInt8 = _
   congr 1
   exact UInt8.ofNat_toNat
  rw [hm]
  by_cases hs : Ncp.contains c = true
  ·rw [if_pos ((singles_ix c).2 hs), if_neg hne, if_pos hs]; rfl
  ·rw [if_neg (fun hh => hs ((singles_ix c).1 hh)), if_neg hne, if_neg hs]; rfl
 ·rw [if_neg (fun hh => he (List.eq_nil_of_length_eq_zero hh)), if_pos hle, if_pos he, if_neg (fun hh => he (List.eq_nil_of_length_eq_zero hh))]
def scanL : Nat → Nat → List UInt8 → Except (Int × Int) (List S39)
 | 0, _, _ => .ok []
 | _ + 1, _, [] => .ok []
 | k + 1, p, c :: r => if c = 32 then scanL k (p + 1) r
  else if (nextL (c :: r)).2.2.2 = 0 then
   (match scanL k (p + (nextL (c :: r)).2.2.1) ((c :: r).drop (nextL (c :: r)).2.2.1) with
   | .ok ts => .ok (⟨(nextL (c :: r)).1, ⟨(nextL (c :: r)).2.1.toArray⟩, (p : Int)⟩ :: ts)
   | .error e => .error e)
  else .error ((nextL (c :: r)).2.2.2, ((p + (nextL (c :: r)).2.2.1 : Nat) : Int))
theorem quot_len (l : List UInt8) (h : (quotL l).2.2 = 0) : 1 ≤ (quotL l).2.1 ∧ (quotL l).2.1 ≤ l.length := by
 unfold quotL at h ⊢
 cases hq : qend (l.drop 1) with
 | none => rw [hq] at h; exact absurd h (show ¬ (41 : Int) = 0 by decide)
 | some e =>
  rw [hq] at h
  simp only at h ⊢
  have := qend_le _ _ e (Nat.le_refl _) hq
  rw [List.length_drop] at this
  cases hb : badAt (l.take (e + 2)) with
  | some i => rw [hb] at h; exact absurd h (by show ¬ (40 : Int) = 0; decide)
  | none => simp only; omega
theorem badAt_le : ∀ (l : List UInt8) (i : Nat), badAt l = some i → i < l.length
 | [], i, h => by cases h
 | c :: r, i, h => by
  rw [badAt] at h
  split at h
  ·cases h; simp
  ·obtain ⟨j, hj, rfl⟩ := Option.map_eq_some_iff.1 h
   have := badAt_le r j hj
   simp; omega
theorem quot_le (l : List UInt8) : (quotL l).2.1 ≤ l.length + 1 := by
 unfold quotL
 cases hq : qend (l.drop 1) with
 | none => simp
 | some e =>
  simp only
  have := qend_le _ _ e (Nat.le_refl _) hq
  rw [List.length_drop] at this
  cases hb : badAt (l.take (e + 2)) with
  | some i =>
   have := badAt_le _ _ hb
   rw [List.length_take] at this
   simp only; omega
  | none => simp only; omega
theorem Neg (c : UInt8) (r : List UInt8) (h : (nextL (c :: r)).2.2.2 = 0) : 1 ≤ (nextL (c :: r)).2.2.1 ∧ (nextL (c :: r)).2.2.1 ≤ (c :: r).length := by
 rw [nextL] at h ⊢
 split
 ·rename_i hd
  exact ⟨num_pos hd, num_le _⟩
 ·rename_i hd
  rw [if_neg hd] at h
  split
  ·rename_i h34
   rw [if_pos h34] at h
   exact quot_len _ h
  ·rename_i h34
   rw [if_neg h34] at h
   split
   ·rename_i hl
    exact ⟨word_pos hl, Ndw _ _⟩
   ·rename_i hl
    rw [if_neg hl] at h
    have hpre : ∀ L, Na1 (c :: r) L ≠ [] → 1 ≤ (Na1 (c :: r) L).length ∧ (Na1 (c :: r) L).length ≤ (c :: r).length := by
     intro L hL
     obtain ⟨q, hq⟩ := Ndt (c :: r) L
     have := congrArg List.length hq
     rw [List.length_append] at this
     exact ⟨List.length_pos_iff.2 hL, by omega⟩
    split
    ·rename_i h35
     rw [if_pos h35] at h
     split
     ·rename_i he
      rw [if_pos he] at h
      exact absurd h (by show ¬ (40 : Int) = 0; decide)
     ·rename_i he
      exact hpre _ he
    ·rename_i h35
     rw [if_neg h35] at h
     split
     ·rename_i he
      exact hpre _ he
     ·rename_i he
      rw [if_neg he] at h
      split
      ·simp
      ·rename_i hs
       rw [if_neg hs] at h
       exact absurd h (by show ¬ (40 : Int) = 0; decide)
theorem next_le (c : UInt8) (r : List UInt8) : (nextL (c :: r)).2.2.1 ≤ (c :: r).length + 1 := by
 by_cases h : (nextL (c :: r)).2.2.2 = 0
 ·have := Neg c r h; omega
 ·rw [nextL] at h ⊢
  split
  ·have := num_le (c :: r); show numLx (c :: r) ≤ _; omega
  ·split
   ·exact quot_le _
   ·split
    ·have := Ndw wordB (c :: r); show runL wordB (c :: r) ≤ _; omega
    ·have hpre : ∀ L, (Na1 (c :: r) L).length ≤ (c :: r).length := by
      intro L
      obtain ⟨q, hq⟩ := Ndt (c :: r) L
      have := congrArg List.length hq
      rw [List.length_append] at this
      omega
     split
     ·split
      ·simp
      ·have := hpre Nb9; simp only; omega
     ·split
      ·have := hpre Nb6; simp only; omega
      ·split <;> simp
theorem scanL_up : ∀ (n : Nat) (l : List UInt8) (k k' p : Nat), l.length ≤ n → l.length ≤ k → l.length ≤ k' → scanL k p l = scanL k' p l
 | _, [], k, k', p, _, _, _ => by
  have h : ∀ k, scanL k p [] = .ok [] := fun k => by cases k <;> rfl
  rw [h, h]
 | 0, c :: r, k, k', p, h, _, _ => by simp at h
 | n + 1, c :: r, k, k', p, h, h1, h2 => by
  obtain ⟨k, rfl⟩ : ∃ y, k = y + 1 := ⟨k - 1, by simp at h1; omega⟩
  obtain ⟨k', rfl⟩ : ∃ y, k' = y + 1 := ⟨k' - 1, by simp at h2; omega⟩
  simp only [List.length_cons] at h h1 h2
  rw [scanL, scanL]
  by_cases hc : c = 32
  ·rw [if_pos hc, if_pos hc]
   exact scanL_up n r k k' _ (by omega) (by omega) (by omega)
  ·rw [if_neg hc, if_neg hc]
   by_cases h0 : (nextL (c :: r)).2.2.2 = 0
   ·have hn := Neg c r h0
    rw [if_pos h0, if_pos h0]
    rw [scanL_up n ((c :: r).drop (nextL (c :: r)).2.2.1) k k' _ (by rw [List.length_drop, List.length_cons]; omega) (by rw [List.length_drop, List.length_cons]; omega) (by rw [List.length_drop, List.length_cons]; omega)]
   ·rw [if_neg h0, if_neg h0]
theorem ext_drop_n (l : List UInt8) (a : Nat) : (⟨l.toArray⟩ : ByteArray).extract ((a : Nat) : Int).toNat l.length = ⟨(l.drop a).toArray⟩ := by
 rw [Int.toNat_natCast, ← Nal l, ext_drop]
def asScan (acc : List S39) : Except (Int × Int) (List S39) → List S39 × Int × Int
 | .ok ts => (acc ++ ts, 0, 0)
 | .error (c, p) => ([], c, p)
theorem scan_l0 (l : List UInt8) (hl : l.length ≤ 1024) : ∀ (d i K : Nat) (acc : List S39), l.length - i = d → i ≤ l.length → acc.length ≤ i → d < K →
 Nbd.l0 K ⟨l.toArray⟩ acc (i : Int) = some (asScan acc (scanL d i (l.drop i))) := by
 intro d
 induction d using Nat.strongRecOn with
 | _ d ih =>
  intro i K acc hd hi ha hK
  obtain ⟨K, rfl⟩ : ∃ y, K = y + 1 := ⟨K - 1, by omega⟩
  rw [Nbd.l0, Nal]
  by_cases hil : i < l.length
  ·have hx := List.drop_eq_getElem_cons hil
   have hb := bt_list l i hil
   obtain ⟨d, rfl⟩ : ∃ y, d = y + 1 := ⟨d - 1, by omega⟩
   rw [if_pos (by omega), if_pos (by omega), hb, hx, scanL]
   by_cases h32 : l[i] = 32
   ·have h32' : ((l[i].toNat : Nat) : Int) = 32 := by rw [h32]; rfl
    rw [if_pos h32', if_pos h32, wr1 (by omega) (by omega), show ((i : Int) + 1) = ((i + 1 : Nat) : Int) by omega]
    exact ih d (by omega) (i + 1) K acc (by omega) (by omega) (by omega) (by omega)
   ·have h32' : ¬ ((l[i].toNat : Nat) : Int) = 32 := fun hh => h32 ((byte_eq (n := 32) (by decide)).1 (by omega))
    rw [if_neg h32', if_neg h32, if_pos (by omega), ext_drop_n, hx, next_f _ _ (by rw [List.length_drop]; omega)]
    simp only [Option.bind_some]
    have hlen : (l[i] :: l.drop (i + 1)).length = d + 1 := by rw [← hx, List.length_drop]; omega
    have hnl := next_le l[i] (l.drop (i + 1))
    rw [hlen] at hnl
    have hn := Neg l[i] (l.drop (i + 1))
    rw [hlen] at hn
    have hdr : ∀ n, l.drop (i + n) = (l[i] :: l.drop (i + 1)).drop n := fun n => by rw [← hx, List.drop_drop]
    clear hb h32 h32' hx
    generalize nextL (l[i] :: l.drop (i + 1)) = x at *
    generalize l[i] :: l.drop (i + 1) = y at *
    obtain ⟨x1, x2, n, e⟩ := x
    show (if e = 0 then (if acc.length < 4398046511104 then Nbd.l0 K ⟨l.toArray⟩ (acc ++ [⟨x1, ⟨x2.toArray⟩, (i : Int)⟩]) (wrap64 ((i : Int) + ((n : Nat) : Int))) else none) else some ([], e, wrap64 ((i : Int) + ((n : Nat) : Int)))) = some (asScan acc (if e = 0 then (match scanL d (i + n) (y.drop n) with | .ok ts => .ok (⟨x1, ⟨x2.toArray⟩, (i : Int)⟩ :: ts) | .error e => .error e) else .error (e, ((i + n : Nat) : Int))))
    simp only at hn hnl
    have hw : wrap64 ((i : Int) + ((n : Nat) : Int)) = ((i + n : Nat) : Int) := by unfold wrap64; omega
    rw [hw]
    by_cases h0 : e = 0
    ·have hn := hn h0
     have hac : acc.length < 4398046511104 := Nat.lt_of_le_of_lt ha (Nat.lt_of_le_of_lt (Nat.le_of_lt hil) (Nat.lt_of_le_of_lt hl (by decide)))
     rw [if_pos h0, if_pos h0, if_pos hac]
     rw [ih (l.length - (i + n)) (by omega) (i + n) K _ rfl (by omega) (by rw [List.length_append, List.length_singleton]; omega) (by omega)]
     rw [hdr n, scanL_up (d + 1) _ (l.length - (i + n)) d _ (by rw [List.length_drop, hlen]; omega) (by rw [List.length_drop, hlen]; omega) (by rw [List.length_drop, hlen]; omega)]
     cases scanL d (i + n) (y.drop n) with
     | ok ts => simp [asScan]
     | error e => rfl
    ·rw [if_neg h0, if_neg h0]
     simp only [asScan]
  ·rw [if_neg (by omega), List.drop_eq_nil_of_le (by omega)]
   have h : scanL d i [] = .ok [] := by cases d <;> rfl
   rw [h]; simp [asScan]
theorem scan_f (l : List UInt8) {K : Nat} (hK : l.length < K) : Nbd.f K ⟨l.toArray⟩ = some (if 1024 < l.length then ([], 2, 0) else asScan [] (scanL l.length 0 l)) := by
 unfold Nbd.f
 rw [Nal]
 by_cases h : 1024 < l.length
 ·rw [if_pos (by omega), if_pos h]
 ·rw [if_neg (by omega), if_neg h]
  have := scan_l0 l (by omega) l.length 0 K [] rfl (by omega) (by simp) hK
  rw [List.drop_zero] at this
  exact this
end Go.Proofs.YtejbbceidnaloaaGreatDoor.P
