import Derived.Test.YtejbbceidnaloaaGreatDoorB33
import Derived.Lib.DecodeN
set_option linter.unusedVariables false
set_option linter.unusedSimpArgs false
set_option maxRecDepth 100000
set_option maxHeartbeats 8000000
namespace Go.Proofs.YtejbbceidnaloaaGreatDoor.P
open Go.RowKit AW AL AM
def Cl (c : UInt8) : Prop := c = 41 ∨ c = 44 ∨ c = 32
theorem Cl.run {c : UInt8} (h : Cl c) : digB c.toNat = false ∧ wordB c.toNat = false ∧ c ≠ 46 ∧ c ≠ 34 := by
 rcases h with rfl | rfl | rfl <;> decide
theorem runL_ext (p : Int → Bool) {c : UInt8} (hc : p c.toNat = false) (r : List UInt8) : ∀ l : List UInt8, runL p (l ++ c :: r) = runL p l
 | [] => by
  show (if p c.toNat = true then runL p r + 1 else 0) = 0
  rw [if_neg (by rw [hc]; decide)]
 | x :: l => by
  rw [List.cons_append, runL, runL, runL_ext p hc r l]
theorem numLx_ext {c : UInt8} (hc : Cl c) (r l : List UInt8) : numLx (l ++ c :: r) = numLx l := by
 obtain ⟨h1, _, h3, _⟩ := hc.run
 unfold numLx
 rw [runL_ext digB h1, List.drop_append_of_le_length (Ndw _ _)]
 congr 1
 cases hd : l.drop (runL digB l) with
 | nil => simp only [List.nil_append]; rw [if_neg (fun h => h3 h.1)]
 | cons x q =>
  simp only [List.cons_append]
  rw [runL_ext digB h1]
theorem qend_ext {r : List UInt8} (hr : match r with | [] => True | c :: _ => c ≠ 34) : ∀ (n : Nat) (l : List UInt8) (e : Nat), l.length ≤ n → qend l = some e → qend (l ++ r) = some e
 | _, [], e, _, h => by rw [qend] at h; cases h
 | 0, c :: l, e, hn, h => absurd hn (by simp)
 | n + 1, c :: l, e, hn, h => by
  have hn' : l.length ≤ n := by simpa using hn
  by_cases hc : c = 34
  ·subst hc
   rw [qend.eq_def] at h
   simp only [if_true] at h
   rw [List.cons_append, qend.eq_def]
   simp only [if_true]
   cases l with
   | nil =>
    simp only at h
    cases r with
    | nil => exact h
    | cons x q => simp only [List.nil_append]; rw [if_neg hr]; exact h
   | cons d l =>
    simp only [List.cons_append] at h ⊢
    by_cases hd : d = 34
    ·rw [if_pos hd] at h ⊢
     cases hq : qend l with
     | none => rw [hq] at h; cases h
     | some e' =>
      rw [hq] at h
      rw [qend_ext hr n l e' (by simp at hn'; omega) hq]
      exact h
    ·rw [if_neg hd] at h ⊢
     exact h
  ·rw [qend_ne hc] at h
   rw [List.cons_append, qend_ne hc]
   cases hq : qend l with
   | none => rw [hq] at h; cases h
   | some e' =>
    rw [hq] at h
    rw [qend_ext hr n l e' hn' hq]
    exact h
theorem quotL_ext {x : UInt8} {l r : List UInt8} (hr : match r with | [] => True | c :: _ => c ≠ 34) (h : (quotL (x :: l)).2.2 = 0) : quotL ((x :: l) ++ r) = quotL (x :: l) := by
 unfold quotL at h ⊢
 simp only [List.drop_succ_cons, List.drop_zero, List.cons_append] at h ⊢
 cases hq : qend l with
 | none => rw [hq] at h; exact absurd h (show ¬ (41 : Int) = 0 by decide)
 | some e =>
  have hlt := qend_le _ l e (Nat.le_refl _) hq
  rw [qend_ext hr _ l e (Nat.le_refl _) hq]
  have e1 : (x :: (l ++ r)).take (e + 2) = (x :: l).take (e + 2) := by
   rw [← List.cons_append, List.take_append_of_le_length (by simp; omega)]
  simp only
  rw [e1, List.take_append_of_le_length (by omega)]
theorem prefix_ext {c : UInt8} (r : List UInt8) : ∀ (t l : List UInt8), c ∉ t → t.isPrefixOf (l ++ c :: r) = t.isPrefixOf l
 | [], l, _ => by simp [List.isPrefixOf]
 | a :: t, [], h => by
  have : a ≠ c := fun e => h (by rw [e]; exact List.mem_cons_self ..)
  simp [List.isPrefixOf, this]
 | a :: t, b :: l, h => by
  rw [List.cons_append, List.isPrefixOf, List.isPrefixOf, prefix_ext r t l (fun hh => h (List.mem_cons_of_mem _ hh))]
theorem begins_ext {c : UInt8} (r l : List UInt8) : ∀ L : List (List UInt8), (∀ t ∈ L, c ∉ t) → Na1 (l ++ c :: r) L = Na1 l L
 | [], _ => rfl
 | t :: L, h => by
  rw [Na1, Na1, prefix_ext r t l (h t (List.mem_cons_self ..)), begins_ext r l L (fun t ht => h t (List.mem_cons_of_mem _ ht))]
theorem Cl.lists {c : UInt8} (h : Cl c) : (∀ t ∈ Nb9, c ∉ t) ∧ ∀ t ∈ Nb6, c ∉ t := by
 have h1 : ∀ t ∈ Nb9, (41 : UInt8) ∉ t ∧ (44 : UInt8) ∉ t ∧ (32 : UInt8) ∉ t := by decide
 have h2 : ∀ t ∈ Nb6, (41 : UInt8) ∉ t ∧ (44 : UInt8) ∉ t ∧ (32 : UInt8) ∉ t := by decide
 rcases h with rfl | rfl | rfl
 ·exact ⟨fun t ht => (h1 t ht).1, fun t ht => (h2 t ht).1⟩
 ·exact ⟨fun t ht => (h1 t ht).2.1, fun t ht => (h2 t ht).2.1⟩
 ·exact ⟨fun t ht => (h1 t ht).2.2, fun t ht => (h2 t ht).2.2⟩
theorem next_ext {x c : UInt8} {l r : List UInt8} (hc : Cl c) (h : (nextL (x :: l)).2.2.2 = 0) : nextL ((x :: l) ++ c :: r) = nextL (x :: l) := by
 obtain ⟨h1, h2, h3, h4⟩ := hc.run
 obtain ⟨f1, f2⟩ := hc.lists
 have e1 := numLx_ext hc r (x :: l)
 have e2 := runL_ext wordB h2 r (x :: l)
 have e3 := begins_ext r (x :: l) Nb9 f1
 have e4 := begins_ext r (x :: l) Nb6 f2
 have t1 : ((x :: l) ++ c :: r).take (numLx (x :: l)) = (x :: l).take (numLx (x :: l)) := List.take_append_of_le_length (num_le _)
 have t2 : ((x :: l) ++ c :: r).take (runL wordB (x :: l)) = (x :: l).take (runL wordB (x :: l)) := List.take_append_of_le_length (Ndw _ _)
 rw [List.cons_append] at *
 simp only [nextL] at h ⊢
 by_cases a1 : digB x.toNat = true
 ·rw [if_pos a1, if_pos a1, e1, t1]
 rw [if_neg a1] at h ⊢
 rw [if_neg a1]
 by_cases a2 : x = 34
 ·rw [if_pos a2] at h ⊢
  rw [if_pos a2]
  rw [← List.cons_append, quotL_ext (r := c :: r) h4 h]
 rw [if_neg a2] at h ⊢
 rw [if_neg a2]
 by_cases a3 : letB x.toNat = true ∨ x = 36
 ·rw [if_pos a3, if_pos a3, e2, t2]
 rw [if_neg a3] at h ⊢
 rw [if_neg a3, e3, e4]
def tokUp (d : Nat) (t : S39) : S39 := ⟨t.f0, t.f1, t.f2 + d⟩
theorem scan_up2 : ∀ (n : Nat) (l : List UInt8) (k p : Nat) (d : Nat) (ts : List S39), l.length ≤ n → scanL k p l = .ok ts → scanL k (p + d) l = .ok (ts.map (tokUp d))
 | _, l, 0, p, d, ts, _, h => by
  cases l <;> (rw [scanL] at h ⊢; cases h; rfl)
 | _, [], k + 1, p, d, ts, _, h => by rw [scanL] at h ⊢; cases h; rfl
 | 0, c :: l, k + 1, p, d, ts, hn, h => absurd hn (by simp)
 | n + 1, c :: l, k + 1, p, d, ts, hn, h => by
  have hn' : l.length ≤ n := by simpa using hn
  rw [scanL] at h ⊢
  by_cases hc : c = 32
  ·rw [if_pos hc] at h ⊢
   rw [show p + d + 1 = p + 1 + d by omega]
   exact scan_up2 n l k (p + 1) d ts hn' h
  rw [if_neg hc] at h ⊢
  by_cases h0 : (nextL (c :: l)).2.2.2 = 0
  ·rw [if_pos h0] at h ⊢
   have hl := Neg c l h0
   cases hq : scanL k (p + (nextL (c :: l)).2.2.1) ((c :: l).drop (nextL (c :: l)).2.2.1) with
   | error z => rw [hq] at h; cases h
   | ok us =>
    rw [hq] at h
    cases h
    have := scan_up2 n _ k _ d us (by rw [List.length_drop]; simp only [List.length_cons] at hl hn ⊢; omega) hq
    rw [show p + d + (nextL (c :: l)).2.2.1 = p + (nextL (c :: l)).2.2.1 + d by omega, this]
    simp only [List.map_cons, tokUp]
    congr 3
  ·rw [if_neg h0] at h; cases h
theorem scan_ext {c : UInt8} (hc : Cl c) (r : List UInt8) : ∀ (n : Nat) (l : List UInt8) (k k2 p : Nat) (ts : List S39), l.length ≤ n → l.length ≤ k → (l ++ c :: r).length ≤ k2 → scanL k p l = .ok ts → scanL k2 p (l ++ c :: r) = appT ts (scanL k2 (p + l.length) (c :: r))
 | _, [], k, k2, p, ts, _, _, h2, h => by
  have : ts = [] := by cases k <;> (rw [scanL] at h; cases h; rfl)
  subst this
  rw [appT_nil]; rfl
 | 0, x :: l, k, k2, p, ts, hn, _, _, h => absurd hn (by simp)
 | n + 1, x :: l, k, k2, p, ts, hn, hk, h2, h => by
  have hn' : l.length ≤ n := by simpa using hn
  obtain ⟨k, rfl⟩ : ∃ k', k = k' + 1 := ⟨k - 1, by simp at hk; omega⟩
  obtain ⟨k2, rfl⟩ : ∃ k', k2 = k' + 1 := ⟨k2 - 1, by simp at h2; omega⟩
  have hk' : l.length ≤ k := by simpa using hk
  have h2' : (l ++ c :: r).length ≤ k2 := by simpa using h2
  have up : ∀ q, scanL (k2 + 1) q (c :: r) = scanL k2 q (c :: r) := fun q => scanL_up _ (c :: r) _ _ q (Nat.le_refl _) (by simp at h2' ⊢; omega) (by simp at h2' ⊢; omega)
  rw [List.cons_append, scanL]
  rw [scanL] at h
  by_cases h32 : x = 32
  ·rw [if_pos h32] at h ⊢
   rw [scan_ext hc r n l k k2 (p + 1) ts hn' hk' h2' h, up]
   rw [show p + 1 + l.length = p + (x :: l).length by simp; omega]
  rw [if_neg h32] at h ⊢
  by_cases h0 : (nextL (x :: l)).2.2.2 = 0
  ·rw [if_pos h0] at h
   have hx := next_ext (r := r) hc h0
   rw [List.cons_append] at hx
   rw [hx, if_pos h0]
   have hl := Neg x l h0
   cases hq : scanL k (p + (nextL (x :: l)).2.2.1) ((x :: l).drop (nextL (x :: l)).2.2.1) with
   | error z => rw [hq] at h; cases h
   | ok us =>
    rw [hq] at h
    cases h
    have hd : (x :: (l ++ c :: r)).drop (nextL (x :: l)).2.2.1 = (x :: l).drop (nextL (x :: l)).2.2.1 ++ c :: r := by
     rw [← List.cons_append, List.drop_append_of_le_length hl.2]
    have hlen : ((x :: l).drop (nextL (x :: l)).2.2.1).length = l.length + 1 - (nextL (x :: l)).2.2.1 := by rw [List.length_drop]; simp
    simp only [List.length_cons] at hl
    rw [hd, scan_ext hc r n _ k k2 _ us (by rw [hlen]; omega) (by rw [hlen]; omega) (by rw [List.length_append, hlen]; simp at h2' ⊢; omega) hq, up, hlen]
    rw [show p + (nextL (x :: l)).2.2.1 + (l.length + 1 - (nextL (x :: l)).2.2.1) = p + (x :: l).length by simp; omega]
    cases scanL k2 (p + (x :: l).length) (c :: r) <;> rfl
  ·rw [if_neg h0] at h; cases h
def ky (t : S39) : Tk := (t.f0, t.f1)
theorem ky_up (d : Nat) (ts : List S39) : (ts.map (tokUp d)).map ky = ts.map ky := by rw [List.map_map]; rfl
theorem ky_toks : ∀ (T : List Tk) (p : Nat), (toks p T).map ky = T
 | [], _ => rfl
 | t :: T, p => by rw [toks, List.map_cons, ky_toks T]; rfl
theorem has_ky {B : List Tk} : ∀ (T A : List Tk) (ts : List S39), ts.map ky = A ++ (T ++ B) → Has ts (A.length : Int) T
 | [], A, ts, h => by
  have := congrArg List.length h
  simp at this
  show (A.length : Int) ≤ ts.length
  omega
 | t :: T, A, ts, h => by
  have hl := congrArg List.length h
  simp only [List.length_map, List.length_append, List.length_cons] at hl
  have hA : A.length < ts.length := by omega
  have hg : (ts.map ky)[A.length]? = some t := by rw [h]; simp
  rw [List.getElem?_map, List.getElem?_eq_getElem hA] at hg
  have hk : ky ts[A.length] = t := sI hg
  have ht : tokA ts (A.length : Int) = ts[A.length] := by unfold tokA; simp [List.getD, hA]
  refine ⟨by omega, by rw [ht, ← hk]; rfl, by rw [ht, ← hk]; rfl, ?_⟩
  have := has_ky (B := B) T (A ++ [t]) ts (by rw [h]; simp)
  rw [List.length_append, List.length_singleton] at this
  rw [show ((A.length : Int) + 1) = ((A.length + 1 : Nat) : Int) by omega]
  exact this
theorem Has.get {ts : List S39} : ∀ (T : List Tk) (i : Int) (j : Nat) (z : Tk), Has ts i T → j < T.length → (tokA ts (i + j)).f0 = (T.getD j z).1 ∧ (tokA ts (i + j)).f1 = (T.getD j z).2
 | [], i, j, z, _, hj => absurd hj (by simp)
 | t :: T, i, 0, z, h, _ => by rw [show i + ((0 : Nat) : Int) = i by omega]; exact ⟨h.2.1, h.2.2.1⟩
 | t :: T, i, j + 1, z, h, hj => by
  have := Has.get T (i + 1) j z h.2.2.2 (by simpa using hj)
  rw [show i + ((j + 1 : Nat) : Int) = i + 1 + (j : Int) by omega]
  exact this
theorem ext_ky {ts1 ts : List S39} {d : Nat} {m : ByteArray} {T : List Tk} (h : Has ts (d : Int) (ts1.map ky ++ (5, m) :: T)) (hm : m = mB [41] ∨ m = mB [44]) : Ext (d : Int) ts1 ts := by
 obtain ⟨ha, hb⟩ := Has.app ts h
 rw [List.length_map] at hb
 refine ⟨by omega, by have := hb.1; omega, fun i h0 h1 => ?_, .inr ?_⟩
 ·have := Has.get _ _ i.toNat ((0, eB) : Tk) ha (by rw [List.length_map]; omega)
  have e : (ts1.map ky).getD i.toNat ((0, eB) : Tk) = ky (tokA ts1 i) := by
   have hi : i.toNat < ts1.length := by omega
   unfold tokA
   simp [List.getD, hi]
  rw [e, show (d : Int) + (i.toNat : Int) = i + d by omega] at this
  exact this
 ·rw [show (ts1.length : Int) + d = d + ts1.length by omega, Has.markS ts hb]
  exact hm
theorem bin_of {ts : List S39} {e : Int} {l : List S50} (h : Ncw ts e = .ok l) : binF theO ts e (16 * ts.length + 12) 1 0 = okR (l, (ts.length : Int)) := by
 have hw := wholeX_f ts e
 rw [h] at hw
 unfold Ndi at hw
 obtain ⟨⟨l', a⟩, h1, h2⟩ := Ncx hw
 have hr := Ncf theO ts e (by omega) (by omega) (by omega) (by omega) h1
 simp only at h2
 rw [if_neg (fun hh => by rw [if_pos hh] at h2; cases h2)] at h2
 obtain rfl : l' = l := by cases h2; rfl
 have ha : a = (ts.length : Int) := by
  by_cases hh : a < (ts.length : Int)
  ·have hw' := hw
   rw [Ndd h1] at hw'
   simp only at hw'
   rw [if_pos hh] at hw'
   cases hw'
  ·omega
 rw [h1, ha]
theorem bin_in {ts1 ts : List S39} {e e' : Int} {l : List S50} {d : Nat} {m : ByteArray} {T : List Tk} (h : Ncw ts1 e = .ok l) (hh : Has ts (d : Int) (ts1.map ky ++ (5, m) :: T)) (hm : m = mB [41] ∨ m = mB [44]) :
 binF theO ts e' (16 * ts1.length + 12) 1 (d : Int) = okR (l, (d : Int) + ts1.length) := by
 have := (ext_all theO e (ext_ky hh hm) e' (16 * ts1.length + 12)).1 1 0 (ts1.length : Int) l (by omega) (by omega) (by omega) (by omega) (bin_of h)
 rw [Int.zero_add, Int.add_comm] at this
 exact this
theorem rd_bra {ts : List S39} {e i j : Int} {p : List S50} {K : Nat} (ho : markA ts i = mB [40]) (hc : markA ts j = mB [41]) (g : binF theO ts e K 1 (i + 1) = okR (p, j)) : Rd theO ts e 7 i (j + 1) p := by
 refine Rd.part theO ts e (by rw [ho]; decide) (by rw [ho]; decide) (fun _ => ⟨K + 1, ?_⟩)
 rw [parF, if_pos ho, Ndd g]
 simp only
 rw [if_pos hc]
theorem whole_x {ts : List S39} {e : Int} {t : List S50} {K : Nat} (h : Ndi theO ts e K = some (.ok t)) : Ncw ts e = .ok t := by
 have a := wholeF_le theO ts e (Nat.le_max_left K (16 * ts.length + 12)) h
 have b := wf_up (ts := ts) (e := e) (Nat.le_max_right K (16 * ts.length + 12))
 rw [a] at b
 exact (sI b).symm
theorem end_x {ts : List S39} {e : Int} {t : List S50} {K : Nat} {a : Int} (h : binF theO ts e K 1 0 = okR (t, a)) (ha : a = ts.length) : Ncw ts e = .ok t := by
 refine whole_x (K := K) ?_
 unfold Ndi
 rw [Ndd h]
 simp only
 rw [if_neg (by omega)]; rfl
theorem join_op {ts1 ts2 ts : List S39} {e1 e2 e : Int} {l m : List S50} {o : Int} (h1 : Ncw ts1 e1 = .ok l) (h2 : Ncw ts2 e2 = .ok m) (ho : opOf (signB o) = o) (ho0 : o ≠ 0)
 (h : ts.map ky = mk [40] :: (ts1.map ky ++ mk [41] :: (5, signB o) :: mk [40] :: (ts2.map ky ++ [mk [41]]))) : Ncw ts e = .ok (nBin o :: (l ++ m)) := by
 have H := has_ky (B := []) (ts.map ky) [] ts (by rw [List.nil_append, List.append_nil])
 rw [h] at H
 change Has ts 0 _ at H
 have hlen := congrArg List.length h
 simp only [List.length_map, List.length_cons, List.length_append, List.length_nil] at hlen
 have m0 := Has.mark ts H
 have H1 : Has ts ((1 : Nat) : Int) (ts1.map ky ++ mk [41] :: (5, signB o) :: mk [40] :: (ts2.map ky ++ [mk [41]])) := H.2.2.2
 obtain ⟨-, H2⟩ := Has.app ts H1
 rw [List.length_map] at H2
 have m1 := Has.mark ts H2
 have H3 := H2.2.2.2
 have m2 := Has.markS ts H3
 have H4 := H3.2.2.2
 have m3 := Has.mark ts H4
 have H5 : Has ts ((ts1.length + 4 : Nat) : Int) (ts2.map ky ++ [mk [41]]) := by
  have := H4.2.2.2
  rw [show ((ts1.length + 4 : Nat) : Int) = ((1 : Nat) : Int) + (ts1.length : Int) + 1 + 1 + 1 by omega]
  exact this
 obtain ⟨-, H6⟩ := Has.app ts H5
 rw [List.length_map] at H6
 have m4 := Has.mark ts H6
 have b1 := bin_in (e' := e) h1 H1 (.inl rfl)
 have b2 := bin_in (e' := e) h2 H5 (.inl rfl)
 have R1 := rd_bra (e := e) (i := 0) m0 m1 b1
 have R2 := rd_bra (e := e) (i := ((1 : Nat) : Int) + (ts1.length : Int) + 1 + 1) m3 m4 (by rw [show ((1 : Nat) : Int) + (ts1.length : Int) + 1 + 1 + 1 = ((ts1.length + 4 : Nat) : Int) by omega]; exact b2)
 obtain ⟨t1, t5, bs⟩ := binop_tight ho ho0
 have hend : markA ts (((ts1.length + 4 : Nat) : Int) + (ts2.length : Int) + 1) = eB := markA_end (ts := ts) (by omega)
 have R : Rd theO ts e (Nbu o) 0 (((ts1.length + 4 : Nat) : Int) + (ts2.length : Int) + 1) (nBin o :: (l ++ m)) := by
  intro hs
  refine ⟨by omega, by omega, fun _ _ x hx => ?_⟩
  obtain ⟨K2, g2⟩ := hx
  refine (Rd.down theO ts e R1 t1 (by omega) (by omega) (by rw [m2]; exact bs)).2.2 t1 t5 x ?_
  obtain ⟨K1, g1⟩ := Rd.bin theO ts e (Rd.down theO ts e R2 (least := Nbu o + 1) (by omega) (by omega) (by omega)) (by omega) (by omega) (hs.up (by omega)) (fun h5 h0 => by have := hs.2.2.2.2 (by omega) h0; omega)
  refine ⟨K1 + K2 + 1, ?_⟩
  rw [lopF, m2, ho, if_neg (by omega), Ndd (binF_up theO ts e (by omega) g1)]
  exact lopF_up theO ts e (by omega) g2
 obtain ⟨K, hK⟩ := Rd.bin theO ts e (Rd.down theO ts e R (least := 1) (by omega) t1 (by omega)) (by decide) (by decide) (by rw [hend]; exact ⟨by decide, by decide, by decide, fun _ => by decide, fun _ hh => absurd (by decide) hh⟩) (by rw [hend]; exact fun _ hh => absurd (by decide) hh)
 exact end_x hK (by omega)
theorem read_head {ts : List S39} {e : Int} : ∀ k : Nat, (∀ (least i : Int) (x), binF theO ts e k least i = okR x → markA ts i ≠ mB [41]) ∧ (∀ (i : Int) (x), sgnF theO ts e k i = okR x → markA ts i ≠ mB [41]) ∧ (∀ (i : Int) (x), parF theO ts e k i = okR x → markA ts i ≠ mB [41]) := by
 intro k
 induction k with
 | zero => exact ⟨fun _ _ _ h => (by rw [binF] at h; cases h), fun _ _ h => (by rw [sgnF] at h; cases h), fun _ _ h => (by rw [parF] at h; cases h)⟩
 | succ k ih =>
  obtain ⟨i1, i2, i3⟩ := ih
  refine ⟨fun least i x h => ?_, fun i x h => ?_, fun i x h hm => ?_⟩
  ·rw [binF] at h
   split at h
   ·exact i2 _ _ h
   ·obtain ⟨a, ha, _⟩ := Ncx h
    exact i1 _ _ _ ha
  ·rw [sgnF] at h
   split at h
   ·rename_i hm; rw [hm]; decide
   ·split at h
    ·rename_i hm; rw [hm]; decide
    ·obtain ⟨a, ha, _⟩ := Ncx h
     exact i3 _ _ ha
  ·rw [parF, if_neg (by rw [hm]; decide)] at h
   have hk : i < ts.length ∧ (tokA ts i).f0 = 5 := by
    unfold markA at hm
    by_cases hh : i < ts.length ∧ (tokA ts i).f0 = 5
    ·exact hh
    ·rw [if_neg hh] at hm; exact absurd hm (by decide)
   rw [if_pos hk.1, if_neg (by omega), if_neg (by omega), if_neg (by omega), if_neg (by omega)] at h
   cases h
def tFN : ByteArray := mB [70, 78]
theorem join_fn {ts1 ts2 ts : List S39} {e1 e2 e : Int} {l m : List S50} (h1 : Ncw ts1 e1 = .ok l) (h2 : Ncw ts2 e2 = .ok m)
 (h : ts.map ky = (3, tFN) :: mk [40] :: (ts1.map ky ++ mk [44] :: (ts2.map ky ++ [mk [41]]))) : Ncw ts e = .ok (nCall tFN 2 :: (l ++ m)) := by
 have H := has_ky (B := []) (ts.map ky) [] ts (by rw [List.nil_append, List.append_nil])
 rw [h] at H
 change Has ts 0 _ at H
 have hlen := congrArg List.length h
 simp only [List.length_map, List.length_cons, List.length_append, List.length_nil] at hlen
 have m0 := Has.noMark ts H (by decide)
 have m1 := Has.mark ts H.2.2.2
 have H1 : Has ts ((2 : Nat) : Int) (ts1.map ky ++ mk [44] :: (ts2.map ky ++ [mk [41]])) := H.2.2.2.2.2.2
 obtain ⟨Ha, H2⟩ := Has.app ts H1
 rw [List.length_map] at H2
 have m2 := Has.mark ts H2
 have H5 : Has ts ((ts1.length + 3 : Nat) : Int) (ts2.map ky ++ [mk [41]]) := by
  have := H2.2.2.2
  rw [show ((ts1.length + 3 : Nat) : Int) = ((2 : Nat) : Int) + (ts1.length : Int) + 1 by omega]
  exact this
 obtain ⟨-, H6⟩ := Has.app ts H5
 rw [List.length_map] at H6
 have m4 := Has.mark ts H6
 have b1 := bin_in (e' := e) h1 H1 (.inr rfl)
 have b2 := bin_in (e' := e) h2 H5 (.inl rfl)
 have hn41 := (read_head (ts := ts) (e := e) _).1 _ _ _ b1
 have hc : ∃ K, calF theO ts e K tFN 0 = okR (nCall tFN 2 :: (l ++ m), ((ts1.length + 3 : Nat) : Int) + (ts2.length : Int) + 1) := by
  refine ⟨(16 * ts1.length + 12) + (16 * ts2.length + 12) + 3, ?_⟩
  rw [calF, if_pos (show theO.fn tFN = true by decide), if_neg (by rw [show (0 : Int) + 2 = ((2 : Nat) : Int) by rfl]; exact hn41)]
  rw [argF, show (0 : Int) + 2 = ((2 : Nat) : Int) by rfl, Ndd (binF_up theO ts e (by omega) b1)]
  simp only
  rw [if_pos m2, if_neg (by decide), argF, show ((2 : Nat) : Int) + (ts1.length : Int) + 1 = ((ts1.length + 3 : Nat) : Int) by omega, Ndd (binF_up theO ts e (by omega) b2)]
  simp only
  rw [if_neg (by rw [m4]; decide), if_pos m4]
  rfl
 obtain ⟨K, hK⟩ := hc
 have hend : markA ts (((ts1.length + 3 : Nat) : Int) + (ts2.length : Int) + 1) = eB := markA_end (ts := ts) (by omega)
 have R : Rd theO ts e 7 0 (((ts1.length + 3 : Nat) : Int) + (ts2.length : Int) + 1) (nCall tFN 2 :: (l ++ m)) := by
  refine Rd.part theO ts e (by rw [m0]; decide) (by rw [m0]; decide) (fun _ => ⟨K + 2, ?_⟩)
  rw [parF_word theO ts e (T := mk [40] :: (ts1.map ky ++ mk [44] :: (ts2.map ky ++ [mk [41]]))) H, worF, if_pos m1]
  exact hK
 obtain ⟨K, hK⟩ := Rd.bin theO ts e (Rd.down theO ts e R (least := 1) (by omega) (by omega) (by omega)) (by decide) (by decide) (by rw [hend]; exact ⟨by decide, by decide, by decide, fun _ => by decide, fun _ hh => absurd (by decide) hh⟩) (by rw [hend]; exact fun _ hh => absurd (by decide) hh)
 exact end_x hK (by omega)
theorem parse_inv {s : List UInt8} (h : (Nd6 s).2.1 = 0) : ∃ ts, scanL s.length 0 s = .ok ts ∧ Ncw ts (s.length : Int) = .ok (Nd6 s).1 ∧ chk (Nd6 s).1 = 0 ∧ s.length ≤ 1024 := by
 unfold Nd6 at h ⊢
 by_cases hl : 1024 < s.length
 ·rw [if_pos hl] at h; exact absurd h (show ¬ (2 : Int) = 0 by decide)
 rw [if_neg hl] at h ⊢
 cases hs : scanL s.length 0 s with
 | error z =>
  obtain ⟨c, p⟩ := z
  rw [hs] at h
  exact absurd h (scan_er _ s _ _ c p (Nat.le_refl _) hs)
 | ok ts =>
  rw [hs] at h
  simp only at h ⊢
  cases hw : Ncw ts (s.length : Int) with
  | error z =>
   obtain ⟨c, p⟩ := z
   rw [hw] at h
   have hf := wholeX_f ts (s.length : Int)
   rw [hw] at hf
   have := (whole_er theO ts _ _ c p hf).1
   simp only at h
   omega
  | ok t =>
   rw [hw] at h
   simp only at h ⊢
   by_cases hc : chk t = 0
   ·rw [if_pos hc]
    exact ⟨ts, rfl, hw, hc, by omega⟩
   ·rw [if_neg hc] at h; exact absurd h hc
theorem parse_of {s : List UInt8} {ts : List S39} {t : List S50} (hl : s.length ≤ 1024) (hs : scanL s.length 0 s = .ok ts) (hw : ∀ e, Ncw ts e = .ok t) : Nd6 s = if chk t = 0 then (t, 0, 0) else ([], chk t, 0) := by
 unfold Nd6
 rw [if_neg (by omega), hs]
 simp only
 rw [hw]
def Lk (a : List UInt8) (T : List Tk) (r : List UInt8) : Prop := ∀ p k, (a ++ r).length ≤ k → ∃ us : List S39, us.map ky = T ∧ scanL k p (a ++ r) = appT us (scanL k (p + a.length) r)
theorem Lk.app {a b r : List UInt8} {T U : List Tk} (h1 : Lk a T (b ++ r)) (h2 : Lk b U r) : Lk (a ++ b) (T ++ U) r := by
 intro p k hk
 rw [List.append_assoc] at hk ⊢
 obtain ⟨us, e1, s1⟩ := h1 p k hk
 obtain ⟨vs, e2, s2⟩ := h2 (p + a.length) k (by rw [List.length_append] at hk; omega)
 exact ⟨us ++ vs, by rw [List.map_append, e1, e2], by rw [s1, s2, appT_app, List.length_append, Nat.add_assoc]⟩
theorem Lk.of {T : List Tk} {r : List UInt8} (h : LexTo T r) : Lk (txt T) T r := fun p k hk => ⟨toks p T, ky_toks T p, h p k hk⟩
theorem Lk.seg {s r : List UInt8} {c : UInt8} {ts : List S39} (hs : scanL s.length 0 s = .ok ts) (hc : Cl c) : Lk s (ts.map ky) (c :: r) := by
 intro p k hk
 have hp := scan_up2 _ s s.length 0 p ts (Nat.le_refl _) hs
 rw [Nat.zero_add] at hp
 exact ⟨ts.map (tokUp p), ky_up p ts, scan_ext hc r _ s s.length k p _ (Nat.le_refl _) (Nat.le_refl _) hk hp⟩
theorem Lk.close {a : List UInt8} {T : List Tk} (h : Lk a T []) : ∃ TS, scanL a.length 0 a = .ok TS ∧ TS.map ky = T := by
 obtain ⟨us, e1, s1⟩ := h 0 a.length (by simp)
 rw [List.append_nil] at s1
 have : scanL a.length (0 + a.length) [] = .ok [] := by cases a.length <;> rfl
 rw [this] at s1
 exact ⟨us, by rw [s1]; show Except.ok (us ++ []) = _; rw [List.append_nil], e1⟩
theorem Ne6 {c : UInt8} (h : c ∈ Ncp) (h60 : ¬ (c = 60 ∨ c = 62)) (r : List UInt8) : Lk [c] [mk [c]] r := Lk.of (lex_mark h (fun hh => absurd hh h60))
def joinT (o : Int) (s t : List UInt8) : List UInt8 := [40] ++ (s ++ ([41] ++ ((signB o).data.toList ++ ([40] ++ (t ++ [41])))))
def callT (s t : List UInt8) : List UInt8 := [70, 78] ++ ([40] ++ (s ++ ([44] ++ (t ++ [41]))))
theorem scan_join {o : Int} {s t : List UInt8} {ts1 ts2 : List S39} (h1 : scanL s.length 0 s = .ok ts1) (h2 : scanL t.length 0 t = .ok ts2) :
 ∃ TS, scanL (joinT o s t).length 0 (joinT o s t) = .ok TS ∧ TS.map ky = mk [40] :: (ts1.map ky ++ mk [41] :: (5, signB o) :: mk [40] :: (ts2.map ky ++ [mk [41]])) := by
 have hsg : ∀ r, Lk (signB o).data.toList [(5, signB o)] ([40] ++ r) := fun r => by
  have := Lk.of (sg_ok o ([40] ++ r) (by show (40 : UInt8) ≠ 61 ∧ (40 : UInt8) ≠ 62; decide)).1
  rwa [show txt [((5 : Int), signB o)] = (signB o).data.toList by show (signB o).data.toList ++ [] = _; rw [List.append_nil]] at this
 have key : Lk (joinT o s t) ([mk [40]] ++ (ts1.map ky ++ ([mk [41]] ++ ([(5, signB o)] ++ ([mk [40]] ++ (ts2.map ky ++ [mk [41]])))))) [] := by
  unfold joinT
  refine Lk.app (Ne6 (by decide) (by decide) _) ?_
  refine Lk.app (Lk.seg (c := 41) h1 (.inl rfl)) ?_
  refine Lk.app (Ne6 (by decide) (by decide) _) ?_
  refine Lk.app (by simpa using hsg _) ?_
  refine Lk.app (Ne6 (by decide) (by decide) _) ?_
  refine Lk.app (Lk.seg (c := 41) h2 (.inl rfl)) ?_
  exact Ne6 (by decide) (by decide) _
 exact key.close
theorem scan_call {s t : List UInt8} {ts1 ts2 : List S39} (h1 : scanL s.length 0 s = .ok ts1) (h2 : scanL t.length 0 t = .ok ts2) :
 ∃ TS, scanL (callT s t).length 0 (callT s t) = .ok TS ∧ TS.map ky = (3, tFN) :: mk [40] :: (ts1.map ky ++ mk [44] :: (ts2.map ky ++ [mk [41]])) := by
 have key : Lk (callT s t) ([(3, tFN)] ++ ([mk [40]] ++ (ts1.map ky ++ ([mk [44]] ++ (ts2.map ky ++ [mk [41]]))))) [] := by
  unfold callT
  refine Lk.app (Lk.of (T := [(3, tFN)]) (lex_word (c := 70) (w := [78]) rfl (.inl (by decide)) (by decide) (by show (40 : UInt8) ∈ Ncp; decide))) ?_
  refine Lk.app (Ne6 (by decide) (by decide) _) ?_
  refine Lk.app (Lk.seg (c := 44) h1 (.inr (.inl rfl))) ?_
  refine Lk.app (Ne6 (by decide) (by decide) _) ?_
  refine Lk.app (Lk.seg (c := 41) h2 (.inl rfl)) ?_
  exact Ne6 (by decide) (by decide) _
 exact key.close
theorem chk_join {n : S50} {l m : List S50} {d1 d2 : Nat} (hn : Nbi n = 2) (h1 : Tre l d1) (h2 : Tre m d2) : chk (n :: (l ++ m)) = if 256 < (n :: (l ++ m)).length then 52 else if max d1 d2 ≤ 31 then 0 else 51 := by
 have hT : Tre (n :: (l ++ m)) (max d1 d2 + 1) := by
  have := Tre.node n 2 (l ++ (m ++ [])) _ hn (Frs.cons l (m ++ []) 1 d1 _ h1 (Frs.cons m [] 0 d2 0 h2 Frs.nil))
  rw [List.append_nil, Nat.max_zero] at this
  exact this
 by_cases hl : 256 < (n :: (l ++ m)).length
 ·rw [if_pos hl]
  have : Na2.f 600 (n :: (l ++ m)) = some 52 := by unfold Na2.f; rw [if_pos (by omega)]
  have h := chk_f (n :: (l ++ m))
  rw [this] at h
  exact (sI h).symm
 ·rw [if_neg hl]
  have := check_tre hT (by omega) (K := 600) (Nat.le_refl _)
  have h := chk_f (n :: (l ++ m))
  rw [this] at h
  rw [← sI h]
  by_cases hd : max d1 d2 ≤ 31
  ·rw [if_pos hd, if_pos (by omega)]
  ·rw [if_neg hd, if_neg (by omega)]
section
def ableL : List S50 := [nBin 11, nVal ⟨1, ⟨1, 1⟩, eB, false, 0⟩, nCell ⟨eB, 0, 0, false, false⟩]
theorem able_parse : Nd6 [49, 43, 65, 49] = (ableL, 0, 0) := by kernel_rfl
theorem able_print : printL ableL = ([49, 43, 65, 49], 0) := by kernel_rfl
end
theorem cells_event {P : Program} {ops : Array Oper} {rest : List Oper} {o : Oper} {a : Act} {Q : Exit → Act → World → Prop} {W : World} (hgd : o.guard = none) {t : TypeId} {p : Operand} (ho : o.op = .load t p) {ad : Addr} {cs : List Value} {d : TypeDesc}
 (haddr : a.eval p = .pointer (some ad)) (hc : ∀ (j : Nat) v, cs[j]? = some v → W.cell? (ad.add j) = some v) (hu : P.underlying t = some d) (hd : d.isRow = true) (hi : (P.info? t).map (·.size) = some cs.length)
 (h : wpList P ops Q rest (a.put o.dst (.agg cs.toArray)) W) : wpList P ops Q (o :: rest) a W := by
 refine wpList_plain hgd fun K hKK => ?_
 have hrun := Ndp (P := P) W ad t cs d hc hu hd hi
 unfold Oper.wp execOp
 simp only [ho, haddr, Instr.loadAt, Instr.sureAddr, Sem.run_bind, Sem.run_pure, Result.andThen_ok, hrun]
 exact hKK _ _ h
theorem able5_any (w : World) (hG : GL w) : Calls Tryz.prog 23 #[] w fun e w' => e = .returned (.bool true) ∧ Below w.heap.size w w' := by
 have HP := lh (Naz.calls ⟨#[49, 43, 65, 49]⟩ ableL 0 0 w hG (by unfold Naz.f; exact congrArg some able_parse))
 have HG := lh hG
 have hu50 := Tryz.underlying50
 clear hG
 go_enter Tryz.func23, Tryz.ntmps23
 go_upto_region 2 with (go_at_call 21; (with_reducible refine (HP.out).mono ?_); rintro en w1 ⟨v, rfl, hr, hb⟩; have HB := lh hb; have HR := lh hr; clear hr hb)
 obtain ⟨A, c, rfl, hle, hC⟩ := Kd.R_reads HR.out
 have HPR := lh (Nd3.calls A c ableL ⟨#[49, 43, 65, 49]⟩ 0 w1 (HG.out.below HB.out) hC hle (by unfold Nd3.f; rw [able_print]))
 obtain ⟨ad, c0, rfl, hl0, hk0, hx0⟩ := Kd.C_get hC z50 0 (by decide) (by decide)
 obtain ⟨ad2, c2, e2, hl2, hk2, hx2⟩ := Kd.C_get hC z50 2 (by decide) (by decide)
 cases e2
 obtain rfl := New hk0
 obtain rfl := New hk2
 have HX0 := lh (show ∀ (j : Nat) v, ([.int .i64 5, .int .i64 0, .int .i64 0, .int .i64 0, .string ⟨#[]⟩, .bool false, .int .i64 0, .int .i64 11, .string ⟨#[]⟩, .int .i64 0, .string ⟨#[]⟩, .int .i64 0, .int .i64 0, .bool false, .bool false, .string ⟨#[]⟩, .int .i64 0, .int .i64 0, .bool false, .bool false] : List Value)[j]? = some v → w1.cell? (ad.add j) = some v from fun j v hv => by have := hx0 j v hv; rwa [show Int.toNat 0 * k50.sz + j = j by show 0 * 20 + j = j; omega] at this)
 have HX2 := lh (show w1.cell? (ad.add 40) = some (.int .i64 2) from hx2 0 (.int .i64 2) rfl)
 clear hx0 hx2 hk0 hk2 hl0 hl2 hC hle HR
 rw [show ableL.length = 3 from rfl] at HPR ⊢
 go_upto_region 3 with (go_at_call 26; (with_reducible refine (HPR.out).mono ?_); rintro en w2 ⟨rfl, hb⟩; have HB2 := lh hb; clear hb)
 have HY0 := lh (show ∀ (j : Nat) v, ([.int .i64 5, .int .i64 0, .int .i64 0, .int .i64 0, .string ⟨#[]⟩, .bool false, .int .i64 0, .int .i64 11, .string ⟨#[]⟩, .int .i64 0, .string ⟨#[]⟩, .int .i64 0, .int .i64 0, .bool false, .bool false, .string ⟨#[]⟩, .int .i64 0, .int .i64 0, .bool false, .bool false] : List Value)[j]? = some v → w2.cell? (ad.add j) = some v from fun j v hv => Nab HB2.out (HX0.out j v hv))
 have y2 : w2.cell? ⟨ad.block, ad.off + 40, none⟩ = some (.int .i64 2) := by have := Nab HB2.out HX2.out; simpa [Addr.add] using this
 go_wp2_with (first
  | ((with_reducible refine gD 30 rfl ?_); refine Nck (by kernel_rfl) ?_; refine cells_event rfl (t := 50) (p := .tmp 29) rfl (ad := ad) (cs := [.int .i64 5, .int .i64 0, .int .i64 0, .int .i64 0, .string ⟨#[]⟩, .bool false, .int .i64 0, .int .i64 11, .string ⟨#[]⟩, .int .i64 0, .string ⟨#[]⟩, .int .i64 0, .int .i64 0, .bool false, .bool false, .string ⟨#[]⟩, .int .i64 0, .int .i64 0, .bool false, .bool false]) ?ha HY0.out hu50 rfl ?hi ?_; (case ha => rfl); (case hi => kernel_rfl)))
 go_ret
 exact ⟨rfl, Nac HB.out HB2.out⟩
def able5_g.f : Option Bool := some true
theorem able5_g.calls (r : Bool) (w : World) (hG : GL w) (h : able5_g.f = some r) : Calls Tryz.prog 23 #[] w fun e w' => e = .returned (.bool r) ∧ Below w.heap.size w w' := by
 obtain rfl := sI h
 exact able5_any w hG
theorem neq50 {o : Oper} {a : Act} (x y : S50) (w : World) (ho : o.op = .binOp .neq 50 (.tmp 20) (.tmp 24) 50) (hx : a.eval (.tmp 20) = .agg (cs50 x).toArray) (hy : a.eval (.tmp 24) = .agg (cs50 y).toArray) :
 (execOp a.eval o).run Tryz.prog w = .ok (.value (.bool (!eqS x y))) w := by
 unfold execOp
 simp only [ho, hx, hy, Sem.run_bind, Sem.run_pure]
 rw [run_eqGuard_agg (hm := Tryz.eqGuardType50)]
 simp only [Result.andThen]
 rw [run_neq_struct, eq50V 9996 w x y]
 rfl
theorem same24_any (A1 A2 : Option Addr) (c1 c2 : Nat) (l1 l2 : List S50) (w : World) (hC1 : Kd.C k50 w A1 l1.length l1) (hC2 : Kd.C k50 w A2 l2.length l2) (hl : l1.length ≤ 1000000000000) : Calls Tryz.prog 24 #[.slice A1 l1.length c1, .slice A2 l2.length c2] w fun e w' => e = .returned (.bool (@decide (l1 = l2) (Classical.propDecidable _))) ∧ Below w.heap.size w w' := by
 have HC1 := lh hC1
 have HC2 := lh hC2
 have HL := lh hl
 have hu50 := Tryz.underlying50
 obtain ⟨r, hr⟩ : ∃ r : Bool, r = @decide (l1 = l2) (Classical.propDecidable _) := ⟨_, rfl⟩
 rw [← hr]
 have HR := lh hr
 clear hC1 hC2 hl hr
 by_cases hne : l1.length = l2.length
 ·have HNE := lh hne
  rw [← hne]
  clear hne
  go_enter Tryz.func24, Tryz.ntmps24
  go_wp2_with (fail)
  go_loopw [5] (fun v5 w' => ∃ i : Nat, i ≤ l1.length ∧ v5 = .int .i64 i ∧ Hid (∀ j, j < i → Nda l1 (j : Int) = Nda l2 (j : Int)) ∧ Hid (Below w.heap.size w w')) (fun v5 _ => l1.length - (intOf v5).toNat)
  case atStart => exact ⟨0, Nat.zero_le _, rfl, lh (fun j hj => by omega), lh (Below.refl _ _)⟩
  case round =>
   obtain ⟨i, hi, rfl, HE, HB⟩ := hrel
   by_cases hlt : i < l1.length
   ·obtain ⟨ad1, q1, rfl, hq1, hk1, hx0⟩ := Kd.C_get (Kd.C_below HC1.out HB.out) z50 (i : Int) (by omega) (by omega)
    obtain ⟨ad2, q2, rfl, hq2, hk2, hy0⟩ := Kd.C_get (Kd.C_below HC2.out HB.out) z50 (i : Int) (by omega) (by have := HNE.out; omega)
    obtain rfl := New hk1
    obtain rfl := New hk2
    have HX := lh hx0
    have HY := lh hy0
    obtain ⟨x, hxx⟩ : ∃ x_ : S50, x_ = Nda l1 (i : Int) := ⟨_, rfl⟩
    obtain ⟨y, hyy⟩ : ∃ x_ : S50, x_ = Nda l2 (i : Int) := ⟨_, rfl⟩
    have HXX := lh hxx
    have HYY := lh hyy
    have hx : ∀ (j : Nat) v, (cs50 x)[j]? = some v → wr.cell? ((ad1.add (i * 20)).add j) = some v := fun j v hv => by rw [add_add]; exact HX.out j v (by rw [hxx] at hv; exact hv)
    have hy : ∀ (j : Nat) v, (cs50 y)[j]? = some v → wr.cell? ((ad2.add (i * 20)).add j) = some v := fun j v hv => by rw [add_add]; exact HY.out j v (by rw [hyy] at hv; exact hv)
    clear hx0 hy0 hxx hyy hk1 hk2 hq1 hq2 HX HY
    have HI := lh hi
    have hlen2 : i < l2.length := by have := HNE.out; omega
    go_upto_region 6 with (fail)
    refine sP (n := 9) (S := fun w' => (∀ (j : Nat) v, (cs50 x)[j]? = some v → w'.cell? ((ad1.add (i * 20)).add j) = some v) ∧ ∀ (j : Nat) v, (cs50 y)[j]? = some v → w'.cell? ((ad2.add (i * 20)).add j) = some v) (ds := []) ⟨hx, hy⟩ (fun hHeld => ?_)
    refine pP 0 17 ?_
    refine pP 1 18 ?_
    refine pP 2 19 ?_
    refine pP 4 21 ?_
    refine pP 5 22 ?_
    refine pP 6 23 ?_
    refine tP 3 20 hHeld ?_ (hy := Or.inl ⟨by rfl, by rintro w' ⟨s0, s1⟩; refine Ne8 (t := 50) (p := .tmp 19) (ad := ad1.add (i * 20)) (cs := cs50 x) ?_ ?_ s0 hu50 rfl ?_; rfl; rfl; kernel_rfl⟩)
    refine tP 7 24 hHeld ?_ (hy := Or.inl ⟨by rfl, by rintro w' ⟨s0, s1⟩; refine Ne8 (t := 50) (p := .tmp 23) (ad := ad2.add (i * 20)) (cs := cs50 y) ?_ ?_ s1 hu50 rfl ?_; rfl; rfl; kernel_rfl⟩)
    refine pP 8 25 ?_ (hy := Or.inl ⟨by rfl, by intro w'; refine neq50 x y w' ?_ ?_ ?_; rfl; rfl; rfl⟩)
    refine done_ (by kernel_rfl) ?_
    cases hb : eqS x y with
    | true =>
     have hxy := Neh.1 hb
     have HXY := lh (show Nda l1 (i : Int) = Nda l2 (i : Int) by rw [← HXX.out, ← HYY.out, hxy])
     have hw1 : wrap64 ((i : Int) + 1) = (i : Int) + 1 := wr1 (by omega) (by have := HL.out; omega)
     have HB2 := lh (show Below w.heap.size w wr.drew from HB.out.drew)
     clear hxy hx hy
     go_wp2_with (fail)
     rw [hw1]
     clear hw1
     go_roundw
     case rel => exact ⟨i + 1, Nat.succ_le_of_lt hlt, rfl, lh (fun j hj => by rcases Nat.lt_succ_iff_lt_or_eq.1 hj with h | rfl; exact HE.out j h; exact HXY.out), HB2⟩
     case measure => simp only [intOf]; omega
    | false =>
     have hxy : ¬ x = y := fun h => by rw [Neh.2 h] at hb; cases hb
     have HRF := lh (show r = false by rw [HR.out]; exact @decide_eq_false _ (Classical.propDecidable _) (fun hh => hxy (by rw [HXX.out, HYY.out, hh])))
     have HB2 := lh (show Below w.heap.size w wr.drew from HB.out.drew)
     clear hxy hx hy
     go_wp2_with (fail)
     go_ret
     exact ⟨by rw [HRF.out]; rfl, HB2.out⟩
   ·obtain rfl : i = l1.length := by omega
    have HRT := lh (show r = true by
     rw [HR.out]
     refine @decide_eq_true _ (Classical.propDecidable _) (List.ext_getElem HNE.out fun j h1 h2 => ?_)
     have := HE.out j h1
     unfold Nda at this
     simpa [List.getD, h1, h2] using this)
    clear hi hlt
    go_wp2_with (fail)
    go_ret
    exact ⟨by rw [HRT.out]; rfl, HB.out⟩
 ·have HRF := lh (show r = false by rw [HR.out]; exact @decide_eq_false _ (Classical.propDecidable _) (fun hh => hne (by rw [hh])))
  have hb : ((l1.length : Int) != (l2.length : Int)) = true := by rw [bne_iff_ne]; omega
  clear hne
  go_enter Tryz.func24, Tryz.ntmps24
  go_wp2_with (fail)
  go_ret
  exact ⟨by rw [HRF.out]; rfl, Below.refl _ _⟩
def eqRows : List S50 → List S50 → Bool
 | [], [] => true
 | x :: l, y :: m => eqSB x y && eqRows l m
 | _, _ => false
theorem eqRows_iff : ∀ {l m : List S50}, eqRows l m = true ↔ l = m
 | [], [] => by simp [eqRows]
 | [], y :: m => by simp [eqRows]
 | x :: l, [] => by simp [eqRows]
 | x :: l, y :: m => by
  rw [eqRows, Bool.and_eq_true, eqSB_iff, eqRows_iff]
  simp
theorem eqRows_dec (l m : List S50) : eqRows l m = @decide (l = m) (Classical.propDecidable _) := by
 rw [Bool.eq_iff_iff, eqRows_iff]
 exact (@decide_eq_true_iff _ (Classical.propDecidable _)).symm
def Ndy.f (l0 : List (S50)) (l1 : List (S50)) : Option Bool := if l0.length ≤ 1000000000000 then some (eqRows l0 l1) else none
theorem Ndy.calls (A0 : Option Addr) (c0 : Nat) (l0 : List (S50)) (A1 : Option Addr) (c1 : Nat) (l1 : List (S50)) (r : Bool) (w : World) (hr0 : Kd.C k50 w A0 l0.length l0) (hc0 : l0.length ≤ c0) (hr1 : Kd.C k50 w A1 l1.length l1) (hc1 : l1.length ≤ c1) (h : Ndy.f l0 l1 = some r) :
 Calls Tryz.prog 24 #[.slice A0 l0.length c0, .slice A1 l1.length c1] w fun e w' => e = .returned (.bool r) ∧ Below w.heap.size w w' := by
 unfold Ndy.f at h
 split at h
 ·rename_i hl
  obtain rfl := sI h
  rw [eqRows_dec]
  exact same24_any A0 A1 c0 c1 l0 l1 w hr0 hr1 hl
 ·cases h
end Go.Proofs.YtejbbceidnaloaaGreatDoor.P
