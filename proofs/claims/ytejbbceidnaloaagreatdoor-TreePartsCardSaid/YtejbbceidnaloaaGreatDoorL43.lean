import Derived.Lib.DecodeN
import Derived.Test.YtejbbceidnaloaaGreatDoorL42
namespace Go.Proofs.YtejbbceidnaloaaGreatDoor.P
open Go.RowKit Go.Proofs.YtejbbceidnaloaaGreatDoorW.PrintWords Go.Proofs.YtejbbceidnaloaaGreatDoorW.PrintLast Go.Proofs.YtejbbceidnaloaaGreatDoorW.PrintMore
set_option linter.unusedVariables false
set_option linter.unusedSimpArgs false
theorem over_all (l : List S50) (hl : l.length ≤ 100000000) : ∀ (m : Nat),
    (∀ (p q : List S50) (d i K : Nat), Tre p d → p.length ≤ m → l.drop i = p ++ q → 2 * p.length + 1 ≤ K → tree_over.f K l (i : Int) = some (((i + p.length : Nat) : Int), (d : Int))) ∧
    (∀ (c : Nat) (p q : List S50) (e i K dn dp : Nat) (z : Int), Frs c p e → p.length ≤ m → l.drop i = p ++ q → i ≤ l.length → 2 * p.length + 2 ≤ K → z = ((dn + c : Nat) : Int) → z ≤ 100 → dp ≤ 100000000 → tree_over.l0 K l (i : Int) (dp : Int) z (dn : Int) = some (((i + p.length : Nat) : Int), ((max dp e + 1 : Nat) : Int))) := by
  intro m
  induction m with
  | zero =>
    refine ⟨?_, ?_⟩
    · intro p q d i K h hp
      have := h.pos
      omega
    · intro c p q e i K dn dp z h hp hd hi hK hz hz1 hdp
      obtain ⟨K, rfl⟩ : ∃ K', K = K' + 1 := ⟨K - 1, by omega⟩
      cases h with
      | nil =>
        rw [tree_over.l0, if_neg (by omega), wr1 (by omega) (by omega)]
        simp
      | cons p q c d e h1 h2 =>
        have := h1.pos
        simp only [List.length_append] at hp
        omega
  | succ m ih =>
    obtain ⟨ih1, ih2⟩ := ih
    have hf : ∀ (p q : List S50) (d i K : Nat), Tre p d → p.length ≤ m + 1 → l.drop i = p ++ q → 2 * p.length + 1 ≤ K → tree_over.f K l (i : Int) = some (((i + p.length : Nat) : Int), (d : Int)) := by
      intro p q d i K h hp hd hK
      obtain ⟨K, rfl⟩ : ∃ K', K = K' + 1 := ⟨K - 1, by omega⟩
      cases h with
      | node n c p d h1 h2 =>
        obtain ⟨hi, hn, hd2⟩ := getD_drop (q := q) (l := l) (n := n) (p := p ++ q) (by rw [hd]; rfl)
        simp only [List.length_cons] at hp hK
        have hc := parts_le n
        rw [tree_over.f, if_neg (by omega), if_pos (by omega), if_pos (by omega), hn]
        show (if partsS n < 0 then some ((-1 : Int), (0 : Int)) else _) = _
        rw [if_neg (by omega), wr1 (by omega) (by omega)]
        have h3 := ih2 c p q d (i + 1) K 0 0 (partsS n) h2 (by omega) hd2 (by omega) (by omega) (by omega) (by omega) (by omega)
        rw [show ((i : Int) + 1) = ((i + 1 : Nat) : Int) by omega]
        refine h3.trans ?_
        simp only [List.length_cons, Nat.zero_max]
        rw [show i + 1 + p.length = i + (p.length + 1) by omega]
    refine ⟨hf, ?_⟩
    intro c p q e i K dn dp z h hp hd hi hK hz hz1 hdp
    obtain ⟨K, rfl⟩ : ∃ K', K = K' + 1 := ⟨K - 1, by omega⟩
    cases h with
    | nil =>
      rw [tree_over.l0, if_neg (by omega), wr1 (by omega) (by omega)]
      simp
    | cons p q2 c d e h1 h2 =>
      have hp1 := h1.pos
      simp only [List.length_append] at hp hK
      rw [tree_over.l0, if_pos (by omega), hf p (q2 ++ q) d i K h1 (by omega) (by rw [hd, List.append_assoc]) (by omega)]
      show (if ((i + p.length : Nat) : Int) < 0 then some ((-1 : Int), (0 : Int)) else _) = _
      rw [if_neg (by omega), mxN, wr1 (by omega) (by omega)]
      have hd2 : l.drop (i + p.length) = q2 ++ q := by rw [← List.drop_drop, hd, List.append_assoc, List.drop_left]
      have hle : i + p.length ≤ l.length := by
        have := congrArg List.length hd
        simp only [List.length_drop, List.length_append] at this
        omega
      have h3 := ih2 c q2 q e (i + p.length) K (dn + 1) (max dp d) z h2 (by omega) hd2 hle (by omega) (by omega) hz1 (by omega)
      rw [show ((dn : Int) + 1) = ((dn + 1 : Nat) : Int) by omega]
      refine h3.trans ?_
      simp only [List.length_append]
      rw [show i + p.length + q2.length = i + (p.length + q2.length) by omega, Nat.max_assoc]
theorem check_tre {l : List S50} {d : Nat} (h : Tre l d) (hl : l.length ≤ 256) {K : Nat} (hK : 600 ≤ K) : tree_Check.f K l = some (if d ≤ 32 then 0 else 51) := by
  unfold tree_Check.f
  rw [if_neg (by omega)]
  have h1 := (over_all l (by omega) 256).1 l [] d 0 K h hl (by rw [List.drop_zero, List.append_nil]) (by omega)
  rw [show ((0 : Nat) : Int) = 0 from rfl] at h1
  rw [h1]
  show (if ((0 + l.length : Nat) : Int) = (l.length : Int) then (if (d : Int) > 32 then some (51 : Int) else some 0) else some 53) = _
  rw [if_pos (by omega)]
  by_cases hd : d ≤ 32
  · rw [if_pos hd, if_neg (by omega)]
  · rw [if_neg hd, if_pos (by omega)]
theorem quot_at (c : UInt8) (r : List UInt8) (h : (quotL (c :: r)).2.2 ≠ 0) : (quotL (c :: r)).2.1 ≤ (c :: r).length := by
 unfold quotL at h ⊢
 cases hq : qend ((c :: r).drop 1) with
 | none => simp
 | some e =>
  rw [hq] at h
  simp only at h ⊢
  cases hb : badAt ((c :: r).take (e + 2)) with
  | some i =>
   have := badAt_le _ _ hb
   rw [List.length_take] at this
   simp only; omega
  | none => rw [hb] at h; exact absurd rfl h
theorem next_at (c : UInt8) (r : List UInt8) (h : (nextL (c :: r)).2.2.2 ≠ 0) : (nextL (c :: r)).2.2.1 ≤ (c :: r).length := by
 rw [nextL] at h ⊢
 split
 ·exact num_le _
 rename_i hd
 rw [if_neg hd] at h
 split
 ·rename_i h34
  rw [if_pos h34] at h
  exact quot_at c r h
 ·split
  ·exact runL_le _ _
  ·have hpre : ∀ L, (beginsL (c :: r) L).length ≤ (c :: r).length := by
    intro L
    obtain ⟨q, hq⟩ := begins_pre (c :: r) L
    have := congrArg List.length hq
    rw [List.length_append] at this
    omega
   split
   ·split
    ·simp
    ·exact hpre _
   ·split
    ·exact hpre _
    ·split <;> simp
theorem scan_at : ∀ (n : Nat) (l : List UInt8) (k p : Nat) (c q : Int), l.length ≤ n → scanL k p l = .error (c, q) → (p : Int) ≤ q ∧ q ≤ ((p + l.length : Nat) : Int)
 | n, l, 0, p, c, q, hn, h => by cases h
 | n, [], k + 1, p, c, q, hn, h => by cases h
 | 0, d :: r, k + 1, p, c, q, hn, h => by simp at hn
 | n + 1, d :: r, k + 1, p, c, q, hn, h => by
  simp only [List.length_cons] at hn
  rw [scanL] at h
  split at h
  ·have := scan_at n r k (p + 1) c q (by omega) h
   rw [List.length_cons]; omega
  ·split at h
   ·rename_i h0
    have hl := next_len d r h0
    split at h
    ·cases h
    ·rename_i e he
     cases h
     have := scan_at n _ k _ c q (by rw [List.length_drop, List.length_cons]; omega) he
     rw [List.length_drop] at this
     omega
   ·rename_i h0
    have := next_at d r h0
    cases h
    omega
theorem toks_at : ∀ (n : Nat) (l : List UInt8) (k p : Nat) (ts : List S39), l.length ≤ n → scanL k p l = .ok ts → ∀ t ∈ ts, (p : Int) ≤ t.f2 ∧ t.f2 ≤ ((p + l.length : Nat) : Int)
 | n, l, 0, p, ts, hn, h => by cases h; intro t ht; cases ht
 | n, [], k + 1, p, ts, hn, h => by cases h; intro t ht; cases ht
 | 0, c :: r, k + 1, p, ts, hn, h => by simp at hn
 | n + 1, c :: r, k + 1, p, ts, hn, h => by
  simp only [List.length_cons] at hn
  rw [scanL] at h
  split at h
  ·intro t ht
   have := toks_at n r k (p + 1) ts (by omega) h t ht
   rw [List.length_cons]; omega
  ·split at h
   ·rename_i h0
    have hl := next_len c r h0
    split at h
    ·rename_i us hu
     cases h
     intro t ht
     rcases List.mem_cons.1 ht with rfl | ht
     ·show (p : Int) ≤ (p : Int) ∧ (p : Int) ≤ _
      omega
     ·have := toks_at n _ k _ us (by rw [List.length_drop, List.length_cons]; omega) hu t ht
      rw [List.length_drop] at this
      omega
    ·cases h
   ·cases h
theorem fail_at {ts : List S39} {n : Nat} (h : ∀ t ∈ ts, (0 : Int) ≤ t.f2 ∧ t.f2 ≤ (n : Int)) (i : Int) : 0 ≤ failAt ts (n : Int) i ∧ failAt ts (n : Int) i ≤ n := by
 unfold failAt
 split
 ·rcases tokA_mem (ts := ts) i with e | e
  ·rw [e]
   show (0 : Int) ≤ 0 ∧ (0 : Int) ≤ n
   omega
  ·exact h _ e
 ·omega
theorem parse_cases (l : List UInt8) : ((parseL l).2.1 = 0 ∧ (parseL l).2.2 = 0 ∧ chk (parseL l).1 = 0) ∨ ((parseL l).2.1 ≠ 0 ∧ (parseL l).1 = [] ∧ 0 ≤ (parseL l).2.2 ∧ (parseL l).2.2 ≤ l.length) := by
 unfold parseL
 by_cases hl : 1024 < l.length
 ·rw [if_pos hl]
  exact .inr ⟨by decide, rfl, by show (0 : Int) ≤ 0; omega, by show (0 : Int) ≤ _; omega⟩
 rw [if_neg hl]
 cases hsc : scanL l.length 0 l with
 | error q =>
  obtain ⟨c, p⟩ := q
  have h1 := scan_er _ l _ _ c p (Nat.le_refl _) hsc
  have h2 := scan_at _ l _ _ c p (Nat.le_refl _) hsc
  rw [Nat.zero_add] at h2
  exact .inr ⟨h1, rfl, h2.1, h2.2⟩
 | ok ts =>
  simp only
  have ht := toks_at _ l _ _ ts (Nat.le_refl _) hsc
  rw [Nat.zero_add] at ht
  cases hw : wholeX ts (l.length : Int) with
  | error q =>
   obtain ⟨c, p⟩ := q
   have hf := wholeX_f ts (l.length : Int)
   rw [hw] at hf
   obtain ⟨hc, i, hi⟩ := whole_er theO ts _ _ c p hf
   have hp := fail_at (n := l.length) ht i
   rw [← hi] at hp
   exact .inr ⟨by show c ≠ 0; omega, rfl, hp.1, hp.2⟩
  | ok t =>
   simp only
   by_cases hc : chk t = 0
   ·rw [if_pos hc]
    exact .inl ⟨rfl, rfl, hc⟩
   ·rw [if_neg hc]
    exact .inr ⟨hc, rfl, by show (0 : Int) ≤ 0; omega, by show (0 : Int) ≤ _; omega⟩
theorem Tre.sub {p : List S50} {d : Nat} (h : Tre p d) : ∀ i, i < p.length → ∃ (n : S50) (c : Nat) (ps q : List S50) (e : Nat), p.drop i = n :: (ps ++ q) ∧ partsS n = (c : Int) ∧ Frs c ps e ∧ e + 1 ≤ d := by
 induction h using Tre.rec (motive_2 := fun c p d _ => ∀ i, i < p.length → ∃ (n : S50) (c' : Nat) (ps q : List S50) (e : Nat), p.drop i = n :: (ps ++ q) ∧ partsS n = (c' : Int) ∧ Frs c' ps e ∧ e + 1 ≤ d) with
 | node n c p d h1 h2 ih =>
  intro i hi
  cases i with
  | zero => exact ⟨n, c, p, [], d, by simp, h1, h2, Nat.le_refl _⟩
  | succ i =>
   obtain ⟨n', c', ps, q, e, h3, h4, h5, h6⟩ := ih i (by simp only [List.length_cons] at hi; omega)
   exact ⟨n', c', ps, q, e, by rw [List.drop_succ_cons, h3], h4, h5, by omega⟩
 | nil => rename_i hi; simp at hi
 | cons p q c d e h1 h2 i1 i2 =>
  rename_i i hi
  by_cases hp : i < p.length
  ·obtain ⟨n', c', ps, r, e', h3, h4, h5, h6⟩ := i1 i hp
   refine ⟨n', c', ps, r ++ q, e', ?_, h4, h5, by omega⟩
   rw [List.drop_append_of_le_length (by omega), h3, List.cons_append, List.append_assoc]
  ·obtain ⟨n', c', ps, r, e', h3, h4, h5, h6⟩ := i2 (i - p.length) (by simp only [List.length_append] at hi; omega)
   refine ⟨n', c', ps, r, e', ?_, h4, h5, by omega⟩
   rw [show i = p.length + (i - p.length) by omega, ← List.drop_drop, List.drop_left]
   exact h3
inductive Ksl (l : List S50) (e : Nat) : Nat → List Int → Prop
 | nil (i : Nat) : Ksl l e i []
 | cons (i : Nat) (p : List S50) (d : Nat) (ks : List Int) : Tre p d → d ≤ e → (l.drop i).take p.length = p → i + p.length ≤ l.length → Ksl l e (i + p.length) ks → Ksl l e i ((i : Int) :: ks)
theorem kids_all (l : List S50) (hl : l.length ≤ 256) : ∀ (c : Nat) (p q : List S50) (e i K dn : Nat) (acc : List Int) (z : Int), Frs c p e → l.drop i = p ++ q → i ≤ l.length → 2 * p.length + 2 * c + 2 ≤ K → z = ((dn + c : Nat) : Int) → z ≤ 100 → acc.length = dn →
 ∃ ks, tree_Kids.l0 K l acc (i : Int) z (dn : Int) = some (acc ++ ks) ∧ Ksl l e i ks ∧ ks.length = c := by
 intro c
 induction c with
 | zero =>
  intro p q e i K dn acc z h hd hi hK hz hz1 ha
  obtain ⟨K, rfl⟩ : ∃ K', K = K' + 1 := ⟨K - 1, by omega⟩
  refine ⟨[], ?_, .nil i, rfl⟩
  rw [tree_Kids.l0, if_neg (by omega), List.append_nil]
 | succ c ih =>
  intro p q e i K dn acc z h hd hi hK hz hz1 ha
  obtain ⟨K, rfl⟩ : ∃ K', K = K' + 1 := ⟨K - 1, by omega⟩
  cases h with
  | cons p q2 c d e h1 h2 =>
   simp only [List.length_append] at hK
   have hlen := congrArg List.length hd
   simp only [List.length_drop, List.length_append] at hlen
   have hpos := h1.pos
   have ho := (over_all l (by omega) p.length).1 p (q2 ++ q) d i K h1 (Nat.le_refl _) (by rw [hd, List.append_assoc]) (by omega)
   have hd2 : l.drop (i + p.length) = q2 ++ q := by rw [← List.drop_drop, hd, List.append_assoc, List.drop_left]
   obtain ⟨ks, hk1, hk2, hk3⟩ := ih q2 q e (i + p.length) K (dn + 1) (acc ++ [(i : Int)]) z h2 hd2 (by omega) (by omega) (by omega) hz1 (by simp [ha])
   refine ⟨(i : Int) :: ks, ?_, .cons i p d ks h1 (Nat.le_max_left _ _) (by rw [hd, List.append_assoc, List.take_left]) (by omega) ?_, by simp [hk3]⟩
   ·rw [tree_Kids.l0, if_pos (by omega), if_pos (by omega), ho]
    show tree_Kids.l0 K l (acc ++ [(i : Int)]) ((i + p.length : Nat) : Int) z (wrap64 ((dn : Int) + 1)) = _
    rw [wr1 (by omega) (by omega), show ((dn : Int) + 1) = ((dn + 1 : Nat) : Int) by omega, hk1, List.append_assoc]
    rfl
   ·clear hk1
    have : ∀ {i ks}, Ksl l e i ks → Ksl l (max d e) i ks := by
     intro i ks h
     induction h with
     | nil i => exact .nil i
     | cons i p d' ks a b c dd _ ih => exact .cons i p d' ks a (Nat.le_trans b (Nat.le_max_right _ _)) c dd ih
    exact this hk2
theorem Ksl.props {l : List S50} {e : Nat} (hl : l.length ≤ 256) (he : e ≤ 32) {i : Nat} {ks : List Int} (h : Ksl l e i ks) :
 (∀ t : Nat, t < ks.length → (i : Int) ≤ ks.getD t 0 ∧ ks.getD t 0 < (l.length : Int)) ∧ (0 < ks.length → ks.getD 0 0 = (i : Int)) ∧
 (∀ t : Nat, t + 1 < ks.length → ks.getD t 0 < ks.getD (t + 1) 0 ∧ ∀ K, 600 ≤ K → tree_Check.f K ((l.take (ks.getD (t + 1) 0).toNat).drop (ks.getD t 0).toNat) = some 0) := by
 induction h with
 | nil i => exact ⟨fun t ht => by simp at ht, fun h => by simp at h, fun t ht => by simp at ht⟩
 | cons i p d ks h1 h2 h3 h4 h5 ih =>
  obtain ⟨a1, a2, a3⟩ := ih
  have hpos := h1.pos
  have hpl : p.length ≤ 256 := by omega
  refine ⟨?_, fun _ => rfl, ?_⟩
  ·intro t ht
   cases t with
   | zero => show (i : Int) ≤ (i : Int) ∧ (i : Int) < _; omega
   | succ t =>
    have := a1 t (by simp only [List.length_cons] at ht; omega)
    rw [List.getD_cons_succ]
    omega
  ·intro t ht
   simp only [List.length_cons] at ht
   cases t with
   | zero =>
    have h0 := a2 (by omega)
    rw [List.getD_cons_succ, List.getD_cons_zero, h0]
    refine ⟨by omega, fun K hK => ?_⟩
    rw [show ((i + p.length : Nat) : Int).toNat = i + p.length by omega, show ((i : Int)).toNat = i by omega]
    have : (l.take (i + p.length)).drop i = p := by
     rw [List.drop_take, Nat.add_sub_cancel_left]; exact h3
    rw [this, check_tre h1 hpl hK, if_pos (by omega)]
   | succ t =>
    rw [List.getD_cons_succ, List.getD_cons_succ]
    exact a3 t (by omega)
theorem parts_l1 {l : List S50} {ks : List Int} (hks : ks.length ≤ 100) (hll : l.length ≤ 256) (h1 : ∀ t : Nat, t < ks.length → 0 ≤ ks.getD t 0 ∧ ks.getD t 0 < (l.length : Int))
 (h3 : ∀ t : Nat, t + 1 < ks.length → ks.getD t 0 < ks.getD (t + 1) 0 ∧ ∀ K, 600 ≤ K → tree_Check.f K ((l.take (ks.getD (t + 1) 0).toNat).drop (ks.getD t 0).toNat) = some 0) :
 ∀ (m t K : Nat), ks.length ≤ t + m → t ≤ 100 → 700 + m ≤ K → whittlelaw5_TreeParts_g.l1 K l ks (t : Int) = some true := by
 intro m
 induction m with
 | zero =>
  intro t K ht h100 hK
  obtain ⟨K, rfl⟩ : ∃ K', K = K' + 1 := ⟨K - 1, by omega⟩
  rw [whittlelaw5_TreeParts_g.l1, wr1 (by omega) (by omega), if_neg (by omega)]
 | succ m ih =>
  intro t K ht h100 hK
  obtain ⟨K, rfl⟩ : ∃ K', K = K' + 1 := ⟨K - 1, by omega⟩
  rw [whittlelaw5_TreeParts_g.l1, wr1 (by omega) (by omega)]
  by_cases hlt : (t : Int) + 1 < (ks.length : Int)
  ·obtain ⟨b1, b2⟩ := h3 t (by omega)
   have c1 := h1 t (by omega)
   have c2 := h1 (t + 1) (by omega)
   have r1 : rd ks (t : Int) = ks.getD t 0 := rfl
   have r2 : rd ks ((t : Int) + 1) = ks.getD (t + 1) 0 := rfl
   rw [r1, r2, if_pos hlt]
   have hlen : ((l.take (ks.getD (t + 1) 0).toNat).drop (ks.getD t 0).toNat).length ≤ 256 := by
    rw [List.length_drop, List.length_take]; omega
   simp only [Option.bind_some, List.nil_append, List.length_nil, Nat.zero_add]
   rw [if_pos (by omega), if_pos (by omega), if_pos (by omega), if_pos (by omega), if_pos (by omega), if_pos (by omega), if_pos (by omega), b2 K (by omega)]
   simp only [Option.bind_some, if_true]
   rw [show (t : Int) + 1 = ((t + 1 : Nat) : Int) by omega]
   exact ih (t + 1) K (by omega) (by omega) (by omega)
  ·rw [if_neg hlt]
theorem parts_l0 {l : List S50} {ks : List Int} {i0 : Int} (hks : ks.length ≤ 100) (hll : l.length ≤ 256) (hi0 : 0 ≤ i0) (h1 : ∀ t : Nat, t < ks.length → i0 < ks.getD t 0 ∧ ks.getD t 0 < (l.length : Int))
 (h3 : ∀ t : Nat, t + 1 < ks.length → ks.getD t 0 < ks.getD (t + 1) 0 ∧ ∀ K, 600 ≤ K → tree_Check.f K ((l.take (ks.getD (t + 1) 0).toNat).drop (ks.getD t 0).toNat) = some 0) :
 ∀ (m t K : Nat), t + m = ks.length → 900 + m ≤ K → whittlelaw5_TreeParts_g.l0 K l i0 ks (t : Int) = some true := by
 intro m
 induction m with
 | zero =>
  intro t K ht hK
  obtain ⟨K, rfl⟩ : ∃ K', K = K' + 1 := ⟨K - 1, by omega⟩
  rw [whittlelaw5_TreeParts_g.l0, if_neg (by omega)]
  exact parts_l1 hks hll (fun t ht => by have := h1 t ht; omega) h3 ks.length 0 K (by omega) (by omega) (by omega)
 | succ m ih =>
  intro t K ht hK
  obtain ⟨K, rfl⟩ : ∃ K', K = K' + 1 := ⟨K - 1, by omega⟩
  have c1 := h1 t (by omega)
  have r1 : rd ks (t : Int) = ks.getD t 0 := rfl
  have hn := ih (t + 1) K (by omega) (by omega)
  rw [whittlelaw5_TreeParts_g.l0, r1, if_pos (by omega), if_pos (by omega), if_neg (by omega), if_neg (by omega), wr1 (by omega) (by omega), show (t : Int) + 1 = ((t + 1 : Nat) : Int) by omega]
  by_cases h0 : (t : Int) > 0
  ·obtain ⟨b1, -⟩ := h3 (t - 1) (by omega)
   rw [show t - 1 + 1 = t by omega] at b1
   have r2 : rd ks ((t - 1 : Nat) : Int) = ks.getD (t - 1) 0 := rfl
   rw [if_pos h0, show wrap64 ((t : Int) - 1) = ((t - 1 : Nat) : Int) by unfold wrap64; omega, r2, if_pos (by omega), if_pos (by omega), if_neg (by omega)]
   exact hn
  ·rw [if_neg h0]
   exact hn
theorem kids_f {l : List S50} {d : Nat} (h : Tre l d) (hd : d ≤ 32) (hl : l.length ≤ 256) {i : Nat} (hi : i < l.length) {K : Nat} (hK : 1000 ≤ K) :
 ∃ ks e, tree_Kids.f K l (i : Int) = some ks ∧ Ksl l e (i + 1) ks ∧ e ≤ 32 ∧ ks.length ≤ 30 := by
 obtain ⟨n, c, ps, q, e, h1, h2, h3, h4⟩ := h.sub i hi
 obtain ⟨-, hn, hd2⟩ := getD_drop (q := []) h1
 have hp := parts_le n
 obtain ⟨K, rfl⟩ : ∃ K', K = K' + 1 := ⟨K - 1, by omega⟩
 have hlen := congrArg List.length h1
 simp only [List.length_drop, List.length_cons, List.length_append] at hlen
 obtain ⟨ks, k1, k2, k3⟩ := kids_all l hl c ps q e (i + 1) K 0 [] (partsS n) h3 hd2 (by omega) (by omega) (by omega) (by omega) rfl
 refine ⟨ks, e, ?_, k2, by omega, by omega⟩
 unfold tree_Kids.f
 rw [check_tre h hl (by omega), if_pos hd]
 simp only [Option.bind_some, if_true]
 rw [if_neg (by omega), show decide ((i : Int) ≥ (l.length : Int)) = false from decide_eq_false (by omega), tree_Kids.j0, if_neg (by decide), if_pos (by omega), if_pos (by omega), hn]
 show tree_Kids.l0 K l [] (wrap64 ((i : Int) + 1)) (partsS n) 0 = _
 rw [wr1 (by omega) (by omega), show (i : Int) + 1 = ((i + 1 : Nat) : Int) by omega]
 exact k1
theorem parts_j0 {l : List S50} {d : Nat} (h : Tre l d) (hd : d ≤ 32) (hl : l.length ≤ 256) {i : Nat} (hi : i < l.length) {K : Nat} (hK : 2000 ≤ K) : whittlelaw5_TreeParts_g.j0 K l (i : Int) = some true := by
 obtain ⟨K, rfl⟩ : ∃ K', K = K' + 2 := ⟨K - 2, by omega⟩
 obtain ⟨ks, e, h1, h2, h3, h4⟩ := kids_f h hd hl hi (K := K + 1) (by omega)
 obtain ⟨a1, a2, a3⟩ := h2.props hl h3
 have hj : whittlelaw5_TreeParts_g.l0 K l (i : Int) ks 0 = some true := parts_l0 (by omega) hl (by omega) (fun t ht => by have := a1 t ht; omega) a3 ks.length 0 K (by omega) (by omega)
 have hj1 : whittlelaw5_TreeParts_g.j1 (K + 1) l (i : Int) ks false = some true := by rw [whittlelaw5_TreeParts_g.j1, if_neg (by decide)]; exact hj
 rw [whittlelaw5_TreeParts_g.j0, h1]
 simp only [Option.bind_some]
 by_cases hp : 0 < ks.length
 ·rw [if_pos (by omega), if_pos (by omega), show rd ks 0 = ks.getD 0 0 from rfl, a2 hp, wr1 (by omega) (by omega), show (i : Int) + 1 = ((i + 1 : Nat) : Int) by omega, show (((i + 1 : Nat) : Int) != ((i + 1 : Nat) : Int)) = false by simp]
  exact hj1
 ·rw [if_neg (by omega)]
  exact hj1
theorem parts_law (a0 : ByteArray) (a1 : Int) : whittlelaw5_TreeParts_g.f 3000 a0 a1 = some true := by
 unfold whittlelaw5_TreeParts_g.f able5_g.f tree_Parse_g.f
 simp only [Option.bind_some, if_true]
 rcases parse_cases a0.data.toList with ⟨h1, h2, h3⟩ | ⟨h1, h2, h3, h4⟩
 ·rw [if_pos h1]
  obtain ⟨d, hd, hd2, hl⟩ := check_back (l := (parseL a0.data.toList).1) (K := 600) (by rw [chk_f, h3])
  generalize (parseL a0.data.toList).1 = l at hd hl ⊢
  have hpos := hd.pos
  have hn0 : (l.length : Int) ≠ 0 := by omega
  rw [if_neg (by omega)]
  have hb := Int.natAbs_tmod a1 (l.length : Int)
  have hlt : ((Int.tmod a1 (l.length : Int)).natAbs : Int) < l.length := by
   rw [hb]
   have := Nat.mod_lt a1.natAbs (show 0 < (l.length : Int).natAbs by omega)
   omega
  generalize Int.tmod a1 (l.length : Int) = z at hlt
  by_cases hz : z < 0
  ·rw [if_pos hz, show wrap64 (z + (l.length : Int)) = ((z + l.length).toNat : Int) by unfold wrap64; omega]
   exact parts_j0 hd hd2 hl (by omega) (by omega)
  ·rw [if_neg hz, show z = (z.toNat : Int) by omega]
   exact parts_j0 hd hd2 hl (by omega) (by omega)
 ·rw [if_neg h1]
theorem parts_calls (W : World) (s : ByteArray) (k : Int) (hk : -9223372036854775808 ≤ k ∧ k ≤ 9223372036854775807) (hG : GL W) :
 Calls Tryz.prog 11 #[.string s, .int .i64 k] W fun e w' => e = .returned (.bool true) ∧ Below W.heap.size W w' :=
 whittlelaw5_TreeParts_g.calls 3000 s k true W hG (Aside0.mk rfl) (parts_law s k)
end Go.Proofs.YtejbbceidnaloaaGreatDoor.P
