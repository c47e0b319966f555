import Derived.Test.YtejbbceidnaloaaGreatDoorF27
set_option linter.unusedVariables false
set_option linter.unusedSimpArgs false
set_option maxRecDepth 100000
set_option maxHeartbeats 8000000
namespace Go.Proofs.YtejbbceidnaloaaGreatDoor.P
open Go.RowKit AW AL AM
mutual
inductive Tre : List S50 → Nat → Prop
 | node (n : S50) (c : Nat) (p : List S50) (d : Nat) : Nbk n = (c : Int) → Frs c p d → Tre (n :: p) (d + 1)
inductive Frs : Nat → List S50 → Nat → Prop
 | nil : Frs 0 [] 0
 | cons (p q : List S50) (c d e : Nat) : Tre p d → Frs c q e → Frs (c + 1) (p ++ q) (max d e)
end
theorem parts_le (x : S50) : Nbk x ≤ 30 := by
 unfold Nbk Neu partsV1 partsV2 partsV3 partsV4 partsV5 partsV6
 repeat' split
 all_goals omega
theorem Tre.pos {p : List S50} {d : Nat} (h : Tre p d) : 1 ≤ p.length ∧ 1 ≤ d ∧ d ≤ p.length := by
 induction h using Tre.rec (motive_2 := fun c p d _ => c ≤ p.length ∧ d ≤ p.length) with
 | node n c p d h1 h2 ih => simp only [List.length_cons]; omega
 | nil => exact ⟨Nat.le_refl _, Nat.le_refl _⟩
 | cons p q c d e h1 h2 i1 i2 => simp only [List.length_append]; omega
theorem mxN (a b : Nat) : mx (a : Int) (b : Int) = ((max a b : Nat) : Int) := by unfold mx; split <;> omega
theorem wr1 {i : Int} (h0 : 0 ≤ i) (h1 : i ≤ 1000000000000) : wrap64 (i + 1) = i + 1 := by unfold wrap64; omega
theorem getD_drop {l p q : List S50} {n : S50} {i : Nat} (h : l.drop i = n :: p) : i < l.length ∧ Nc2 l (i : Int) = n ∧ l.drop (i + 1) = p := by
 have hi : i < l.length := by
  refine Nat.lt_of_not_le fun hh => ?_
  rw [List.drop_eq_nil_of_le hh] at h
  cases h
 rw [List.drop_eq_getElem_cons hi] at h
 injection h with h1 h2
 refine ⟨hi, ?_, h2⟩
 unfold Nc2
 simp [List.getD, hi, h1]
theorem over_all (l : List S50) (hl : l.length ≤ 100000000) : ∀ (m : Nat),
 (∀ (p q : List S50) (d i K : Nat), Tre p d → p.length ≤ m → l.drop i = p ++ q → 2 * p.length + 1 ≤ K → Nan.f K l (i : Int) = some (((i + p.length : Nat) : Int), (d : Int))) ∧
 (∀ (c : Nat) (p q : List S50) (e i K dn dp : Nat) (z : Int), Frs c p e → p.length ≤ m → l.drop i = p ++ q → i ≤ l.length → 2 * p.length + 2 ≤ K → z = ((dn + c : Nat) : Int) → z ≤ 100 → dp ≤ 100000000 → Nan.l0 K l (i : Int) (dp : Int) z (dn : Int) = some (((i + p.length : Nat) : Int), ((max dp e + 1 : Nat) : Int))) := by
 intro m
 induction m with
 | zero =>
  refine ⟨?_, ?_⟩
  ·intro p q d i K h hp
   have := h.pos
   omega
  ·intro c p q e i K dn dp z h hp hd hi hK hz hz1 hdp
   obtain ⟨K, rfl⟩ : ∃ K', K = K' + 1 := ⟨K - 1, by omega⟩
   cases h with
   | nil =>
    rw [Nan.l0, if_neg (by omega), wr1 (by omega) (by omega)]
    simp
   | cons p q c d e h1 h2 =>
    have := h1.pos
    simp only [List.length_append] at hp
    omega
 | succ m ih =>
  obtain ⟨ih1, ih2⟩ := ih
  have hf : ∀ (p q : List S50) (d i K : Nat), Tre p d → p.length ≤ m + 1 → l.drop i = p ++ q → 2 * p.length + 1 ≤ K → Nan.f K l (i : Int) = some (((i + p.length : Nat) : Int), (d : Int)) := by
   intro p q d i K h hp hd hK
   obtain ⟨K, rfl⟩ : ∃ K', K = K' + 1 := ⟨K - 1, by omega⟩
   cases h with
   | node n c p d h1 h2 =>
    obtain ⟨hi, hn, hd2⟩ := getD_drop (q := q) (l := l) (n := n) (p := p ++ q) (by rw [hd]; rfl)
    simp only [List.length_cons] at hp hK
    have hc := parts_le n
    rw [Nan.f, if_neg (by omega), if_pos (by omega), if_pos (by omega), hn]
    show (if Nbk n < 0 then some ((-1 : Int), (0 : Int)) else _) = _
    rw [if_neg (by omega), wr1 (by omega) (by omega)]
    have h3 := ih2 c p q d (i + 1) K 0 0 (Nbk n) h2 (by omega) hd2 (by omega) (by omega) (by omega) (by omega) (by omega)
    rw [show ((i : Int) + 1) = ((i + 1 : Nat) : Int) by omega]
    refine h3.trans ?_
    simp only [List.length_cons, Nat.zero_max]
    rw [show i + 1 + p.length = i + (p.length + 1) by omega]
  refine ⟨hf, ?_⟩
  intro c p q e i K dn dp z h hp hd hi hK hz hz1 hdp
  obtain ⟨K, rfl⟩ : ∃ K', K = K' + 1 := ⟨K - 1, by omega⟩
  cases h with
  | nil =>
   rw [Nan.l0, if_neg (by omega), wr1 (by omega) (by omega)]
   simp
  | cons p q2 c d e h1 h2 =>
   have hp1 := h1.pos
   simp only [List.length_append] at hp hK
   rw [Nan.l0, if_pos (by omega), hf p (q2 ++ q) d i K h1 (by omega) (by rw [hd, List.append_assoc]) (by omega)]
   show (if ((i + p.length : Nat) : Int) < 0 then some ((-1 : Int), (0 : Int)) else _) = _
   rw [if_neg (by omega), mxN, wr1 (by omega) (by omega)]
   have hd2 : l.drop (i + p.length) = q2 ++ q := by rw [← List.drop_drop, hd, List.append_assoc, List.drop_left]
   have hle : i + p.length ≤ l.length := by
    have := congrArg List.length hd
    simp only [List.length_drop, List.length_append] at this
    omega
   have h3 := ih2 c q2 q e (i + p.length) K (dn + 1) (max dp d) z h2 (by omega) hd2 hle (by omega) (by omega) hz1 (by omega)
   rw [show ((dn : Int) + 1) = ((dn + 1 : Nat) : Int) by omega]
   refine h3.trans ?_
   simp only [List.length_append]
   rw [show i + p.length + q2.length = i + (p.length + q2.length) by omega, Nat.max_assoc]
theorem over_back (l : List S50) (hl : l.length ≤ 100000000) : ∀ (K : Nat),
 (∀ (i : Nat) (e d : Int), Nan.f K l (i : Int) = some (e, d) → 0 ≤ e → ∃ (p q : List S50) (dd : Nat), l.drop i = p ++ q ∧ Tre p dd ∧ e = ((i + p.length : Nat) : Int) ∧ d = (dd : Int)) ∧
 (∀ (i dn c dp : Nat) (e d : Int), i ≤ l.length → dn + c ≤ 100 → dp ≤ 100000000 → Nan.l0 K l (i : Int) (dp : Int) ((dn + c : Nat) : Int) (dn : Int) = some (e, d) → 0 ≤ e → ∃ (p q : List S50) (dd : Nat), l.drop i = p ++ q ∧ Frs c p dd ∧ e = ((i + p.length : Nat) : Int) ∧ d = ((max dp dd + 1 : Nat) : Int)) := by
 intro K
 induction K with
 | zero =>
  refine ⟨?_, ?_⟩
  ·intro i e d h; rw [Nan.f] at h; cases h
  ·intro i dn c dp e d _ _ _ h; rw [Nan.l0] at h; cases h
 | succ K ih =>
  obtain ⟨ih1, ih2⟩ := ih
  refine ⟨?_, ?_⟩
  ·intro i e d h he
   rw [Nan.f] at h
   split at h
   ·cases h; omega
   rename_i hi
   rw [if_pos (by omega), if_pos (by omega)] at h
   have hil : i < l.length := by omega
   have hx := List.drop_eq_getElem_cons hil
   obtain ⟨-, hn, -⟩ := getD_drop (q := []) hx
   rw [hn] at h
   change (if Nbk l[i] < 0 then some ((-1 : Int), (0 : Int)) else _) = _ at h
   split at h
   ·cases h; omega
   rename_i hp
   have hle := parts_le l[i]
   obtain ⟨c, hc⟩ : ∃ c : Nat, Nbk l[i] = (c : Int) := ⟨(Nbk l[i]).toNat, by omega⟩
   rw [wr1 (by omega) (by omega), hc, show ((i : Int) + 1) = ((i + 1 : Nat) : Int) by omega, show (c : Int) = ((0 + c : Nat) : Int) by omega] at h
   obtain ⟨p, q, dd, h1, h2, h3, h4⟩ := ih2 (i + 1) 0 c 0 e d (by omega) (by omega) (by omega) h he
   refine ⟨l[i] :: p, q, dd + 1, ?_, .node _ c p dd hc h2, ?_, ?_⟩
   ·rw [hx, h1]; rfl
   ·rw [h3]; simp only [List.length_cons]; omega
   ·rw [h4]; omega
  ·intro i dn c dp e d hi hc hdp h he
   rw [Nan.l0] at h
   by_cases hlt : (dn : Int) < ((dn + c : Nat) : Int)
   ·rw [if_pos hlt] at h
    obtain ⟨⟨e1, d1⟩, ho, h⟩ := Option.bind_eq_some_iff.1 h
    change (if e1 < 0 then some ((-1 : Int), (0 : Int)) else _) = _ at h
    split at h
    ·cases h; omega
    rename_i he1
    obtain ⟨p, q, dd, h1, h2, h3, h4⟩ := ih1 i e1 d1 ho (by omega)
    have hpos := h2.pos
    have hlen := congrArg List.length h1
    simp only [List.length_drop, List.length_append] at hlen
    obtain ⟨c, rfl⟩ : ∃ c', c = c' + 1 := ⟨c - 1, by omega⟩
    rw [h3, h4, mxN, wr1 (by omega) (by omega), show ((dn : Int) + 1) = ((dn + 1 : Nat) : Int) by omega, show dn + (c + 1) = dn + 1 + c by omega] at h
    obtain ⟨p2, q2, dd2, g1, g2, g3, g4⟩ := ih2 (i + p.length) (dn + 1) c (max dp dd) e d (by omega) (by omega) (by omega) h he
    have hq : q = p2 ++ q2 := by rw [← g1, ← List.drop_drop, h1, List.drop_left]
    refine ⟨p ++ p2, q2, max dd dd2, ?_, .cons p p2 c dd dd2 h2 g2, ?_, ?_⟩
    ·rw [h1, hq, List.append_assoc]
    ·rw [g3]; simp only [List.length_append]; omega
    ·rw [g4, Nat.max_assoc]
   ·rw [if_neg hlt] at h
    obtain rfl : c = 0 := by omega
    cases h
    refine ⟨[], l.drop i, 0, rfl, .nil, by simp, ?_⟩
    rw [wr1 (by omega) (by omega)]; omega
theorem over_some (l : List S50) (hl : l.length ≤ 100000000) : ∀ (m : Nat),
 (∀ (i K : Nat), l.length - i ≤ m → 2 * m + 1 ≤ K → ∃ x, Nan.f K l (i : Int) = some x) ∧
 (∀ (i dn c dp K : Nat), i ≤ l.length → l.length - i ≤ m → dn + c ≤ 100 → dp ≤ 100000000 → 2 * m + 2 ≤ K → ∃ x, Nan.l0 K l (i : Int) (dp : Int) ((dn + c : Nat) : Int) (dn : Int) = some x) := by
 intro m
 induction m with
 | zero =>
  have hf : ∀ (i K : Nat), l.length - i ≤ 0 → 2 * 0 + 1 ≤ K → ∃ x, Nan.f K l (i : Int) = some x := by
   intro i K hi hK
   obtain ⟨K, rfl⟩ : ∃ K', K = K' + 1 := ⟨K - 1, by omega⟩
   exact ⟨_, by rw [Nan.f, if_pos (by omega)]⟩
  refine ⟨hf, ?_⟩
  intro i dn c dp K hil hi hc hdp hK
  obtain ⟨K, rfl⟩ : ∃ K', K = K' + 1 := ⟨K - 1, by omega⟩
  rw [Nan.l0]
  by_cases hlt : (dn : Int) < ((dn + c : Nat) : Int)
  ·obtain ⟨K, rfl⟩ : ∃ K', K = K' + 1 := ⟨K - 1, by omega⟩
   rw [if_pos hlt, Nan.f, if_pos (by omega)]
   exact ⟨_, rfl⟩
  ·rw [if_neg hlt]; exact ⟨_, rfl⟩
 | succ m ih =>
  obtain ⟨ih1, ih2⟩ := ih
  have hf : ∀ (i K : Nat), l.length - i ≤ m + 1 → 2 * (m + 1) + 1 ≤ K → ∃ x, Nan.f K l (i : Int) = some x := by
   intro i K hi hK
   obtain ⟨K, rfl⟩ : ∃ K', K = K' + 1 := ⟨K - 1, by omega⟩
   rw [Nan.f]
   by_cases hil : (l.length : Int) ≤ (i : Int)
   ·exact ⟨_, if_pos hil⟩
   rw [if_neg hil, if_pos (by omega), if_pos (by omega)]
   have hil : i < l.length := by omega
   obtain ⟨-, hn, -⟩ := getD_drop (q := []) (List.drop_eq_getElem_cons hil)
   rw [hn]
   show ∃ x, (if Nbk l[i] < 0 then some ((-1 : Int), (0 : Int)) else _) = some x
   split
   ·exact ⟨_, rfl⟩
   rename_i hp
   have hle := parts_le l[i]
   obtain ⟨c, hc⟩ : ∃ c : Nat, Nbk l[i] = (c : Int) := ⟨(Nbk l[i]).toNat, by omega⟩
   rw [wr1 (by omega) (by omega), hc, show ((i : Int) + 1) = ((i + 1 : Nat) : Int) by omega, show (c : Int) = ((0 + c : Nat) : Int) by omega]
   exact ih2 (i + 1) 0 c 0 K (by omega) (by omega) (by omega) (by omega) (by omega)
  refine ⟨hf, ?_⟩
  intro i dn c dp K hil hi hc hdp hK
  obtain ⟨K, rfl⟩ : ∃ K', K = K' + 1 := ⟨K - 1, by omega⟩
  rw [Nan.l0]
  by_cases hlt : (dn : Int) < ((dn + c : Nat) : Int)
  ·rw [if_pos hlt]
   obtain ⟨⟨e1, d1⟩, ho⟩ := hf i K (by omega) (by omega)
   rw [ho]
   show ∃ x, (if e1 < 0 then some ((-1 : Int), (0 : Int)) else _) = some x
   split
   ·exact ⟨_, rfl⟩
   rename_i he
   obtain ⟨p, q, dd, h1, h2, h3, h4⟩ := (over_back l hl K).1 i e1 d1 ho (by omega)
   have hpos := h2.pos
   have hlen := congrArg List.length h1
   simp only [List.length_drop, List.length_append] at hlen
   obtain ⟨c, rfl⟩ : ∃ c', c = c' + 1 := ⟨c - 1, by omega⟩
   rw [h3, h4, mxN, wr1 (by omega) (by omega), show ((dn : Int) + 1) = ((dn + 1 : Nat) : Int) by omega, show dn + (c + 1) = dn + 1 + c by omega]
   exact ih2 (i + p.length) (dn + 1) c (max dp dd) K (by omega) (by omega) (by omega) (by omega) (by omega)
  ·rw [if_neg hlt]; exact ⟨_, rfl⟩
theorem eq_eB {s : ByteArray} (h : s.toList = []) : s = eB := by
 have h0 := (Ndi s).mp h
 obtain ⟨d⟩ := s
 have : d = #[] := Array.eq_empty_of_size_eq_zero h0
 rw [this]; rfl
def litB (v : S46) : Bool := valB v.f0 v.f1.f0 v.f1.f1 v.f2 v.f3 v.f4 && decide (v.f0 ≠ 0 ∧ (v.f0 ≠ 1 ∨ 0 ≤ v.f1.f0 ∧ (1000000 : Int) % v.f1.f1 = 0))
def refR (r : S48) : Bool := refB r.f0 r.f1 r.f2
def binO (o : Int) : Prop := (11 ≤ o ∧ o ≤ 16) ∨ (21 ≤ o ∧ o ≤ 26)
inductive Good : S50 → Int → Prop
 | val (v : S46) : litB v = true → Good (nVal v) 0
 | cell (r : S48) : refR r = true → Good (nCell r) 0
 | area (r s : S48) : refR r = true → refR s = true → s.f0 = eB → Good (nArea r s) 0
 | un (o : Int) : 1 ≤ o → o ≤ 3 → Good (nUn o) 1
 | bin (o : Int) : binO o → Good (nBin o) 2
 | call (m : ByteArray) (c : Int) : fnB m = true → 0 ≤ c → c ≤ 30 → Good (nCall m c) c
theorem good_of (n : S50) (h : 0 ≤ Nbk n) : Good n (Nbk n) := by
 obtain ⟨k, ⟨v0, ⟨v1, v2⟩, v3, v4, v5⟩, o, m, ag, ⟨a0, a1, a2, a3, a4⟩, ⟨b0, b1, b2, b3, b4⟩⟩ := n
 unfold Nbk at h ⊢
 simp only at h ⊢
 unfold Neu at h ⊢
 by_cases h1 : k = 1
 ·subst h1
  simp only [if_true] at h ⊢
  unfold partsV1 at h ⊢
  split at h
  ·rename_i hr
   split at h
   ·rename_i hv
    rw [if_pos hr, if_pos hv]
    unfold rest1 at hr
    obtain ⟨rfl, hm, rfl, ha, rfl, rfl, rfl, rfl, hb, rfl, rfl, rfl, rfl⟩ := of_decide_eq_true hr
    rw [eq_eB hm, eq_eB ha, eq_eB hb]
    exact .val ⟨v0, ⟨v1, v2⟩, v3, v4, v5⟩ (by unfold litB; rw [Bool.and_eq_true]; exact ⟨hv.1, decide_eq_true hv.2⟩)
   ·omega
  ·omega
 rw [if_neg h1] at h ⊢
 by_cases h2 : k = 2
 ·subst h2
  simp only [if_true] at h ⊢
  unfold partsV2 at h ⊢
  split at h
  ·rename_i hr
   split at h
   ·rename_i hv
    rw [if_pos hr, if_pos hv]
    unfold rest2 at hr
    obtain ⟨rfl, rfl, rfl, hv3, rfl, rfl, rfl, hm, rfl, hb, rfl, rfl, rfl, rfl⟩ := of_decide_eq_true hr
    rw [eq_eB hm, eq_eB hv3, eq_eB hb]
    exact .cell ⟨a0, a1, a2, a3, a4⟩ hv.1
   ·omega
  ·omega
 rw [if_neg h2] at h ⊢
 by_cases h3 : k = 3
 ·subst h3
  simp only [if_true] at h ⊢
  unfold partsV3 at h ⊢
  split at h
  ·rename_i hr
   split at h
   ·rename_i hv
    rw [if_pos hr, if_pos hv]
    unfold rest3 at hr
    obtain ⟨rfl, rfl, rfl, hv3, rfl, rfl, rfl, hm, rfl⟩ := of_decide_eq_true hr
    have hb := eq_eB hv.2.2
    rw [eq_eB hm, eq_eB hv3]
    exact .area ⟨a0, a1, a2, a3, a4⟩ ⟨b0, b1, b2, b3, b4⟩ hv.1 hv.2.1 hb
   ·omega
  ·omega
 rw [if_neg h3] at h ⊢
 by_cases h4 : k = 4
 ·subst h4
  simp only [if_true] at h ⊢
  unfold partsV4 at h ⊢
  split at h
  ·rename_i hr
   split at h
   ·rename_i hv
    rw [if_pos hr, if_pos hv]
    unfold rest4 at hr
    obtain ⟨rfl, rfl, rfl, hv3, rfl, rfl, hm, rfl, ha, rfl, rfl, rfl, rfl, hb, rfl, rfl, rfl, rfl⟩ := of_decide_eq_true hr
    rw [eq_eB hm, eq_eB hv3, eq_eB ha, eq_eB hb]
    exact .un o hv.1 hv.2
   ·omega
  ·omega
 rw [if_neg h4] at h ⊢
 by_cases h5 : k = 5
 ·subst h5
  simp only [if_true] at h ⊢
  unfold partsV5 at h ⊢
  split at h
  ·rename_i hr
   split at h
   ·rename_i hv
    rw [if_pos hr, if_pos hv]
    unfold rest5 at hr
    obtain ⟨rfl, rfl, rfl, hv3, rfl, rfl, hm, rfl, ha, rfl, rfl, rfl, rfl, hb, rfl, rfl, rfl, rfl⟩ := of_decide_eq_true hr
    rw [eq_eB hm, eq_eB hv3, eq_eB ha, eq_eB hb]
    exact .bin o hv
   ·omega
  ·omega
 rw [if_neg h5] at h ⊢
 by_cases h6 : k = 6
 ·subst h6
  simp only [if_true] at h ⊢
  unfold partsV6 at h ⊢
  split at h
  ·rename_i hr
   split at h
   ·rename_i hv
    rw [if_pos hr, if_pos hv]
    unfold rest6 at hr
    obtain ⟨rfl, rfl, rfl, hv3, rfl, rfl, rfl, ha, rfl, rfl, rfl, rfl, hb, rfl, rfl, rfl, rfl⟩ := of_decide_eq_true hr
    rw [eq_eB hv3, eq_eB ha, eq_eB hb]
    exact .call m ag hv.1 hv.2.1 hv.2.2
   ·omega
  ·omega
 rw [if_neg h6] at h
 omega
theorem Tre.good {p : List S50} {d : Nat} (h : Tre p d) : ∀ n ∈ p, 0 ≤ Nbk n := by
 induction h using Tre.rec (motive_2 := fun c p d _ => ∀ n ∈ p, 0 ≤ Nbk n) with
 | node n c p d h1 h2 ih =>
  intro m hm
  rcases List.mem_cons.1 hm with rfl | hm
  ·omega
  ·exact ih m hm
 | nil => rename_i m hm; cases hm
 | cons p q c d e h1 h2 i1 i2 =>
  rename_i m hm
  rcases List.mem_append.1 hm with hm | hm
  ·exact i1 m hm
  ·exact i2 m hm
theorem check_back {K : Nat} {l : List S50} (h : Na7.f K l = some 0) : ∃ d, Tre l d ∧ d ≤ 32 ∧ l.length ≤ 256 := by
 unfold Na7.f at h
 split at h
 ·cases h
 rename_i hl
 obtain ⟨⟨e, d⟩, ho, h⟩ := Option.bind_eq_some_iff.1 h
 simp only at h
 split at h
 ·rename_i he
  split at h
  ·cases h
  ·rename_i hd
   obtain ⟨p, q, dd, h1, h2, h3, h4⟩ := (over_back l (by omega) K).1 0 e d ho (by omega)
   rw [List.drop_zero] at h1
   have hlen := congrArg List.length h1
   rw [List.length_append] at hlen
   have hq : q = [] := List.eq_nil_of_length_eq_zero (by omega)
   rw [hq, List.append_nil] at h1
   rw [← h1] at h2
   exact ⟨dd, h2, by omega, by omega⟩
 ·cases h
theorem check_some (l : List S50) {K : Nat} (hK : 600 ≤ K) : ∃ c, Na7.f K l = some c ∧ (c = 0 ∨ c = 51 ∨ c = 52 ∨ c = 53) := by
 unfold Na7.f
 split
 ·exact ⟨_, rfl, by omega⟩
 ·obtain ⟨⟨e, d⟩, h⟩ := (over_some l (by omega) 256).1 0 K (by omega) (by omega)
  rw [show ((0 : Nat) : Int) = 0 from rfl] at h
  rw [h]
  show ∃ c, (if e = (l.length : Int) then (if d > 32 then some (51 : Int) else some 0) else some 53) = some c ∧ _
  split
  ·split
   ·exact ⟨_, rfl, by omega⟩
   ·exact ⟨_, rfl, by omega⟩
  ·exact ⟨_, rfl, by omega⟩
theorem check_tre {l : List S50} {d : Nat} (h : Tre l d) (hl : l.length ≤ 256) {K : Nat} (hK : 600 ≤ K) : Na7.f K l = some (if d ≤ 32 then 0 else 51) := by
 unfold Na7.f
 rw [if_neg (by omega)]
 have h1 := (over_all l (by omega) 256).1 l [] d 0 K h hl (by rw [List.drop_zero, List.append_nil]) (by omega)
 rw [show ((0 : Nat) : Int) = 0 from rfl] at h1
 rw [h1]
 show (if ((0 + l.length : Nat) : Int) = (l.length : Int) then (if (d : Int) > 32 then some (51 : Int) else some 0) else some 53) = _
 rw [if_pos (by omega)]
 by_cases hd : d ≤ 32
 ·rw [if_pos hd, if_neg (by omega)]
 ·rw [if_neg hd, if_pos (by omega)]
theorem tre_tk (L : Lf) : ∀ (m : Nat),
 (∀ (p : List S50) (d K : Nat) (least : Int) (q : List S50), Tre p d → p.length ≤ m → 2 * p.length + 1 ≤ K → ∃ T, T ≠ [] ∧ tkF L K least (p ++ q) = some (T, q)) ∧
 (∀ (c : Nat) (p : List S50) (d K : Nat) (first : Bool) (q : List S50), Frs c p d → p.length ≤ m → 2 * p.length + 2 ≤ K → ∃ T, atkF L K first (c : Int) (p ++ q) = some (T, q)) := by
 intro m
 induction m with
 | zero =>
  refine ⟨?_, ?_⟩
  ·intro p d K least q h hp
   have := h.pos
   omega
  ·intro c p d K first q h hp hK
   obtain ⟨K, rfl⟩ : ∃ K', K = K' + 1 := ⟨K - 1, by omega⟩
   cases h with
   | nil => exact ⟨[], by rw [atkF, if_pos (by omega)]; rfl⟩
   | cons p q c d e h1 h2 =>
    have := h1.pos
    simp only [List.length_append] at hp
    omega
 | succ m ih =>
  obtain ⟨ih1, ih2⟩ := ih
  have hf : ∀ (p : List S50) (d K : Nat) (least : Int) (q : List S50), Tre p d → p.length ≤ m + 1 → 2 * p.length + 1 ≤ K → ∃ T, T ≠ [] ∧ tkF L K least (p ++ q) = some (T, q) := by
   intro p d K least q h hp hK
   obtain ⟨K, rfl⟩ : ∃ K', K = K' + 1 := ⟨K - 1, by omega⟩
   cases h with
   | node n c p d h1 h2 =>
    simp only [List.length_cons] at hp hK
    suffices hs : ∃ U, U ≠ [] ∧ (if n.f0 = 1 then some ([L.val n.f1], p ++ q)
     else if n.f0 = 2 then some (refT L n.f5, p ++ q)
     else if n.f0 = 3 then some (refT L n.f5 ++ [mk [58], (3, L.cel n.f6)], p ++ q)
     else if n.f0 = 6 then (atkF L K true n.f4 (p ++ q)).map fun (T, q) => ((3, n.f3) :: mk [40] :: (T ++ [mk [41]]), q)
     else if n.f0 = 5 then (tkF L K (Nb9 n.f2) (p ++ q)).bind fun (T, q) => (tkF L K (Nb9 n.f2 + 1) q).map fun (U, p) => (T ++ (5, signB n.f2) :: U, p)
     else if n.f2 = 3 then (tkF L K 7 (p ++ q)).map fun (T, q) => (T ++ [mk [37]], q)
     else (tkF L K 6 (p ++ q)).map fun (T, q) => ((5, signB n.f2) :: T, q)) = some (U, q) by
     obtain ⟨U, h0, hU⟩ := hs
     refine ⟨bra (decide (Ndm n < least)) U, ?_, ?_⟩
     ·unfold bra; split
      ·simp
      ·exact h0
     ·rw [List.cons_append, tkF, hU]; rfl
    have hg := good_of n (by omega)
    rw [h1] at hg
    generalize hcc : (c : Int) = cc at hg
    have nil_of : c = 0 → p = [] := by
     intro h0; subst h0
     cases h2; rfl
    cases hg with
    | val v hv =>
     obtain rfl := nil_of (by omega)
     exact ⟨[L.val v], by simp, rfl⟩
    | cell r hr =>
     obtain rfl := nil_of (by omega)
     exact ⟨refT L r, by unfold refT; split <;> simp, rfl⟩
    | area r s hr hs h0 =>
     obtain rfl := nil_of (by omega)
     exact ⟨refT L r ++ [mk [58], (3, L.cel s)], by simp, rfl⟩
    | un o h1 h3 =>
     obtain rfl : c = 1 := by omega
     have hp1 : ∃ d', Tre p d' := by
      cases h2 with
      | cons p1 q1 c d e g1 g2 =>
       cases g2
       exact ⟨d, by rw [List.append_nil]; exact g1⟩
     obtain ⟨d', hp1⟩ := hp1
     by_cases ho : o = 3
     ·obtain ⟨U, hU0, hU⟩ := ih1 p d' K 7 q hp1 (by omega) (by omega)
      refine ⟨U ++ [mk [37]], by simp, ?_⟩
      subst ho
      show (tkF L K 7 (p ++ q)).map (fun (T, q) => (T ++ [mk [37]], q)) = _
      rw [hU]; rfl
     ·obtain ⟨U, hU0, hU⟩ := ih1 p d' K 6 q hp1 (by omega) (by omega)
      refine ⟨(5, signB o) :: U, by simp, ?_⟩
      show (if o = 3 then (tkF L K 7 (p ++ q)).map (fun (T, q) => (T ++ [mk [37]], q)) else (tkF L K 6 (p ++ q)).map fun (T, q) => ((5, signB o) :: T, q)) = _
      rw [if_neg ho, hU]; rfl
    | bin o ho =>
     obtain rfl : c = 2 := by omega
     cases h2 with
     | cons p1 q1 c d e g1 g2 =>
      cases g2 with
      | cons p2 q2 c d e g3 g4 =>
       cases g4
       simp only [List.length_append, List.length_nil] at hp hK
       have hpos := g1.pos
       obtain ⟨U1, -, hU1⟩ := ih1 p1 _ K (Nb9 o) (p2 ++ q) g1 (by omega) (by omega)
       obtain ⟨U2, -, hU2⟩ := ih1 p2 _ K (Nb9 o + 1) q g3 (by omega) (by omega)
       refine ⟨U1 ++ (5, signB o) :: U2, by simp, ?_⟩
       show (tkF L K (Nb9 o) (p1 ++ (p2 ++ []) ++ q)).bind (fun (T, q) => (tkF L K (Nb9 o + 1) q).map fun (U, p) => (T ++ (5, signB o) :: U, p)) = _
       rw [List.append_nil, List.append_assoc, hU1]
       show (tkF L K (Nb9 o + 1) (p2 ++ q)).map (fun (U, p) => (U1 ++ (5, signB o) :: U, p)) = _
       rw [hU2]; rfl
    | call m n hm h0 h30 =>
     obtain ⟨T, hT⟩ := ih2 c p _ K true q h2 (by omega) (by omega)
     refine ⟨(3, m) :: mk [40] :: (T ++ [mk [41]]), by simp, ?_⟩
     subst hcc
     show (atkF L K true (c : Int) (p ++ q)).map (fun (T, q) => ((3, m) :: mk [40] :: (T ++ [mk [41]]), q)) = _
     rw [hT]; rfl
  refine ⟨hf, ?_⟩
  intro c p d K first q h hp hK
  obtain ⟨K, rfl⟩ : ∃ K', K = K' + 1 := ⟨K - 1, by omega⟩
  cases h with
  | nil => exact ⟨[], by rw [atkF, if_pos (by omega)]; rfl⟩
  | cons p q2 c d e h1 h2 =>
   simp only [List.length_append] at hp hK
   have hpos := h1.pos
   obtain ⟨T, -, hT⟩ := hf p _ K 1 (q2 ++ q) h1 (by omega) (by omega)
   obtain ⟨U, hU⟩ := ih2 c q2 _ K false q h2 (by omega) (by omega)
   refine ⟨(if first then T else mk [44] :: T) ++ U, ?_⟩
   rw [atkF, if_neg (by omega), List.append_assoc, hT]
   show (atkF L K false (((c + 1 : Nat) : Int) - 1) (q2 ++ q)).map (fun (U, p) => ((if first then T else mk [44] :: T) ++ U, p)) = _
   rw [show (((c + 1 : Nat) : Int) - 1) = (c : Int) by omega, hU]; rfl
theorem txt_open (nm : ByteArray) : txt [(3, nm), mk [40]] = (nm ++ (⟨#[40]⟩ : ByteArray)).data.toList := by
 simp [Nby, tk5, tk3, Ndl, mk, mB]
theorem call_one {w0 : World} {lv : Value} {L : Lf} {l : List S50} {k : Nat} (ih : ∀ j, j < k → Prints w0 lv L l j) (hl : l.length ≤ 100000) : PrintsC w0 lv L l k := by
 intro n w g bs a T q hnm har hal h ht hlen
 obtain ⟨k0, ⟨vk, ⟨vn, vd⟩, vt, vb, ve⟩, op, nm, ar, ⟨s5, r5, c5, p5, q5⟩, ⟨s6, r6, c6, p6, q6⟩⟩ := n
 show Calls Tryz.prog 77 #[.pointer (some ⟨g, 0, none⟩), .agg #[.int .i64 k0, .int .i64 vk, .int .i64 vn, .int .i64 vd, .string vt, .bool vb, .int .i64 ve, .int .i64 op, .string nm, .int .i64 ar, .string s5, .int .i64 r5, .int .i64 c5, .bool p5, .bool q5, .string s6, .int .i64 r6, .int .i64 c6, .bool p6, .bool q6]] w (fun e w' => e = .returned (.tuple #[]) ∧ Wrote w0.heap.size w g (bs ++ txt ((3, nm) :: mk [40] :: (T ++ [mk [41]]))) lv ((l.length : Int) - q.length) w')
 replace hnm : nm.size ≤ 100000 := hnm
 replace har : ar ≤ 100000 := har
 replace ht : atkF L k true ar (l.drop a) = some (T, q) := ht
 replace hlen : (bs ++ txt ((3, nm) :: mk [40] :: (T ++ [mk [41]]))).length ≤ 1000000000 := hlen
 have HIH := lh ih
 have HT := lh ht
 have HAR := lh har
 have HLL := lh hl
 have HPB := lh h.bel
 have HLT := lh h.pr.lt
 have HB := lh h.bel.size
 have HP := lh (show Wrote w0.heap.size w g bs lv (a : Int) w from ⟨h.pr, Below.refl _ _, Far.refl _ _⟩)
 have hU0 : txt ((3, nm) :: mk [40] :: (T ++ [mk [41]])) = txt [(3, nm), mk [40]] ++ txt T ++ [41] := by
  rw [show (3, nm) :: mk [40] :: (T ++ [mk [41]]) = [(3, nm), mk [40]] ++ T ++ [mk [41]] by simp, Nbp, Nbp]; rfl
 have HU0 := lh hU0
 have HLEN := lh (show (bs ++ txt [(3, nm), mk [40]] ++ txt T).length + 1 ≤ 1000000000 by rw [hU0] at hlen; simp only [List.length_append, List.length_cons, List.length_nil] at hlen ⊢; omega)
 have HLS := lh (show bs.length + (nm ++ (⟨#[40]⟩ : ByteArray)).size ≤ 140737488355328 by have h2 := HLEN.out; rw [txt_open] at h2; simp only [List.length_append, Array.length_toList] at h2; have h3 : (nm ++ (⟨#[40]⟩ : ByteArray)).data.size = (nm ++ (⟨#[40]⟩ : ByteArray)).size := rfl; omega)
 have c1 : nm.size + 1 ≤ 9223372036854775807 := by omega
 have c1f : (9223372036854775807 < nm.size + 1) = False := eq_false (Nat.not_lt.2 c1)
 clear h ih ht hlen hU0 hnm har hl
 have hu50 := Tryz.underlying50
 go_enter Tryz.func77, Tryz.ntmps77
 go_upto_region 1 with ((with_reducible refine gD 3 rfl ?_); refine bX 3 #[.int .i64 k0, .int .i64 vk, .int .i64 vn, .int .i64 vd, .string vt, .bool vb, .int .i64 ve, .int .i64 op, .string nm, .int .i64 ar, .string s5, .int .i64 r5, .int .i64 c5, .bool p5, .bool q5, .string s6, .int .i64 r6, .int .i64 c6, .bool p6, .bool q6] 50 ?_; intro g3 hg_ w1 hb_ hl_; have NE := lh (show g3 ≠ g by have := HLT.out; omega); have HP1 := lh (HP.out.step HB.out hl_); have J := lh hb_; clear hb_ hl_ hg_ HP)
 have e8 : w1.cell? ⟨g3, 8, none⟩ = some (.string nm) := (Naa J.out 8).trans rfl
 have HSZ := lh (show w0.heap.size ≤ w1.drew.heap.size from Nat.le_trans HB.out HP1.out.bel.size)
 refine sP (n := 7) (S := fun w' => w'.cell? ⟨g3, 8, none⟩ = some (.string nm)) (ds := []) (e8) (fun hHeld => ?_)
 refine pP 0 5 ?_
 refine pP 1 6 ?_
 refine pP 2 7 ?_
 refine pP 3 8 ?_
 refine tP 4 9 hHeld ?_
 refine pP 5 10 ?_
 refine oP 6 (some 11) fun K hK => ?_
 refine gP 59 Tryz.func59 #[.pointer (some ⟨g, 0, none⟩), .string (nm ++ (⟨#[40]⟩ : ByteArray))] ?_
 with_reducible refine (Na1 HP1.out.pr.drew (nm ++ (⟨#[40]⟩ : ByteArray)) HLS.out HSZ.out).mono ?_
 rintro en w2 ⟨rfl, hw⟩
 refine ⟨_, rfl, ?_⟩
 have HP2 := lh (HP1.out.drewn.trans hw)
 have J2 := lh (hw.far _ _ _ _ NE.out (by decide) (Nag J.out))
 clear hw
 refine hK.out _ _ ((Naa J2.out 8).trans rfl) (fun hHeld => ?_)
 clear hK K
 refine nP 11 ?_
 refine done_ (by kernel_rfl) ?_
 clear hHeld c1 c1f HSZ HLS e8 HP1 J
 have e9 : w2.cell? ⟨g3, 9, none⟩ = some (.int .i64 ar) := (Naa J2.out 9).trans rfl
 go_wp2_with (fail)
 clear e9
 have HST := lh (show (bs ++ txt [(3, nm), mk [40]]) ++ txt [] = bs ++ (nm ++ (⟨#[40]⟩ : ByteArray)).data.toList by rw [txt_open, Ndl, List.append_nil])
 generalize ((nm ++ (⟨#[40]⟩ : ByteArray)).size : Int) = sz
 go_loopg [14] k (fun jq v14 w' => ∃ (i b : Nat) (dn U : List Tk), v14 = .int .i64 i ∧ Hid (atkF L jq (decide (i = 0)) (ar - i) (l.drop b) = some (U, q)) ∧ Hid (dn ++ U = T) ∧ Hid (jq ≤ k) ∧ Hid (Wrote w0.heap.size w g ((bs ++ txt [(3, nm), mk [40]]) ++ txt dn) lv (b : Int) w') ∧ Hid (b ≤ l.length))
 case atStart => exact ⟨0, a, [], T, rfl, lh (by have h := HT.out; rw [show ar - ((0 : Nat) : Int) = ar by omega]; exact h), lh rfl, lh (Nat.le_refl _), lh (by rw [HST.out]; exact HP2.out), lh hal⟩
 case round =>
  clear HP2 HST J2 hHeld
  obtain ⟨i, b, dn, U, rfl, HR, HU, HK, HW, HI⟩ := hrel
  obtain ⟨j, hj⟩ : ∃ j, gk = j + 1 := by
   rcases gk with _ | j
   ·have h := HR.out; rw [atkF] at h; cases h
   ·exact ⟨j, rfl⟩
  subst hj
  have hr := HR.out
  rw [atkF] at hr
  by_cases hm : ar - (i : Int) ≤ 0
  ·rw [if_pos hm] at hr
   obtain ⟨rfl, rfl⟩ := Prod.mk.inj (sI hr)
   have b15 : decide ((i : Int) < ar) = false := decide_eq_false (by omega)
   have HL9 := lh (show ((bs ++ txt [(3, nm), mk [40]]) ++ txt dn).length + 1 ≤ 140737488355328 by have h := HLEN.out; have h2 := HU.out; rw [List.append_nil] at h2; rw [h2]; omega)
   have HDR := lh (show (l.length : Int) - (l.drop b).length = b by have := HI.out; rw [List.length_drop]; omega)
   clear hr hm HR
   go_upto_region 9 with (fail)
   go_wp2_with (go_at_call 58; (with_reducible refine (Nck HW.out.pr 41 (n := 41) rfl HL9.out (Nat.le_trans HB.out HW.out.bel.size)).mono ?_); rintro en w3 ⟨rfl, hw⟩; have HW3 := lh (HW.out.trans hw); clear hw)
   go_end0
   refine ⟨rfl, ?_⟩
   have h := HW3.out
   have h2 := HU.out
   rw [List.append_nil] at h2
   rw [HU0.out, HDR.out, ← h2, ← List.append_assoc, ← List.append_assoc]
   exact h
  ·rw [if_neg hm] at hr
   obtain ⟨⟨V1, q1⟩, hV1, hE1⟩ := Option.bind_eq_some_iff.1 hr
   obtain ⟨⟨V2, q2⟩, hV2, hE2⟩ := Option.map_eq_some_iff.1 hE1
   obtain ⟨rfl, rfl⟩ := Prod.mk.inj hE2
   have b15 : decide ((i : Int) < ar) = true := decide_eq_true (by omega)
   obtain ⟨p1, -, hp1⟩ := (tk_suf L j).1 _ _ _ _ hV1
   obtain ⟨hq1, hq2, hq3⟩ := drop_suf hp1
   have HQ2 := lh hq2
   have HV1 := lh hV1
   have HV2 := lh (show atkF L j false (ar - ((i + 1 : Nat) : Int)) (l.drop (l.length - q1.length)) = some (V2, q2) by rw [hq3, show ar - ((i + 1 : Nat) : Int) = ar - i - 1 by omega]; exact hV2)
   have hw1 : wrap64 ((i : Int) + 1) = (i : Int) + 1 := by have := HAR.out; unfold wrap64; omega
   have HJ := lh (HIH.out j (by have := HK.out; omega))
   clear hr hE1 hE2 hV1 hV2 hp1 hq1 hq2 hq3 hm HR
   by_cases hi : i = 0
   ·have hd : decide (i = 0) = true := decide_eq_true hi
    have b18 : decide (0 < i) = false := decide_eq_false (by omega)
    have HDD := lh (show dn ++ (V1 ++ V2) = T by have h2 := HU.out; rw [hd, if_pos rfl] at h2; exact h2)
    have HL9 := lh (show ((bs ++ txt [(3, nm), mk [40]]) ++ txt dn ++ txt V1).length ≤ 1000000000 by have h := HLEN.out; rw [← HDD.out] at h; simp only [Nbp, List.length_append] at h ⊢; omega)
    clear hd hi HU
    go_wp2_with (fail)
    refine (HJ.out 1 _ g _ b V1 q1 ⟨HW.out.pr, HPB.out.trans HW.out.bel⟩ HV1.out HL9.out).mono ?_
    rintro en w4 ⟨rfl, hw⟩
    have HW4 := lh (HW.out.trans hw)
    clear hw
    go_wp2
    go_roundg j
    case measure => omega
    case rel => exact ⟨i + 1, l.length - q1.length, dn ++ V1, V2, by first | rw [hw1]; rfl | rfl, lh (by have h := HV2.out; rw [show decide (i + 1 = 0) = false from decide_eq_false (by omega)]; exact h), lh (by rw [← HDD.out, List.append_assoc]), lh (by have := HK.out; omega), lh (by rw [HQ2.out, Nbp, ← List.append_assoc]; exact HW4.out), lh (by omega)⟩
   ·have hd : decide (i = 0) = false := decide_eq_false hi
    have b18 : decide (0 < i) = true := decide_eq_true (by omega)
    have HL9 := lh (show ((bs ++ txt [(3, nm), mk [40]]) ++ txt dn ++ [44] ++ txt V1).length ≤ 1000000000 by have h := HLEN.out; have h2 := HU.out; rw [← h2, hd, if_neg (by simp)] at h; simp only [Nbp, Nby, tk5, tk3, mk, mB, List.length_append, List.length_cons, List.length_nil] at h ⊢; omega)
    have HDD := lh (show dn ++ (mk [44] :: V1 ++ V2) = T by have h2 := HU.out; rw [hd, if_neg (by simp)] at h2; exact h2)
    have HTX := lh (show txt (dn ++ mk [44] :: V1) = txt dn ++ [44] ++ txt V1 by rw [Nbp, Nby]; simp [mk, mB, tk5])
    have HI0 := lh hi
    clear hd hi HU
    go_wp2_with ((go_at_call 58; (with_reducible refine (Nck HW.out.pr 44 (n := 44) rfl (by have h := HL9.out; simp only [List.length_append, List.length_cons, List.length_nil] at h ⊢; omega) (Nat.le_trans HB.out HW.out.bel.size)).mono ?_); rintro en w3 ⟨rfl, hw⟩; have HW3 := lh (HW.out.trans hw); clear hw))
    refine (HJ.out 1 _ g _ b V1 q1 ⟨HW3.out.pr, HPB.out.trans HW3.out.bel⟩ HV1.out HL9.out).mono ?_
    rintro en w4 ⟨rfl, hw⟩
    have HW4 := lh (HW3.out.trans hw)
    clear hw
    go_wp2
    go_roundg j
    case measure => omega
    case rel => exact ⟨i + 1, l.length - q1.length, dn ++ mk [44] :: V1, V2, by first | rw [hw1]; rfl | rfl, lh (by have h := HV2.out; rw [show decide (i + 1 = 0) = false from decide_eq_false (by omega)]; exact h), lh (by rw [← HDD.out]; simp), lh (by have := HK.out; omega), lh (by rw [HQ2.out, HTX.out, ← List.append_assoc, ← List.append_assoc]; exact HW4.out), lh (by omega)⟩
section
set_option maxHeartbeats 2000000
structure NodeW (n : S50) : Prop where
 op : n.f0 = 5 → Ndv n.f2 = Nb9 n.f2
 nm : n.f3.size ≤ 100000
 ar : n.f4 ≤ 100000
 kd : n.f0 ≠ 1 → n.f0 ≠ 2 → n.f0 ≠ 3 → n.f0 ≠ 6 → n.f0 ≠ 5 → n.f0 = 4
theorem prints_all {w0 : World} {A : Option Addr} {c : Nat} {l : List S50} {L : Lf} (hC : Kd.C k50 w0 A l.length l) (hl : l.length ≤ 100000) (lf : ∀ n ∈ l, LeafW w0 (.slice A l.length c) L n) (nw : ∀ n ∈ l, NodeW n) : ∀ k, Prints w0 (.slice A l.length c) L l k := by
 intro k
 induction k using Nat.strongRecOn with
 | _ k ih =>
  cases k with
  | zero => intro least w g bs a T q hp ht hlen; rw [tkF] at ht; cases ht
  | succ k =>
   intro least w g bs a T q hp ht hlen
   have hal : a < l.length := by
    refine Nat.lt_of_not_le fun h => ?_
    rw [List.drop_eq_nil_of_le h, tkF] at ht
    cases ht
   have hx := List.drop_eq_getElem_cons hal
   obtain ⟨ad, cs, rfl, hcl, hK, hcell⟩ := Kd.C_get (Kd.C_below hC hp.bel) z50 (a : Int) (by omega) (by omega)
   rw [show l.getD ((a : Int)).toNat z50 = l[a] by simp [List.getD, hal]] at hK
   have hm : l[a] ∈ l := List.getElem_mem hal
   have h1 := lf _ hm
   have h2 := nw _ hm
   obtain rfl := Neq hK
   rw [hx] at ht
   generalize l[a] = x at *
   obtain ⟨k0, ⟨vk, ⟨vn, vd⟩, vt, vb, ve⟩, op, nm, ar, ⟨s5, r5, c5, p5, q5⟩, ⟨s6, r6, c6, p6, q6⟩⟩ := x
   exact node_one hp hal hl (ih k (Nat.lt_succ_self k)) (call_one (fun j hj => ih j (by omega)) hl) h1 h2.op h2.nm h2.ar h2.kd (fun j v hv => by rw [add_add]; exact hcell j v hv) ht hlen
theorem print_err {k : Nat} {A : Option Addr} {c : Nat} {l : List S50} {w : World} (hC : Kd.C k50 w A l.length l) (hc : l.length ≤ c) {e : Int} (hcc : Na7.f k l = some e) (he : e ≠ 0) :
 Calls Tryz.prog 26 #[.slice A l.length c] w fun en w' => en = .returned (.tuple #[.string ⟨#[]⟩, .int .i64 e]) ∧ Below w.heap.size w w' := by
 have HC := lh (Na7.calls k A c l e w hC hc hcc)
 have b2 : (e != 0) = true := bne_iff_ne.mpr he
 clear hC hcc hc he
 go_enter Tryz.func26, Tryz.ntmps26
 go_wp2_with (go_at_call 28; (with_reducible refine (HC.out).mono ?_); rintro en w1 ⟨rfl, hb⟩; have HB := lh hb; clear hb)
 go_ret2
 exact ⟨rfl, HB.out⟩
theorem print_ok {k k2 : Nat} {A : Option Addr} {c : Nat} {l : List S50} {w : World} (hG : GL w) (hC : Kd.C k50 w A l.length l) (hc : l.length ≤ c) (hl : l.length ≤ 100000) (hcc : Na7.f k l = some 0) {L : Lf} {T : List Tk}
 (lf : ∀ w0, GL w0 → ∀ n ∈ l, LeafW w0 (.slice A l.length c) L n) (nw : ∀ n ∈ l, NodeW n) (ht : tkF L k2 1 l = some (T, [])) (hlen : (txt T).length ≤ 1000000000) (hne : txt T ≠ []) :
 Calls Tryz.prog 26 #[.slice A l.length c] w fun en w' => en = .returned (.tuple #[.string ⟨(txt T).toArray⟩, .int .i64 0]) ∧ Below w.heap.size w w' := by
 have HC := lh (Na7.calls k A c l 0 w hC hc hcc)
 have HK := lh hC
 have HG := lh hG
 have HLF := lh lf
 have HNW := lh nw
 have HT := lh ht
 have HLEN := lh hlen
 have HL := lh hl
 have HNE := lh hne
 clear hC hcc hc hG lf nw ht hlen hl hne
 go_enter Tryz.func26, Tryz.ntmps26
 go_upto_region 5 with (first
  | (go_at_call 28; (with_reducible refine (HC.out).mono ?_); rintro en w1 ⟨rfl, hb⟩; have HB := lh hb; clear hb)
  | ((with_reducible refine gD 13 rfl ?_); refine bX 13 #[.pointer none, .slice none 0 0, .slice A l.length c, .int .i64 0] 87 ?_; intro g hg_ w2 hb_ hl_; have ZG := lh (show w1.heap.size ≤ g from hg_ ▸ Nat.le_refl _); have HB2 := lh hl_; have J := lh hb_; clear hb_ hl_ hg_))
 have HPR := lh (show Pr w1 (.slice A l.length c) w2 g [] ((0 : Nat) : Int) from ⟨⟨ZG.out, .pointer none, .slice none 0 0, .inl rfl, J.out, own_nil _ _ _ _, by simp [Value.ownBlock]⟩, HB2.out⟩)
 have HN := lh (prints_all (Kd.C_below HK.out HB.out) HL.out (HLF.out w1 (HG.out.below HB.out)) HNW.out k2 1 w2 g [] 0 T [] HPR.out (by rw [List.drop_zero]; exact HT.out) (by rw [List.nil_append]; exact HLEN.out))
 go_upto_region 6 with (go_at_call 50; (with_reducible refine (HN.out).mono ?_); rintro en w3 ⟨rfl, hw⟩; have HW := lh hw; clear hw)
 have HS := lh (string_some (l := txt T) (by have h := HW.out.pr; rw [List.nil_append] at h; exact h) HNE.out)
 have HBB := lh (Nac HB.out (HB2.out.trans (HW.out.bel.mono (by omega))))
 go_wp2_with (go_at_call 51; (with_reducible refine (HS.out).mono ?_); rintro en w4 ⟨rfl, hb⟩; have HB4 := lh hb; clear hb)
 go_ret2
 refine ⟨rfl, ?_⟩
 exact HBB.out.trans (HB4.out.mono (by have := HB.out.size; omega))
end
end Go.Proofs.YtejbbceidnaloaaGreatDoor.P
