import Derived.Test.YtejbbceidnaloaaGreatDoorJ27
set_option linter.unusedVariables false
set_option linter.unusedSimpArgs false
set_option maxRecDepth 100000
set_option maxHeartbeats 8000000
namespace Go.Proofs.YtejbbceidnaloaaGreatDoor.P
open Go.RowKit Go.Proofs.YtejbbceidnaloaaGreatDoorW.PrintWords Go.Proofs.YtejbbceidnaloaaGreatDoorW.PrintLast Go.Proofs.YtejbbceidnaloaaGreatDoorW.PrintMore
mutual
inductive Tre : List S50 → Nat → Prop
 | node (n : S50) (c : Nat) (p : List S50) (d : Nat) : Nau n = (c : Int) → Frs c p d → Tre (n :: p) (d + 1)
inductive Frs : Nat → List S50 → Nat → Prop
 | nil : Frs 0 [] 0
 | cons (p q : List S50) (c d e : Nat) : Tre p d → Frs c q e → Frs (c + 1) (p ++ q) (max d e)
end
theorem parts_le (x : S50) : Nau x ≤ 30 := by
 unfold Nau Ndy partsV1 partsV2 partsV3 partsV4 partsV5 partsV6
 repeat' split
 all_goals omega
theorem Tre.pos {p : List S50} {d : Nat} (h : Tre p d) : 1 ≤ p.length ∧ 1 ≤ d ∧ d ≤ p.length := by
 induction h using Tre.rec (motive_2 := fun c p d _ => c ≤ p.length ∧ d ≤ p.length) with
 | node n c p d h1 h2 ih => simp only [List.length_cons]; omega
 | nil => exact ⟨Nat.le_refl _, Nat.le_refl _⟩
 | cons p q c d e h1 h2 i1 i2 => simp only [List.length_append]; omega
theorem mxN (a b : Nat) : mx (a : Int) (b : Int) = ((max a b : Nat) : Int) := by unfold mx; split <;> omega
theorem wr1 {i : Int} (h0 : 0 ≤ i) (h1 : i ≤ 1000000000000) : wrap64 (i + 1) = i + 1 := by unfold wrap64; omega
theorem getD_drop {l p q : List S50} {n : S50} {i : Nat} (h : l.drop i = n :: p) : i < l.length ∧ Ncm l (i : Int) = n ∧ l.drop (i + 1) = p := by
 have hi : i < l.length := by
  refine Nat.lt_of_not_le fun hh => ?_
  rw [List.drop_eq_nil_of_le hh] at h
  cases h
 rw [List.drop_eq_getElem_cons hi] at h
 injection h with h1 h2
 refine ⟨hi, ?_, h2⟩
 unfold Ncm
 simp [List.getD, hi, h1]
theorem over_all (l : List S50) (hl : l.length ≤ 100000000) : ∀ (m : Nat),
 (∀ (p q : List S50) (d i K : Nat), Tre p d → p.length ≤ m → l.drop i = p ++ q → 2 * p.length + 1 ≤ K → Nai.f K l (i : Int) = some (((i + p.length : Nat) : Int), (d : Int))) ∧
 (∀ (c : Nat) (p q : List S50) (e i K dn dp : Nat) (z : Int), Frs c p e → p.length ≤ m → l.drop i = p ++ q → i ≤ l.length → 2 * p.length + 2 ≤ K → z = ((dn + c : Nat) : Int) → z ≤ 100 → dp ≤ 100000000 → Nai.l0 K l (i : Int) (dp : Int) z (dn : Int) = some (((i + p.length : Nat) : Int), ((max dp e + 1 : Nat) : Int))) := by
 intro m
 induction m with
 | zero =>
  refine ⟨?_, ?_⟩
  ·intro p q d i K h hp
   have := h.pos
   omega
  ·intro c p q e i K dn dp z h hp hd hi hK hz hz1 hdp
   obtain ⟨K, rfl⟩ : ∃ K', K = K' + 1 := ⟨K - 1, by omega⟩
   cases h with
   | nil =>
    rw [Nai.l0, if_neg (by omega), wr1 (by omega) (by omega)]
    simp
   | cons p q c d e h1 h2 =>
    have := h1.pos
    simp only [List.length_append] at hp
    omega
 | succ m ih =>
  obtain ⟨ih1, ih2⟩ := ih
  have hf : ∀ (p q : List S50) (d i K : Nat), Tre p d → p.length ≤ m + 1 → l.drop i = p ++ q → 2 * p.length + 1 ≤ K → Nai.f K l (i : Int) = some (((i + p.length : Nat) : Int), (d : Int)) := by
   intro p q d i K h hp hd hK
   obtain ⟨K, rfl⟩ : ∃ K', K = K' + 1 := ⟨K - 1, by omega⟩
   cases h with
   | node n c p d h1 h2 =>
    obtain ⟨hi, hn, hd2⟩ := getD_drop (q := q) (l := l) (n := n) (p := p ++ q) (by rw [hd]; rfl)
    simp only [List.length_cons] at hp hK
    have hc := parts_le n
    rw [Nai.f, if_neg (by omega), if_pos (by omega), if_pos (by omega), hn]
    show (if Nau n < 0 then some ((-1 : Int), (0 : Int)) else _) = _
    rw [if_neg (by omega), wr1 (by omega) (by omega)]
    have h3 := ih2 c p q d (i + 1) K 0 0 (Nau n) h2 (by omega) hd2 (by omega) (by omega) (by omega) (by omega) (by omega)
    rw [show ((i : Int) + 1) = ((i + 1 : Nat) : Int) by omega]
    refine h3.trans ?_
    simp only [List.length_cons, Nat.zero_max]
    rw [show i + 1 + p.length = i + (p.length + 1) by omega]
  refine ⟨hf, ?_⟩
  intro c p q e i K dn dp z h hp hd hi hK hz hz1 hdp
  obtain ⟨K, rfl⟩ : ∃ K', K = K' + 1 := ⟨K - 1, by omega⟩
  cases h with
  | nil =>
   rw [Nai.l0, if_neg (by omega), wr1 (by omega) (by omega)]
   simp
  | cons p q2 c d e h1 h2 =>
   have hp1 := h1.pos
   simp only [List.length_append] at hp hK
   rw [Nai.l0, if_pos (by omega), hf p (q2 ++ q) d i K h1 (by omega) (by rw [hd, List.append_assoc]) (by omega)]
   show (if ((i + p.length : Nat) : Int) < 0 then some ((-1 : Int), (0 : Int)) else _) = _
   rw [if_neg (by omega), mxN, wr1 (by omega) (by omega)]
   have hd2 : l.drop (i + p.length) = q2 ++ q := by rw [← List.drop_drop, hd, List.append_assoc, List.drop_left]
   have hle : i + p.length ≤ l.length := by
    have := congrArg List.length hd
    simp only [List.length_drop, List.length_append] at this
    omega
   have h3 := ih2 c q2 q e (i + p.length) K (dn + 1) (max dp d) z h2 (by omega) hd2 hle (by omega) (by omega) hz1 (by omega)
   rw [show ((dn : Int) + 1) = ((dn + 1 : Nat) : Int) by omega]
   refine h3.trans ?_
   simp only [List.length_append]
   rw [show i + p.length + q2.length = i + (p.length + q2.length) by omega, Nat.max_assoc]
theorem over_back (l : List S50) (hl : l.length ≤ 100000000) : ∀ (K : Nat),
 (∀ (i : Nat) (e d : Int), Nai.f K l (i : Int) = some (e, d) → 0 ≤ e → ∃ (p q : List S50) (dd : Nat), l.drop i = p ++ q ∧ Tre p dd ∧ e = ((i + p.length : Nat) : Int) ∧ d = (dd : Int)) ∧
 (∀ (i dn c dp : Nat) (e d : Int), i ≤ l.length → dn + c ≤ 100 → dp ≤ 100000000 → Nai.l0 K l (i : Int) (dp : Int) ((dn + c : Nat) : Int) (dn : Int) = some (e, d) → 0 ≤ e → ∃ (p q : List S50) (dd : Nat), l.drop i = p ++ q ∧ Frs c p dd ∧ e = ((i + p.length : Nat) : Int) ∧ d = ((max dp dd + 1 : Nat) : Int)) := by
 intro K
 induction K with
 | zero =>
  refine ⟨?_, ?_⟩
  ·intro i e d h; rw [Nai.f] at h; cases h
  ·intro i dn c dp e d _ _ _ h; rw [Nai.l0] at h; cases h
 | succ K ih =>
  obtain ⟨ih1, ih2⟩ := ih
  refine ⟨?_, ?_⟩
  ·intro i e d h he
   rw [Nai.f] at h
   split at h
   ·cases h; omega
   rename_i hi
   rw [if_pos (by omega), if_pos (by omega)] at h
   have hil : i < l.length := by omega
   have hx := List.drop_eq_getElem_cons hil
   obtain ⟨-, hn, -⟩ := getD_drop (q := []) hx
   rw [hn] at h
   change (if Nau l[i] < 0 then some ((-1 : Int), (0 : Int)) else _) = _ at h
   split at h
   ·cases h; omega
   rename_i hp
   have hle := parts_le l[i]
   obtain ⟨c, hc⟩ : ∃ c : Nat, Nau l[i] = (c : Int) := ⟨(Nau l[i]).toNat, by omega⟩
   rw [wr1 (by omega) (by omega), hc, show ((i : Int) + 1) = ((i + 1 : Nat) : Int) by omega, show (c : Int) = ((0 + c : Nat) : Int) by omega] at h
   obtain ⟨p, q, dd, h1, h2, h3, h4⟩ := ih2 (i + 1) 0 c 0 e d (by omega) (by omega) (by omega) h he
   refine ⟨l[i] :: p, q, dd + 1, ?_, .node _ c p dd hc h2, ?_, ?_⟩
   ·rw [hx, h1]; rfl
   ·rw [h3]; simp only [List.length_cons]; omega
   ·rw [h4]; omega
  ·intro i dn c dp e d hi hc hdp h he
   rw [Nai.l0] at h
   by_cases hlt : (dn : Int) < ((dn + c : Nat) : Int)
   ·rw [if_pos hlt] at h
    obtain ⟨⟨e1, d1⟩, ho, h⟩ := Option.bind_eq_some_iff.1 h
    change (if e1 < 0 then some ((-1 : Int), (0 : Int)) else _) = _ at h
    split at h
    ·cases h; omega
    rename_i he1
    obtain ⟨p, q, dd, h1, h2, h3, h4⟩ := ih1 i e1 d1 ho (by omega)
    have hpos := h2.pos
    have hlen := congrArg List.length h1
    simp only [List.length_drop, List.length_append] at hlen
    obtain ⟨c, rfl⟩ : ∃ c', c = c' + 1 := ⟨c - 1, by omega⟩
    rw [h3, h4, mxN, wr1 (by omega) (by omega), show ((dn : Int) + 1) = ((dn + 1 : Nat) : Int) by omega, show dn + (c + 1) = dn + 1 + c by omega] at h
    obtain ⟨p2, q2, dd2, g1, g2, g3, g4⟩ := ih2 (i + p.length) (dn + 1) c (max dp dd) e d (by omega) (by omega) (by omega) h he
    have hq : q = p2 ++ q2 := by rw [← g1, ← List.drop_drop, h1, List.drop_left]
    refine ⟨p ++ p2, q2, max dd dd2, ?_, .cons p p2 c dd dd2 h2 g2, ?_, ?_⟩
    ·rw [h1, hq, List.append_assoc]
    ·rw [g3]; simp only [List.length_append]; omega
    ·rw [g4, Nat.max_assoc]
   ·rw [if_neg hlt] at h
    obtain rfl : c = 0 := by omega
    cases h
    refine ⟨[], l.drop i, 0, rfl, .nil, by simp, ?_⟩
    rw [wr1 (by omega) (by omega)]; omega
theorem over_some (l : List S50) (hl : l.length ≤ 100000000) : ∀ (m : Nat),
 (∀ (i K : Nat), l.length - i ≤ m → 2 * m + 1 ≤ K → ∃ x, Nai.f K l (i : Int) = some x) ∧
 (∀ (i dn c dp K : Nat), i ≤ l.length → l.length - i ≤ m → dn + c ≤ 100 → dp ≤ 100000000 → 2 * m + 2 ≤ K → ∃ x, Nai.l0 K l (i : Int) (dp : Int) ((dn + c : Nat) : Int) (dn : Int) = some x) := by
 intro m
 induction m with
 | zero =>
  have hf : ∀ (i K : Nat), l.length - i ≤ 0 → 2 * 0 + 1 ≤ K → ∃ x, Nai.f K l (i : Int) = some x := by
   intro i K hi hK
   obtain ⟨K, rfl⟩ : ∃ K', K = K' + 1 := ⟨K - 1, by omega⟩
   exact ⟨_, by rw [Nai.f, if_pos (by omega)]⟩
  refine ⟨hf, ?_⟩
  intro i dn c dp K hil hi hc hdp hK
  obtain ⟨K, rfl⟩ : ∃ K', K = K' + 1 := ⟨K - 1, by omega⟩
  rw [Nai.l0]
  by_cases hlt : (dn : Int) < ((dn + c : Nat) : Int)
  ·obtain ⟨K, rfl⟩ : ∃ K', K = K' + 1 := ⟨K - 1, by omega⟩
   rw [if_pos hlt, Nai.f, if_pos (by omega)]
   exact ⟨_, rfl⟩
  ·rw [if_neg hlt]; exact ⟨_, rfl⟩
 | succ m ih =>
  obtain ⟨ih1, ih2⟩ := ih
  have hf : ∀ (i K : Nat), l.length - i ≤ m + 1 → 2 * (m + 1) + 1 ≤ K → ∃ x, Nai.f K l (i : Int) = some x := by
   intro i K hi hK
   obtain ⟨K, rfl⟩ : ∃ K', K = K' + 1 := ⟨K - 1, by omega⟩
   rw [Nai.f]
   by_cases hil : (l.length : Int) ≤ (i : Int)
   ·exact ⟨_, if_pos hil⟩
   rw [if_neg hil, if_pos (by omega), if_pos (by omega)]
   have hil : i < l.length := by omega
   obtain ⟨-, hn, -⟩ := getD_drop (q := []) (List.drop_eq_getElem_cons hil)
   rw [hn]
   show ∃ x, (if Nau l[i] < 0 then some ((-1 : Int), (0 : Int)) else _) = some x
   split
   ·exact ⟨_, rfl⟩
   rename_i hp
   have hle := parts_le l[i]
   obtain ⟨c, hc⟩ : ∃ c : Nat, Nau l[i] = (c : Int) := ⟨(Nau l[i]).toNat, by omega⟩
   rw [wr1 (by omega) (by omega), hc, show ((i : Int) + 1) = ((i + 1 : Nat) : Int) by omega, show (c : Int) = ((0 + c : Nat) : Int) by omega]
   exact ih2 (i + 1) 0 c 0 K (by omega) (by omega) (by omega) (by omega) (by omega)
  refine ⟨hf, ?_⟩
  intro i dn c dp K hil hi hc hdp hK
  obtain ⟨K, rfl⟩ : ∃ K', K = K' + 1 := ⟨K - 1, by omega⟩
  rw [Nai.l0]
  by_cases hlt : (dn : Int) < ((dn + c : Nat) : Int)
  ·rw [if_pos hlt]
   obtain ⟨⟨e1, d1⟩, ho⟩ := hf i K (by omega) (by omega)
   rw [ho]
   show ∃ x, (if e1 < 0 then some ((-1 : Int), (0 : Int)) else _) = some x
   split
   ·exact ⟨_, rfl⟩
   rename_i he
   obtain ⟨p, q, dd, h1, h2, h3, h4⟩ := (over_back l hl K).1 i e1 d1 ho (by omega)
   have hpos := h2.pos
   have hlen := congrArg List.length h1
   simp only [List.length_drop, List.length_append] at hlen
   obtain ⟨c, rfl⟩ : ∃ c', c = c' + 1 := ⟨c - 1, by omega⟩
   rw [h3, h4, mxN, wr1 (by omega) (by omega), show ((dn : Int) + 1) = ((dn + 1 : Nat) : Int) by omega, show dn + (c + 1) = dn + 1 + c by omega]
   exact ih2 (i + p.length) (dn + 1) c (max dp dd) K (by omega) (by omega) (by omega) (by omega) (by omega)
  ·rw [if_neg hlt]; exact ⟨_, rfl⟩
theorem eq_eB {s : ByteArray} (h : s.toList = []) : s = eB := by
 have h0 := (Nd1 s).mp h
 obtain ⟨d⟩ := s
 have : d = #[] := Array.eq_empty_of_size_eq_zero h0
 rw [this]; rfl
def litB (v : S46) : Bool := valB v.f0 v.f1.f0 v.f1.f1 v.f2 v.f3 v.f4 && decide (v.f0 ≠ 0 ∧ (v.f0 ≠ 1 ∨ 0 ≤ v.f1.f0 ∧ (1000000 : Int) % v.f1.f1 = 0))
def refR (r : S48) : Bool := refB r.f0 r.f1 r.f2
def binO (o : Int) : Prop := (11 ≤ o ∧ o ≤ 16) ∨ (21 ≤ o ∧ o ≤ 26)
inductive Good : S50 → Int → Prop
 | val (v : S46) : litB v = true → Good (nVal v) 0
 | cell (r : S48) : refR r = true → Good (nCell r) 0
 | area (r s : S48) : refR r = true → refR s = true → s.f0 = eB → Good (nArea r s) 0
 | un (o : Int) : 1 ≤ o → o ≤ 3 → Good (nUn o) 1
 | bin (o : Int) : binO o → Good (nBin o) 2
 | call (m : ByteArray) (c : Int) : fnB m = true → 0 ≤ c → c ≤ 30 → Good (nCall m c) c
theorem Nd9 (n : S50) (h : 0 ≤ Nau n) : Good n (Nau n) := by
 obtain ⟨k, ⟨v0, ⟨v1, v2⟩, v3, v4, v5⟩, o, m, ag, ⟨a0, a1, a2, a3, a4⟩, ⟨b0, b1, b2, b3, b4⟩⟩ := n
 unfold Nau at h ⊢
 simp only at h ⊢
 unfold Ndy at h ⊢
 by_cases h1 : k = 1
 ·subst h1
  simp only [if_true] at h ⊢
  unfold partsV1 at h ⊢
  split at h
  ·rename_i hr
   split at h
   ·rename_i hv
    rw [if_pos hr, if_pos hv]
    unfold rest1 at hr
    obtain ⟨rfl, hm, rfl, ha, rfl, rfl, rfl, rfl, hb, rfl, rfl, rfl, rfl⟩ := of_decide_eq_true hr
    rw [eq_eB hm, eq_eB ha, eq_eB hb]
    exact .val ⟨v0, ⟨v1, v2⟩, v3, v4, v5⟩ (by unfold litB; rw [Bool.and_eq_true]; exact ⟨hv.1, decide_eq_true hv.2⟩)
   ·omega
  ·omega
 rw [if_neg h1] at h ⊢
 by_cases h2 : k = 2
 ·subst h2
  simp only [if_true] at h ⊢
  unfold partsV2 at h ⊢
  split at h
  ·rename_i hr
   split at h
   ·rename_i hv
    rw [if_pos hr, if_pos hv]
    unfold rest2 at hr
    obtain ⟨rfl, rfl, rfl, hv3, rfl, rfl, rfl, hm, rfl, hb, rfl, rfl, rfl, rfl⟩ := of_decide_eq_true hr
    rw [eq_eB hm, eq_eB hv3, eq_eB hb]
    exact .cell ⟨a0, a1, a2, a3, a4⟩ hv.1
   ·omega
  ·omega
 rw [if_neg h2] at h ⊢
 by_cases h3 : k = 3
 ·subst h3
  simp only [if_true] at h ⊢
  unfold partsV3 at h ⊢
  split at h
  ·rename_i hr
   split at h
   ·rename_i hv
    rw [if_pos hr, if_pos hv]
    unfold rest3 at hr
    obtain ⟨rfl, rfl, rfl, hv3, rfl, rfl, rfl, hm, rfl⟩ := of_decide_eq_true hr
    have hb := eq_eB hv.2.2
    rw [eq_eB hm, eq_eB hv3]
    exact .area ⟨a0, a1, a2, a3, a4⟩ ⟨b0, b1, b2, b3, b4⟩ hv.1 hv.2.1 hb
   ·omega
  ·omega
 rw [if_neg h3] at h ⊢
 by_cases h4 : k = 4
 ·subst h4
  simp only [if_true] at h ⊢
  unfold partsV4 at h ⊢
  split at h
  ·rename_i hr
   split at h
   ·rename_i hv
    rw [if_pos hr, if_pos hv]
    unfold rest4 at hr
    obtain ⟨rfl, rfl, rfl, hv3, rfl, rfl, hm, rfl, ha, rfl, rfl, rfl, rfl, hb, rfl, rfl, rfl, rfl⟩ := of_decide_eq_true hr
    rw [eq_eB hm, eq_eB hv3, eq_eB ha, eq_eB hb]
    exact .un o hv.1 hv.2
   ·omega
  ·omega
 rw [if_neg h4] at h ⊢
 by_cases h5 : k = 5
 ·subst h5
  simp only [if_true] at h ⊢
  unfold partsV5 at h ⊢
  split at h
  ·rename_i hr
   split at h
   ·rename_i hv
    rw [if_pos hr, if_pos hv]
    unfold rest5 at hr
    obtain ⟨rfl, rfl, rfl, hv3, rfl, rfl, hm, rfl, ha, rfl, rfl, rfl, rfl, hb, rfl, rfl, rfl, rfl⟩ := of_decide_eq_true hr
    rw [eq_eB hm, eq_eB hv3, eq_eB ha, eq_eB hb]
    exact .bin o hv
   ·omega
  ·omega
 rw [if_neg h5] at h ⊢
 by_cases h6 : k = 6
 ·subst h6
  simp only [if_true] at h ⊢
  unfold partsV6 at h ⊢
  split at h
  ·rename_i hr
   split at h
   ·rename_i hv
    rw [if_pos hr, if_pos hv]
    unfold rest6 at hr
    obtain ⟨rfl, rfl, rfl, hv3, rfl, rfl, rfl, ha, rfl, rfl, rfl, rfl, hb, rfl, rfl, rfl, rfl⟩ := of_decide_eq_true hr
    rw [eq_eB hv3, eq_eB ha, eq_eB hb]
    exact .call m ag hv.1 hv.2.1 hv.2.2
   ·omega
  ·omega
 rw [if_neg h6] at h
 omega
theorem Tre.good {p : List S50} {d : Nat} (h : Tre p d) : ∀ n ∈ p, 0 ≤ Nau n := by
 induction h using Tre.rec (motive_2 := fun c p d _ => ∀ n ∈ p, 0 ≤ Nau n) with
 | node n c p d h1 h2 ih =>
  intro m hm
  rcases List.mem_cons.1 hm with rfl | hm
  ·omega
  ·exact ih m hm
 | nil => rename_i m hm; cases hm
 | cons p q c d e h1 h2 i1 i2 =>
  rename_i m hm
  rcases List.mem_append.1 hm with hm | hm
  ·exact i1 m hm
  ·exact i2 m hm
theorem check_back {K : Nat} {l : List S50} (h : Na0.f K l = some 0) : ∃ d, Tre l d ∧ d ≤ 32 ∧ l.length ≤ 256 := by
 unfold Na0.f at h
 split at h
 ·cases h
 rename_i hl
 obtain ⟨⟨e, d⟩, ho, h⟩ := Option.bind_eq_some_iff.1 h
 simp only at h
 split at h
 ·rename_i he
  split at h
  ·cases h
  ·rename_i hd
   obtain ⟨p, q, dd, h1, h2, h3, h4⟩ := (over_back l (by omega) K).1 0 e d ho (by omega)
   rw [List.drop_zero] at h1
   have hlen := congrArg List.length h1
   rw [List.length_append] at hlen
   have hq : q = [] := List.eq_nil_of_length_eq_zero (by omega)
   rw [hq, List.append_nil] at h1
   rw [← h1] at h2
   exact ⟨dd, h2, by omega, by omega⟩
 ·cases h
theorem check_some (l : List S50) {K : Nat} (hK : 600 ≤ K) : ∃ c, Na0.f K l = some c ∧ (c = 0 ∨ c = 51 ∨ c = 52 ∨ c = 53) := by
 unfold Na0.f
 split
 ·exact ⟨_, rfl, by omega⟩
 ·obtain ⟨⟨e, d⟩, h⟩ := (over_some l (by omega) 256).1 0 K (by omega) (by omega)
  rw [show ((0 : Nat) : Int) = 0 from rfl] at h
  rw [h]
  show ∃ c, (if e = (l.length : Int) then (if d > 32 then some (51 : Int) else some 0) else some 53) = some c ∧ _
  split
  ·split
   ·exact ⟨_, rfl, by omega⟩
   ·exact ⟨_, rfl, by omega⟩
  ·exact ⟨_, rfl, by omega⟩
theorem check_tre {l : List S50} {d : Nat} (h : Tre l d) (hl : l.length ≤ 256) {K : Nat} (hK : 600 ≤ K) : Na0.f K l = some (if d ≤ 32 then 0 else 51) := by
 unfold Na0.f
 rw [if_neg (by omega)]
 have h1 := (over_all l (by omega) 256).1 l [] d 0 K h hl (by rw [List.drop_zero, List.append_nil]) (by omega)
 rw [show ((0 : Nat) : Int) = 0 from rfl] at h1
 rw [h1]
 show (if ((0 + l.length : Nat) : Int) = (l.length : Int) then (if (d : Int) > 32 then some (51 : Int) else some 0) else some 53) = _
 rw [if_pos (by omega)]
 by_cases hd : d ≤ 32
 ·rw [if_pos hd, if_neg (by omega)]
 ·rw [if_neg hd, if_pos (by omega)]
theorem tre_tk (L : Lf) : ∀ (m : Nat),
 (∀ (p : List S50) (d K : Nat) (least : Int) (q : List S50), Tre p d → p.length ≤ m → 2 * p.length + 1 ≤ K → ∃ T, T ≠ [] ∧ tkF L K least (p ++ q) = some (T, q)) ∧
 (∀ (c : Nat) (p : List S50) (d K : Nat) (first : Bool) (q : List S50), Frs c p d → p.length ≤ m → 2 * p.length + 2 ≤ K → ∃ T, atkF L K first (c : Int) (p ++ q) = some (T, q)) := by
 intro m
 induction m with
 | zero =>
  refine ⟨?_, ?_⟩
  ·intro p d K least q h hp
   have := h.pos
   omega
  ·intro c p d K first q h hp hK
   obtain ⟨K, rfl⟩ : ∃ K', K = K' + 1 := ⟨K - 1, by omega⟩
   cases h with
   | nil => exact ⟨[], by rw [atkF, if_pos (by omega)]; rfl⟩
   | cons p q c d e h1 h2 =>
    have := h1.pos
    simp only [List.length_append] at hp
    omega
 | succ m ih =>
  obtain ⟨ih1, ih2⟩ := ih
  have hf : ∀ (p : List S50) (d K : Nat) (least : Int) (q : List S50), Tre p d → p.length ≤ m + 1 → 2 * p.length + 1 ≤ K → ∃ T, T ≠ [] ∧ tkF L K least (p ++ q) = some (T, q) := by
   intro p d K least q h hp hK
   obtain ⟨K, rfl⟩ : ∃ K', K = K' + 1 := ⟨K - 1, by omega⟩
   cases h with
   | node n c p d h1 h2 =>
    simp only [List.length_cons] at hp hK
    suffices hs : ∃ U, U ≠ [] ∧ (if n.f0 = 1 then some ([L.val n.f1], p ++ q)
     else if n.f0 = 2 then some (refT L n.f5, p ++ q)
     else if n.f0 = 3 then some (refT L n.f5 ++ [mk [58], (3, L.cel n.f6)], p ++ q)
     else if n.f0 = 6 then (atkF L K true n.f4 (p ++ q)).map fun (T, q) => ((3, n.f3) :: mk [40] :: (T ++ [mk [41]]), q)
     else if n.f0 = 5 then (tkF L K (Nct n.f2) (p ++ q)).bind fun (T, q) => (tkF L K (Nct n.f2 + 1) q).map fun (U, p) => (T ++ (5, signB n.f2) :: U, p)
     else if n.f2 = 3 then (tkF L K 7 (p ++ q)).map fun (T, q) => (T ++ [mk [37]], q)
     else (tkF L K 6 (p ++ q)).map fun (T, q) => ((5, signB n.f2) :: T, q)) = some (U, q) by
     obtain ⟨U, h0, hU⟩ := hs
     refine ⟨bra (decide (Nd5 n < least)) U, ?_, ?_⟩
     ·unfold bra; split
      ·simp
      ·exact h0
     ·rw [List.cons_append, tkF, hU]; rfl
    have hg := Nd9 n (by omega)
    rw [h1] at hg
    generalize hcc : (c : Int) = cc at hg
    have nil_of : c = 0 → p = [] := by
     intro h0; subst h0
     cases h2; rfl
    cases hg with
    | val v hv =>
     obtain rfl := nil_of (by omega)
     exact ⟨[L.val v], by simp, rfl⟩
    | cell r hr =>
     obtain rfl := nil_of (by omega)
     exact ⟨refT L r, by unfold refT; split <;> simp, rfl⟩
    | area r s hr hs h0 =>
     obtain rfl := nil_of (by omega)
     exact ⟨refT L r ++ [mk [58], (3, L.cel s)], by simp, rfl⟩
    | un o h1 h3 =>
     obtain rfl : c = 1 := by omega
     have hp1 : ∃ d', Tre p d' := by
      cases h2 with
      | cons p1 q1 c d e g1 g2 =>
       cases g2
       exact ⟨d, by rw [List.append_nil]; exact g1⟩
     obtain ⟨d', hp1⟩ := hp1
     by_cases ho : o = 3
     ·obtain ⟨U, hU0, hU⟩ := ih1 p d' K 7 q hp1 (by omega) (by omega)
      refine ⟨U ++ [mk [37]], by simp, ?_⟩
      subst ho
      show (tkF L K 7 (p ++ q)).map (fun (T, q) => (T ++ [mk [37]], q)) = _
      rw [hU]; rfl
     ·obtain ⟨U, hU0, hU⟩ := ih1 p d' K 6 q hp1 (by omega) (by omega)
      refine ⟨(5, signB o) :: U, by simp, ?_⟩
      show (if o = 3 then (tkF L K 7 (p ++ q)).map (fun (T, q) => (T ++ [mk [37]], q)) else (tkF L K 6 (p ++ q)).map fun (T, q) => ((5, signB o) :: T, q)) = _
      rw [if_neg ho, hU]; rfl
    | bin o ho =>
     obtain rfl : c = 2 := by omega
     cases h2 with
     | cons p1 q1 c d e g1 g2 =>
      cases g2 with
      | cons p2 q2 c d e g3 g4 =>
       cases g4
       simp only [List.length_append, List.length_nil] at hp hK
       have hpos := g1.pos
       obtain ⟨U1, -, hU1⟩ := ih1 p1 _ K (Nct o) (p2 ++ q) g1 (by omega) (by omega)
       obtain ⟨U2, -, hU2⟩ := ih1 p2 _ K (Nct o + 1) q g3 (by omega) (by omega)
       refine ⟨U1 ++ (5, signB o) :: U2, by simp, ?_⟩
       show (tkF L K (Nct o) (p1 ++ (p2 ++ []) ++ q)).bind (fun (T, q) => (tkF L K (Nct o + 1) q).map fun (U, p) => (T ++ (5, signB o) :: U, p)) = _
       rw [List.append_nil, List.append_assoc, hU1]
       show (tkF L K (Nct o + 1) (p2 ++ q)).map (fun (U, p) => (U1 ++ (5, signB o) :: U, p)) = _
       rw [hU2]; rfl
    | call m n hm h0 h30 =>
     obtain ⟨T, hT⟩ := ih2 c p _ K true q h2 (by omega) (by omega)
     refine ⟨(3, m) :: mk [40] :: (T ++ [mk [41]]), by simp, ?_⟩
     subst hcc
     show (atkF L K true (c : Int) (p ++ q)).map (fun (T, q) => ((3, m) :: mk [40] :: (T ++ [mk [41]]), q)) = _
     rw [hT]; rfl
  refine ⟨hf, ?_⟩
  intro c p d K first q h hp hK
  obtain ⟨K, rfl⟩ : ∃ K', K = K' + 1 := ⟨K - 1, by omega⟩
  cases h with
  | nil => exact ⟨[], by rw [atkF, if_pos (by omega)]; rfl⟩
  | cons p q2 c d e h1 h2 =>
   simp only [List.length_append] at hp hK
   have hpos := h1.pos
   obtain ⟨T, -, hT⟩ := hf p _ K 1 (q2 ++ q) h1 (by omega) (by omega)
   obtain ⟨U, hU⟩ := ih2 c q2 _ K false q h2 (by omega) (by omega)
   refine ⟨(if first then T else mk [44] :: T) ++ U, ?_⟩
   rw [atkF, if_neg (by omega), List.append_assoc, hT]
   show (atkF L K false (((c + 1 : Nat) : Int) - 1) (q2 ++ q)).map (fun (U, p) => ((if first then T else mk [44] :: T) ++ U, p)) = _
   rw [show (((c + 1 : Nat) : Int) - 1) = (c : Int) by omega, hU]; rfl
def valTk (v : S46) : Tk :=
 if v.f0 = 2 then (2, v.f2) else if v.f0 = 4 then (4, Ncb.getD (v.f4 - 1).toNat ByteArray.empty) else if v.f0 = 3 then (3, if v.f3 then tTRUE else tFALSE) else (1, ⟨(numL v.f1.f0 v.f1.f1).toArray⟩)
def celL (r : S48) : List UInt8 := (if r.f4 then [36] else []) ++ colL r.f2 ++ (if r.f3 then [36] else []) ++ Lib.decDigits (r.f1 + 1).toNat
def theLf : Lf := ⟨valTk, fun r => ⟨(celL r).toArray⟩⟩
theorem lit_cases {v : S46} (h : litB v = true) :
 (v.f0 = 1 ∧ numB v.f1.f0 v.f1.f1 = true ∧ v.f2 = eB ∧ v.f3 = false ∧ v.f4 = 0 ∧ 0 ≤ v.f1.f0 ∧ (1000000 : Int) % v.f1.f1 = 0) ∨
 (v.f0 = 2 ∧ v.f1.f0 = 0 ∧ v.f1.f1 = 0 ∧ v.f2.size ≤ 256 ∧ Ne0 v.f2 = true ∧ v.f3 = false ∧ v.f4 = 0) ∨
 (v.f0 = 3 ∧ v.f1.f0 = 0 ∧ v.f1.f1 = 0 ∧ v.f2 = eB ∧ v.f4 = 0) ∨
 (v.f0 = 4 ∧ v.f1.f0 = 0 ∧ v.f1.f1 = 0 ∧ v.f2 = eB ∧ v.f3 = false ∧ 1 ≤ v.f4 ∧ v.f4 ≤ 8) := by
 unfold litB at h
 rw [Bool.and_eq_true, decide_eq_true_eq] at h
 obtain ⟨h, h0, h1⟩ := h
 unfold valB at h
 simp only [Bool.or_eq_true, Bool.and_eq_true, beq_iff_eq, Bool.not_eq_true', decide_eq_true_eq] at h
 rcases h with (((h | h) | h) | h) | h
 ·exact absurd h.1.1.1.1.1 h0
 ·obtain ⟨⟨⟨⟨a, b⟩, c⟩, d⟩, e⟩ := h
  have h1 := h1.resolve_left (fun hh => hh a)
  exact .inl ⟨a, b, eq_eB c, d, e, h1.1, h1.2⟩
 ·obtain ⟨⟨⟨⟨⟨⟨a, b⟩, c⟩, d⟩, e⟩, f⟩, g⟩ := h
  exact .inr (.inl ⟨a, b, c, d, e, f, g⟩)
 ·obtain ⟨⟨⟨⟨a, b⟩, c⟩, d⟩, e⟩ := h
  exact .inr (.inr (.inl ⟨a, b, c, eq_eB d, e⟩))
 ·obtain ⟨⟨⟨⟨⟨a, b⟩, c⟩, d⟩, e⟩, f, g⟩ := h
  exact .inr (.inr (.inr ⟨a, b, c, eq_eB d, e, f, g⟩))
theorem lit_val {v : S46} (h : litB v = true) : valB v.f0 v.f1.f0 v.f1.f1 v.f2 v.f3 v.f4 = true := by
 unfold litB at h
 rw [Bool.and_eq_true] at h
 exact h.1
theorem faults_size (e : Int) (h1 : 1 ≤ e) (h8 : e ≤ 8) : (Ncb.getD (e - 1).toNat ByteArray.empty).size ≤ 8 := by
 have : e = 1 ∨ e = 2 ∨ e = 3 ∨ e = 4 ∨ e = 5 ∨ e = 6 ∨ e = 7 ∨ e = 8 := by omega
 rcases this with rfl | rfl | rfl | rfl | rfl | rfl | rfl | rfl <;> decide
theorem txt_one (t : Tk) : txt [t] = Nel t := by rw [Ncf, Nd4, List.append_nil]
theorem wrote_eq {B : Nat} {w : World} {g : Nat} {bs T U : List UInt8} {lv : Value} {a : Int} (e : T = U) {en : Ending} {w' : World} (h : en = .returned (.tuple #[]) ∧ Wrote B w g (bs ++ T) lv a w') : en = .returned (.tuple #[]) ∧ Wrote B w g (bs ++ U) lv a w' := e ▸ h
theorem text_f {K : Nat} (hK : 1000003 ≤ K) {n d e : Int} {tx : ByteArray} {b : Bool} (hR : numB n d = true) (h0 : 0 ≤ n) (hd : (1000000 : Int) % d = 0) (hv : valB 1 n d tx b e = true) : Nb9.f K 1 n d tx b e = some (⟨(numL n d).toArray⟩, 0, 0, 0, ⟨#[]⟩, false, 0) := by
 unfold Nb9.f Nbq.f
 rw [Nc8 _ _ _ _ _ _ _ (by omega), hv]
 simp only [Option.bind_some, if_true]
 rw [if_neg (by decide), num_text_f hR h0 hd hK]
 rfl
theorem truth_f {K : Nat} (hK : 1000003 ≤ K) {n d e : Int} {tx : ByteArray} {b : Bool} (hv : valB 3 n d tx b e = true) : Nb9.f K 3 n d tx b e = some (if b then tTRUE else tFALSE, 0, 0, 0, ⟨#[]⟩, false, 0) := by
 unfold Nb9.f Nbq.f
 rw [Nc8 _ _ _ _ _ _ _ (by omega), hv]
 simp only [Option.bind_some, if_true]
 rw [if_neg (by decide), if_neg (by decide)]
 cases b <;> rfl
theorem leaf_val {w0 : World} (hG : GL w0) {lv : Value} {v : S46} (h : litB v = true) : LeafW w0 lv theLf (nVal v) := by
 refine ⟨fun _ => ?_, fun hh => absurd hh (show ¬ ((1 : Int) = 2 ∨ (1 : Int) = 3) by decide), fun hh => absurd hh (show ¬ (1 : Int) = 3 by decide)⟩
 intro w g bs a hp hlen
 obtain ⟨kd, ⟨n, d⟩, tx, b, e⟩ := v
 have hv := lit_val h
 show Calls Tryz.prog 75 #[.pointer (some ⟨g, 0, none⟩), .agg #[.int .i64 kd, .int .i64 n, .int .i64 d, .string tx, .bool b, .int .i64 e]] w (fun e' w' => e' = .returned (.tuple #[]) ∧ Wrote w0.heap.size w g (bs ++ txt [valTk ⟨kd, ⟨n, d⟩, tx, b, e⟩]) lv a w')
 rw [txt_one]
 rcases lit_cases h with ⟨h0, hN, h2, h3, h4, h5, h6⟩ | ⟨h0, h1, h2, h3, h4, h5, h6⟩ | ⟨h0, h1, h2, h3, h4⟩ | ⟨h0, h1, h2, h3, h4, h5, h6⟩
 ·simp only at h0 hN h2 h3 h4 h5 h6 hv
  subst h0
  have hb := hN
  unfold numB at hb
  obtain ⟨-, b1, b2, b3, -⟩ := of_decide_eq_true hb
  have hsz := num_len h5 b1 b2 b3
  exact Ne2 hp.pr hp.bel hG (t := ⟨(numL n d).toArray⟩) (by decide) (fun w hw => show_text (kd := 1) (k := 1000003) hw (by rw [Nc8 _ _ _ _ _ _ _ (by omega)]; exact congrArg some hv) (by decide) (by decide) (text_f (Nat.le_refl _) hN h5 h6 hv)) (by rw [Nan]; omega) hlen
 ·simp only at h0 h1 h2 h3 h4 h5 h6 hv
  subst h0
  have hr : Na5.f tx ⟨#[34]⟩ ⟨#[34, 34]⟩ = some ⟨(Lib.replaceAll tx.data.toList [34] [34, 34]).toArray⟩ := by
   unfold Na5.f
   have hc := Lib.countB_le ⟨#[34]⟩ (by decide) tx.size tx (Nat.le_refl _)
   have e2 : (⟨#[34, 34]⟩ : ByteArray).size = 2 := rfl
   rw [if_pos ⟨by omega, by decide, by rw [e2]; omega⟩]
  have hl := dblL_len tx.data.toList
  have hz : tx.data.toList.length = tx.size := Array.length_toList
  exact literal_text (kd := 2) (rt := ⟨(Lib.replaceAll tx.data.toList [34] [34, 34]).toArray⟩) hp.pr hp.bel hG hr (by rw [Nan]; have e := congrArg List.length (Ne9 tx.data.toList); omega) hlen
 ·simp only at h0 h1 h2 h3 h4 hv
  subst h0
  refine Ne2 hp.pr hp.bel hG (t := if b then tTRUE else tFALSE) (by decide) (fun w hw => show_text (kd := 3) (k := 1000003) hw (by rw [Nc8 _ _ _ _ _ _ _ (by omega)]; exact congrArg some hv) (by decide) (by decide) (truth_f (Nat.le_refl _) hv)) (by cases b <;> decide) hlen
 ·simp only at h0 h1 h2 h3 h4 h5 h6 hv
  subst h0
  exact Ne2 hp.pr hp.bel hG (t := Ncb.getD (e - 1).toNat ByteArray.empty) (by decide) (fun w hw => show_fault (kd := 4) (k := 1000003) hw (by rw [Nc8 _ _ _ _ _ _ _ (by omega)]; exact congrArg some hv) h5 h6) (by have := faults_size e h5 h6; omega) hlen
theorem Ne6 {r : S48} (h : refR r = true) : (r.f0 = eB ∨ Ndx r.f0 = true) ∧ 0 ≤ r.f1 ∧ r.f1 < 65536 ∧ 0 ≤ r.f2 ∧ r.f2 < 256 := by
 unfold refR refB at h
 simp only [Bool.and_eq_true, Bool.or_eq_true, beq_iff_eq, decide_eq_true_eq] at h
 obtain ⟨h1, h2⟩ := h
 refine ⟨?_, h2⟩
 rcases h1 with h1 | h1
 ·exact .inl (eq_eB h1)
 ·exact .inr h1
theorem eB_size {s : ByteArray} : s.size = 0 ↔ s = eB := by
 constructor
 ·intro h; exact eq_eB ((Nd1 s).mpr h)
 ·rintro rfl; rfl
theorem cell_text {r : S48} {k : Nat} (hk : k = (colL r.f2).length) : cellW r (nameL r.f1 r.f2) k = txt (refT theLf r) := by
 subst hk
 unfold cellW refT nameL
 rw [List.take_left, List.drop_left]
 have e : theLf.cel r = ⟨(celL r).toArray⟩ := rfl
 by_cases h0 : r.f0 = eB
 ·rw [if_pos (eB_size.2 h0), if_pos h0, txt_one, e, tk3]
  simp [celL]
 ·rw [if_neg (fun h => h0 (eB_size.1 h)), if_neg h0, Ncf, Ncf, txt_one, e, tk3, tk3]
  simp [celL, mk, mB, tk5]
theorem cell_leaf {w0 : World} (hG : GL w0) {lv : Value} {r : S48} (h : refR r = true) (hs : r.f0.size ≤ 1000) {w : World} {g : Nat} {bs : List UInt8} {a : Int} (hp : Pr w0 lv w g bs a) (hlen : bs.length ≤ 1000000000) :
 Calls Tryz.prog 76 #[.pointer (some ⟨g, 0, none⟩), v48 r] w fun e w' => e = .returned (.tuple #[]) ∧ Wrote w0.heap.size w g (bs ++ txt (refT theLf r)) lv a w' := by
 obtain ⟨-, h1, h2, h3, h4⟩ := Ne6 h
 have hn := name_f h1 h2 h3 h4
 have hl := name_len (c := r.f2) h1 h2
 have hk := name_index h1 h2 h3 h4
 have := cell_any hp.pr hp.bel hG r (nm := ⟨(nameL r.f1 r.f2).toArray⟩) (k := (colL r.f2).length) hn hk (by rw [Nan]; unfold nameL; rw [List.length_append]; omega) (by rw [Nan]; omega) (fun j b hj => name_ascii h1 h2 h3 h4 b (List.mem_of_getElem? hj)) hs hlen
 exact this.mono fun e w' hh => wrote_eq (cell_text rfl) hh
theorem sheet_size {s : ByteArray} (h : Ndx s = true) : s.size ≤ 16 := by
 unfold Ndx at h
 simp only [Bool.and_eq_true, decide_eq_true_eq] at h
 omega
theorem refR_size {r : S48} (h : refR r = true) : r.f0.size ≤ 1000 := by
 rcases (Ne6 h).1 with h | h
 ·rw [eB_size.2 h]; omega
 ·have := sheet_size h; omega
theorem good_leaf {w0 : World} (hG : GL w0) {lv : Value} {n : S50} {c : Int} (h : Good n c) : LeafW w0 lv theLf n := by
 cases h with
 | val v hv => exact leaf_val hG hv
 | cell r hr => exact ⟨fun hh => absurd hh (show ¬ (2 : Int) = 1 by decide), fun _ w g bs a hp hlen => cell_leaf hG hr (refR_size hr) hp hlen, fun hh => absurd hh (show ¬ (2 : Int) = 3 by decide)⟩
 | area r s hr hs h0 =>
  refine ⟨fun hh => absurd hh (show ¬ (3 : Int) = 1 by decide), fun _ w g bs a hp hlen => cell_leaf hG hr (refR_size hr) hp hlen, fun _ w g bs a hp hlen => ?_⟩
  have := cell_leaf hG hs (refR_size hs) hp hlen
  unfold refT at this
  rw [if_pos h0] at this
  exact this
 | un o h1 h3 => exact ⟨fun hh => absurd hh (show ¬ (4 : Int) = 1 by decide), fun hh => absurd hh (show ¬ ((4 : Int) = 2 ∨ (4 : Int) = 3) by decide), fun hh => absurd hh (show ¬ (4 : Int) = 3 by decide)⟩
 | bin o ho => exact ⟨fun hh => absurd hh (show ¬ (5 : Int) = 1 by decide), fun hh => absurd hh (show ¬ ((5 : Int) = 2 ∨ (5 : Int) = 3) by decide), fun hh => absurd hh (show ¬ (5 : Int) = 3 by decide)⟩
 | call m c hm h0 h30 => exact ⟨fun hh => absurd hh (show ¬ (6 : Int) = 1 by decide), fun hh => absurd hh (show ¬ ((6 : Int) = 2 ∨ (6 : Int) = 3) by decide), fun hh => absurd hh (show ¬ (6 : Int) = 3 by decide)⟩
theorem fn_size {s : ByteArray} (h : fnB s = true) : s.size ≤ 16 := by
 unfold fnB at h
 simp only [Bool.and_eq_true] at h
 exact sheet_size h.1
theorem good_node {n : S50} {c : Int} (h : Good n c) : NodeW n := by
 cases h with
 | val v hv => exact ⟨fun hh => absurd hh (show ¬ (1 : Int) = 5 by decide), show eB.size ≤ 100000 by decide, show (0 : Int) ≤ 100000 by decide, fun hh => absurd rfl hh⟩
 | cell r hr => exact ⟨fun hh => absurd hh (show ¬ (2 : Int) = 5 by decide), show eB.size ≤ 100000 by decide, show (0 : Int) ≤ 100000 by decide, fun _ hh => absurd rfl hh⟩
 | area r s hr hs h0 => exact ⟨fun hh => absurd hh (show ¬ (3 : Int) = 5 by decide), show eB.size ≤ 100000 by decide, show (0 : Int) ≤ 100000 by decide, fun _ _ hh => absurd rfl hh⟩
 | un o h1 h3 => exact ⟨fun hh => absurd hh (show ¬ (4 : Int) = 5 by decide), show eB.size ≤ 100000 by decide, show (0 : Int) ≤ 100000 by decide, fun _ _ _ _ _ => rfl⟩
 | bin o ho =>
  refine ⟨fun _ => ?_, show eB.size ≤ 100000 by decide, show (0 : Int) ≤ 100000 by decide, fun _ _ _ _ hh => absurd rfl hh⟩
  show Neg o = Nct o
  unfold binO at ho
  unfold Neg
  rw [if_neg (by omega), if_neg (by omega)]
 | call m c hm h0 h30 => exact ⟨fun hh => absurd hh (show ¬ (6 : Int) = 5 by decide), by have := fn_size hm; show m.size ≤ 100000; omega, by show c ≤ 100000; omega, fun _ _ _ hh => absurd rfl hh⟩
theorem tk_len (t : Tk) (h : t.1 ≠ 2) : (Nel t).length = t.2.size := by unfold Nel; rw [if_neg h]; exact Array.length_toList
theorem print_tree {A : Option Addr} {c : Nat} {l : List S50} {w : World} (hG : GL w) (hC : Kd.C k50 w A l.length l) (hc : l.length ≤ c) {K : Nat} (hcc : Na0.f K l = some 0) {K2 : Nat} {T : List Tk} (ht : tkF theLf K2 1 l = some (T, [])) (hlen : (txt T).length ≤ 1000000000) (hne : txt T ≠ []) :
 Calls Tryz.prog 26 #[.slice A l.length c] w fun en w' => en = .returned (.tuple #[.string ⟨(txt T).toArray⟩, .int .i64 0]) ∧ Below w.heap.size w w' := by
 obtain ⟨d, hd, -, hl⟩ := check_back hcc
 have hg := hd.good
 exact print_ok hG hC hc (by omega) hcc (fun w0 h0 n hn => good_leaf h0 (Nd9 n (hg n hn))) (fun n hn => good_node (Nd9 n (hg n hn))) ht hlen hne
end Go.Proofs.YtejbbceidnaloaaGreatDoor.P
