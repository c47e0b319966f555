import Derived.Test.YtejbbceidnaloaaGreatDoorB28
import Derived.Test.YtejbbceidnaloaaGreatDoorB27
set_option linter.unusedVariables false
set_option linter.unusedSimpArgs false
set_option maxRecDepth 100000
set_option maxHeartbeats 8000000
namespace Go.Proofs.YtejbbceidnaloaaGreatDoor.P
open Go.RowKit AW AL AM
theorem eq_eB {s : ByteArray} (h : s.toList = []) : s = eB := by
 have h0 := (Ndq s).mp h
 obtain ⟨d⟩ := s
 have : d = #[] := Array.eq_empty_of_size_eq_zero h0
 rw [this]; rfl
def litB (v : S46) : Bool := valB v.f0 v.f1.f0 v.f1.f1 v.f2 v.f3 v.f4 && decide (v.f0 ≠ 0 ∧ (v.f0 ≠ 1 ∨ 0 ≤ v.f1.f0 ∧ (1000000 : Int) % v.f1.f1 = 0))
def refR (r : S48) : Bool := refB r.f0 r.f1 r.f2
def binO (o : Int) : Prop := (11 ≤ o ∧ o ≤ 16) ∨ (21 ≤ o ∧ o ≤ 26)
inductive Good : S50 → Int → Prop
 | val (v : S46) : litB v = true → Good (nVal v) 0
 | cell (r : S48) : refR r = true → Good (nCell r) 0
 | area (r s : S48) : refR r = true → refR s = true → s.f0 = eB → Good (nArea r s) 0
 | un (o : Int) : 1 ≤ o → o ≤ 3 → Good (nUn o) 1
 | bin (o : Int) : binO o → Good (nBin o) 2
 | call (m : ByteArray) (c : Int) : fnB m = true → 0 ≤ c → c ≤ 30 → Good (nCall m c) c
theorem good_of (n : S50) (h : 0 ≤ Nbi n) : Good n (Nbi n) := by
 obtain ⟨k, ⟨v0, ⟨v1, v2⟩, v3, v4, v5⟩, o, m, ag, ⟨a0, a1, a2, a3, a4⟩, ⟨b0, b1, b2, b3, b4⟩⟩ := n
 unfold Nbi at h ⊢
 simp only at h ⊢
 unfold Ne1 at h ⊢
 by_cases h1 : k = 1
 ·subst h1
  simp only [if_true] at h ⊢
  unfold partsV1 at h ⊢
  split at h
  ·rename_i hr
   split at h
   ·rename_i hv
    rw [if_pos hr, if_pos hv]
    unfold rest1 at hr
    obtain ⟨rfl, hm, rfl, ha, rfl, rfl, rfl, rfl, hb, rfl, rfl, rfl, rfl⟩ := of_decide_eq_true hr
    rw [eq_eB hm, eq_eB ha, eq_eB hb]
    exact .val ⟨v0, ⟨v1, v2⟩, v3, v4, v5⟩ (by unfold litB; rw [Bool.and_eq_true]; exact ⟨hv.1, decide_eq_true hv.2⟩)
   ·omega
  ·omega
 rw [if_neg h1] at h ⊢
 by_cases h2 : k = 2
 ·subst h2
  simp only [if_true] at h ⊢
  unfold partsV2 at h ⊢
  split at h
  ·rename_i hr
   split at h
   ·rename_i hv
    rw [if_pos hr, if_pos hv]
    unfold rest2 at hr
    obtain ⟨rfl, rfl, rfl, hv3, rfl, rfl, rfl, hm, rfl, hb, rfl, rfl, rfl, rfl⟩ := of_decide_eq_true hr
    rw [eq_eB hm, eq_eB hv3, eq_eB hb]
    exact .cell ⟨a0, a1, a2, a3, a4⟩ hv.1
   ·omega
  ·omega
 rw [if_neg h2] at h ⊢
 by_cases h3 : k = 3
 ·subst h3
  simp only [if_true] at h ⊢
  unfold partsV3 at h ⊢
  split at h
  ·rename_i hr
   split at h
   ·rename_i hv
    rw [if_pos hr, if_pos hv]
    unfold rest3 at hr
    obtain ⟨rfl, rfl, rfl, hv3, rfl, rfl, rfl, hm, rfl⟩ := of_decide_eq_true hr
    have hb := eq_eB hv.2.2
    rw [eq_eB hm, eq_eB hv3]
    exact .area ⟨a0, a1, a2, a3, a4⟩ ⟨b0, b1, b2, b3, b4⟩ hv.1 hv.2.1 hb
   ·omega
  ·omega
 rw [if_neg h3] at h ⊢
 by_cases h4 : k = 4
 ·subst h4
  simp only [if_true] at h ⊢
  unfold partsV4 at h ⊢
  split at h
  ·rename_i hr
   split at h
   ·rename_i hv
    rw [if_pos hr, if_pos hv]
    unfold rest4 at hr
    obtain ⟨rfl, rfl, rfl, hv3, rfl, rfl, hm, rfl, ha, rfl, rfl, rfl, rfl, hb, rfl, rfl, rfl, rfl⟩ := of_decide_eq_true hr
    rw [eq_eB hm, eq_eB hv3, eq_eB ha, eq_eB hb]
    exact .un o hv.1 hv.2
   ·omega
  ·omega
 rw [if_neg h4] at h ⊢
 by_cases h5 : k = 5
 ·subst h5
  simp only [if_true] at h ⊢
  unfold partsV5 at h ⊢
  split at h
  ·rename_i hr
   split at h
   ·rename_i hv
    rw [if_pos hr, if_pos hv]
    unfold rest5 at hr
    obtain ⟨rfl, rfl, rfl, hv3, rfl, rfl, hm, rfl, ha, rfl, rfl, rfl, rfl, hb, rfl, rfl, rfl, rfl⟩ := of_decide_eq_true hr
    rw [eq_eB hm, eq_eB hv3, eq_eB ha, eq_eB hb]
    exact .bin o hv
   ·omega
  ·omega
 rw [if_neg h5] at h ⊢
 by_cases h6 : k = 6
 ·subst h6
  simp only [if_true] at h ⊢
  unfold partsV6 at h ⊢
  split at h
  ·rename_i hr
   split at h
   ·rename_i hv
    rw [if_pos hr, if_pos hv]
    unfold rest6 at hr
    obtain ⟨rfl, rfl, rfl, hv3, rfl, rfl, rfl, ha, rfl, rfl, rfl, rfl, hb, rfl, rfl, rfl, rfl⟩ := of_decide_eq_true hr
    rw [eq_eB hv3, eq_eB ha, eq_eB hb]
    exact .call m ag hv.1 hv.2.1 hv.2.2
   ·omega
  ·omega
 rw [if_neg h6] at h
 omega
theorem Tre.good {p : List S50} {d : Nat} (h : Tre p d) : ∀ n ∈ p, 0 ≤ Nbi n := by
 induction h using Tre.rec (motive_2 := fun c p d _ => ∀ n ∈ p, 0 ≤ Nbi n) with
 | node n c p d h1 h2 ih =>
  intro m hm
  rcases List.mem_cons.1 hm with rfl | hm
  ·omega
  ·exact ih m hm
 | nil => rename_i m hm; cases hm
 | cons p q c d e h1 h2 i1 i2 =>
  rename_i m hm
  rcases List.mem_append.1 hm with hm | hm
  ·exact i1 m hm
  ·exact i2 m hm
theorem Ney {K : Nat} {l : List S50} (h : Na2.f K l = some 0) : ∃ d, Tre l d ∧ d ≤ 32 ∧ l.length ≤ 256 := by
 unfold Na2.f at h
 split at h
 ·cases h
 rename_i hl
 obtain ⟨⟨e, d⟩, ho, h⟩ := Option.bind_eq_some_iff.1 h
 simp only at h
 split at h
 ·rename_i he
  split at h
  ·cases h
  ·rename_i hd
   obtain ⟨p, q, dd, h1, h2, h3, h4⟩ := (over_back l (by omega) K).1 0 e d ho (by omega)
   rw [List.drop_zero] at h1
   have hlen := congrArg List.length h1
   rw [List.length_append] at hlen
   have hq : q = [] := List.eq_nil_of_length_eq_zero (by omega)
   rw [hq, List.append_nil] at h1
   rw [← h1] at h2
   exact ⟨dd, h2, by omega, by omega⟩
 ·cases h
theorem check_some (l : List S50) {K : Nat} (hK : 600 ≤ K) : ∃ c, Na2.f K l = some c ∧ (c = 0 ∨ c = 51 ∨ c = 52 ∨ c = 53) := by
 unfold Na2.f
 split
 ·exact ⟨_, rfl, by omega⟩
 ·obtain ⟨⟨e, d⟩, h⟩ := (over_some l (by omega) 256).1 0 K (by omega) (by omega)
  rw [show ((0 : Nat) : Int) = 0 from rfl] at h
  rw [h]
  show ∃ c, (if e = (l.length : Int) then (if d > 32 then some (51 : Int) else some 0) else some 53) = some c ∧ _
  split
  ·split
   ·exact ⟨_, rfl, by omega⟩
   ·exact ⟨_, rfl, by omega⟩
  ·exact ⟨_, rfl, by omega⟩
theorem check_tre {l : List S50} {d : Nat} (h : Tre l d) (hl : l.length ≤ 256) {K : Nat} (hK : 600 ≤ K) : Na2.f K l = some (if d ≤ 32 then 0 else 51) := by
 unfold Na2.f
 rw [if_neg (by omega)]
 have h1 := (over_all l (by omega) 256).1 l [] d 0 K h hl (by rw [List.drop_zero, List.append_nil]) (by omega)
 rw [show ((0 : Nat) : Int) = 0 from rfl] at h1
 rw [h1]
 show (if ((0 + l.length : Nat) : Int) = (l.length : Int) then (if (d : Int) > 32 then some (51 : Int) else some 0) else some 53) = _
 rw [if_pos (by omega)]
 by_cases hd : d ≤ 32
 ·rw [if_pos hd, if_neg (by omega)]
 ·rw [if_neg hd, if_pos (by omega)]
theorem tre_tk (L : Lf) : ∀ (m : Nat),
 (∀ (p : List S50) (d K : Nat) (least : Int) (q : List S50), Tre p d → p.length ≤ m → 2 * p.length + 1 ≤ K → ∃ T, T ≠ [] ∧ tkF L K least (p ++ q) = some (T, q)) ∧
 (∀ (c : Nat) (p : List S50) (d K : Nat) (first : Bool) (q : List S50), Frs c p d → p.length ≤ m → 2 * p.length + 2 ≤ K → ∃ T, atkF L K first (c : Int) (p ++ q) = some (T, q)) := by
 intro m
 induction m with
 | zero =>
  refine ⟨?_, ?_⟩
  ·intro p d K least q h hp
   have := h.pos
   omega
  ·intro c p d K first q h hp hK
   obtain ⟨K, rfl⟩ : ∃ K', K = K' + 1 := ⟨K - 1, by omega⟩
   cases h with
   | nil => exact ⟨[], by rw [atkF, if_pos (by omega)]; rfl⟩
   | cons p q c d e h1 h2 =>
    have := h1.pos
    simp only [List.length_append] at hp
    omega
 | succ m ih =>
  obtain ⟨ih1, ih2⟩ := ih
  have hf : ∀ (p : List S50) (d K : Nat) (least : Int) (q : List S50), Tre p d → p.length ≤ m + 1 → 2 * p.length + 1 ≤ K → ∃ T, T ≠ [] ∧ tkF L K least (p ++ q) = some (T, q) := by
   intro p d K least q h hp hK
   obtain ⟨K, rfl⟩ : ∃ K', K = K' + 1 := ⟨K - 1, by omega⟩
   cases h with
   | node n c p d h1 h2 =>
    simp only [List.length_cons] at hp hK
    suffices hs : ∃ U, U ≠ [] ∧ (if n.f0 = 1 then some ([L.val n.f1], p ++ q)
     else if n.f0 = 2 then some (refT L n.f5, p ++ q)
     else if n.f0 = 3 then some (refT L n.f5 ++ [mk [58], (3, L.cel n.f6)], p ++ q)
     else if n.f0 = 6 then (atkF L K true n.f4 (p ++ q)).map fun (T, q) => ((3, n.f3) :: mk [40] :: (T ++ [mk [41]]), q)
     else if n.f0 = 5 then (tkF L K (Nbu n.f2) (p ++ q)).bind fun (T, q) => (tkF L K (Nbu n.f2 + 1) q).map fun (U, p) => (T ++ (5, signB n.f2) :: U, p)
     else if n.f2 = 3 then (tkF L K 7 (p ++ q)).map fun (T, q) => (T ++ [mk [37]], q)
     else (tkF L K 6 (p ++ q)).map fun (T, q) => ((5, signB n.f2) :: T, q)) = some (U, q) by
     obtain ⟨U, h0, hU⟩ := hs
     refine ⟨bra (decide (Ndv n < least)) U, ?_, ?_⟩
     ·unfold bra; split
      ·simp
      ·exact h0
     ·rw [List.cons_append, tkF, hU]; rfl
    have hg := good_of n (by omega)
    rw [h1] at hg
    generalize hcc : (c : Int) = cc at hg
    have nil_of : c = 0 → p = [] := by
     intro h0; subst h0
     cases h2; rfl
    cases hg with
    | val v hv =>
     obtain rfl := nil_of (by omega)
     exact ⟨[L.val v], by simp, rfl⟩
    | cell r hr =>
     obtain rfl := nil_of (by omega)
     exact ⟨refT L r, by unfold refT; split <;> simp, rfl⟩
    | area r s hr hs h0 =>
     obtain rfl := nil_of (by omega)
     exact ⟨refT L r ++ [mk [58], (3, L.cel s)], by simp, rfl⟩
    | un o h1 h3 =>
     obtain rfl : c = 1 := by omega
     have hp1 : ∃ d', Tre p d' := by
      cases h2 with
      | cons p1 q1 c d e g1 g2 =>
       cases g2
       exact ⟨d, by rw [List.append_nil]; exact g1⟩
     obtain ⟨d', hp1⟩ := hp1
     by_cases ho : o = 3
     ·obtain ⟨U, hU0, hU⟩ := ih1 p d' K 7 q hp1 (by omega) (by omega)
      refine ⟨U ++ [mk [37]], by simp, ?_⟩
      subst ho
      show (tkF L K 7 (p ++ q)).map (fun (T, q) => (T ++ [mk [37]], q)) = _
      rw [hU]; rfl
     ·obtain ⟨U, hU0, hU⟩ := ih1 p d' K 6 q hp1 (by omega) (by omega)
      refine ⟨(5, signB o) :: U, by simp, ?_⟩
      show (if o = 3 then (tkF L K 7 (p ++ q)).map (fun (T, q) => (T ++ [mk [37]], q)) else (tkF L K 6 (p ++ q)).map fun (T, q) => ((5, signB o) :: T, q)) = _
      rw [if_neg ho, hU]; rfl
    | bin o ho =>
     obtain rfl : c = 2 := by omega
     cases h2 with
     | cons p1 q1 c d e g1 g2 =>
      cases g2 with
      | cons p2 q2 c d e g3 g4 =>
       cases g4
       simp only [List.length_append, List.length_nil] at hp hK
       have hpos := g1.pos
       obtain ⟨U1, -, hU1⟩ := ih1 p1 _ K (Nbu o) (p2 ++ q) g1 (by omega) (by omega)
       obtain ⟨U2, -, hU2⟩ := ih1 p2 _ K (Nbu o + 1) q g3 (by omega) (by omega)
       refine ⟨U1 ++ (5, signB o) :: U2, by simp, ?_⟩
       show (tkF L K (Nbu o) (p1 ++ (p2 ++ []) ++ q)).bind (fun (T, q) => (tkF L K (Nbu o + 1) q).map fun (U, p) => (T ++ (5, signB o) :: U, p)) = _
       rw [List.append_nil, List.append_assoc, hU1]
       show (tkF L K (Nbu o + 1) (p2 ++ q)).map (fun (U, p) => (U1 ++ (5, signB o) :: U, p)) = _
       rw [hU2]; rfl
    | call m n hm h0 h30 =>
     obtain ⟨T, hT⟩ := ih2 c p _ K true q h2 (by omega) (by omega)
     refine ⟨(3, m) :: mk [40] :: (T ++ [mk [41]]), by simp, ?_⟩
     subst hcc
     show (atkF L K true (c : Int) (p ++ q)).map (fun (T, q) => ((3, m) :: mk [40] :: (T ++ [mk [41]]), q)) = _
     rw [hT]; rfl
  refine ⟨hf, ?_⟩
  intro c p d K first q h hp hK
  obtain ⟨K, rfl⟩ : ∃ K', K = K' + 1 := ⟨K - 1, by omega⟩
  cases h with
  | nil => exact ⟨[], by rw [atkF, if_pos (by omega)]; rfl⟩
  | cons p q2 c d e h1 h2 =>
   simp only [List.length_append] at hp hK
   have hpos := h1.pos
   obtain ⟨T, -, hT⟩ := hf p _ K 1 (q2 ++ q) h1 (by omega) (by omega)
   obtain ⟨U, hU⟩ := ih2 c q2 _ K false q h2 (by omega) (by omega)
   refine ⟨(if first then T else mk [44] :: T) ++ U, ?_⟩
   rw [atkF, if_neg (by omega), List.append_assoc, hT]
   show (atkF L K false (((c + 1 : Nat) : Int) - 1) (q2 ++ q)).map (fun (U, p) => ((if first then T else mk [44] :: T) ++ U, p)) = _
   rw [show (((c + 1 : Nat) : Int) - 1) = (c : Int) by omega, hU]; rfl
inductive Kz : Nat → List S50 → Nat → List Int → Prop
 | nil (i : Nat) : Kz i [] 0 []
 | cons (i : Nat) (p q : List S50) (d e : Nat) (ks : List Int) : Tre p d → Kz (i + p.length) q e ks → Kz i (p ++ q) (max d e) ((i : Int) :: ks)
theorem kids_z (l : List S50) (hl : l.length ≤ 256) : ∀ (c : Nat) (p q : List S50) (e i K dn : Nat) (acc : List Int) (z : Int), Frs c p e → l.drop i = p ++ q → i ≤ l.length → 2 * p.length + 2 * c + 2 ≤ K → z = ((dn + c : Nat) : Int) → z ≤ 100 → acc.length = dn →
 ∃ ks, Na3.l0 K l acc (i : Int) z (dn : Int) = some (acc ++ ks) ∧ Kz i p e ks ∧ ks.length = c := by
 intro c
 induction c with
 | zero =>
  intro p q e i K dn acc z h hd hi hK hz hz1 ha
  obtain ⟨K, rfl⟩ : ∃ K', K = K' + 1 := ⟨K - 1, by omega⟩
  cases h
  refine ⟨[], ?_, .nil i, rfl⟩
  rw [Na3.l0, if_neg (by omega), List.append_nil]
 | succ c ih =>
  intro p q e i K dn acc z h hd hi hK hz hz1 ha
  obtain ⟨K, rfl⟩ : ∃ K', K = K' + 1 := ⟨K - 1, by omega⟩
  cases h with
  | cons p q2 c d e h1 h2 =>
   simp only [List.length_append] at hK
   have hlen := congrArg List.length hd
   simp only [List.length_drop, List.length_append] at hlen
   have hpos := h1.pos
   have ho := (over_all l (by omega) p.length).1 p (q2 ++ q) d i K h1 (Nat.le_refl _) (by rw [hd, List.append_assoc]) (by omega)
   have hd2 : l.drop (i + p.length) = q2 ++ q := by rw [← List.drop_drop, hd, List.append_assoc, List.drop_left]
   obtain ⟨ks, hk1, hk2, hk3⟩ := ih q2 q e (i + p.length) K (dn + 1) (acc ++ [(i : Int)]) z h2 hd2 (by omega) (by omega) (by omega) hz1 (by simp [ha])
   refine ⟨(i : Int) :: ks, ?_, .cons i p q2 d e ks h1 hk2, by simp [hk3]⟩
   rw [Na3.l0, if_pos (by omega), if_pos (by omega), ho]
   show Na3.l0 K l (acc ++ [(i : Int)]) ((i + p.length : Nat) : Int) z (wrap64 ((dn : Int) + 1)) = _
   rw [wr1 (by omega) (by omega), show ((dn : Int) + 1) = ((dn + 1 : Nat) : Int) by omega, hk1, List.append_assoc]
   rfl
theorem kids_at {l : List S50} {D : Nat} (hT : Tre l D) (hD : D ≤ 32) (hl : l.length ≤ 256) {n : S50} {c e i K : Nat} {ps q : List S50} (h1 : l.drop i = n :: (ps ++ q)) (h2 : Nbi n = (c : Int)) (h3 : Frs c ps e) (hK : 1000 ≤ K) :
 ∃ ks, Na3.f K l (i : Int) = some ks ∧ Kz (i + 1) ps e ks ∧ ks.length ≤ 30 := by
 obtain ⟨hi, hn, hd2⟩ := getD_drop (q := []) h1
 have hp := parts_le n
 obtain ⟨K, rfl⟩ : ∃ K', K = K' + 1 := ⟨K - 1, by omega⟩
 have hlen := congrArg List.length h1
 simp only [List.length_drop, List.length_cons, List.length_append] at hlen
 obtain ⟨ks, k1, k2, k3⟩ := kids_z l hl c ps q e (i + 1) K 0 [] (Nbi n) h3 hd2 (by omega) (by omega) (by omega) (by omega) rfl
 refine ⟨ks, ?_, k2, by omega⟩
 unfold Na3.f
 rw [check_tre hT hl (by omega), if_pos hD]
 simp only [Option.bind_some, if_true]
 rw [if_neg (by omega), show decide ((i : Int) ≥ (l.length : Int)) = false from decide_eq_false (by omega), Na3.j0, if_neg (by decide), if_pos (by omega), if_pos (by omega), hn]
 show Na3.l0 K l [] (wrap64 ((i : Int) + 1)) (Nbi n) 0 = _
 rw [wr1 (by omega) (by omega), show (i : Int) + 1 = ((i + 1 : Nat) : Int) by omega]
 exact k1
theorem rd_at (a b : List Int) (x : Int) : rd (a ++ x :: b) (a.length : Int) = x := by
 unfold rd
 simp
theorem depth_l0 {l : List S50} (hl : l.length ≤ 256) {m : Nat} (ih : ∀ (p q : List S50) (d i K : Nat), Tre p d → p.length ≤ m → l.drop i = p ++ q → 1001 + 40 * m ≤ K → Nah.f K l (i : Int) = some (d : Int)) :
 ∀ (i : Nat) (p : List S50) (e : Nat) (ks : List Int), Kz i p e ks → ∀ (q : List S50) (pre : List Int) (cur K : Nat), l.drop i = p ++ q → p.length ≤ m → pre.length + ks.length ≤ 30 → cur ≤ 1000 → e ≤ 1000 → 1002 + 40 * m + ks.length ≤ K →
 Nah.l0 K l (pre ++ ks) (cur : Int) (pre.length : Int) = some ((max cur e + 1 : Nat) : Int) := by
 intro i p e ks h
 induction h with
 | nil i =>
  intro q pre cur K hd hm hk hc he hK
  obtain ⟨K, rfl⟩ : ∃ K', K = K' + 1 := ⟨K - 1, by omega⟩
  rw [Nah.l0, if_neg (by simp), wr1 (by omega) (by omega), Nat.max_zero]
  rfl
 | cons i p q2 d e ks h1 h2 ih2 =>
  intro q pre cur K hd hm hk hc he hK
  obtain ⟨K, rfl⟩ : ∃ K', K = K' + 1 := ⟨K - 1, by omega⟩
  simp only [List.length_append, List.length_cons] at hm hk hK
  have hdd : d ≤ 1000 := Nat.le_trans (Nat.le_max_left _ _) he
  have hee : e ≤ 1000 := Nat.le_trans (Nat.le_max_right _ _) he
  rw [Nah.l0, if_pos (by simp; omega), if_pos (by omega), rd_at, ih p (q2 ++ q) d i K h1 (by omega) (by rw [hd, List.append_assoc]) (by omega)]
  show Nah.l0 K l _ (mx (cur : Int) (d : Int)) (wrap64 ((pre.length : Int) + 1)) = _
  rw [mxN, wr1 (by omega) (by omega)]
  have := ih2 q (pre ++ [(i : Int)]) (max cur d) K (by rw [← List.drop_drop, hd, List.append_assoc, List.drop_left]) (by omega) (by simp; omega) (by omega) hee (by omega)
  rw [List.append_assoc, List.singleton_append, List.length_append, List.length_singleton] at this
  rw [show ((pre.length : Int) + 1) = ((pre.length + 1 : Nat) : Int) by omega, this, Nat.max_assoc]
theorem depth_f {l : List S50} {D : Nat} (hT : Tre l D) (hD : D ≤ 32) (hl : l.length ≤ 256) : ∀ (m : Nat) (p q : List S50) (d i K : Nat), Tre p d → p.length ≤ m → l.drop i = p ++ q → 1001 + 40 * m ≤ K → Nah.f K l (i : Int) = some (d : Int) := by
 intro m
 induction m with
 | zero => intro p q d i K h hm; have := h.pos; omega
 | succ m ih =>
  intro p q d i K h hm hd hK
  have hdp := h.pos
  cases h with
  | node n c ps e h2 h3 =>
   obtain ⟨K, rfl⟩ : ∃ K', K = K' + 1 := ⟨K - 1, by omega⟩
   simp only [List.length_cons] at hm hdp
   have hlen := congrArg List.length hd
   simp only [List.length_drop, List.length_cons, List.length_append] at hlen
   have hd' : l.drop i = n :: (ps ++ q) := by rw [hd]; rfl
   obtain ⟨ks, k1, k2, k3⟩ := kids_at hT hD hl hd' h2 h3 (K := K) (by omega)
   rw [Nah.f, k1]
   have := depth_l0 hl ih (i + 1) ps e ks k2 q [] 0 K (getD_drop (q := []) hd').2.2 (by omega) (by simpa using k3) (by omega) (by omega) (by omega)
   rw [List.nil_append, Nat.zero_max] at this
   exact this
theorem depth_tree {l : List S50} {d : Nat} (h : Tre l d) (hd : d ≤ 32) (hl : l.length ≤ 256) : Nah.f 12000 l 0 = some (d : Int) :=
 depth_f h hd hl 256 l [] d 0 12000 h hl (by simp) (by omega)
end Go.Proofs.YtejbbceidnaloaaGreatDoor.P
namespace Go.Proofs.YtejbbceidnaloaaGreatDoor.P
section
variable (O : Ops) {ts : List S39} (e : Int)
theorem Ext.per {d : Int} {ts' : List S39} (h : Ext d ts ts') : ∀ (k : Nat) (out : List S50) (i a : Int) (l : List S50), 0 ≤ i → i ≤ ts.length → perF ts k out i = okR (l, a) → perF ts' k out (i + d) = okR (l, a + d)
 | 0, _, _, _, _, _, _, hc => by cases hc
 | k + 1, out, i, a, l, h0, h1, hc => by
  rw [perF] at hc ⊢
  split at hc
  ·rename_i hm
   have hb := Nbb ts hm (by decide)
   rw [if_pos (by rw [h.mark h0 hb]; exact hm), show i + d + 1 = i + 1 + d by omega]
   exact Ext.per h k _ _ _ _ (by omega) (by omega) hc
  ·rename_i hm
   rw [if_neg (by rw [h.markN h0 h1 (by decide) (by decide) (by decide)]; exact hm)]
   cases hc
   rfl
theorem ext_all {d : Int} {ts' : List S39} (E : Ext d ts ts') (e' : Int) : ∀ k : Nat,
 (∀ (least i a : Int) (l : List S50), 0 ≤ i → i ≤ ts.length → 1 ≤ least → least ≤ 6 → binF O ts e k least i = okR (l, a) → binF O ts' e' k least (i + d) = okR (l, a + d)) ∧
 (∀ (least : Int) (left : List S50) (i a : Int) (l : List S50), 0 ≤ i → i ≤ ts.length → 1 ≤ least → least < 6 → lopF O ts e k least left i = okR (l, a) → lopF O ts' e' k least left (i + d) = okR (l, a + d)) ∧
 (∀ (i a : Int) (l : List S50), 0 ≤ i → i ≤ ts.length → sgnF O ts e k i = okR (l, a) → sgnF O ts' e' k (i + d) = okR (l, a + d)) ∧
 (∀ (i a : Int) (l : List S50), 0 ≤ i → i ≤ ts.length → parF O ts e k i = okR (l, a) → parF O ts' e' k (i + d) = okR (l, a + d)) ∧
 (∀ (m : ByteArray) (i a : Int) (l : List S50), 0 ≤ i → i < ts.length → worF O ts e k m i = okR (l, a) → worF O ts' e' k m (i + d) = okR (l, a + d)) ∧
 (∀ (m : ByteArray) (i a : Int) (l : List S50), 0 ≤ i → i + 1 < ts.length → calF O ts e k m i = okR (l, a) → calF O ts' e' k m (i + d) = okR (l, a + d)) ∧
 (∀ (m : ByteArray) (acc : List S50) (n i a : Int) (l : List S50), 0 ≤ i → i ≤ ts.length → argF O ts e k m acc n i = okR (l, a) → argF O ts' e' k m acc n (i + d) = okR (l, a + d)) := by
 have hl := E.len
 have hd := E.d0
 intro k
 induction k with
 | zero =>
  refine ⟨?_, ?_, ?_, ?_, ?_, ?_, ?_⟩
  ·intro _ _ _ _ _ _ _ _ h; rw [binF] at h; cases h
  ·intro _ _ _ _ _ _ _ _ _ h; rw [lopF] at h; cases h
  ·intro _ _ _ _ _ h; rw [sgnF] at h; cases h
  ·intro _ _ _ _ _ h; rw [parF] at h; cases h
  ·intro _ _ _ _ _ _ h; rw [worF] at h; cases h
  ·intro _ _ _ _ _ _ h; rw [calF] at h; cases h
  ·intro _ _ _ _ _ _ _ _ h; rw [argF] at h; cases h
 | succ k ih =>
  obtain ⟨g1, g2, g3, g4, g5, g6, g7⟩ := ih
  refine ⟨?_, ?_, ?_, ?_, ?_, ?_, ?_⟩
  ·intro least i a l h0 h1 h2 h3 h
   rw [binF] at h ⊢
   split at h
   ·rw [if_pos ‹_›]; exact g3 _ _ _ h0 h1 h
   ·rw [if_neg ‹_›]
    obtain ⟨⟨x, b⟩, hb, hc⟩ := Ncx h
    have hr := Ncf O ts e h0 h1 (by omega) (by omega) hb
    rw [Ndd (g1 _ _ _ _ h0 h1 (by omega) (by omega) hb)]
    exact g2 _ _ _ _ _ (by omega) hr.2 h2 (by omega) hc
  ·intro least left i a l h0 h1 h2 h3 h
   rw [lopF] at h ⊢
   rw [E.op h0 h1]
   split at h
   ·rw [if_pos ‹_›]; cases h; rfl
   ·rename_i hn
    have hi := opOf_lt ts (fun h => hn (.inl h))
    rw [if_neg ‹_›]
    obtain ⟨⟨x, b⟩, hb, hc⟩ := Ncx h
    have hr := Ncf O ts e (by omega) (by omega) (by omega) (by omega) hb
    rw [show i + d + 1 = i + 1 + d by omega, Ndd (g1 _ _ _ _ (by omega) (by omega) (by omega) (by omega) hb)]
    exact g2 _ _ _ _ _ (by omega) hr.2 h2 h3 hc
  ·intro i a l h0 h1 h
   rw [sgnF] at h ⊢
   split at h
   ·rename_i hm
    have hi := Nbb ts hm (by decide)
    rw [if_pos (by rw [E.mark h0 hi]; exact hm)]
    obtain ⟨⟨x, b⟩, hb, hc⟩ := Ncx h
    rw [show i + d + 1 = i + 1 + d by omega, Ndd (g3 _ _ _ (by omega) (by omega) hb)]
    cases hc; rfl
   ·rename_i hm
    rw [if_neg (by rw [E.markN h0 h1 (by decide) (by decide) (by decide)]; exact hm)]
    split at h
    ·rename_i hm
     have hi := Nbb ts hm (by decide)
     rw [if_pos (by rw [E.mark h0 hi]; exact hm)]
     obtain ⟨⟨x, b⟩, hb, hc⟩ := Ncx h
     rw [show i + d + 1 = i + 1 + d by omega, Ndd (g3 _ _ _ (by omega) (by omega) hb)]
     cases hc; rfl
    ·rename_i hm
     rw [if_neg (by rw [E.markN h0 h1 (by decide) (by decide) (by decide)]; exact hm)]
     obtain ⟨⟨x, b⟩, hb, hc⟩ := Ncx h
     have hr := parF_range O ts e h0 h1 hb
     rw [Ndd (g4 _ _ _ h0 h1 hb)]
     exact E.per _ _ _ _ _ (by omega) hr.2 hc
  ·intro i a l h0 h1 h
   rw [parF] at h ⊢
   split at h
   ·rename_i hm
    have hi := Nbb ts hm (by decide)
    rw [if_pos (by rw [E.mark h0 hi]; exact hm)]
    obtain ⟨⟨x, b⟩, hb, hc⟩ := Ncx h
    have hr := Ncf O ts e (by omega) (by omega) (by omega) (by omega) hb
    rw [show i + d + 1 = i + 1 + d by omega, Ndd (g1 _ _ _ _ (by omega) (by omega) (by omega) (by omega) hb)]
    simp only at hc ⊢
    split at hc
    ·rename_i hm
     have hi := Nbb ts hm (by decide)
     rw [if_pos (by rw [E.mark (by omega) hi]; exact hm)]
     cases hc
     show okR _ = okR _
     rw [show b + d + 1 = b + 1 + d by omega]
    ·cases hc
   ·rename_i hm
    rw [if_neg (by rw [E.markN h0 h1 (by decide) (by decide) (by decide)]; exact hm)]
    split at h
    ·rename_i hi
     obtain ⟨s1, s2⟩ := E.same i h0 hi
     rw [if_pos (by omega), s1, s2]
     split at h
     ·rw [if_pos ‹_›]; exact g5 _ _ _ _ h0 hi h
     ·rw [if_neg ‹_›]
      split at h
      ·rw [if_pos ‹_›]
       split at h
       ·cases h
        show okR _ = okR _
        rw [show i + d + 1 = i + 1 + d by omega]
       ·cases h
      ·rw [if_neg ‹_›]
       split at h
       ·rw [if_pos ‹_›]
        split at h
        ·rw [if_pos ‹_›]; cases h
         show okR _ = okR _
         rw [show i + d + 1 = i + 1 + d by omega]
        ·cases h
       ·rw [if_neg ‹_›]
        split at h
        ·rw [if_pos ‹_›]; cases h
         show okR _ = okR _
         rw [show i + d + 1 = i + 1 + d by omega]
        ·cases h
    ·cases h
  ·intro m i a l h0 h1 h
   rw [worF] at h ⊢
   rw [show i + d + 1 = i + 1 + d by omega]
   split at h
   ·rename_i hm
    have hi := Nbb ts hm (by decide)
    rw [if_pos (by rw [E.mark (by omega) hi]; exact hm)]
    exact g6 _ _ _ _ h0 hi h
   ·rename_i hm
    rw [if_neg (by rw [E.markN (by omega) (by omega) (by decide) (by decide) (by decide)]; exact hm)]
    split at h
    ·rename_i hm
     have hi := Nbb ts hm (by decide)
     rw [if_pos (by rw [E.mark (by omega) hi]; exact hm)]
     split at h
     ·rw [if_pos ‹_›, show i + d + 2 = i + 2 + d by omega]; exact E.ref O e e' (by omega) h
     ·cases h
    ·rename_i hm
     rw [if_neg (by rw [E.markN (by omega) (by omega) (by decide) (by decide) (by decide)]; exact hm)]
     split at h
     ·rw [if_pos ‹_›]; cases h; rfl
     ·rw [if_neg ‹_›]
      split at h
      ·rw [if_pos ‹_›]; cases h; rfl
      ·rw [if_neg ‹_›]; exact E.ref O e e' h0 h
  ·intro m i a l h0 h1 h
   rw [calF] at h ⊢
   rw [show i + d + 2 = i + 2 + d by omega, show i + d + 3 = i + 3 + d by omega]
   split at h
   ·rw [if_pos ‹_›]
    split at h
    ·rename_i hm
     have hi := Nbb ts hm (by decide)
     rw [if_pos (by rw [E.mark (by omega) hi]; exact hm)]
     cases h; rfl
    ·rename_i hm
     rcases Int.lt_or_eq_of_le (show i + 2 ≤ ts.length by omega) with hi | hi
     ·rw [if_neg (by rw [E.mark (by omega) hi]; exact hm)]
      exact g7 _ _ _ _ _ _ (by omega) (by omega) h
     ·exfalso
      cases k with
      | zero => rw [argF] at h; cases h
      | succ k =>
       rw [argF] at h
       obtain ⟨⟨x, b⟩, hb, _⟩ := Ncx h
       have := Ncf O ts e (by omega) (by omega) (by omega) (by omega) hb
       omega
   ·cases h
  ·intro m acc n i a l h0 h1 h
   rw [argF] at h ⊢
   obtain ⟨⟨x, b⟩, hb, hc⟩ := Ncx h
   have hr := Ncf O ts e h0 h1 (by omega) (by omega) hb
   rw [Ndd (g1 _ _ _ _ h0 h1 (by omega) (by omega) hb)]
   simp only at hc ⊢
   split at hc
   ·rename_i hm
    have hi := Nbb ts hm (by decide)
    rw [if_pos (by rw [E.mark (by omega) hi]; exact hm)]
    split at hc
    ·cases hc
    ·rw [if_neg ‹_›, show b + d + 1 = b + 1 + d by omega]
     exact g7 _ _ _ _ _ _ (by omega) (by omega) hc
   ·split at hc
    ·rename_i hm0 hm
     have hi := Nbb ts hm (by decide)
     rw [if_neg (by rw [E.mark (by omega) hi]; exact hm0), if_pos (by rw [E.mark (by omega) hi]; exact hm)]
     cases hc
     show okR _ = okR _
     rw [show b + d + 1 = b + 1 + d by omega]
    ·cases hc
end
end Go.Proofs.YtejbbceidnaloaaGreatDoor.P
namespace Go.Proofs.YtejbbceidnaloaaGreatDoor.P
open Go.RowKit AW AL AM
theorem txt_open (nm : ByteArray) : txt [(3, nm), mk [40]] = (nm ++ (⟨#[40]⟩ : ByteArray)).data.toList := by
 simp [Nb0, tk5, tk3, Ndu, mk, mB]
theorem call_one {w0 : World} {lv : Value} {L : Lf} {l : List S50} {k : Nat} (ih : ∀ j, j < k → Prints w0 lv L l j) (hl : l.length ≤ 100000) : PrintsC w0 lv L l k := by
 intro n w g bs a T q hnm har hal h ht hlen
 obtain ⟨k0, ⟨vk, ⟨vn, vd⟩, vt, vb, ve⟩, op, nm, ar, ⟨s5, r5, c5, p5, q5⟩, ⟨s6, r6, c6, p6, q6⟩⟩ := n
 show Calls Tryz.prog 77 #[.pointer (some ⟨g, 0, none⟩), .agg #[.int .i64 k0, .int .i64 vk, .int .i64 vn, .int .i64 vd, .string vt, .bool vb, .int .i64 ve, .int .i64 op, .string nm, .int .i64 ar, .string s5, .int .i64 r5, .int .i64 c5, .bool p5, .bool q5, .string s6, .int .i64 r6, .int .i64 c6, .bool p6, .bool q6]] w (fun e w' => e = .returned (.tuple #[]) ∧ Wrote w0.heap.size w g (bs ++ txt ((3, nm) :: mk [40] :: (T ++ [mk [41]]))) lv ((l.length : Int) - q.length) w')
 replace hnm : nm.size ≤ 100000 := hnm
 replace har : ar ≤ 100000 := har
 replace ht : atkF L k true ar (l.drop a) = some (T, q) := ht
 replace hlen : (bs ++ txt ((3, nm) :: mk [40] :: (T ++ [mk [41]]))).length ≤ 1000000000 := hlen
 have HIH := lh ih
 have HT := lh ht
 have HAR := lh har
 have HLL := lh hl
 have HPB := lh h.bel
 have HLT := lh h.pr.lt
 have HB := lh h.bel.size
 have HP := lh (show Wrote w0.heap.size w g bs lv (a : Int) w from ⟨h.pr, Below.refl _ _, Far.refl _ _⟩)
 have hU0 : txt ((3, nm) :: mk [40] :: (T ++ [mk [41]])) = txt [(3, nm), mk [40]] ++ txt T ++ [41] := by
  rw [show (3, nm) :: mk [40] :: (T ++ [mk [41]]) = [(3, nm), mk [40]] ++ T ++ [mk [41]] by simp, Nbr, Nbr]; rfl
 have HU0 := lh hU0
 have HLEN := lh (show (bs ++ txt [(3, nm), mk [40]] ++ txt T).length + 1 ≤ 1000000000 by rw [hU0] at hlen; simp only [List.length_append, List.length_cons, List.length_nil] at hlen ⊢; omega)
 have HLS := lh (show bs.length + (nm ++ (⟨#[40]⟩ : ByteArray)).size ≤ 140737488355328 by have h2 := HLEN.out; rw [txt_open] at h2; simp only [List.length_append, Array.length_toList] at h2; have h3 : (nm ++ (⟨#[40]⟩ : ByteArray)).data.size = (nm ++ (⟨#[40]⟩ : ByteArray)).size := rfl; omega)
 have c1 : nm.size + 1 ≤ 9223372036854775807 := by omega
 have c1f : (9223372036854775807 < nm.size + 1) = False := eq_false (Nat.not_lt.2 c1)
 clear h ih ht hlen hU0 hnm har hl
 have hu50 := Tryz.underlying50
 go_enter Tryz.func77, Tryz.ntmps77
 go_upto_region 1 with ((with_reducible refine gD 3 rfl ?_); refine bX 3 #[.int .i64 k0, .int .i64 vk, .int .i64 vn, .int .i64 vd, .string vt, .bool vb, .int .i64 ve, .int .i64 op, .string nm, .int .i64 ar, .string s5, .int .i64 r5, .int .i64 c5, .bool p5, .bool q5, .string s6, .int .i64 r6, .int .i64 c6, .bool p6, .bool q6] 50 ?_; intro g3 hg_ w1 hb_ hl_; have NE := lh (show g3 ≠ g by have := HLT.out; omega); have HP1 := lh (HP.out.step HB.out hl_); have J := lh hb_; clear hb_ hl_ hg_ HP)
 have e8 : w1.cell? ⟨g3, 8, none⟩ = some (.string nm) := (Naa J.out 8).trans rfl
 have HSZ := lh (show w0.heap.size ≤ w1.drew.heap.size from Nat.le_trans HB.out HP1.out.bel.size)
 refine sP (n := 7) (S := fun w' => w'.cell? ⟨g3, 8, none⟩ = some (.string nm)) (ds := []) (e8) (fun hHeld => ?_)
 refine pP 0 5 ?_
 refine pP 1 6 ?_
 refine pP 2 7 ?_
 refine pP 3 8 ?_
 refine tP 4 9 hHeld ?_
 refine pP 5 10 ?_
 refine oP 6 (some 11) fun K hK => ?_
 refine gP 59 Tryz.func59 #[.pointer (some ⟨g, 0, none⟩), .string (nm ++ (⟨#[40]⟩ : ByteArray))] ?_
 with_reducible refine (Na4 HP1.out.pr.drew (nm ++ (⟨#[40]⟩ : ByteArray)) HLS.out HSZ.out).mono ?_
 rintro en w2 ⟨rfl, hw⟩
 refine ⟨_, rfl, ?_⟩
 have HP2 := lh (HP1.out.drewn.trans hw)
 have J2 := lh (hw.far _ _ _ _ NE.out (by decide) (Nag J.out))
 clear hw
 refine hK.out _ _ ((Naa J2.out 8).trans rfl) (fun hHeld => ?_)
 clear hK K
 refine nP 11 ?_
 refine done_ (by kernel_rfl) ?_
 clear hHeld c1 c1f HSZ HLS e8 HP1 J
 have e9 : w2.cell? ⟨g3, 9, none⟩ = some (.int .i64 ar) := (Naa J2.out 9).trans rfl
 go_wp2_with (fail)
 clear e9
 have HST := lh (show (bs ++ txt [(3, nm), mk [40]]) ++ txt [] = bs ++ (nm ++ (⟨#[40]⟩ : ByteArray)).data.toList by rw [txt_open, Ndu, List.append_nil])
 generalize ((nm ++ (⟨#[40]⟩ : ByteArray)).size : Int) = sz
 go_loopg [14] k (fun jq v14 w' => ∃ (i b : Nat) (dn U : List Tk), v14 = .int .i64 i ∧ Hid (atkF L jq (decide (i = 0)) (ar - i) (l.drop b) = some (U, q)) ∧ Hid (dn ++ U = T) ∧ Hid (jq ≤ k) ∧ Hid (Wrote w0.heap.size w g ((bs ++ txt [(3, nm), mk [40]]) ++ txt dn) lv (b : Int) w') ∧ Hid (b ≤ l.length))
 case atStart => exact ⟨0, a, [], T, rfl, lh (by have h := HT.out; rw [show ar - ((0 : Nat) : Int) = ar by omega]; exact h), lh rfl, lh (Nat.le_refl _), lh (by rw [HST.out]; exact HP2.out), lh hal⟩
 case round =>
  clear HP2 HST J2 hHeld
  obtain ⟨i, b, dn, U, rfl, HR, HU, HK, HW, HI⟩ := hrel
  obtain ⟨j, hj⟩ : ∃ j, gk = j + 1 := by
   rcases gk with _ | j
   ·have h := HR.out; rw [atkF] at h; cases h
   ·exact ⟨j, rfl⟩
  subst hj
  have hr := HR.out
  rw [atkF] at hr
  by_cases hm : ar - (i : Int) ≤ 0
  ·rw [if_pos hm] at hr
   obtain ⟨rfl, rfl⟩ := Prod.mk.inj (sI hr)
   have b15 : decide ((i : Int) < ar) = false := decide_eq_false (by omega)
   have HL9 := lh (show ((bs ++ txt [(3, nm), mk [40]]) ++ txt dn).length + 1 ≤ 140737488355328 by have h := HLEN.out; have h2 := HU.out; rw [List.append_nil] at h2; rw [h2]; omega)
   have HDR := lh (show (l.length : Int) - (l.drop b).length = b by have := HI.out; rw [List.length_drop]; omega)
   clear hr hm HR
   go_upto_region 9 with (fail)
   go_wp2_with (go_at_call 58; (with_reducible refine (Ncm HW.out.pr 41 (n := 41) rfl HL9.out (Nat.le_trans HB.out HW.out.bel.size)).mono ?_); rintro en w3 ⟨rfl, hw⟩; have HW3 := lh (HW.out.trans hw); clear hw)
   go_end0
   refine ⟨rfl, ?_⟩
   have h := HW3.out
   have h2 := HU.out
   rw [List.append_nil] at h2
   rw [HU0.out, HDR.out, ← h2, ← List.append_assoc, ← List.append_assoc]
   exact h
  ·rw [if_neg hm] at hr
   obtain ⟨⟨V1, q1⟩, hV1, hE1⟩ := Option.bind_eq_some_iff.1 hr
   obtain ⟨⟨V2, q2⟩, hV2, hE2⟩ := Option.map_eq_some_iff.1 hE1
   obtain ⟨rfl, rfl⟩ := Prod.mk.inj hE2
   have b15 : decide ((i : Int) < ar) = true := decide_eq_true (by omega)
   obtain ⟨p1, -, hp1⟩ := (tk_suf L j).1 _ _ _ _ hV1
   obtain ⟨hq1, hq2, hq3⟩ := drop_suf hp1
   have HQ2 := lh hq2
   have HV1 := lh hV1
   have HV2 := lh (show atkF L j false (ar - ((i + 1 : Nat) : Int)) (l.drop (l.length - q1.length)) = some (V2, q2) by rw [hq3, show ar - ((i + 1 : Nat) : Int) = ar - i - 1 by omega]; exact hV2)
   have hw1 : wrap64 ((i : Int) + 1) = (i : Int) + 1 := by have := HAR.out; unfold wrap64; omega
   have HJ := lh (HIH.out j (by have := HK.out; omega))
   clear hr hE1 hE2 hV1 hV2 hp1 hq1 hq2 hq3 hm HR
   by_cases hi : i = 0
   ·have hd : decide (i = 0) = true := decide_eq_true hi
    have b18 : decide (0 < i) = false := decide_eq_false (by omega)
    have HDD := lh (show dn ++ (V1 ++ V2) = T by have h2 := HU.out; rw [hd, if_pos rfl] at h2; exact h2)
    have HL9 := lh (show ((bs ++ txt [(3, nm), mk [40]]) ++ txt dn ++ txt V1).length ≤ 1000000000 by have h := HLEN.out; rw [← HDD.out] at h; simp only [Nbr, List.length_append] at h ⊢; omega)
    clear hd hi HU
    go_wp2_with (fail)
    refine (HJ.out 1 _ g _ b V1 q1 ⟨HW.out.pr, HPB.out.trans HW.out.bel⟩ HV1.out HL9.out).mono ?_
    rintro en w4 ⟨rfl, hw⟩
    have HW4 := lh (HW.out.trans hw)
    clear hw
    go_wp2
    go_roundg j
    case measure => omega
    case rel => exact ⟨i + 1, l.length - q1.length, dn ++ V1, V2, by first | rw [hw1]; rfl | rfl, lh (by have h := HV2.out; rw [show decide (i + 1 = 0) = false from decide_eq_false (by omega)]; exact h), lh (by rw [← HDD.out, List.append_assoc]), lh (by have := HK.out; omega), lh (by rw [HQ2.out, Nbr, ← List.append_assoc]; exact HW4.out), lh (by omega)⟩
   ·have hd : decide (i = 0) = false := decide_eq_false hi
    have b18 : decide (0 < i) = true := decide_eq_true (by omega)
    have HL9 := lh (show ((bs ++ txt [(3, nm), mk [40]]) ++ txt dn ++ [44] ++ txt V1).length ≤ 1000000000 by have h := HLEN.out; have h2 := HU.out; rw [← h2, hd, if_neg (by simp)] at h; simp only [Nbr, Nb0, tk5, tk3, mk, mB, List.length_append, List.length_cons, List.length_nil] at h ⊢; omega)
    have HDD := lh (show dn ++ (mk [44] :: V1 ++ V2) = T by have h2 := HU.out; rw [hd, if_neg (by simp)] at h2; exact h2)
    have HTX := lh (show txt (dn ++ mk [44] :: V1) = txt dn ++ [44] ++ txt V1 by rw [Nbr, Nb0]; simp [mk, mB, tk5])
    have HI0 := lh hi
    clear hd hi HU
    go_wp2_with ((go_at_call 58; (with_reducible refine (Ncm HW.out.pr 44 (n := 44) rfl (by have h := HL9.out; simp only [List.length_append, List.length_cons, List.length_nil] at h ⊢; omega) (Nat.le_trans HB.out HW.out.bel.size)).mono ?_); rintro en w3 ⟨rfl, hw⟩; have HW3 := lh (HW.out.trans hw); clear hw))
    refine (HJ.out 1 _ g _ b V1 q1 ⟨HW3.out.pr, HPB.out.trans HW3.out.bel⟩ HV1.out HL9.out).mono ?_
    rintro en w4 ⟨rfl, hw⟩
    have HW4 := lh (HW3.out.trans hw)
    clear hw
    go_wp2
    go_roundg j
    case measure => omega
    case rel => exact ⟨i + 1, l.length - q1.length, dn ++ mk [44] :: V1, V2, by first | rw [hw1]; rfl | rfl, lh (by have h := HV2.out; rw [show decide (i + 1 = 0) = false from decide_eq_false (by omega)]; exact h), lh (by rw [← HDD.out]; simp), lh (by have := HK.out; omega), lh (by rw [HQ2.out, HTX.out, ← List.append_assoc, ← List.append_assoc]; exact HW4.out), lh (by omega)⟩
end Go.Proofs.YtejbbceidnaloaaGreatDoor.P
