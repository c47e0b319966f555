import Derived.Test.YtejbbceidnaloaaGreatDoorY25
namespace Go.Proofs.YtejbbceidnaloaaGreatDoor.P
open Go.RowKit Go.Proofs.YtejbbceidnaloaaGreatDoorW.PrintWords Go.Proofs.YtejbbceidnaloaaGreatDoorW.PrintLast Go.Proofs.YtejbbceidnaloaaGreatDoorW.PrintMore
set_option linter.unusedVariables false
set_option linter.unusedSimpArgs false
theorem copy_any (l : List UInt8) : (∃ e : Int, e ≠ 0 ∧ ∀ a b, mcp.f ⟨l.toArray⟩ a b = some (⟨#[]⟩, e)) ∨ ∀ a b, ∃ t e, (e = 0 ∨ e = 2) ∧ mcp.f ⟨l.toArray⟩ a b = some (t, e) := by
 by_cases hh : l.head? = some 61
 ·obtain ⟨r, rfl⟩ : ∃ r, l = 61 :: r := by
   cases l with
   | nil => cases hh
   | cons c r => injection hh with hc; exact ⟨r, by rw [hc]⟩
  rcases parse_cases r with ⟨h1, h2, h3⟩ | ⟨h1, h2, h3, h4⟩
  ·right
   intro a b
   unfold mcp.f Nbu.f
   rw [cut61_cons, if_pos rfl]
   simp only [Option.bind_some, if_true]
   rw [if_pos h1]
   unfold msh.f
   rw [if_pos h3]
   simp only [Option.bind_some]
   unfold Nch.f
   simp only [Option.bind_some]
   generalize (⟨(printL ((parseL r).1.map (shN a b))).1.toArray⟩ : ByteArray) = t
   by_cases ht : (t.size : Int) ≥ 1024
   ·rw [if_pos ht]; exact ⟨_, _, Or.inr rfl, rfl⟩
   ·rw [if_neg ht, if_pos (by omega)]; exact ⟨_, _, Or.inl rfl, rfl⟩
  ·left
   refine ⟨_, h1, fun a b => ?_⟩
   unfold mcp.f Nbu.f
   rw [cut61_cons, if_pos rfl]
   simp only [Option.bind_some, if_true]
   rw [if_neg h1]
 ·right
  intro a b
  exact ⟨_, 0, Or.inl rfl, copy_plain l hh a b⟩
def cpy (s : ByteArray) (l : List S64) (b c : Int) (j : Int) : Option (ByteArray × Int) := mcp.f s (wrap64 ((rd_T64 l j).f1 - b)) (wrap64 ((rd_T64 l j).f2 - c))
def FillOk (s : ByteArray) (l : List S64) (b c : Int) (r : List ByteArray × Int) : Prop :=
 r = ([], 110) ∨ (∃ e : Int, e ≠ 0 ∧ r = ([], e) ∧ 0 < l.length ∧ ∃ (j : Int) (t : ByteArray), cpy s l b c j = some (t, e)) ∨ (r.2 = 0 ∧ r.1.length = l.length ∧ ∀ j : Nat, j < l.length → cpy s l b c (j : Int) = some (r.1.getD j ByteArray.empty, 0))
theorem right_any (a b c : Int) : ∃ t, Nad.f a b c = some t := right_some a b c
theorem fill_l1 {s : ByteArray} {l : List S64} {a b c : Int} (hl : l.length ≤ 500) (hs : ∀ a b, ∃ t e, mcp.f s a b = some (t, e)) :
 ∀ (m i K : Nat) (xs : List ByteArray), i + m = l.length → m + 1 ≤ K → xs.length = i → (∀ j : Nat, j < i → cpy s l b c (j : Int) = some (xs.getD j ByteArray.empty, 0)) → ∃ r, mfl.l1 K s xs l (l.length : Int) (i : Int) a b c = some r ∧ FillOk s l b c r := by
 intro m
 induction m with
 | zero =>
  intro i K xs hi hK hx hall
  obtain ⟨K, rfl⟩ : ∃ K', K = K' + 1 := ⟨K - 1, by omega⟩
  rw [mfl.l1, if_neg (by omega)]
  exact ⟨_, rfl, Or.inr (Or.inr ⟨rfl, by show xs.length = _; omega, fun j hj => hall j (by omega)⟩)⟩
 | succ m ih =>
  intro i K xs hi hK hx hall
  obtain ⟨K, rfl⟩ : ∃ K', K = K' + 1 := ⟨K - 1, by omega⟩
  obtain ⟨t, e, hte⟩ := hs (wrap64 ((rd_T64 l (i : Int)).f1 - b)) (wrap64 ((rd_T64 l (i : Int)).f2 - c))
  rw [mfl.l1, if_pos (by omega), if_pos (by omega), if_pos (by omega), hte]
  simp only [Option.bind_some]
  by_cases he : e = 0
  ·subst he
   rw [if_pos rfl, if_pos (by omega), wr1 (by omega) (by omega), show (i : Int) + 1 = ((i + 1 : Nat) : Int) by omega]
   refine ih (i + 1) K (xs ++ [t]) (by omega) (by omega) (by simp [hx]) (fun j hj => ?_)
   rcases Nat.lt_succ_iff_lt_or_eq.1 hj with h | rfl
   ·rw [hall j h]
    simp [List.getD, List.getElem?_append_left (show j < xs.length by omega)]
   ·show mcp.f s _ _ = _
    rw [hte]
    simp [List.getD, ← hx]
  ·rw [if_neg he]
   exact ⟨_, rfl, Or.inr (Or.inl ⟨e, he, rfl, by omega, (i : Int), t, hte⟩)⟩
theorem fill_l0 {s : ByteArray} {l : List S64} {a b c : Int} (hl : l.length ≤ 500) (hs : ∀ a b, ∃ t e, mcp.f s a b = some (t, e)) :
 ∀ (m i K : Nat), i + m = l.length → m + 600 ≤ K → ∃ r, mfl.l0 K s l l (l.length : Int) (i : Int) a b c = some r ∧ FillOk s l b c r := by
 intro m
 induction m with
 | zero =>
  intro i K hi hK
  obtain ⟨K, rfl⟩ : ∃ K', K = K' + 1 := ⟨K - 1, by omega⟩
  rw [mfl.l0, if_neg (by omega)]
  obtain ⟨t, ht⟩ := right_any a b c
  rw [ht, Option.bind_some]
  cases t with
  | true =>
   rw [if_pos rfl]
   exact fill_l1 hl hs l.length 0 K [] (by omega) (by omega) rfl (fun j hj => by omega)
  | false =>
   rw [if_neg (by decide)]
   exact ⟨_, rfl, Or.inl rfl⟩
 | succ m ih =>
  intro i K hi hK
  obtain ⟨K, rfl⟩ : ∃ K', K = K' + 1 := ⟨K - 1, by omega⟩
  obtain ⟨t, ht⟩ := right_any (rd_T64 l (i : Int)).f0 (rd_T64 l (i : Int)).f1 (rd_T64 l (i : Int)).f2
  rw [mfl.l0, if_pos (by omega), if_pos (by omega), if_pos (by omega), ht, Option.bind_some]
  cases t with
  | true =>
   rw [if_pos rfl, wr1 (by omega) (by omega), show (i : Int) + 1 = ((i + 1 : Nat) : Int) by omega]
   exact ih (i + 1) K (by omega) (by omega)
  | false =>
   rw [if_neg (by decide)]
   exact ⟨_, rfl, Or.inl rfl⟩
theorem each_l0 {s : ByteArray} {l : List S64} {a b c : Int} {xs : List ByteArray} (hl : l.length ≤ 500) (hx : xs.length = l.length) (hall : ∀ j : Nat, j < l.length → cpy s l b c (j : Int) = some (xs.getD j ByteArray.empty, 0)) :
 ∀ (m i K : Nat), i + m = l.length → m + 1 ≤ K → mte.l0 K s l xs (i : Int) a b c = some true := by
 intro m
 induction m with
 | zero =>
  intro i K hi hK
  obtain ⟨K, rfl⟩ : ∃ K', K = K' + 1 := ⟨K - 1, by omega⟩
  rw [mte.l0, if_neg (by omega)]
 | succ m ih =>
  intro i K hi hK
  obtain ⟨K, rfl⟩ : ∃ K', K = K' + 1 := ⟨K - 1, by omega⟩
  have h := hall i (by omega)
  unfold cpy at h
  rw [mte.l0, if_pos (by omega), if_pos (by omega), h]
  simp only [Option.bind_some]
  rw [if_pos trivial, if_pos (by omega), if_pos (by unfold rdOf; simp [List.getD]), wr1 (by omega) (by omega), show (i : Int) + 1 = ((i + 1 : Nat) : Int) by omega]
  exact ih (i + 1) K (by omega) (by omega)
theorem each_law (s : ByteArray) (a b c : Int) (l : List S64) : mte.f 1200 s a b c l = some true := by
 have es : (⟨s.data.toList.toArray⟩ : ByteArray) = s := by cases s; simp
 have hc := copy_any s.data.toList
 rw [es] at hc
 have hs : ∀ a b, ∃ t e, mcp.f s a b = some (t, e) := by
  rcases hc with ⟨e, he, h⟩ | h
  ·exact fun a b => ⟨_, _, h a b⟩
  ·intro a b
   obtain ⟨t, e, -, h⟩ := h a b
   exact ⟨t, e, h⟩
 unfold mte.f able6_g.f
 simp only [Option.bind_some, if_true, List.nil_append, List.length_nil, Nat.zero_add]
 by_cases hl : (l.length : Int) > 500
 ·rw [if_pos hl]
 rw [if_neg hl, if_pos (by omega)]
 obtain ⟨r, hr, hF⟩ := fill_l0 (s := s) (l := l) (a := a) (b := b) (c := c) (by omega) hs l.length 0 1200 (by omega) (by omega)
 unfold mfl.f
 rw [show ((0 : Nat) : Int) = 0 from rfl] at hr
 rw [hr]
 simp only [Option.bind_some]
 rcases hF with rfl | ⟨e, he, rfl, hp, j, t, hj⟩ | ⟨h0, hx, hall⟩
 ·rfl
 ·by_cases h110 : e = 110
  ·subst h110; rfl
  ·rw [if_neg h110, if_neg he]
   obtain ⟨t0, e0, h00⟩ := hs 0 0
   rw [h00]
   simp only [Option.bind_some, List.length_nil]
   rw [if_pos (by rfl), if_pos (by omega)]
   by_cases hz : e0 = 0
   ·rw [if_pos hz]
    subst hz
    rcases hc with ⟨e1, he1, h⟩ | h
    ·rw [h 0 0] at h00
     cases h00
     exact absurd rfl he1
    ·obtain ⟨t2, e2, h2, h3⟩ := h (wrap64 ((rd_T64 l j).f1 - b)) (wrap64 ((rd_T64 l j).f2 - c))
     unfold cpy at hj
     rw [h3] at hj
     cases hj
     rcases h2 with h2 | h2
     ·exact absurd h2 he
     ·rw [h2]; rfl
   ·rw [if_neg hz]
 ·rw [if_neg (by omega), if_pos h0, if_pos (by omega)]
  exact each_l0 (by omega) hx hall l.length 0 1200 (by omega) (by omega)
theorem each_calls (W : World) (s : ByteArray) (a b c : Int) (ha : -9223372036854775808 ≤ a ∧ a ≤ 9223372036854775807) (hb : -9223372036854775808 ≤ b ∧ b ≤ 9223372036854775807) (hc : -9223372036854775808 ≤ c ∧ c ≤ 9223372036854775807) (A : Option Addr) (n : Nat) (l : List S64) (hC : Kd.C k64 W A l.length l) (hn : l.length ≤ n) {p q : Prop} (hz : p) (hu : q) (hG : GL W) :
 Calls Tryz.prog 20 #[.string s, .agg #[.int .i64 a, .int .i64 b, .int .i64 c], .slice A l.length n] W fun e w' => e = .returned (.bool true) ∧ Below W.heap.size W w' :=
 mte.calls 1200 s a b c A n l true W hC hn hG (aM rfl) (each_law s a b c l)
end Go.Proofs.YtejbbceidnaloaaGreatDoor.P
