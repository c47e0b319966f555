import Derived.Test.YtejbbceidnaloaaGreatDoorX26
namespace Go.Proofs.YtejbbceidnaloaaGreatDoor.P
open Go.RowKit Go.Proofs.YtejbbceidnaloaaGreatDoorW.PrintWords Go.Proofs.YtejbbceidnaloaaGreatDoorW.PrintLast Go.Proofs.YtejbbceidnaloaaGreatDoorW.PrintMore
set_option linter.unusedVariables false
set_option linter.unusedSimpArgs false
theorem rd_map {l : List S50} {f : S50 → S50} {i : Nat} (hi : i < l.length) : rd_T50 (l.map f) (i : Int) = f (rd_T50 l (i : Int)) := by
 unfold rd_T50
 simp [List.getD, hi]
theorem twice_l0 {l : List S50} (hk : chk l = 0) {a b c d : Int} (ha : -100000 ≤ a ∧ a ≤ 100000) (hb : -100000 ≤ b ∧ b ≤ 100000) (hc : -100000 ≤ c ∧ c ≤ 100000) (hd : -100000 ≤ d ∧ d ≤ 100000) :
 ∀ (m i K : Nat), i + m = l.length → m + 2 ≤ K → (∀ j, j < i → (rd_T50 (l.map (shN a b)) (j : Int)).f0 = (rd_T50 l (j : Int)).f0) → mtw.l0 K a b c d l (l.map (shN a b)) (i : Int) = some true := by
 obtain ⟨dd, hdd, -, hl⟩ := check_back (l := l) (K := 600) (by rw [chk_f, hk])
 have hlm : (l.map (shN a b)).length = l.length := List.length_map ..
 intro m
 induction m with
 | zero =>
  intro i K hi hK hall
  obtain ⟨K, rfl⟩ : ∃ K', K = K' + 1 := ⟨K - 1, by omega⟩
  have hmap : (l.map (shN a b)).map (shN c d) = l.map (shN (a + c) (b + d)) := by
   rw [List.map_map]
   apply List.map_congr_left
   intro n hn
   obtain ⟨j, hj, rfl⟩ := List.getElem_of_mem hn
   have h1 := hall j (by omega)
   rw [rd_map hj] at h1
   have h2 : rd_T50 l (j : Int) = l[j] := by unfold rd_T50; simp [List.getD, hj]
   rw [h2] at h1
   exact sh_two (hdd.good _ hn) ha hb hc hd h1
  rw [mtw.l0, if_neg (by omega)]
  simp only [Option.bind_some, List.nil_append, List.length_nil, Nat.zero_add]
  rw [if_pos (by rw [hlm]; omega)]
  unfold move_Shift_g.f
  rw [if_pos (chk_shift hk (by omega) (by omega)), if_pos hk, hmap]
  simp only [Option.bind_some]
  rw [if_pos (by omega), show wrap64 (a + c) = a + c by unfold wrap64; omega, show wrap64 (b + d) = b + d by unfold wrap64; omega]
  unfold law6_same_h.f
  simp only [if_true]
  rw [if_pos (by rw [List.length_map]; omega), eqRows_iff.mpr rfl]
  rfl
 | succ m ih =>
  intro i K hi hK hall
  obtain ⟨K, rfl⟩ : ∃ K', K = K' + 1 := ⟨K - 1, by omega⟩
  rw [mtw.l0, if_pos (by omega), if_pos (by omega), if_pos (by rw [hlm]; omega)]
  by_cases he : (rd_T50 (l.map (shN a b)) (i : Int)).f0 = (rd_T50 l (i : Int)).f0
  ·rw [if_pos he, wr1 (by omega) (by omega), show (i : Int) + 1 = ((i + 1 : Nat) : Int) by omega]
   refine ih (i + 1) K (by omega) (by omega) (fun j hj => ?_)
   rcases Nat.lt_succ_iff_lt_or_eq.1 hj with h | rfl
   ·exact hall j h
   ·exact he
  ·rw [if_neg he]
theorem twice_law (s : ByteArray) (a b c d : Int) : mtw.f 300 s a b c d = some true := by
 have ht : ∀ x : Int, -100000 ≤ Int.tmod x 70000 ∧ Int.tmod x 70000 ≤ 100000 := by
  intro x
  have hb := Int.natAbs_tmod x 70000
  have := Nat.mod_lt x.natAbs (show 0 < (70000 : Int).natAbs by decide)
  have h7 : (70000 : Int).natAbs = 70000 := rfl
  omega
 have ha := ht a; have hb := ht b; have hc := ht c; have hd := ht d
 unfold mtw.f able6_g.f tree_Parse_g.f
 generalize Int.tmod a 70000 = a at ha
 generalize Int.tmod b 70000 = b at hb
 generalize Int.tmod c 70000 = c at hc
 generalize Int.tmod d 70000 = d at hd
 simp only [Option.bind_some, if_true, List.nil_append, List.length_nil, Nat.zero_add]
 rcases parse_cases s.data.toList with ⟨h1, h2, h3⟩ | ⟨h1, h2, h3, h4⟩
 ·rw [if_pos h1]
  generalize (parseL s.data.toList).1 = l at h3 ⊢
  obtain ⟨dd, -, -, hl⟩ := check_back (l := l) (K := 600) (by rw [chk_f, h3])
  rw [if_pos (by omega)]
  unfold move_Shift_g.f
  rw [if_pos h3]
  simp only [Option.bind_some, if_true]
  rw [show (((l.map (shN a b)).length : Int) != (l.length : Int)) = false by rw [List.length_map]; simp, mtw.j0, if_neg (by decide)]
  exact twice_l0 h3 ha hb hc hd l.length 0 299 (by omega) (by omega) (fun j hj => by omega)
 ·rw [if_neg h1]
theorem twice_calls (W : World) (s : ByteArray) (a : Int) (ha : -9223372036854775808 ≤ a ∧ a ≤ 9223372036854775807) (b : Int) (hb : -9223372036854775808 ≤ b ∧ b ≤ 9223372036854775807) (c : Int) (hc : -9223372036854775808 ≤ c ∧ c ≤ 9223372036854775807) (d : Int) (hd : -9223372036854775808 ≤ d ∧ d ≤ 9223372036854775807) (hG : GL W) :
 Calls Tryz.prog 16 #[.string s, .int .i64 a, .int .i64 b, .int .i64 c, .int .i64 d] W fun e w' => e = .returned (.bool true) ∧ Below W.heap.size W w' :=
 mtw.calls 300 s a b c d true W hG (aM rfl) (twice_law s a b c d)
end Go.Proofs.YtejbbceidnaloaaGreatDoor.P
