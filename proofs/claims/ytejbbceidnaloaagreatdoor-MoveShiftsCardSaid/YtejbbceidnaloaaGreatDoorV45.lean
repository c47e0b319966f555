import Derived.Test.YtejbbceidnaloaaGreatDoorV44
set_option linter.unusedVariables false
set_option linter.unusedSimpArgs false
set_option maxRecDepth 100000
set_option maxHeartbeats 8000000
namespace Go.Proofs.YtejbbceidnaloaaGreatDoor.P
open Go.RowKit AW AL AM
theorem shifts_calls (W : World) (A : Option Addr) (c : Nat) (l : List S50) (hC : Kd.C k50 W A l.length l) (hc : l.length ≤ c) (hz : l.length * 176 ≤ 140737488351232) (hs : Sz l) (a : Int) (ha : -9223372036854775808 ≤ a ∧ a ≤ 9223372036854775807) (b : Int) (hb : -9223372036854775808 ≤ b ∧ b ≤ 9223372036854775807) (hG : GL W) :
 Calls Tryz.prog 13 #[.slice A l.length c, .int .i64 a, .int .i64 b] W fun e w' => e = .returned (.bool true) ∧ Below W.heap.size W w' := by
 obtain ⟨m, e, hme, hml⟩ : ∃ m e, ((if chk l = 0 then (l.map (shN a b), (0 : Int)) else ([], chk l)) = (m, e)) ∧ m.length ≤ 1000000000000 := by
  by_cases hk : chk l = 0
  ·exact ⟨_, _, if_pos hk, by rw [List.length_map]; omega⟩
  ·exact ⟨_, _, if_neg hk, by simp⟩
 have HM := lh (show msh.f l a b = some (m, e) by unfold msh.f; rw [hme])
 have HD := lh (show Nb8.f l a b = some (m, e) by
  rw [← hme]
  unfold Nb8.f
  rw [if_pos hs]
  by_cases hk : chk l = 0
  ·rw [if_pos hk, if_pos hk, sh6_all hk ha hb]
  ·rw [if_neg hk, if_neg hk])
 have HS := lh (show Nc1.f m m = some true by unfold Nc1.f; rw [if_pos hml, Nfa.mpr rfl])
 have HS2 := lh (show Nc1.f l l = some true by unfold Nc1.f; rw [if_pos (by omega), Nfa.mpr rfl])
 have ee : (e == e) = true := by simp
 have hw1 : wrap64 ((l.length : Int) + 1) = ((l.length + 1 : Nat) : Int) := by unfold wrap64; omega
 have HC := lh hC
 have HCC := lh hc
 have HZ := lh hz
 have HG := lh hG
 clear hme hml hC hc hz hs ha hb hG
 go_enter Tryz.func13, Tryz.ntmps13
 go_upto_region 2 with (first
  | ((with_reducible refine gD 12 rfl ?_); refine litE 12 ?_; intro v1 w1 ho hb; have O1 := lh ho; have D1 := lh hb; clear ho hb)
  | ((with_reducible refine Ncf (b := .append) (xs := #[.tmp 12, .tmp 13]) rfl ?_); at_builtin; refine appN (.tmp 12) (.tmp 13) O1.out D1.out (Kd.C_below HC.out D1.out) (by have := HZ.out; simp only [List.length_nil]; omega) ?_; intro v2 w2 ho hb; rw [List.nil_append] at ho; have O2 := lh ho; have D2 := lh hb; clear ho hb O1 D1)
  | ((with_reducible refine gD 17 rfl ?_); refine Kd.R_lit k50 _ 50 ?hg (N := 17) ?hd (xs := ([mk77, mk78] : List (S50))) (inner := [.int .i64 0, .int .i64 0, .int .i64 0, .int .i64 0, .string ⟨#[]⟩, .bool false, .int .i64 0, .int .i64 0, .string ⟨#[]⟩, .int .i64 77, .string ⟨#[]⟩, .int .i64 0, .int .i64 0, .bool false, .bool false, .string ⟨#[]⟩, .int .i64 0, .int .i64 0, .bool false, .bool false, .int .i64 0, .int .i64 0, .int .i64 0, .int .i64 0, .string ⟨#[]⟩, .bool false, .int .i64 0, .int .i64 0, .string ⟨#[]⟩, .int .i64 78, .string ⟨#[]⟩, .int .i64 0, .int .i64 0, .bool false, .bool false, .string ⟨#[]⟩, .int .i64 0, .int .i64 0, .bool false, .bool false]) (ok := fun _ => True) (okp := fun _ => True) ?hr ?hp (fun _ hk => hk) trivial (Below.refl _ _) (Nat.le_refl _) (by simp) ?_; (case hd => rfl); (case hg => rfl); (case hr => go_simp <;> rfl); (case hp => exact (Reps.front (show Kd.M k50 _ _ _ mk77 [.int .i64 0, .int .i64 0, .int .i64 0, .int .i64 0, .string ⟨#[]⟩, .bool false, .int .i64 0, .int .i64 0, .string ⟨#[]⟩, .int .i64 77, .string ⟨#[]⟩, .int .i64 0, .int .i64 0, .bool false, .bool false, .string ⟨#[]⟩, .int .i64 0, .int .i64 0, .bool false, .bool false] from (Ne5 _ _ _ mk77 )) rfl (Reps.front (show Kd.M k50 _ _ _ mk78 [.int .i64 0, .int .i64 0, .int .i64 0, .int .i64 0, .string ⟨#[]⟩, .bool false, .int .i64 0, .int .i64 0, .string ⟨#[]⟩, .int .i64 78, .string ⟨#[]⟩, .int .i64 0, .int .i64 0, .bool false, .bool false, .string ⟨#[]⟩, .int .i64 0, .int .i64 0, .bool false, .bool false] from (Ne5 _ _ _ mk78 )) rfl (Reps.none _ _) rfl) rfl)); intro v3 w3 ho hb hg_ hnew_; clear hg_ hnew_; obtain ⟨A3, c3, hv⟩ := Kd.R_slice ho; subst hv; have C3 := lh (Kd.R_reads' ho).2.2; have O3 := lh (Kd.R_below O2.out hb); have D3 := lh (Nab D2.out hb); clear hb ho O2 D2)
  | ((with_reducible refine Ncf (b := .append) (xs := #[.tmp 14, .tmp 17]) rfl ?_); at_builtin; refine appN (.tmp 14) (.tmp 17) (r := [mk77, mk78]) O3.out D3.out C3.out (by have := HZ.out; simp only [List.length_cons, List.length_nil]; omega) ?_; intro v4 w4 ho hb; obtain ⟨A4, c4, hv⟩ := Kd.R_slice ho; subst hv; have rd := Kd.R_reads' ho; have C4 := lh rd.2.2; have L4 := lh rd.2.1; have D4 := lh hb; clear ho hb rd O3 D3 C3))
 have hlen : (l ++ [mk77, mk78]).length = l.length + 2 := by rw [List.length_append]; rfl
 obtain ⟨i0, hi0, -⟩ := info_parts info50
 have L5 := L4.out
 rw [hlen] at C4 L5
 have hcut := cut_cap 22 50 .i64 Tryz.underlying22 hi0 A4 (l.length + 2) c4 (l.length : Int) (by omega) (by omega)
 rw [Int.toNat_natCast] at hcut
 have HL5 := lh L5
 obtain ⟨ad, q1, rfl, -, hk1, hx0⟩ := Kd.C_get C4.out z50 (l.length : Int) (by omega) (by omega)
 obtain ⟨ad2, q2, hq, -, hk2, hy0⟩ := Kd.C_get C4.out z50 ((l.length + 1 : Nat) : Int) (by omega) (by omega)
 obtain rfl : ad = ad2 := by injection hq
 obtain rfl := Nek hk1
 obtain rfl := Nek hk2
 have g1 : (l ++ [mk77, mk78]).getD ((l.length : Int)).toNat z50 = mk77 := by rw [Int.toNat_natCast]; simp [List.getD]
 have g2 : (l ++ [mk77, mk78]).getD (((l.length + 1 : Nat) : Int)).toNat z50 = mk78 := by rw [Int.toNat_natCast]; simp [List.getD]
 have EX := lh (show EL mk77 (ad.add (l.length * 20)) w4 from fun j v hv => by rw [add_add]; exact hx0 j v (by rw [g1]; exact hv))
 have EY := lh (show EL mk78 (ad.add ((l.length + 1) * 20)) w4 from fun j v hv => by rw [add_add]; exact hy0 j v (by rw [g2]; exact hv))
 have i1 : ((l.length : Int) < ((l.length + 2 : Nat) : Int)) = True := eq_true (by omega)
 have i2 : (((l.length + 1 : Nat) : Int) < ((l.length + 2 : Nat) : Int)) = True := eq_true (by omega)
 clear hk1 hk2 hx0 hy0 g1 g2 hq hi0 L4 L5 hlen
 go_wp2_with (first
  | (go_at_call 37; (with_reducible refine (msh.calls (some ad) c4 l a b m e _ (C_pre C4.out rfl rfl) (by have := HL5.out; omega) HM.out).mono ?_); rintro en w5 ⟨v5, rfl, ho, hb⟩; obtain ⟨A5, c5, hv⟩ := Kd.R_slice ho; subst hv; have rd := Kd.R_reads' ho; have C5 := lh rd.2.2; have L5 := lh rd.2.1; have D5 := lh hb; clear ho hb rd)
  | (go_at_call 38; (with_reducible refine (Nb8.calls A c l a b m e _ (Kd.C_below (Kd.C_below HC.out D4.out) D5.out) HCC.out HD.out).mono ?_); rintro en w6 ⟨v6, rfl, ho, hb⟩; obtain ⟨A6, c6, hv⟩ := Kd.R_slice ho; subst hv; have rd := Kd.R_reads' ho; have C6 := lh rd.2.2; have L6 := lh rd.2.1; have K6 := lh (Kd.C_below C5.out hb); have D6 := lh (Nab D5.out hb); clear ho hb rd C5 D5)
  | (go_at_call 39; (with_reducible refine (able6_g.calls true _ (GL.below HG.out (Nab D4.out D6.out)) rfl).mono ?_); rintro en w7 ⟨rfl, hb⟩; have C7 := lh (Kd.C_below C6.out hb); have K7 := lh (Kd.C_below K6.out hb); have D7 := lh (Nab D6.out hb); clear hb C6 K6 D6)
  | (go_at_call 40; (with_reducible refine (Nc1.calls A5 c5 m A6 c6 m true _ K7.out L5.out C7.out L6.out HS.out).mono ?_); rintro en w8 ⟨rfl, hb⟩; have D8 := lh (Nab D7.out hb); clear hb C7 K7 D7)
  | (go_at_call 40; (with_reducible refine (Nc1.calls (some ad) c4 l A c l true _ (Kd.C_below (C_pre C4.out rfl rfl) D8.out) (by have := HL5.out; omega) (Kd.C_below (Kd.C_below HC.out D4.out) D8.out) HCC.out HS2.out).mono ?_); rintro en w9 ⟨rfl, hb⟩; have D9 := lh (Nab D8.out hb); have f7 := el_f (el_below EX.out D9.out) 9 (by omega) (v := .int .i64 77) rfl; have f8 := el_f (el_below EY.out D9.out) 9 (by omega) (v := .int .i64 78) rfl; clear hb D8))
 go_ret
 exact ⟨rfl, Nab D4.out D9.out⟩
end Go.Proofs.YtejbbceidnaloaaGreatDoor.P
