import Derived.Test.YtejbbceidnaloaaGreatDoorJ37
set_option linter.unusedVariables false
set_option linter.unusedSimpArgs false
set_option maxRecDepth 100000
set_option maxHeartbeats 8000000
namespace Go.Proofs.YtejbbceidnaloaaGreatDoor.P
open Go.RowKit Go.Proofs.YtejbbceidnaloaaGreatDoorW.PrintWords Go.Proofs.YtejbbceidnaloaaGreatDoorW.PrintLast Go.Proofs.YtejbbceidnaloaaGreatDoorW.PrintMore
abbrev mk77 : S50 := (⟨0, (⟨0, (⟨0, 0⟩ : S44), (⟨#[]⟩ : ByteArray), false, 0⟩ : S46), 0, (⟨#[]⟩ : ByteArray), 77, (⟨(⟨#[]⟩ : ByteArray), 0, 0, false, false⟩ : S48), (⟨(⟨#[]⟩ : ByteArray), 0, 0, false, false⟩ : S48)⟩ : S50)
abbrev mk78 : S50 := (⟨0, (⟨0, (⟨0, 0⟩ : S44), (⟨#[]⟩ : ByteArray), false, 0⟩ : S46), 0, (⟨#[]⟩ : ByteArray), 78, (⟨(⟨#[]⟩ : ByteArray), 0, 0, false, false⟩ : S48), (⟨(⟨#[]⟩ : ByteArray), 0, 0, false, false⟩ : S48)⟩ : S50)
theorem cut_cap (t e : TypeId) (kh : IntKind) {i : TypeInfo} (ht : Tryz.prog.underlying t = some (.slice e)) (hi : Tryz.prog.info? e = some i) (A : Option Addr) (n c : Nat) (j : Int) (h0 : 0 ≤ j) (hm : j ≤ c) :
 ∀ W : World, (Instr.slice t (.slice A n c) none (some (.int kh j)) none).run Tryz.prog W = .ok (.slice A j.toNat c) W := by
 intro W
 have hel : Tryz.prog.elem t = e := by simp [Program.elem, ht]
 have hu : Tryz.prog.underlying t = some (.slice (Tryz.prog.elem t)) := by rw [hel]; exact ht
 have ha : (A.map fun x => x.add 0) = A := by cases A <;> simp [Addr.add]
 rw [run_slice_h W t A n c hu kh j h0 (by omega), hel]
 simp [sizeOf, typeInfo, hi, sliced, Result.andThen, ha]
theorem appN {ops : Array Oper} {rest : List Oper} {o : Oper} {a : Act} {Q : Exit → Act → World → Prop} {W0 W : World} (s x : Operand) {v : Value} {l r : List S50} {A : Option Addr} {n c : Nat}
 (HO : Kd.R k50 50 W W0.heap.size (fun _ => True) v l) (HB : Below W0.heap.size W0 W) (HR : Kd.C k50 W A n r) (hn : (l.length + n) * 176 ≤ 140737488355328)
 (h : ∀ v1 w1, Kd.R k50 50 w1 W0.heap.size (fun _ => True) v1 (l ++ r) → Below W0.heap.size W0 w1 → wpList Tryz.prog ops Q rest (a.put o.dst v1) w1) (hs : a.eval s = v := by exact rfl) (hx : a.eval x = .slice A n c := by exact rfl)
 (ho : o.op = .call { callee := .builtin .append, args := #[s, x], argTypes := #[22, 22] } := by exact rfl) (hgd : o.guard = none := by exact rfl) : wpList Tryz.prog ops Q (o :: rest) a W :=
 Kd.R_append_rows k50 (w0 := W0) W0.heap.size hgd s x 22 50 (.agg #[(.int .i64 0), (.int .i64 0), (.int .i64 0), (.int .i64 0), (.string ⟨#[]⟩), (.bool false), (.int .i64 0), (.int .i64 0), (.string ⟨#[]⟩), (.int .i64 0), (.string ⟨#[]⟩), (.int .i64 0), (.int .i64 0), (.bool false), (.bool false), (.string ⟨#[]⟩), (.int .i64 0), (.int .i64 0), (.bool false), (.bool false)]) 176 ho Tryz.underlying22 info50 rfl (by decide) (by omega) v l r A n c (fun _ => True) (fun _ => False) hs hx HO HR (fun _ _ h => h) (fun _ h => h.elim) (fun _ _ => trivial) HB HB.size hn (fun v1 w1 h1 h2 _ _ => h v1 w1 h1 h2)
theorem lent_calls (A0 : Option Addr) (c0 : Nat) (l : List S50) (w : World) (hr0 : Kd.C k50 w A0 l.length l) (hc0 : l.length ≤ c0) (hz : l.length * 176 ≤ 140737488351232) :
 Calls Tryz.prog 25 #[.slice A0 l.length c0] w fun e w' => ∃ A c, e = .returned (.slice A l.length c) ∧ Kd.C k50 w' A (l.length + 2) (l ++ [mk77, mk78]) ∧ l.length + 2 ≤ c ∧ Below w.heap.size w w' := by
 have C0 := lh hr0
 have HZ := lh hz
 clear hr0 hc0 hz
 go_enter Tryz.func25, Tryz.ntmps25
 go_upto_region 2 with (first
  | ((with_reducible refine gD 4 rfl ?_); refine litE 4 ?_; intro v1 w1 ho hb; have O1 := lh ho; have D1 := lh hb; clear ho hb)
  | ((with_reducible refine Nc5 (b := .append) (xs := #[.tmp 4, .tmp 5]) rfl ?_); at_builtin; refine appN (.tmp 4) (.tmp 5) O1.out D1.out (Kd.C_below C0.out D1.out) (by have := HZ.out; simp only [List.length_nil]; omega) ?_; intro v2 w2 ho hb; rw [List.nil_append] at ho; have O2 := lh ho; have D2 := lh hb; clear ho hb O1 D1)
  | ((with_reducible refine gD 9 rfl ?_); refine Kd.R_lit k50 _ 50 ?hg (N := 9) ?hd (xs := ([mk77, mk78] : List (S50))) (inner := [.int .i64 0, .int .i64 0, .int .i64 0, .int .i64 0, .string ⟨#[]⟩, .bool false, .int .i64 0, .int .i64 0, .string ⟨#[]⟩, .int .i64 77, .string ⟨#[]⟩, .int .i64 0, .int .i64 0, .bool false, .bool false, .string ⟨#[]⟩, .int .i64 0, .int .i64 0, .bool false, .bool false, .int .i64 0, .int .i64 0, .int .i64 0, .int .i64 0, .string ⟨#[]⟩, .bool false, .int .i64 0, .int .i64 0, .string ⟨#[]⟩, .int .i64 78, .string ⟨#[]⟩, .int .i64 0, .int .i64 0, .bool false, .bool false, .string ⟨#[]⟩, .int .i64 0, .int .i64 0, .bool false, .bool false]) (ok := fun _ => True) (okp := fun _ => True) ?hr ?hp (fun _ hk => hk) trivial (Below.refl _ _) (Nat.le_refl _) (by simp) ?_; (case hd => rfl); (case hg => rfl); (case hr => go_simp <;> rfl); (case hp => exact (Reps.front (show Kd.M k50 _ _ _ mk77 [.int .i64 0, .int .i64 0, .int .i64 0, .int .i64 0, .string ⟨#[]⟩, .bool false, .int .i64 0, .int .i64 0, .string ⟨#[]⟩, .int .i64 77, .string ⟨#[]⟩, .int .i64 0, .int .i64 0, .bool false, .bool false, .string ⟨#[]⟩, .int .i64 0, .int .i64 0, .bool false, .bool false] from (k50_mkM _ _ _ mk77 )) rfl (Reps.front (show Kd.M k50 _ _ _ mk78 [.int .i64 0, .int .i64 0, .int .i64 0, .int .i64 0, .string ⟨#[]⟩, .bool false, .int .i64 0, .int .i64 0, .string ⟨#[]⟩, .int .i64 78, .string ⟨#[]⟩, .int .i64 0, .int .i64 0, .bool false, .bool false, .string ⟨#[]⟩, .int .i64 0, .int .i64 0, .bool false, .bool false] from (k50_mkM _ _ _ mk78 )) rfl (Reps.none _ _) rfl) rfl)); intro v3 w3 ho hb hg_ hnew_; clear hg_ hnew_; obtain ⟨A3, c3, hv⟩ := Kd.R_slice ho; subst hv; have C3 := lh (Kd.R_reads' ho).2.2; have O3 := lh (Kd.R_below O2.out hb); have D3 := lh (Nac D2.out hb); clear hb ho O2 D2)
  | ((with_reducible refine Nc5 (b := .append) (xs := #[.tmp 6, .tmp 9]) rfl ?_); at_builtin; refine appN (.tmp 6) (.tmp 9) (r := [mk77, mk78]) O3.out D3.out C3.out (by have := HZ.out; simp only [List.length_cons, List.length_nil]; omega) ?_; intro v4 w4 ho hb; obtain ⟨A4, c4, hv⟩ := Kd.R_slice ho; subst hv; have rd := Kd.R_reads' ho; have C4 := lh rd.2.2; have L4 := lh rd.2.1; have D4 := lh hb; clear ho hb rd O3 D3 C3))
 have hlen : (l ++ [mk77, mk78]).length = l.length + 2 := by rw [List.length_append]; rfl
 obtain ⟨i0, hi0, -⟩ := info_parts info50
 have L5 := L4.out
 rw [hlen] at C4 L5
 have hcut := cut_cap 22 50 .i64 Tryz.underlying22 hi0 A4 (l ++ [mk77, mk78]).length c4 (l.length : Int) (by omega) (by omega)
 rw [Int.toNat_natCast] at hcut
 clear hi0 L4
 go_wp2_with (fail)
 go_ret
 exact ⟨_, _, rfl, C4.out, L5, D4.out⟩
theorem C_pre {w : World} {A : Option Addr} {n m : Nat} {l r : List S50} (h : Kd.C k50 w A n (l ++ r)) (hn : n = l.length + m) (hm : r.length = m) : Kd.C k50 w A l.length l := by
 subst hn
 have hl : (l ++ r).length = l.length + m := by rw [List.length_append, hm]
 have h2 : Kd.C k50 w A (l ++ r).length (l ++ r) := by rw [hl]; exact h
 have h1 := Kd.C_take (m := l.length) h2 (by omega)
 rw [List.take_left' rfl] at h1
 exact h1
theorem whole_calls (A : Option Addr) (c : Nat) (A1 : Option Addr) (c1 : Nat) (l : List S50) (w : World) (hC : Kd.C k50 w A (l.length + 2) (l ++ [mk77, mk78])) (hc : l.length + 2 ≤ c) (hC1 : Kd.C k50 w A1 l.length l) (hc1 : l.length ≤ c1) (hz : l.length * 176 ≤ 140737488351232) :
 Calls Tryz.prog 30 #[.slice A l.length c, .slice A1 l.length c1] w fun e w' => e = .returned (.bool true) ∧ Below w.heap.size w w' := by
 have HS := lh (Nd7.calls A c l A1 c1 l true w (C_pre hC rfl rfl) (by omega) hC1 hc1 (by unfold Nd7.f; rw [if_pos (by omega), eqRows_iff.mpr rfl]))
 have HC := lh hC
 have HZ := lh (show l.length ≤ 1000000000000 by omega)
 have HCC := lh hc
 clear hC hC1 hc1 hz
 go_enter Tryz.func30, Tryz.ntmps30
 have hw2 : wrap64 ((l.length : Int) + 2) = ((l.length + 2 : Nat) : Int) := by have := HZ.out; unfold wrap64; omega
 have hw1 : wrap64 ((l.length : Int) + 1) = ((l.length + 1 : Nat) : Int) := by have := HZ.out; unfold wrap64; omega
 obtain ⟨i0, hi0, -⟩ := info_parts info50
 have hcut := cut_cap 22 50 .i64 Tryz.underlying22 hi0 A l.length c ((l.length + 2 : Nat) : Int) (by omega) (by have := HCC.out; omega)
 rw [Int.toNat_natCast] at hcut
 obtain ⟨ad, q1, rfl, -, hk1, hx0⟩ := Kd.C_get HC.out z50 (l.length : Int) (by omega) (by omega)
 obtain ⟨ad2, q2, hq, -, hk2, hy0⟩ := Kd.C_get HC.out z50 ((l.length + 1 : Nat) : Int) (by omega) (by omega)
 obtain rfl : ad = ad2 := by injection hq
 obtain rfl := Neh hk1
 obtain rfl := Neh hk2
 have g1 : (l ++ [mk77, mk78]).getD ((l.length : Int)).toNat z50 = mk77 := by rw [Int.toNat_natCast]; simp [List.getD]
 have g2 : (l ++ [mk77, mk78]).getD (((l.length + 1 : Nat) : Int)).toNat z50 = mk78 := by rw [Int.toNat_natCast]; simp [List.getD]
 have EX := lh (show EL mk77 (ad.add (l.length * 20)) w from fun j v hv => by rw [add_add]; exact hx0 j v (by rw [g1]; exact hv))
 have EY := lh (show EL mk78 (ad.add ((l.length + 1) * 20)) w from fun j v hv => by rw [add_add]; exact hy0 j v (by rw [g2]; exact hv))
 clear hk1 hk2 hx0 hy0 g1 g2 hq hi0
 have i1 : ((l.length : Int) < ((l.length + 2 : Nat) : Int)) = True := eq_true (by omega)
 have i2 : (((l.length + 1 : Nat) : Int) < ((l.length + 2 : Nat) : Int)) = True := eq_true (by omega)
 go_wp2_with ((go_at_call 24; (with_reducible refine (HS.out).mono ?_); rintro en w1 ⟨rfl, hb⟩; have B1 := lh hb; have f7 := el_f (el_below EX.out hb) 9 (by omega) (v := .int .i64 77) rfl; have f8 := el_f (el_below EY.out hb) 9 (by omega) (v := .int .i64 78) rfl; clear hb))
 go_ret
 exact ⟨rfl, B1.out⟩
theorem ints_self {ks : List Int} (hk : ks.length ≤ 30) : ∀ (m i K : Nat), i + m = ks.length → m + 1 ≤ K → Na3.l0 K ks ks (i : Int) = some true := by
 intro m
 induction m with
 | zero =>
  intro i K hi hK
  obtain ⟨K, rfl⟩ : ∃ K', K = K' + 1 := ⟨K - 1, by omega⟩
  rw [Na3.l0, if_neg (by omega)]
 | succ m ih =>
  intro i K hi hK
  obtain ⟨K, rfl⟩ : ∃ K', K = K' + 1 := ⟨K - 1, by omega⟩
  rw [Na3.l0, if_pos (by omega), if_pos (by omega), if_pos (by omega), if_pos rfl, wr1 (by omega) (by omega), show (i : Int) + 1 = ((i + 1 : Nat) : Int) by omega]
  exact ih (i + 1) K (by omega) (by omega)
theorem kids_calls (W : World) (A : Option Addr) (c : Nat) (l : List S50) (hC : Kd.C k50 W A l.length l) (hc : l.length ≤ c) (hz : l.length * 176 ≤ 140737488351232) (hs : Sz l) (a : Int) (ha : -9223372036854775808 ≤ a ∧ a ≤ 9223372036854775807) (hG : GL W) :
 Calls Tryz.prog 8 #[.slice A l.length c, .int .i64 a] W fun e w' => e = .returned (.bool true) ∧ Below W.heap.size W w' := by
 obtain ⟨K, hK⟩ : ∃ K : Nat, K = 600 + 400 := ⟨_, rfl⟩
 obtain ⟨ks, h1, h2, h3⟩ := kids_eq hs a K 400 hK (by omega)
 have HK1 := lh h1
 have HK2 := lh h2
 have HI := lh (show Na3.f 40 ks ks = some true by unfold Na3.f; rw [if_pos rfl]; exact ints_self h3 ks.length 0 40 (by omega) (by omega))
 have HL := lh (lent_calls A c l W hC hc hz)
 have HC := lh hC
 have HCC := lh hc
 have HZ := lh hz
 have HG := lh hG
 clear h1 h2 h3 hK hC hc hz hs hG
 go_enter Tryz.func8, Tryz.ntmps8
 go_wp2_with (first
  | (go_at_call 25; (with_reducible refine (HL.out).mono ?_); rintro en w1 ⟨A1, c1, rfl, h1, h2, hb⟩; have E1 := lh h1; have M1 := lh h2; have B1 := lh hb; clear h1 h2 hb HL)
  | (go_at_call 32; (with_reducible refine (Nav.calls K A1 c1 l a ks _ (C_pre E1.out rfl rfl) (by have := M1.out; omega) HK1.out).mono ?_); rintro en w2 ⟨v2, rfl, ho, hb⟩; obtain ⟨A2, c2, hv⟩ := Kd.R_slice ho; subst hv; have rd := Kd.R_reads' ho; have C2 := lh rd.2.2; have L2 := lh rd.2.1; have E2 := lh (Kd.C_below E1.out hb); have B2 := lh (Nac B1.out hb); clear ho hb rd E1 B1)
  | (go_at_call 23; (with_reducible refine (able5_g.calls true _ (GL.below HG.out B2.out) rfl).mono ?_); rintro en w3 ⟨rfl, hb⟩; have C3 := lh (Kd.C_below C2.out hb); have E3 := lh (Kd.C_below E2.out hb); have B3 := lh (Nac B2.out hb); clear hb C2 E2 B2)
  | (go_at_call 34; (with_reducible refine (Nbs.calls K A c l a ks _ (Kd.C_below HC.out B3.out) HCC.out HK2.out).mono ?_); rintro en w4 ⟨v4, rfl, ho, hb⟩; obtain ⟨A4, c4, hv⟩ := Kd.R_slice ho; subst hv; have rd := Kd.R_reads' ho; have D4 := lh rd.2.2; have L4 := lh rd.2.1; have C4 := lh (Kd.C_below C3.out hb); have E4 := lh (Kd.C_below E3.out hb); have B4 := lh (Nac B3.out hb); clear ho hb rd C3 E3 B3)
  | (go_at_call 33; (with_reducible refine (Na3.calls 40 A2 c2 ks A4 c4 ks true _ C4.out L2.out D4.out L4.out HI.out).mono ?_); rintro en w5 ⟨rfl, hd⟩; have hb := hd.below; have E5 := lh (Kd.C_below E4.out hb); have B5 := lh (Nac B4.out hb); clear hd hb C4 D4 E4 B4)
  | (go_at_call 30; (with_reducible refine (whole_calls A1 c1 A c l _ E5.out M1.out (Kd.C_below HC.out B5.out) HCC.out HZ.out).mono ?_); rintro en w6 ⟨rfl, hb⟩; have B6 := lh (Nac B5.out hb); clear hb E5 B5))
 go_ret
 exact ⟨rfl, B6.out⟩
end Go.Proofs.YtejbbceidnaloaaGreatDoor.P
