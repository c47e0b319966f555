import Derived.Test.YtejbbceidnaloaaGreatDoorU25
namespace Go.Proofs.YtejbbceidnaloaaGreatDoor.P
open Go.RowKit Go.Proofs.YtejbbceidnaloaaGreatDoorW.PrintWords Go.Proofs.YtejbbceidnaloaaGreatDoorW.PrintLast Go.Proofs.YtejbbceidnaloaaGreatDoorW.PrintMore
set_option linter.unusedVariables false
set_option linter.unusedSimpArgs false
theorem rows_eq {l1 l2 : List S50} (hl : l1.length = l2.length) (h : ∀ j : Nat, j < l2.length → rd_T50 l1 (j : Int) = rd_T50 l2 (j : Int)) : l1 = l2 := by
 refine List.ext_getElem hl fun j h1 h2 => ?_
 have := h j h2
 unfold rd_T50 at this
 simpa [List.getD, h1, h2] using this
theorem mv_fixed {x y : Int} {r : S48} (h : refR r = true) (h3 : r.f3 = true) (h4 : r.f4 = true) : mvR x y r = (r, true) := by
 rw [← mv_zero r h]
 unfold mvR
 rw [if_pos h3, if_pos h4, if_pos h3, if_pos h4]
theorem sh_back {n : S50} (h : 0 ≤ partsS n) {r c : Int} (hr : -70000 ≤ r ∧ r ≤ 70000) (hc : -70000 ≤ c ∧ c ≤ 70000) (hk : (shN r c n).f0 = n.f0) : shN (-r) (-c) (shN r c n) = n := by
 rw [sh_two h (by omega) (by omega) (by omega) (by omega) hk, show r + -r = 0 by omega, show c + -c = 0 by omega, sh_zero n h]
theorem sh_kind (n : S50) (r c : Int) : (shN r c n).f0 = n.f0 ∨ ((n.f0 = 2 ∨ n.f0 = 3) ∧ (shN r c n).f0 = 1) := by
 unfold shN
 by_cases h2 : n.f0 = 2
 ·rw [if_pos h2]
  split
  ·exact Or.inl rfl
  ·exact Or.inr ⟨Or.inl h2, rfl⟩
 ·rw [if_neg h2]
  by_cases h3 : n.f0 = 3
  ·rw [if_pos h3]
   split
   ·exact Or.inl rfl
   ·exact Or.inr ⟨Or.inr h3, rfl⟩
  ·rw [if_neg h3]
   exact Or.inl rfl
theorem sh_fixed {n : S50} (h : 0 ≤ partsS n) (r c : Int) (h3 : n.f5.f3 = true) (h4 : n.f5.f4 = true) (h6 : n.f0 = 2 ∨ (n.f6.f3 = true ∧ n.f6.f4 = true)) (hk : n.f0 = 2 ∨ n.f0 = 3) : shN r c n = n := by
 have hg := good_of n h
 generalize partsS n = z at hg
 cases hg with
 | cell q hq => unfold shN; rw [if_pos (show (nCell q).f0 = 2 from rfl), show (nCell q).f5 = q from rfl, mv_fixed hq h3 h4]; rfl
 | area q s hq hs he =>
  rcases h6 with h6 | h6
  ·cases h6
  unfold shN; rw [if_neg (by show ¬ (3 : Int) = 2; decide), if_pos (show (nArea q s).f0 = 3 from rfl), show (nArea q s).f5 = q from rfl, show (nArea q s).f6 = s from rfl, mv_fixed hq h3 h4, mv_fixed hs h6.1 h6.2]; rfl
 | val => rcases hk with hk | hk <;> cases hk
 | un => rcases hk with hk | hk <;> cases hk
 | bin => rcases hk with hk | hk <;> cases hk
 | call => rcases hk with hk | hk <;> cases hk
def Inv (l n : List S50) (r c : Int) (i : Nat) (b d : Bool) : Prop := (b = false → ∀ j : Nat, j < i → shN (-r) (-c) (rd_T50 n (j : Int)) = rd_T50 l (j : Int)) ∧ (d = true → ∀ j : Nat, j < i → rd_T50 n (j : Int) = rd_T50 l (j : Int))
theorem Nbp {l n : List S50} {r c : Int} {i : Nat} {b d b2 d2 : Bool} (h : Inv l n r c i b d) (h1 : b2 = false → b = false ∧ shN (-r) (-c) (rd_T50 n (i : Int)) = rd_T50 l (i : Int)) (h2 : d2 = true → d = true ∧ rd_T50 n (i : Int) = rd_T50 l (i : Int)) : Inv l n r c (i + 1) b2 d2 := by
 constructor
 ·intro hb j hj
  rcases Nat.lt_succ_iff_lt_or_eq.1 hj with hj | rfl
  ·exact h.1 (h1 hb).1 j hj
  ·exact (h1 hb).2
 ·intro hd j hj
  rcases Nat.lt_succ_iff_lt_or_eq.1 hj with hj | rfl
  ·exact h.2 (h2 hd).1 j hj
  ·exact (h2 hd).2
def NF (r c : Int) (x y : S50) : Prop := ((x.f0 ≠ 2 ∧ x.f0 ≠ 3) → y = x) ∧ (y.f0 = 1 → x.f0 ≠ 1 → (x.f0 = 2 ∨ x.f0 = 3)) ∧ ((x.f0 = 2 ∨ x.f0 = 3) → y.f0 ≠ 1 → shN (-r) (-c) y = x) ∧ ((x.f0 ≠ 2 ∧ x.f0 ≠ 3) → shN (-r) (-c) y = x) ∧ ((x.f0 = 2 ∨ x.f0 = 3) → x.f5.f3 = true → x.f5.f4 = true → (x.f0 = 2 ∨ (x.f6.f3 = true ∧ x.f6.f4 = true)) → y = x)
theorem inv_node {l : List S50} {r c : Int} {i : Nat} (hi : i < l.length) (h : 0 ≤ partsS (rd_T50 l (i : Int))) (hr : -70000 ≤ r ∧ r ≤ 70000) (hc : -70000 ≤ c ∧ c ≤ 70000) {x y : S50} (hx : x = rd_T50 l (i : Int)) (hy : y = rd_T50 (l.map (shN r c)) (i : Int)) :
 NF r c x y := by
 rw [rd_map hi, ← hx] at hy
 rw [← hx] at h
 subst hy
 have hk := sh_kind x r c
 refine ⟨fun hn => ?_, fun h1 hn => ?_, fun hq hn => ?_, fun hn => ?_, fun hq h3 h4 h6 => sh_fixed h r c h3 h4 h6 hq⟩
 ·unfold shN; rw [if_neg hn.1, if_neg hn.2]
 ·rcases hk with hk | hk
  ·exact absurd (hk.symm.trans h1) hn
  ·exact hk.1
 ·rcases hk with hk | hk
  ·exact sh_back h hr hc hk
  ·exact absurd hk.2 hn
 ·rcases hk with hk | hk
  ·exact sh_back h hr hc hk
  ·rcases hk.1 with hk | hk
   ·exact absurd hk hn.1
   ·exact absurd hk hn.2
set_option maxRecDepth 100000 in
set_option maxHeartbeats 4000000 in
theorem there_calls (W : World) (s : ByteArray) (rows : Int) (hr : -9223372036854775808 ≤ rows ∧ rows ≤ 9223372036854775807) (cols : Int) (hc : -9223372036854775808 ≤ cols ∧ cols ≤ 9223372036854775807) (hG : GL W) :
 Calls Tryz.prog 15 #[.string s, .int .i64 rows, .int .i64 cols] W fun e w' => e = .returned (.bool true) ∧ Below W.heap.size W w' := by
 obtain ⟨l, e0, p0, hpf⟩ : ∃ l e p, Nbg.f s = some (l, e, p) := ⟨_, _, _, rfl⟩
 have hcs : (e0 = 0 ∧ chk l = 0) ∨ e0 ≠ 0 := by
  have := parse_cases s.data.toList
  unfold Nbg.f at hpf
  rw [Option.some.inj hpf] at this
  rcases this with h | h
  ·exact Or.inl ⟨h.1, h.2.2⟩
  ·exact Or.inr h.1
 have HG := lh hG
 have HP := lh (fun w hg => Nbg.calls s l e0 p0 w hg hpf)
 clear hG hpf hr hc
 rcases hcs with ⟨rfl, hk⟩ | hne
 ·obtain ⟨dd, hdd, -, hl⟩ := Ncn (l := l) (K := 600) (by rw [chk_f, hk])
  have HS0 := lh (show msh.f l 0 0 = some (l, 0) by unfold msh.f; rw [if_pos hk, sh_all hk])
  have HK := lh (⟨hk, hdd.good⟩ : chk l = 0 ∧ ∀ n ∈ l, 0 ≤ partsS n)
  have HL := lh hl
  have HSM := lh (fun A1 c1 A2 c2 w (l1 : List S50) (e : l1 = l) (h1 : Kd.C k50 w A1 l.length l1) (h2 : l.length ≤ c1) (h3 : Kd.C k50 w A2 l.length l) (h4 : l.length ≤ c2) => (show Calls Tryz.prog 40 #[.slice A1 l.length c1, .slice A2 l.length c2] w fun e w' => e = .returned (.bool true) ∧ Below w.heap.size w w' from by
   subst e
   exact law6_same_h.calls A1 c1 l1 A2 c2 l1 true w h1 h2 h3 h4 (by unfold law6_same_h.f; rw [if_pos (by omega), eqRows_iff.mpr rfl])))
  clear hk hdd hl
  go_enter Tryz.func15, Tryz.ntmps15
  go_upto_region 6 with (first
   | (go_at_call 39; (with_reducible refine (able6_g.calls true _ HG.out rfl).mono ?_); rintro en w1 ⟨rfl, hb⟩; have B1 := lh hb; clear hb)
   | (go_at_call 21; (with_reducible refine (HP.out _ (GL.below HG.out B1.out)).mono ?_); rintro en w2 ⟨v2, rfl, ho, hb⟩; have B2 := lh (below_step B1.out hb); obtain ⟨A2, c2, hv⟩ := Kd.R_slice ho; subst hv; have rd := Kd.R_reads' ho; have C2 := lh rd.2.2; have L2 := lh rd.2.1; clear hb ho rd HP B1 HG))
  go_upto_region 7 with (first
   | ((with_reducible refine gate_dst (N := 30) rfl ?_); refine litE 30 ?_; intro v3 w3 ho hb; have O3 := lh ho; have D3 := lh hb; clear ho hb)
   | ((with_reducible refine gate_builtin (b := .append) (xs := #[.tmp 30, .tmp 31]) rfl ?_); at_builtin; refine appE (.tmp 30) (.tmp 31) O3.out D3.out (Kd.C_below C2.out D3.out) HL.out ?_; intro vq w4 ho hb; obtain ⟨A4, c4, hv⟩ := Kd.R_slice ho; subst hv; have rd := Kd.R_reads' ho; have C4 := lh rd.2.2; have L4 := lh rd.2.1; have D4 := lh hb; clear ho hb rd O3 D3)
   | (go_at_call 37; (with_reducible refine (msh.calls A4 c4 l 0 0 l 0 _ C4.out L4.out HS0.out).mono ?_); rintro en w5 ⟨v5, rfl, ho, hb⟩; obtain ⟨A5, c5, hv⟩ := Kd.R_slice ho; subst hv; have rd := Kd.R_reads' ho; have C5 := lh rd.2.2; have L5 := lh rd.2.1; have D5 := lh (below_step D4.out hb); clear ho hb rd C4 L4 D4 HS0))
  go_upto_region 9 with ((go_at_call 40; (with_reducible refine (HSM.out A2 c2 A5 c5 _ l rfl (Kd.C_below C2.out D5.out) L2.out C5.out L5.out).mono ?_); rintro en w6 ⟨rfl, hb⟩; have D6 := lh (below_step D5.out hb); clear hb C5 L5 D5))
  have C6 := lh (Kd.C_below C2.out D6.out)
  have B6 := lh (below_step B2.out D6.out)
  clear C2 B2 D6
  by_cases h1 : rows < -70000
  ·have d1 : decide (rows < -70000) = true := decide_eq_true h1
   go_wp2_with (fail)
   go_ret
   exact ⟨rfl, B6.out⟩
  by_cases h2 : rows > 70000
  ·have d1 : decide (rows < -70000) = false := decide_eq_false h1
   have d2 : decide (rows > 70000) = true := decide_eq_true h2
   go_wp2_with (fail)
   go_ret
   exact ⟨rfl, B6.out⟩
  by_cases h3 : cols < -70000
  ·have d1 : decide (rows < -70000) = false := decide_eq_false h1
   have d2 : decide (rows > 70000) = false := decide_eq_false h2
   have d3 : decide (cols < -70000) = true := decide_eq_true h3
   go_wp2_with (fail)
   go_ret
   exact ⟨rfl, B6.out⟩
  by_cases h4 : cols > 70000
  ·have d1 : decide (rows < -70000) = false := decide_eq_false h1
   have d2 : decide (rows > 70000) = false := decide_eq_false h2
   have d3 : decide (cols < -70000) = false := decide_eq_false h3
   have d4 : decide (cols > 70000) = true := decide_eq_true h4
   go_wp2_with (fail)
   go_ret
   exact ⟨rfl, B6.out⟩
  have d1 : decide (rows < -70000) = false := decide_eq_false h1
  have d2 : decide (rows > 70000) = false := decide_eq_false h2
  have d3 : decide (cols < -70000) = false := decide_eq_false h3
  have d4 : decide (cols > 70000) = false := decide_eq_false h4
  go_upto_region 11 with (fail)
  have hr : -70000 ≤ rows ∧ rows ≤ 70000 := by omega
  have hc : -70000 ≤ cols ∧ cols ≤ 70000 := by omega
  clear d1 d2 d3 d4 h1 h2 h3 h4
  obtain ⟨n, hn⟩ : ∃ n, n = l.map (shN rows cols) := ⟨_, rfl⟩
  have hnl : n.length = l.length := by rw [hn, List.length_map]
  have hkn : chk n = 0 := by rw [hn]; exact chk_shift HK.out.1 (by omega) (by omega)
  obtain ⟨back, hbk⟩ : ∃ b, b = n.map (shN (-rows) (-cols)) := ⟨_, rfl⟩
  have hbl : back.length = l.length := by rw [hbk, List.length_map, hnl]
  have HS := lh (show msh.f l rows cols = some (n, 0) by unfold msh.f; rw [if_pos HK.out.1, hn])
  have HN := lh hnl
  have HBL := lh hbl
  have HCB := lh (fun A c w (hC : Kd.C k50 w A l.length n) (hle : l.length ≤ c) => (show Calls Tryz.prog 37 #[.slice A l.length c, .int .i64 (-rows), .int .i64 (-cols)] w fun e w' => ∃ v, e = .returned (.tuple #[v, .int .i64 0]) ∧ Kd.R k50 50 w' w.heap.size (fun _ => True) v back ∧ Below w.heap.size w w' from by
   rw [← hnl] at hC hle ⊢
   exact msh.calls A c n (-rows) (-cols) back 0 w hC hle (by unfold msh.f; rw [if_pos hkn, hbk])))
  have HX := lh (show ∀ i : Nat, i < l.length → ∀ x y, x = rd_T50 l (i : Int) → y = rd_T50 n (i : Int) → NF rows cols x y from fun i hi x y hx hy => inv_node hi (HK.out.2 _ (rd_mem hi)) hr hc hx (by rw [← hn]; exact hy))
  have HE1 := lh (show (∀ j : Nat, j < l.length → shN (-rows) (-cols) (rd_T50 n (j : Int)) = rd_T50 l (j : Int)) → back = l from fun h => rows_eq hbl fun j hj => by rw [hbk, rd_map (by omega)]; exact h j hj)
  have HE2 := lh (show (∀ j : Nat, j < l.length → rd_T50 n (j : Int) = rd_T50 l (j : Int)) → n = l from fun h => rows_eq hnl h)
  clear hn hnl hkn hbk hbl HK
  go_upto_region 12 with (first
   | ((with_reducible refine gate_dst (N := 59) rfl ?_); refine litE 59 ?_; intro v7 w7 ho hb; have O7 := lh ho; have D7 := lh hb; clear ho hb)
   | ((with_reducible refine gate_builtin (b := .append) (xs := #[.tmp 59, .tmp 60]) rfl ?_); at_builtin; refine appE (.tmp 59) (.tmp 60) O7.out D7.out (Kd.C_below C6.out D7.out) HL.out ?_; intro vq w8 ho hb; obtain ⟨A8, c8, hv⟩ := Kd.R_slice ho; subst hv; have rd := Kd.R_reads' ho; have C8 := lh rd.2.2; have L8 := lh rd.2.1; have D8 := lh hb; clear ho hb rd O7 D7)
   | (go_at_call 37; (with_reducible refine (msh.calls A8 c8 l rows cols n 0 _ C8.out L8.out HS.out).mono ?_); rintro en w9 ⟨v9, rfl, ho, hb⟩; obtain ⟨A9, c9, hv⟩ := Kd.R_slice ho; rw [HN.out] at hv; subst hv; have rd := Kd.R_reads' ho; have C9 := lh (show Kd.C k50 w9 A9 l.length n by have := rd.2.2; rw [HN.out] at this; exact this); have L9 := lh rd.2.1; have D9 := lh (below_step D8.out hb); clear ho hb rd C8 L8 D8 HS))
  have CL := lh (Kd.C_below C6.out D9.out)
  have BW := lh (below_step B6.out D9.out)
  clear C6 B6 D9
  go_wp2_with (fail)
  go_loopw [14, 15, 16] (fun v14 v15 v16 w' => ∃ (i : Nat) (b d : Bool), i ≤ l.length ∧ v14 = .bool b ∧ v15 = .bool d ∧ v16 = .int .i64 i ∧ Hid (Inv l n rows cols i b d) ∧ Hid (Below w9.heap.size w9 w')) (fun v14 v15 v16 _ => l.length - (intOf v16).toNat)
  case atStart => exact ⟨0, _, _, Nat.zero_le _, rfl, rfl, rfl, lh ⟨fun _ j hj => by omega, fun _ j hj => by omega⟩, lh (Below.refl _ _)⟩
  case round =>
   obtain ⟨i, b, d, hi, rfl, rfl, rfl, HV, HB⟩ := hrel
   by_cases hlt : i < l.length
   ·obtain ⟨ad1, q1, rfl, hq1, hk1, hx0⟩ := Kd.C_get (Kd.C_below CL.out HB.out) z50 (i : Int) (by omega) (by omega)
    obtain ⟨ad2, q2, rfl, hq2, hk2, hy0⟩ := Kd.C_get (Kd.C_below C9.out HB.out) z50 (i : Int) (by omega) (by omega)
    obtain rfl := k50_open hk1
    obtain rfl := k50_open hk2
    obtain ⟨x, hx⟩ : ∃ x_ : S50, x_ = rd_T50 l (i : Int) := ⟨_, rfl⟩
    obtain ⟨y, hy⟩ : ∃ x_ : S50, x_ = rd_T50 n (i : Int) := ⟨_, rfl⟩
    have EX := lh (show EL x (ad1.add (i * 20)) wr from fun j v hv => by rw [add_add]; exact hx0 j v (by rw [hx] at hv; exact hv))
    have EY := lh (show EL y (ad2.add (i * 20)) wr from fun j v hv => by rw [add_add]; exact hy0 j v (by rw [hy] at hv; exact hv))
    obtain ⟨hA, hB1, hC1, hD1, hE1⟩ := HX.out i hlt x y hx hy
    have HXX := lh hx
    have HYY := lh hy
    clear hx hy hk1 hk2 hx0 hy0 hq1 hq2 CL C9 HX HE1 HE2 HCB HSM HBL HN hB1
    have HI := lh (show i < l.length ∧ i ≤ 256 by have := HL.out; omega)
    have hw1 : wrap64 ((i : Int) + 1) = ((i + 1 : Nat) : Int) := by have := HI.out; unfold wrap64; omega
    have hu50 := Tryz.underlying50
    have f0 := el_0 EX.out
    have y0 := el_0 EY.out
    by_cases hq : x.f0 = 2
    ·have HBK := lh (show y.f0 ≠ 1 → shN (-rows) (-cols) (rd_T50 n (i : Int)) = rd_T50 l (i : Int) from fun h => by rw [← HYY.out, ← HXX.out]; exact hC1 (Or.inl hq) h)
     have HFX := lh (show x.f5.f3 = true → x.f5.f4 = true → (x.f0 = 2 ∨ (x.f6.f3 = true ∧ x.f6.f4 = true)) → rd_T50 n (i : Int) = rd_T50 l (i : Int) from fun h h' h6 => by rw [← HYY.out, ← HXX.out]; exact hE1 (Or.inl hq) h h' h6)
     rw [hq] at f0
     clear hA hC1 hD1 hE1 HXX HYY
     cases b with
     | true =>
      cases d with
      | false =>
       go_wp2_with (fail)
       rw [hw1]
       clear hw1 hlt hi
       go_roundw
       case rel => exact ⟨i + 1, _, _, by have := HI.out; omega, rfl, rfl, rfl, lh (Nbp HV.out (fun h => by cases h) (fun h => by cases h)), HB⟩
       case measure => simp only [intOf]; have := HI.out; omega
      | true =>
       cases h13 : x.f5.f3 with
       | false =>
        have e13 : wr.cell? ⟨(ad1.add (i * 20)).block, (ad1.add (i * 20)).off + 13, none⟩ = some (.bool false) := by rw [← h13]; exact el_f EX.out 13 (by omega) rfl
        go_wp2_with (fail)
        rw [hw1]
        clear hw1 hlt hi
        go_roundw
        case rel => exact ⟨i + 1, _, _, by have := HI.out; omega, rfl, rfl, rfl, lh (Nbp HV.out (fun h => by cases h) (fun h => by cases h)), HB⟩
        case measure => simp only [intOf]; have := HI.out; omega
       | true =>
        have e13 : wr.cell? ⟨(ad1.add (i * 20)).block, (ad1.add (i * 20)).off + 13, none⟩ = some (.bool true) := by rw [← h13]; exact el_f EX.out 13 (by omega) rfl
        cases h14 : x.f5.f4 with
        | false =>
         have e14 : wr.cell? ⟨(ad1.add (i * 20)).block, (ad1.add (i * 20)).off + 14, none⟩ = some (.bool false) := by rw [← h14]; exact el_f EX.out 14 (by omega) rfl
         go_wp2_with (fail)
         rw [hw1]
         clear hw1 hlt hi
         go_roundw
         case rel => exact ⟨i + 1, _, _, by have := HI.out; omega, rfl, rfl, rfl, lh (Nbp HV.out (fun h => by cases h) (fun h => by cases h)), HB⟩
         case measure => simp only [intOf]; have := HI.out; omega
        | true =>
         have e14 : wr.cell? ⟨(ad1.add (i * 20)).block, (ad1.add (i * 20)).off + 14, none⟩ = some (.bool true) := by rw [← h14]; exact el_f EX.out 14 (by omega) rfl
         go_wp2_with (fail)
         rw [hw1]
         clear hw1 hlt hi
         go_roundw
         case rel => exact ⟨i + 1, _, _, by have := HI.out; omega, rfl, rfl, rfl, lh (Nbp HV.out (fun h => by cases h) (fun _ => ⟨rfl, HFX.out h13 h14 (Or.inl hq)⟩)), HB⟩
         case measure => simp only [intOf]; have := HI.out; omega
     | false =>
      cases d with
      | false =>
       go_wp2_with (fail)
       rw [hw1]
       clear hw1 hlt hi
       go_roundw
       case rel => exact ⟨i + 1, _, _, by have := HI.out; omega, rfl, rfl, rfl, lh (Nbp HV.out (fun h => ⟨rfl, HBK.out (by simpa using h)⟩) (fun h => by cases h)), HB⟩
       case measure => simp only [intOf]; have := HI.out; omega
      | true =>
       cases h13 : x.f5.f3 with
       | false =>
        have e13 : wr.cell? ⟨(ad1.add (i * 20)).block, (ad1.add (i * 20)).off + 13, none⟩ = some (.bool false) := by rw [← h13]; exact el_f EX.out 13 (by omega) rfl
        go_wp2_with (fail)
        rw [hw1]
        clear hw1 hlt hi
        go_roundw
        case rel => exact ⟨i + 1, _, _, by have := HI.out; omega, rfl, rfl, rfl, lh (Nbp HV.out (fun h => ⟨rfl, HBK.out (by simpa using h)⟩) (fun h => by cases h)), HB⟩
        case measure => simp only [intOf]; have := HI.out; omega
       | true =>
        have e13 : wr.cell? ⟨(ad1.add (i * 20)).block, (ad1.add (i * 20)).off + 13, none⟩ = some (.bool true) := by rw [← h13]; exact el_f EX.out 13 (by omega) rfl
        cases h14 : x.f5.f4 with
        | false =>
         have e14 : wr.cell? ⟨(ad1.add (i * 20)).block, (ad1.add (i * 20)).off + 14, none⟩ = some (.bool false) := by rw [← h14]; exact el_f EX.out 14 (by omega) rfl
         go_wp2_with (fail)
         rw [hw1]
         clear hw1 hlt hi
         go_roundw
         case rel => exact ⟨i + 1, _, _, by have := HI.out; omega, rfl, rfl, rfl, lh (Nbp HV.out (fun h => ⟨rfl, HBK.out (by simpa using h)⟩) (fun h => by cases h)), HB⟩
         case measure => simp only [intOf]; have := HI.out; omega
        | true =>
         have e14 : wr.cell? ⟨(ad1.add (i * 20)).block, (ad1.add (i * 20)).off + 14, none⟩ = some (.bool true) := by rw [← h14]; exact el_f EX.out 14 (by omega) rfl
         go_wp2_with (fail)
         rw [hw1]
         clear hw1 hlt hi
         go_roundw
         case rel => exact ⟨i + 1, _, _, by have := HI.out; omega, rfl, rfl, rfl, lh (Nbp HV.out (fun h => ⟨rfl, HBK.out (by simpa using h)⟩) (fun _ => ⟨rfl, HFX.out h13 h14 (Or.inl hq)⟩)), HB⟩
         case measure => simp only [intOf]; have := HI.out; omega
    by_cases hq3 : x.f0 = 3
    ·have HBK := lh (show y.f0 ≠ 1 → shN (-rows) (-cols) (rd_T50 n (i : Int)) = rd_T50 l (i : Int) from fun h => by rw [← HYY.out, ← HXX.out]; exact hC1 (Or.inr hq3) h)
     have HFX := lh (show x.f5.f3 = true → x.f5.f4 = true → (x.f0 = 2 ∨ (x.f6.f3 = true ∧ x.f6.f4 = true)) → rd_T50 n (i : Int) = rd_T50 l (i : Int) from fun h h' h6 => by rw [← HYY.out, ← HXX.out]; exact hE1 (Or.inr hq3) h h' h6)
     rw [hq3] at f0
     clear hA hC1 hD1 hE1 HXX HYY hq
     cases b with
     | true =>
      cases d with
      | false =>
       go_wp2_with (fail)
       rw [hw1]
       clear hw1 hlt hi
       go_roundw
       case rel => exact ⟨i + 1, _, _, by have := HI.out; omega, rfl, rfl, rfl, lh (Nbp HV.out (fun h => by cases h) (fun h => by cases h)), HB⟩
       case measure => simp only [intOf]; have := HI.out; omega
      | true =>
       cases h13 : x.f5.f3 with
       | false =>
        have e13 : wr.cell? ⟨(ad1.add (i * 20)).block, (ad1.add (i * 20)).off + 13, none⟩ = some (.bool false) := by rw [← h13]; exact el_f EX.out 13 (by omega) rfl
        go_wp2_with (fail)
        rw [hw1]
        clear hw1 hlt hi
        go_roundw
        case rel => exact ⟨i + 1, _, _, by have := HI.out; omega, rfl, rfl, rfl, lh (Nbp HV.out (fun h => by cases h) (fun h => by cases h)), HB⟩
        case measure => simp only [intOf]; have := HI.out; omega
       | true =>
        have e13 : wr.cell? ⟨(ad1.add (i * 20)).block, (ad1.add (i * 20)).off + 13, none⟩ = some (.bool true) := by rw [← h13]; exact el_f EX.out 13 (by omega) rfl
        cases h14 : x.f5.f4 with
        | false =>
         have e14 : wr.cell? ⟨(ad1.add (i * 20)).block, (ad1.add (i * 20)).off + 14, none⟩ = some (.bool false) := by rw [← h14]; exact el_f EX.out 14 (by omega) rfl
         go_wp2_with (fail)
         rw [hw1]
         clear hw1 hlt hi
         go_roundw
         case rel => exact ⟨i + 1, _, _, by have := HI.out; omega, rfl, rfl, rfl, lh (Nbp HV.out (fun h => by cases h) (fun h => by cases h)), HB⟩
         case measure => simp only [intOf]; have := HI.out; omega
        | true =>
         have e14 : wr.cell? ⟨(ad1.add (i * 20)).block, (ad1.add (i * 20)).off + 14, none⟩ = some (.bool true) := by rw [← h14]; exact el_f EX.out 14 (by omega) rfl
         cases h18 : x.f6.f3 with
         | false =>
          have e18 : wr.cell? ⟨(ad1.add (i * 20)).block, (ad1.add (i * 20)).off + 18, none⟩ = some (.bool false) := by rw [← h18]; exact el_f EX.out 18 (by omega) rfl
          go_wp2_with (fail)
          rw [hw1]
          clear hw1 hlt hi
          go_roundw
          case rel => exact ⟨i + 1, _, _, by have := HI.out; omega, rfl, rfl, rfl, lh (Nbp HV.out (fun h => by cases h) (fun h => by cases h)), HB⟩
          case measure => simp only [intOf]; have := HI.out; omega
         | true =>
          have e18 : wr.cell? ⟨(ad1.add (i * 20)).block, (ad1.add (i * 20)).off + 18, none⟩ = some (.bool true) := by rw [← h18]; exact el_f EX.out 18 (by omega) rfl
          have e19 := el_f EX.out 19 (by omega) (v := .bool x.f6.f4) rfl
          go_wp2_with (fail)
          rw [hw1]
          clear hw1 hlt hi
          go_roundw
          case rel => exact ⟨i + 1, _, _, by have := HI.out; omega, rfl, rfl, rfl, lh (Nbp HV.out (fun h => by cases h) (fun h => ⟨rfl, HFX.out h13 h14 (Or.inr ⟨h18, h⟩)⟩)), HB⟩
          case measure => simp only [intOf]; have := HI.out; omega
     | false =>
      cases d with
      | false =>
       go_wp2_with (fail)
       rw [hw1]
       clear hw1 hlt hi
       go_roundw
       case rel => exact ⟨i + 1, _, _, by have := HI.out; omega, rfl, rfl, rfl, lh (Nbp HV.out (fun h => ⟨rfl, HBK.out (by simpa using h)⟩) (fun h => by cases h)), HB⟩
       case measure => simp only [intOf]; have := HI.out; omega
      | true =>
       cases h13 : x.f5.f3 with
       | false =>
        have e13 : wr.cell? ⟨(ad1.add (i * 20)).block, (ad1.add (i * 20)).off + 13, none⟩ = some (.bool false) := by rw [← h13]; exact el_f EX.out 13 (by omega) rfl
        go_wp2_with (fail)
        rw [hw1]
        clear hw1 hlt hi
        go_roundw
        case rel => exact ⟨i + 1, _, _, by have := HI.out; omega, rfl, rfl, rfl, lh (Nbp HV.out (fun h => ⟨rfl, HBK.out (by simpa using h)⟩) (fun h => by cases h)), HB⟩
        case measure => simp only [intOf]; have := HI.out; omega
       | true =>
        have e13 : wr.cell? ⟨(ad1.add (i * 20)).block, (ad1.add (i * 20)).off + 13, none⟩ = some (.bool true) := by rw [← h13]; exact el_f EX.out 13 (by omega) rfl
        cases h14 : x.f5.f4 with
        | false =>
         have e14 : wr.cell? ⟨(ad1.add (i * 20)).block, (ad1.add (i * 20)).off + 14, none⟩ = some (.bool false) := by rw [← h14]; exact el_f EX.out 14 (by omega) rfl
         go_wp2_with (fail)
         rw [hw1]
         clear hw1 hlt hi
         go_roundw
         case rel => exact ⟨i + 1, _, _, by have := HI.out; omega, rfl, rfl, rfl, lh (Nbp HV.out (fun h => ⟨rfl, HBK.out (by simpa using h)⟩) (fun h => by cases h)), HB⟩
         case measure => simp only [intOf]; have := HI.out; omega
        | true =>
         have e14 : wr.cell? ⟨(ad1.add (i * 20)).block, (ad1.add (i * 20)).off + 14, none⟩ = some (.bool true) := by rw [← h14]; exact el_f EX.out 14 (by omega) rfl
         cases h18 : x.f6.f3 with
         | false =>
          have e18 : wr.cell? ⟨(ad1.add (i * 20)).block, (ad1.add (i * 20)).off + 18, none⟩ = some (.bool false) := by rw [← h18]; exact el_f EX.out 18 (by omega) rfl
          go_wp2_with (fail)
          rw [hw1]
          clear hw1 hlt hi
          go_roundw
          case rel => exact ⟨i + 1, _, _, by have := HI.out; omega, rfl, rfl, rfl, lh (Nbp HV.out (fun h => ⟨rfl, HBK.out (by simpa using h)⟩) (fun h => by cases h)), HB⟩
          case measure => simp only [intOf]; have := HI.out; omega
         | true =>
          have e18 : wr.cell? ⟨(ad1.add (i * 20)).block, (ad1.add (i * 20)).off + 18, none⟩ = some (.bool true) := by rw [← h18]; exact el_f EX.out 18 (by omega) rfl
          have e19 := el_f EX.out 19 (by omega) (v := .bool x.f6.f4) rfl
          go_wp2_with (fail)
          rw [hw1]
          clear hw1 hlt hi
          go_roundw
          case rel => exact ⟨i + 1, _, _, by have := HI.out; omega, rfl, rfl, rfl, lh (Nbp HV.out (fun h => ⟨rfl, HBK.out (by simpa using h)⟩) (fun h => ⟨rfl, HFX.out h13 h14 (Or.inr ⟨h18, h⟩)⟩)), HB⟩
          case measure => simp only [intOf]; have := HI.out; omega
    obtain rfl := hA ⟨hq, hq3⟩
    have HBK := lh (show shN (-rows) (-cols) (rd_T50 n (i : Int)) = rd_T50 l (i : Int) by rw [← HYY.out, ← HXX.out]; exact hD1 ⟨hq, hq3⟩)
    have HFX := lh (show rd_T50 n (i : Int) = rd_T50 l (i : Int) by rw [← HYY.out, ← HXX.out])
    have b2 : (y.f0 != 2) = true := bne_iff_ne.mpr hq
    have b3 : (y.f0 != 3) = true := bne_iff_ne.mpr hq3
    clear hA hC1 hD1 hE1 HXX HYY hq hq3
    go_upto_region 20 with (fail)
    refine start_ (n := 9) (S := fun w' => Below wr.heap.size wr w') (ds := []) #[false, false, false, false, false, false, false, false, false] (by kernel_rfl) rfl rfl ((Below.refl _ _).drew) (fun hHeld => ?_)
    refine pP 0 96 ?_
    refine pP 1 97 ?_
    refine pP 2 98 ?_
    refine pP 4 100 ?_
    refine pP 5 101 ?_
    refine pP 6 102 ?_
    refine take_ (i := 3) (N := some 99) (v := ?_) (a' := ?_) #[true, true, true, true, true, true, true, false, false] rfl rfl (by kernel_rfl) (fun _ _ _ h => h) (Or.inl ⟨by rfl, ?_⟩) hHeld ?_ ?_
    rotate_left
    ·rintro w' s0
     refine Nbw (t := 50) (p := .tmp 98) (ad := ad2.add (i * 20)) (cs := cs50 y) ?_ ?_ (el_below EY.out s0) hu50 rfl ?_
     ·rfl
     ·rfl
     ·kernel_rfl
    rotate_left
    ·simp only [Act.put, List.setIfInBounds_toArray, List.set_cons_zero, List.set_cons_succ, i64_w, i32_w]
     rfl
    refine take_ (i := 7) (N := some 103) (v := ?_) (a' := ?_) #[true, true, true, true, true, true, true, true, false] rfl rfl (by kernel_rfl) (fun _ _ _ h => h) (Or.inl ⟨by rfl, ?_⟩) hHeld ?_ ?_
    rotate_left
    ·rintro w' s0
     refine Nbw (t := 50) (p := .tmp 102) (ad := ad1.add (i * 20)) (cs := cs50 y) ?_ ?_ (el_below EX.out s0) hu50 rfl ?_
     ·rfl
     ·rfl
     ·kernel_rfl
    rotate_left
    ·simp only [Act.put, List.setIfInBounds_toArray, List.set_cons_zero, List.set_cons_succ, i64_w, i32_w]
     rfl
    refine pure_ (i := 8) (N := some 104) (v := ?_) (a' := ?_) #[true, true, true, true, true, true, true, true, true] rfl rfl (by kernel_rfl) (fun _ _ _ h => h) (Or.inl ⟨by rfl, ?_⟩) ?_ ?_
    rotate_left
    ·intro w'
     refine neqG y y w' (p := .tmp 99) (q := .tmp 103) ?_ ?_ ?_
     ·rfl
     ·rfl
     ·rfl
    rotate_left
    ·simp only [Act.put, List.setIfInBounds_toArray, List.set_cons_zero, List.set_cons_succ, i64_w, i32_w]
     rfl
    refine done_ (by kernel_rfl) ?_
    clear hHeld
    have be : (!eqS y y) = false := by rw [eqS_iff.2 rfl]; rfl
    rw [be]
    go_wp2_with (fail)
    rw [hw1]
    clear hw1 hlt hi
    go_roundw
    case rel => exact ⟨i + 1, _, _, by have := HI.out; omega, rfl, rfl, rfl, lh (Nbp HV.out (fun h => ⟨h, HBK.out⟩) (fun h => ⟨h, HFX.out⟩)), lh (show Below w9.heap.size w9 wr.drew from HB.out.drew)⟩
    case measure => simp only [intOf]; have := HI.out; omega
   ·obtain rfl : i = l.length := by omega
    clear hi hlt HX
    have CN := lh (Kd.C_below C9.out HB.out)
    have CX := lh (Kd.C_below CL.out HB.out)
    have BX := lh (below_step BW.out HB.out)
    clear CL C9 BW HB
    go_upto_region 25 with (first
     | ((with_reducible refine gate_dst (N := 156) rfl ?_); refine litE 156 ?_; intro v10 w10 ho hb; have O10 := lh ho; have D10 := lh hb; clear ho hb)
     | ((with_reducible refine gate_builtin (b := .append) (xs := #[.tmp 156, .tmp 157]) rfl ?_); at_builtin; refine appE (.tmp 156) (.tmp 157) O10.out D10.out (Kd.C_below CN.out D10.out) HL.out ?_; intro vq w11 ho hb; obtain ⟨A11, c11, hv⟩ := Kd.R_slice ho; rw [HN.out] at hv; subst hv; have rd := Kd.R_reads' ho; have C11 := lh (show Kd.C k50 w11 A11 l.length n by have := rd.2.2; rw [HN.out] at this; exact this); have L11 := lh rd.2.1; have D11 := lh hb; clear ho hb rd O10 D10)
     | (go_at_call 37; (with_reducible refine (HCB.out A11 c11 _ C11.out L11.out).mono ?_); rintro en w12 ⟨v12, rfl, ho, hb⟩; obtain ⟨A12, c12, hv⟩ := Kd.R_slice ho; rw [HBL.out] at hv; subst hv; have rd := Kd.R_reads' ho; have C12 := lh (show Kd.C k50 w12 A12 l.length back by have := rd.2.2; rw [HBL.out] at this; exact this); have L12 := lh rd.2.1; have D12 := lh (below_step D11.out hb); clear ho hb rd C11 L11 D11 HCB))
    have C2 := lh (Kd.C_below CX.out D12.out)
    have C9 := lh (Kd.C_below CN.out D12.out)
    have B12 := lh (below_step BX.out D12.out)
    clear CX CN BX D12
    cases b with
    | true =>
     cases d with
     | true =>
      have HEQ := lh (HE2.out (HV.out.2 rfl))
      go_wp2_with ((go_at_call 40; (with_reducible refine (HSM.out A9 c9 A2 c2 _ n HEQ.out C9.out L9.out C2.out L2.out).mono ?_); rintro en w13 ⟨rfl, hb⟩; have B13 := lh (below_step B12.out hb); clear hb))
      go_ret
      exact ⟨rfl, B13.out⟩
     | false =>
      go_wp2_with (fail)
      go_ret
      exact ⟨rfl, B12.out⟩
    | false =>
     have HBQ := lh (HE1.out (HV.out.1 rfl))
     cases d with
     | true =>
      have HEQ := lh (HE2.out (HV.out.2 rfl))
      go_wp2_with (first
       | (go_at_call 40; (with_reducible refine (HSM.out A12 c12 A2 c2 _ back HBQ.out C12.out L12.out C2.out L2.out).mono ?_); rintro en w13 ⟨rfl, hb⟩; have B13 := lh (below_step B12.out hb); have C13 := lh (Kd.C_below C2.out hb); have C14 := lh (Kd.C_below C9.out hb); clear hb C2 C9 C12)
       | (go_at_call 40; (with_reducible refine (HSM.out A9 c9 A2 c2 _ n HEQ.out C14.out L9.out C13.out L2.out).mono ?_); rintro en w14 ⟨rfl, hb⟩; have B14 := lh (below_step B13.out hb); clear hb))
      go_ret
      exact ⟨rfl, B14.out⟩
     | false =>
      go_wp2_with ((go_at_call 40; (with_reducible refine (HSM.out A12 c12 A2 c2 _ back HBQ.out C12.out L12.out C2.out L2.out).mono ?_); rintro en w13 ⟨rfl, hb⟩; have B13 := lh (below_step B12.out hb); clear hb))
      go_ret
      exact ⟨rfl, B13.out⟩
 ·have b1 : (e0 != 0) = true := bne_iff_ne.mpr hne
  clear hne
  go_enter Tryz.func15, Tryz.ntmps15
  go_wp2_with (first
   | (go_at_call 39; (with_reducible refine (able6_g.calls true _ HG.out rfl).mono ?_); rintro en w1 ⟨rfl, hb⟩; have B1 := lh hb; clear hb)
   | (go_at_call 21; (with_reducible refine (HP.out _ (GL.below HG.out B1.out)).mono ?_); rintro en w2 ⟨v2, rfl, ho, hb⟩; have B2 := lh (below_step B1.out hb); obtain ⟨A2, c2, hv⟩ := Kd.R_slice ho; subst hv; clear hb ho HP B1))
  go_ret
  exact ⟨rfl, B2.out⟩
end Go.Proofs.YtejbbceidnaloaaGreatDoor.P
