import Derived.Test.YtejbbceidnaloaaGreatDoorF9
import Derived.Test.YtejbbceidnaloaaGreatDoorF33
set_option linter.unusedVariables false
set_option linter.unusedSimpArgs false
set_option maxRecDepth 100000
set_option maxHeartbeats 8000000
namespace Go.Proofs.YtejbbceidnaloaaGreatDoor.P
open Go.RowKit AW AL AM
theorem fresh_kids {s : ByteArray} {l : List S50} {e p : Int} (h : Nce.f s = some (l, e, p)) : ∃ ks, Na0.f 1000 l 0 = some ks ∧ ks.length ≤ 30 ∧ l.length ≤ 256 := by
 have hc := parse_cases s.data.toList
 unfold Nce.f at h
 rw [sI h] at hc
 rcases hc with ⟨_, _, hk⟩ | ⟨_, hl, _, _⟩
 ·obtain ⟨d, hd, hd2, hl⟩ := check_back (l := l) (K := 600) (by rw [chk_f]; exact congrArg some hk)
  obtain ⟨ks, e', h1, _, _, h4⟩ := kids_f hd hd2 hl (i := 0) hd.pos.1 (K := 1000) (Nat.le_refl _)
  exact ⟨ks, h1, h4, hl⟩
 ·obtain rfl : l = [] := hl
  exact ⟨[], by kernel_rfl, by decide, by decide⟩
theorem ints_selfF {ks : List Int} (hk : ks.length ≤ 30) : ∀ (m i K : Nat), i + m = ks.length → m + 1 ≤ K → Nau.l0 K ks ks (i : Int) = some true := by
 intro m
 induction m with
 | zero =>
  intro i K hi hK
  obtain ⟨K, rfl⟩ : ∃ K', K = K' + 1 := ⟨K - 1, by omega⟩
  rw [Nau.l0, if_neg (by omega)]
 | succ m ih =>
  intro i K hi hK
  obtain ⟨K, rfl⟩ : ∃ K', K = K' + 1 := ⟨K - 1, by omega⟩
  rw [Nau.l0, if_pos (by omega), if_pos (by omega), if_pos (by omega), if_pos rfl, wr1 (by omega) (by omega), show (i : Int) + 1 = ((i + 1 : Nat) : Int) by omega]
  exact ih (i + 1) K (by omega) (by omega)
theorem fA_zero {z : Int} {n : Nat} {f : Nat → Option Int} : ∀ j < n, ∀ x, fA z 0 j = some x → f j = some x := fun j _ x h => by unfold fA at h; rw [if_neg (by omega)] at h; cases h
theorem oneS {ops : Array Oper} {rest : List Oper} {o : Oper} {a : Act} {Q : Exit → Act → World → Prop} {W : World} (N : Tmp) (cs : Array Value) (t : TypeId) (h : ∀ g, g = W.heap.size → ∀ w1, w1.heap[g]? = some (.cells cs t (0, 0)) → Below W.heap.size W w1 → wpList Tryz.prog ops Q rest (a.put o.dst (.slice (some ⟨g, 0, none⟩) 1 1)) w1) (hd : o.dst = some N := by exact rfl) (hg : o.guard = none := by exact rfl)
 (hr : (execOp a.eval o).run Tryz.prog W = .ok (.value (.slice (some ⟨W.heap.size, 0, none⟩) 1 1)) (W.alloc (.cells cs t (0, 0))) := by go_simp <;> rfl) : wpList Tryz.prog ops Q (o :: rest) a W := by
 refine wpList_plain hg fun K hK => ?_
 unfold Oper.wp
 rw [hr]
 exact hK _ _ (h _ rfl _ (by simpa using heap_alloc_new W _) (Nae (Below.refl _ _) _))
theorem Nea {B : Nat} {W W1 w0 : World} {v : Value} (hb : Below B w0 W) (hg : W.grownBy W1 v.ownBlock) (hv : ∀ k, v.ownBlock = some k → B ≤ k) (hB : B ≤ W.heap.size) : Below B w0 W1 := hb.grown hg hB fun k hk => hv k hk
theorem fresh_calls (W : World) (s : ByteArray) (hG : GL W) : Calls Tryz.prog 9 #[.string s] W fun e w' => e = .returned (.bool true) ∧ Below W.heap.size W w' := by
 obtain ⟨l, e0, p0, hpf⟩ : ∃ l e p, Nce.f s = some (l, e, p) := ⟨_, _, _, rfl⟩
 obtain ⟨ks, hk, hk30, hl⟩ := fresh_kids hpf
 have HG := lh hG
 have HP := lh (fun w hg => Nce.calls s l e0 p0 w hg hpf)
 have HK := lh hk
 have HL := lh hl
 have HM := lh hk30
 have HSM := lh (fun A1 c1 A2 c2 w (h1 : Kd.C k50 w A1 l.length l) (h2 : l.length ≤ c1) (h3 : Kd.C k50 w A2 l.length l) (h4 : l.length ≤ c2) => Ndo.calls A1 c1 l A2 c2 l true w h1 h2 h3 h4 (by unfold Ndo.f; rw [if_pos (by omega), eqRows_iff.mpr rfl]))
 have HI := lh (show Nau.f 40 ks ks = some true by unfold Nau.f; rw [if_pos rfl]; exact ints_selfF hk30 ks.length 0 40 (by omega) (by omega))
 clear hG hpf hk hk30 hl
 go_enter Tryz.func9, Tryz.ntmps9
 go_upto_region 4 with (first
  | (go_at_call 23; (with_reducible refine (able5_g.calls true _ HG.out rfl).mono ?_); rintro en w1 ⟨rfl, hb⟩; have B1 := lh hb; have G1 := lh (GL.below HG.out hb); clear hb HG)
  | (go_at_call 21; (with_reducible refine (HP.out _ G1.out).mono ?_); rintro en w2 ⟨v2, rfl, ho, hb⟩; obtain ⟨A2, c2, hv⟩ := Kd.R_slice ho; subst hv; have O2 := lh (own50 ho B1.out.size); have rd := Kd.R_reads' ho; have C2 := lh rd.2.2; have L2 := lh rd.2.1; have B2 := lh (Nac B1.out hb); have G2 := lh (GL.below G1.out hb); clear hb ho rd B1 G1))
 go_upto_region 5 with ((go_at_call 21; (with_reducible refine (HP.out _ G2.out).mono ?_); rintro en w3 ⟨v3, rfl, ho, hb⟩; obtain ⟨A3, c3, hv⟩ := Kd.R_slice ho; subst hv; have N3 := lh (fun (k : Nat) (e2 : (Value.slice A2 l.length c2).ownBlock = some k) (e3 : (Value.slice A3 l.length c3).ownBlock = some k) => (by have h1 := O2.out.lt k e2; have h2 := (own50 ho (Nat.le_refl _)).ge k e3; omega : False)); have O3 := lh (own50 ho B2.out.size); have P2 := lh (O2.out.below hb); have rd := Kd.R_reads' ho; have C3 := lh rd.2.2; have L3 := lh rd.2.1; have D2 := lh (Kd.C_below C2.out hb); have B3 := lh (Nac B2.out hb); clear hb ho rd B2 G2 HP C2 O2))
 go_upto_region 6 with (first
  | ((with_reducible refine gD 38 rfl ?_); refine litE 38 ?_; intro v4 w4 ho hb; have O4 := lh ho; have D4 := lh hb; clear ho hb)
  | ((with_reducible refine Nbz (b := .append) (xs := #[.tmp 38, .tmp 39]) rfl ?_); at_builtin; refine appE (.tmp 38) (.tmp 39) O4.out D4.out (Kd.C_below D2.out D4.out) HL.out ?_; intro vq w5 ho hb; obtain ⟨A5, c5, hv⟩ := Kd.R_slice ho; subst hv; have rd := Kd.R_reads' ho; have C5 := lh rd.2.2; have L5 := lh rd.2.1; have D5 := lh hb; clear ho hb rd O4 D4)
  | (go_at_call 32; (with_reducible refine (Na0.calls 1000 A5 c5 l 0 ks _ C5.out L5.out HK.out).mono ?_); rintro en w6 ⟨v6, rfl, ho, hb⟩; obtain ⟨A6, c6, hv⟩ := Kd.R_slice ho; subst hv; have hB6 := Nac D5.out hb; have B6 := lh (Nac B3.out hB6); have O6 := lh (own3 ho (Nac B3.out D5.out).size); have Q2 := lh (P2.out.below hB6); have Q3 := lh (O3.out.below hB6); have E2 := lh (Kd.C_below D2.out hB6); have E3 := lh (Kd.C_below C3.out hB6); have rd := Kd.R_reads' ho; have C6 := lh rd.2.2; have L6 := lh rd.2.1; clear ho hb hB6 rd C5 L5 D5 P2 O3 D2 C3 B3))
 go_upto_region 7 with (first
  | ((with_reducible refine gD 42 rfl ?_); refine litE 42 ?_; intro v7 w7 ho hb; have O7 := lh ho; have D7 := lh hb; clear ho hb)
  | ((with_reducible refine Nbz (b := .append) (xs := #[.tmp 42, .tmp 43]) rfl ?_); at_builtin; refine appE (.tmp 42) (.tmp 43) O7.out D7.out (Kd.C_below E2.out D7.out) HL.out ?_; intro vq w8 ho hb; obtain ⟨A8, c8, hv⟩ := Kd.R_slice ho; subst hv; have rd := Kd.R_reads' ho; have C8 := lh rd.2.2; have L8 := lh rd.2.1; have D8 := lh hb; clear ho hb rd O7 D7)
  | (go_at_call 32; (with_reducible refine (Na0.calls 1000 A8 c8 l 0 ks _ C8.out L8.out HK.out).mono ?_); rintro en w9 ⟨v9, rfl, ho, hb⟩; obtain ⟨A9, c9, hv⟩ := Kd.R_slice ho; subst hv; have hB9 := Nac D8.out hb; have N9 := lh (fun (k : Nat) (e2 : (Value.slice A6 ks.length c6).ownBlock = some k) (e3 : (Value.slice A9 ks.length c9).ownBlock = some k) => (by have h1 := O6.out.lt k e2; have h2 := (own3 ho (Nat.le_refl _)).ge k e3; have h3 := D8.out.size; omega : False)); have B9 := lh (Nac B6.out hB9); have F9 := lh (F4.mk (Q2.out.below hB9) (Q3.out.below hB9) (O6.out.below hB9) (own3 ho (Nac B6.out D8.out).size) (fun k e e' => N3.out k e e') (fun k e e' => N9.out k e e')); have X2 := lh (Kd.C_below E2.out hB9); have X3 := lh (Kd.C_below E3.out hB9); have X6 := lh (Kd.C_below C6.out hB9); have rd := Kd.R_reads' ho; have X9 := lh rd.2.2; have L9 := lh rd.2.1; clear ho hb hB9 rd C8 L8 D8 Q2 Q3 E2 E3 O6 C6 B6 N3 N9 HK))
 go_upto_region 10 with (first
  | (go_at_call 24; (with_reducible refine (HSM.out A2 c2 A3 c3 _ X2.out L2.out X3.out L3.out).mono ?_); rintro en wa ⟨rfl, hb⟩; have Fa := lh (F4.mk (F9.out.p1.below hb) (F9.out.p2.below hb) (F9.out.p3.below hb) (F9.out.p4.below hb) F9.out.d1 F9.out.d2); have Ba := lh (Nac B9.out hb); have Y6 := lh (Kd.C_below X6.out hb); have Y9 := lh (Kd.C_below X9.out hb); clear hb F9 B9 X2 X3 L2 L3 X6 X9)
  | (go_at_call 33; (with_reducible refine (Nau.calls 40 A6 c6 ks A9 c9 ks true _ Y6.out L6.out Y9.out L9.out HI.out).mono ?_); rintro en wb ⟨rfl, hd⟩; have hb := hd.below; have Fb := lh (F4.mk (Fa.out.p1.below hb) (Fa.out.p2.below hb) (Fa.out.p3.below hb) (Fa.out.p4.below hb) Fa.out.d1 Fa.out.d2); have Bb := lh (Nac Ba.out hb); clear hb hd Fa Ba Y6 Y9 L6 L9))
 clear HSM HI
 have hn := HL.out
 have hm := HM.out
 go_wp2_with (fail)
 go_loopw [12] (fun v w' => ∃ i : Nat, i ≤ l.length ∧ v = .int .i64 i ∧ Hid (F4 W.heap.size w' l.length ks.length (.slice A2 l.length c2) (.slice A3 l.length c3) (.slice A6 ks.length c6) (.slice A9 ks.length c9) (fA 1000 i) (fun _ => none) (fun _ => none) (fun _ => none)) ∧ Hid (Below W.heap.size W w')) (fun v _ => l.length - (intOf v).toNat)
 case atStart => exact ⟨0, Nat.zero_le _, rfl, lh ⟨Fb.out.p1.mono fA_zero, Fb.out.p2, Fb.out.p3, Fb.out.p4, Fb.out.d1, Fb.out.d2⟩, Bb⟩
 case round =>
 obtain ⟨i, hi, rfl, HF0, HB0⟩ := hrel
 by_cases hlt : i < l.length
 case pos =>
  obtain ⟨g, c, hv, hc⟩ := HF0.out.p1.slice (by omega)
  cases hv
  have hw1 : wrap64 ((i : Int) + 1) = ((i + 1 : Nat) : Int) := by unfold wrap64; omega
  go_wp2_with ((with_reducible refine gate_ (.store 50 (.tmp 68) (.tmp 67)) rfl ?_); refine stO HF0.out.p1 50 (.tmp 68) (.tmp 67) i (.agg #[.int .i64 0, .int .i64 0, .int .i64 0, .int .i64 0, .string ⟨#[]⟩, .bool false, .int .i64 0, .int .i64 0, .string ⟨#[]⟩, .int .i64 (1000 + (i : Int)), .string ⟨#[]⟩, .int .i64 0, .int .i64 0, .bool false, .bool false, .string ⟨#[]⟩, .int .i64 0, .int .i64 0, .bool false, .bool false]) (1000 + (i : Int)) hlt rfl rfl ?_ rfl; intro wz ho hp; have HZ := lh (HF0.out.wl rfl (ho.mono fun j _ => fA_step j) hp); have HY := lh (hp.below W (HF0.out.p1.ge g rfl) HB0.out); clear ho hp)
  (try rw [hw1])
  clear hw1
  go_roundw
  case rel => exact ⟨i + 1, by omega, rfl, HZ, HY⟩
  case measure => simp only [intOf]; omega
 obtain rfl : i = l.length := by omega
 clear hlt hi
 go_wp2_with (fail)
 go_loopw [13] (fun v w' => ∃ i : Nat, i ≤ l.length ∧ v = .int .i64 i ∧ Hid (F4 W.heap.size w' l.length ks.length (.slice A2 l.length c2) (.slice A3 l.length c3) (.slice A6 ks.length c6) (.slice A9 ks.length c9) (fA 1000 l.length) (fA 2000 i) (fun _ => none) (fun _ => none)) ∧ Hid (Below W.heap.size W w')) (fun v _ => l.length - (intOf v).toNat)
 case atStart => exact ⟨0, Nat.zero_le _, rfl, lh ⟨HF0.out.p1, HF0.out.p2.mono fA_zero, HF0.out.p3, HF0.out.p4, HF0.out.d1, HF0.out.d2⟩, HB0⟩
 case round =>
 obtain ⟨i, hi, rfl, HF1, HB1⟩ := hrel
 by_cases hlt : i < l.length
 case pos =>
  obtain ⟨g, c, hv, hc⟩ := HF1.out.p2.slice (by omega)
  cases hv
  have hw1 : wrap64 ((i : Int) + 1) = ((i + 1 : Nat) : Int) := by unfold wrap64; omega
  go_wp2_with ((with_reducible refine gate_ (.store 50 (.tmp 79) (.tmp 78)) rfl ?_); refine stO HF1.out.p2 50 (.tmp 79) (.tmp 78) i (.agg #[.int .i64 0, .int .i64 0, .int .i64 0, .int .i64 0, .string ⟨#[]⟩, .bool false, .int .i64 0, .int .i64 0, .string ⟨#[]⟩, .int .i64 (2000 + (i : Int)), .string ⟨#[]⟩, .int .i64 0, .int .i64 0, .bool false, .bool false, .string ⟨#[]⟩, .int .i64 0, .int .i64 0, .bool false, .bool false]) (2000 + (i : Int)) hlt rfl rfl ?_ rfl; intro wz ho hp; have HZ := lh (HF1.out.wm rfl (ho.mono fun j _ => fA_step j) hp); have HY := lh (hp.below W (HF1.out.p2.ge g rfl) HB1.out); clear ho hp)
  (try rw [hw1])
  clear hw1
  go_roundw
  case rel => exact ⟨i + 1, by omega, rfl, HZ, HY⟩
  case measure => simp only [intOf]; omega
 obtain rfl : i = l.length := by omega
 clear hlt hi
 go_wp2_with (fail)
 go_loopw [14] (fun v w' => ∃ i : Nat, i ≤ ks.length ∧ v = .int .i64 i ∧ Hid (F4 W.heap.size w' l.length ks.length (.slice A2 l.length c2) (.slice A3 l.length c3) (.slice A6 ks.length c6) (.slice A9 ks.length c9) (fA 1000 l.length) (fA 2000 l.length) (fA 5000 i) (fun _ => none)) ∧ Hid (Below W.heap.size W w')) (fun v _ => ks.length - (intOf v).toNat)
 case atStart => exact ⟨0, Nat.zero_le _, rfl, lh ⟨HF1.out.p1, HF1.out.p2, HF1.out.p3.mono fA_zero, HF1.out.p4, HF1.out.d1, HF1.out.d2⟩, HB1⟩
 case round =>
 obtain ⟨i, hi, rfl, HF2, HB2⟩ := hrel
 by_cases hlt : i < ks.length
 case pos =>
  obtain ⟨g, c, hv, hc⟩ := HF2.out.p3.slice (by omega)
  cases hv
  have hw1 : wrap64 ((i : Int) + 1) = ((i + 1 : Nat) : Int) := by unfold wrap64; omega
  go_wp2_with ((with_reducible refine gate_ (.store 3 (.tmp 90) (.tmp 89)) rfl ?_); refine stO HF2.out.p3 3 (.tmp 90) (.tmp 89) i (.int .i64 (5000 + (i : Int))) (5000 + (i : Int)) hlt rfl rfl ?_ (by rw [Nat.mul_one]; rfl); intro wz ho hp; have HZ := lh (HF2.out.wx rfl (ho.mono fun j _ => fA_step j) hp); have HY := lh (hp.below W (HF2.out.p3.ge g rfl) HB2.out); clear ho hp)
  (try rw [hw1])
  clear hw1
  go_roundw
  case rel => exact ⟨i + 1, by omega, rfl, HZ, HY⟩
  case measure => simp only [intOf]; omega
 obtain rfl : i = ks.length := by omega
 clear hlt hi
 go_wp2_with (fail)
 go_loopw [15] (fun v w' => ∃ i : Nat, i ≤ ks.length ∧ v = .int .i64 i ∧ Hid (F4 W.heap.size w' l.length ks.length (.slice A2 l.length c2) (.slice A3 l.length c3) (.slice A6 ks.length c6) (.slice A9 ks.length c9) (fA 1000 l.length) (fA 2000 l.length) (fA 5000 ks.length) (fA 6000 i)) ∧ Hid (Below W.heap.size W w')) (fun v _ => ks.length - (intOf v).toNat)
 case atStart => exact ⟨0, Nat.zero_le _, rfl, lh ⟨HF2.out.p1, HF2.out.p2, HF2.out.p3, HF2.out.p4.mono fA_zero, HF2.out.d1, HF2.out.d2⟩, HB2⟩
 case round =>
 obtain ⟨i, hi, rfl, HF3, HB3⟩ := hrel
 by_cases hlt : i < ks.length
 case pos =>
  obtain ⟨g, c, hv, hc⟩ := HF3.out.p4.slice (by omega)
  cases hv
  have hw1 : wrap64 ((i : Int) + 1) = ((i + 1 : Nat) : Int) := by unfold wrap64; omega
  go_wp2_with ((with_reducible refine gate_ (.store 3 (.tmp 101) (.tmp 100)) rfl ?_); refine stO HF3.out.p4 3 (.tmp 101) (.tmp 100) i (.int .i64 (6000 + (i : Int))) (6000 + (i : Int)) hlt rfl rfl ?_ (by rw [Nat.mul_one]; rfl); intro wz ho hp; have HZ := lh (HF3.out.wy rfl (ho.mono fun j _ => fA_step j) hp); have HY := lh (hp.below W (HF3.out.p4.ge g rfl) HB3.out); clear ho hp)
  (try rw [hw1])
  clear hw1
  go_roundw
  case rel => exact ⟨i + 1, by omega, rfl, HZ, HY⟩
  case measure => simp only [intOf]; omega
 obtain rfl : i = ks.length := by omega
 clear hlt hi
 go_wp2_with (fail)
 go_loopw [16, 18, 20] (fun v16 v18 v w' => ∃ i : Nat, i ≤ 40 ∧ v = .int .i64 i ∧ Hid (F8 W.heap.size w' l.length ks.length (.slice A2 l.length c2) (.slice A3 l.length c3) (.slice A6 ks.length c6) (.slice A9 ks.length c9) v16 (.slice A3 l.length c3) v18 (.slice A9 ks.length c9) i 0 i 0) ∧ Hid (Below W.heap.size W w')) (fun _ _ v _ => 40 - (intOf v).toNat)
 case atStart => exact ⟨0, Nat.zero_le _, rfl, lh HF3.out.grow, HB3⟩
 case round =>
 obtain ⟨i, hi, rfl, HF4, HB4⟩ := hrel
 by_cases hlt : i < 40
 case pos =>
  have hw1 : wrap64 ((i : Int) + 1) = ((i + 1 : Nat) : Int) := by unfold wrap64; omega
  go_wp2_with (first | ((with_reducible refine gD 112 rfl ?_); refine oneS 112 #[.int .i64 0, .int .i64 0, .int .i64 0, .int .i64 0, .string ⟨#[]⟩, .bool false, .int .i64 0, .int .i64 0, .string ⟨#[]⟩, .int .i64 (-1), .string ⟨#[]⟩, .int .i64 0, .int .i64 0, .bool false, .bool false, .string ⟨#[]⟩, .int .i64 0, .int .i64 0, .bool false, .bool false] 50 ?_; intro g hg wz hx hb; have X112 := lh hx; have FA := lh (HF4.out.below hb); have BA := lh (Nac HB4.out hb); clear hx hb hg) | ((with_reducible refine Nbz (b := .append) (xs := #[.tmp 110, .tmp 112]) rfl ?_); at_builtin; refine apO FA.out.p5 (.tmp 110) (.tmp 112) 22 (.agg #[.int .i64 0, .int .i64 0, .int .i64 0, .int .i64 0, .string ⟨#[]⟩, .bool false, .int .i64 0, .int .i64 0, .string ⟨#[]⟩, .int .i64 (0), .string ⟨#[]⟩, .int .i64 0, .int .i64 0, .bool false, .bool false, .string ⟨#[]⟩, .int .i64 0, .int .i64 0, .bool false, .bool false]) 176 (news := [.int .i64 0, .int .i64 0, .int .i64 0, .int .i64 0, .string ⟨#[]⟩, .bool false, .int .i64 0, .int .i64 0, .string ⟨#[]⟩, .int .i64 (-1), .string ⟨#[]⟩, .int .i64 0, .int .i64 0, .bool false, .bool false, .string ⟨#[]⟩, .int .i64 0, .int .i64 0, .bool false, .bool false]) (z := -1) rfl rfl X112.out rfl Tryz.underlying22 info50 rfl (by decide) (by omega) BA.out.size ?_; intro va wy ho hg hat hk; have FB := lh (FA.out.ag ho hat hk); have BB := lh (Nea BA.out hg (fun k e => FA.out.p5.ge k e) BA.out.size); clear ho hg hat hk) | ((with_reducible refine gD 115 rfl ?_); refine oneS 115 #[.int .i64 (-1)] 3 ?_; intro g hg wz hx hb; have X115 := lh hx; have FC := lh (FB.out.below hb); have BC := lh (Nac BB.out hb); clear hx hb hg) | ((with_reducible refine Nbz (b := .append) (xs := #[.tmp 114, .tmp 115]) rfl ?_); at_builtin; refine apO FC.out.p7 (.tmp 114) (.tmp 115) 37 (.int .i64 0) 8 (news := [.int .i64 (-1)]) (z := -1) rfl rfl X115.out rfl Tryz.underlying37 info3 rfl (by decide) (by omega) BC.out.size ?_; intro va wy ho hg hat hk; have FD := lh (FC.out.au ho hat hk); have BD := lh (Nea BC.out hg (fun k e => FC.out.p7.ge k e) BC.out.size); clear ho hg hat hk))
  (try rw [hw1])
  clear hw1
  go_roundw
  case rel => exact ⟨i + 1, by omega, rfl, FD, BD⟩
  case measure => simp only [intOf]; omega
 obtain rfl : i = 40 := by omega
 rw [show ((40 : Nat) : Int) = 40 from rfl]
 clear hlt hi
 go_wp2_with (fail)
 go_loopw [17, 19, 21] (fun v17 v19 v w' => ∃ i : Nat, i ≤ 40 ∧ v = .int .i64 i ∧ Hid (F8 W.heap.size w' l.length ks.length (.slice A2 l.length c2) (.slice A3 l.length c3) (.slice A6 ks.length c6) (.slice A9 ks.length c9) u16 v17 u18 v19 40 i 40 i) ∧ Hid (Below W.heap.size W w')) (fun _ _ v _ => 40 - (intOf v).toNat)
 case atStart => exact ⟨0, Nat.zero_le _, rfl, HF4, HB4⟩
 case round =>
 obtain ⟨i, hi, rfl, HF5, HB5⟩ := hrel
 by_cases hlt : i < 40
 case pos =>
  have hw1 : wrap64 ((i : Int) + 1) = ((i + 1 : Nat) : Int) := by unfold wrap64; omega
  go_wp2_with (first | ((with_reducible refine gD 123 rfl ?_); refine oneS 123 #[.int .i64 0, .int .i64 0, .int .i64 0, .int .i64 0, .string ⟨#[]⟩, .bool false, .int .i64 0, .int .i64 0, .string ⟨#[]⟩, .int .i64 (-2), .string ⟨#[]⟩, .int .i64 0, .int .i64 0, .bool false, .bool false, .string ⟨#[]⟩, .int .i64 0, .int .i64 0, .bool false, .bool false] 50 ?_; intro g hg wz hx hb; have X123 := lh hx; have FA := lh (HF5.out.below hb); have BA := lh (Nac HB5.out hb); clear hx hb hg) | ((with_reducible refine Nbz (b := .append) (xs := #[.tmp 121, .tmp 123]) rfl ?_); at_builtin; refine apO FA.out.p6 (.tmp 121) (.tmp 123) 22 (.agg #[.int .i64 0, .int .i64 0, .int .i64 0, .int .i64 0, .string ⟨#[]⟩, .bool false, .int .i64 0, .int .i64 0, .string ⟨#[]⟩, .int .i64 (0), .string ⟨#[]⟩, .int .i64 0, .int .i64 0, .bool false, .bool false, .string ⟨#[]⟩, .int .i64 0, .int .i64 0, .bool false, .bool false]) 176 (news := [.int .i64 0, .int .i64 0, .int .i64 0, .int .i64 0, .string ⟨#[]⟩, .bool false, .int .i64 0, .int .i64 0, .string ⟨#[]⟩, .int .i64 (-2), .string ⟨#[]⟩, .int .i64 0, .int .i64 0, .bool false, .bool false, .string ⟨#[]⟩, .int .i64 0, .int .i64 0, .bool false, .bool false]) (z := -2) rfl rfl X123.out rfl Tryz.underlying22 info50 rfl (by decide) (by omega) BA.out.size ?_; intro va wy ho hg hat hk; have FB := lh (FA.out.ah ho hat hk); have BB := lh (Nea BA.out hg (fun k e => FA.out.p6.ge k e) BA.out.size); clear ho hg hat hk) | ((with_reducible refine gD 126 rfl ?_); refine oneS 126 #[.int .i64 (-2)] 3 ?_; intro g hg wz hx hb; have X126 := lh hx; have FC := lh (FB.out.below hb); have BC := lh (Nac BB.out hb); clear hx hb hg) | ((with_reducible refine Nbz (b := .append) (xs := #[.tmp 125, .tmp 126]) rfl ?_); at_builtin; refine apO FC.out.p8 (.tmp 125) (.tmp 126) 37 (.int .i64 0) 8 (news := [.int .i64 (-2)]) (z := -2) rfl rfl X126.out rfl Tryz.underlying37 info3 rfl (by decide) (by omega) BC.out.size ?_; intro va wy ho hg hat hk; have FD := lh (FC.out.aw ho hat hk); have BD := lh (Nea BC.out hg (fun k e => FC.out.p8.ge k e) BC.out.size); clear ho hg hat hk))
  (try rw [hw1])
  clear hw1
  go_roundw
  case rel => exact ⟨i + 1, by omega, rfl, FD, BD⟩
  case measure => simp only [intOf]; omega
 obtain rfl : i = 40 := by omega
 rw [show ((40 : Nat) : Int) = 40 from rfl]
 clear hlt hi
 obtain ⟨g16, d16, hv, -⟩ := HF5.out.p5.slice (by omega)
 subst hv
 obtain ⟨g17, d17, hv, -⟩ := HF5.out.p6.slice (by omega)
 subst hv
 obtain ⟨g18, d18, hv, -⟩ := HF5.out.p7.slice (by omega)
 subst hv
 obtain ⟨g19, d19, hv, -⟩ := HF5.out.p8.slice (by omega)
 subst hv
 go_wp2_with (fail)
 go_loopw [22] (fun v w' => ∃ i : Nat, i ≤ l.length + 40 ∧ v = .int .i64 i ∧ Hid (F8 W.heap.size w' l.length ks.length (.slice A2 l.length c2) (.slice A3 l.length c3) (.slice A6 ks.length c6) (.slice A9 ks.length c9) (.slice (some ⟨g16, 0, none⟩) (l.length + 40) d16) (.slice (some ⟨g17, 0, none⟩) (l.length + 40) d17) (.slice (some ⟨g18, 0, none⟩) (ks.length + 40) d18) (.slice (some ⟨g19, 0, none⟩) (ks.length + 40) d19) 40 40 40 40) ∧ Hid (Below W.heap.size W w')) (fun v _ => l.length + 40 - (intOf v).toNat)
 case atStart => exact ⟨0, Nat.zero_le _, rfl, HF5, HB5⟩
 case round =>
 obtain ⟨i, hi, rfl, HF6, HB6⟩ := hrel
 by_cases hlt : i < l.length + 40
 case pos =>
  have hw1 : wrap64 ((i : Int) + 1) = ((i + 1 : Nat) : Int) := by unfold wrap64; omega
  by_cases hb : i < l.length
  ·obtain ⟨_, _, hv, y1⟩ := HF6.out.p1.cell i (1000 + (i : Int)) (by omega) (by unfold fA; rw [if_pos hb]) (by decide)
   cases hv
   obtain ⟨_, _, hv, y2⟩ := HF6.out.p5.cell i (1000 + (i : Int)) (by omega) (by unfold fB; rw [if_pos hb]) (by decide)
   cases hv
   obtain ⟨_, _, hv, y3⟩ := HF6.out.p2.cell i (2000 + (i : Int)) (by omega) (by unfold fA; rw [if_pos hb]) (by decide)
   cases hv
   obtain ⟨_, _, hv, y4⟩ := HF6.out.p6.cell i (2000 + (i : Int)) (by omega) (by unfold fB; rw [if_pos hb]) (by decide)
   cases hv
   go_wp2_with (fail)
   (try rw [hw1])
   clear hw1
   go_roundw
   case rel => exact ⟨i + 1, by omega, rfl, HF6, HB6⟩
   case measure => simp only [intOf]; omega
  ·obtain ⟨_, _, hv, y2⟩ := HF6.out.p5.cell i (-1) (by omega) (by unfold fB; rw [if_neg hb]) (by decide)
   cases hv
   obtain ⟨_, _, hv, y4⟩ := HF6.out.p6.cell i (-2) (by omega) (by unfold fB; rw [if_neg hb]) (by decide)
   cases hv
   go_wp2_with (fail)
   (try rw [hw1])
   clear hw1
   go_roundw
   case rel => exact ⟨i + 1, by omega, rfl, HF6, HB6⟩
   case measure => simp only [intOf]; omega
 clear hi
 go_wp2_with (fail)
 go_loopw [23] (fun v w' => ∃ i : Nat, i ≤ ks.length + 40 ∧ v = .int .i64 i ∧ Hid (F8 W.heap.size w' l.length ks.length (.slice A2 l.length c2) (.slice A3 l.length c3) (.slice A6 ks.length c6) (.slice A9 ks.length c9) (.slice (some ⟨g16, 0, none⟩) (l.length + 40) d16) (.slice (some ⟨g17, 0, none⟩) (l.length + 40) d17) (.slice (some ⟨g18, 0, none⟩) (ks.length + 40) d18) (.slice (some ⟨g19, 0, none⟩) (ks.length + 40) d19) 40 40 40 40) ∧ Hid (Below W.heap.size W w')) (fun v _ => ks.length + 40 - (intOf v).toNat)
 case atStart => exact ⟨0, Nat.zero_le _, rfl, HF6, HB6⟩
 case round =>
 obtain ⟨i, hi, rfl, HF7, HB7⟩ := hrel
 by_cases hlt : i < ks.length + 40
 case pos =>
  have hw1 : wrap64 ((i : Int) + 1) = ((i + 1 : Nat) : Int) := by unfold wrap64; omega
  by_cases hb : i < ks.length
  ·obtain ⟨_, _, hv, y1⟩ := HF7.out.p3.cell i (5000 + (i : Int)) (by omega) (by unfold fA; rw [if_pos hb]) (by decide)
   rw [Nat.mul_one, Nat.add_zero] at y1
   cases hv
   obtain ⟨_, _, hv, y2⟩ := HF7.out.p7.cell i (5000 + (i : Int)) (by omega) (by unfold fB; rw [if_pos hb]) (by decide)
   rw [Nat.mul_one, Nat.add_zero] at y2
   cases hv
   obtain ⟨_, _, hv, y3⟩ := HF7.out.p4.cell i (6000 + (i : Int)) (by omega) (by unfold fA; rw [if_pos hb]) (by decide)
   rw [Nat.mul_one, Nat.add_zero] at y3
   cases hv
   obtain ⟨_, _, hv, y4⟩ := HF7.out.p8.cell i (6000 + (i : Int)) (by omega) (by unfold fB; rw [if_pos hb]) (by decide)
   rw [Nat.mul_one, Nat.add_zero] at y4
   cases hv
   go_wp2_with (fail)
   (try rw [hw1])
   clear hw1
   go_roundw
   case rel => exact ⟨i + 1, by omega, rfl, HF7, HB7⟩
   case measure => simp only [intOf]; omega
  ·obtain ⟨_, _, hv, y2⟩ := HF7.out.p7.cell i (-1) (by omega) (by unfold fB; rw [if_neg hb]) (by decide)
   rw [Nat.mul_one, Nat.add_zero] at y2
   cases hv
   obtain ⟨_, _, hv, y4⟩ := HF7.out.p8.cell i (-2) (by omega) (by unfold fB; rw [if_neg hb]) (by decide)
   rw [Nat.mul_one, Nat.add_zero] at y4
   cases hv
   go_wp2_with (fail)
   (try rw [hw1])
   clear hw1
   go_roundw
   case rel => exact ⟨i + 1, by omega, rfl, HF7, HB7⟩
   case measure => simp only [intOf]; omega
 clear hi
 go_wp2_with (fail)
 go_ret
 exact ⟨rfl, HB7.out⟩
end Go.Proofs.YtejbbceidnaloaaGreatDoor.P
