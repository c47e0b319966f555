import Derived.Test.YtejbbceidnaloaaGreatDoorV37
set_option linter.unusedVariables false
set_option linter.unusedSimpArgs false
set_option maxRecDepth 100000
set_option maxHeartbeats 8000000
namespace Go.Proofs.YtejbbceidnaloaaGreatDoor.P
open Go.RowKit AW AL AM
theorem make_event {P : Program} {ops : Array Oper} {rest : List Oper} {o : Oper} {a : Act} {Q : Exit → Act → World → Prop} {W : World} (hgd : o.guard = none) {t e : TypeId} {x y : Operand} (ho : o.op = .makeSlice t x y) (ht : P.underlying t = some (.slice e)) {z : Value} {sz by_ : Nat} (hinfo : (P.info? e).map (fun i => (i.zero, i.size, i.bytes)) = some (some z, sz, by_)) {n : Nat}
    (hx : a.eval x = .int .i64 n) (hy : a.eval y = .int .i64 n) (hb : by_ * n ≤ 281474976710656) (hn : n ≤ 1000000)
    (h : ∀ w1 cur, cur.size = n * sz → w1.heap[W.heap.size]? = some (.cells cur e (0, 0)) → Below W.heap.size W w1 → wpList P ops Q rest (a.put o.dst (.slice (some ⟨W.heap.size, 0, none⟩) n n)) w1) : wpList P ops Q (o :: rest) a W := by
  obtain ⟨i0, hi, hzz⟩ := Option.map_eq_some_iff.1 hinfo
  simp only [Prod.mk.injEq] at hzz
  obtain ⟨hz, hs, hb1⟩ := hzz
  have hb3 : (i0.bytes : Int) * (n : Int) ≤ 281474976710656 := by
    rw [hb1, ← Int.natCast_mul]
    omega
  have hr := run_make (P := P) W t e i0 z ht hi hz .i64 .i64 (n : Int) (n : Int) (by omega) (by omega) hb3 (by omega)
  rw [Int.toNat_natCast] at hr
  refine wpList_plain hgd fun K hK => ?_
  unfold Oper.wp execOp
  simp only [ho, hx, hy, Sem.run_bind, Sem.run_pure, Result.andThen_ok, hr]
  exact hK _ _ (h _ _ (by rw [size_madeCells, hs]) (Ncs W _) (Naf (Below.refl _ _) _))
def lostN : S50 := nVal ⟨4, ⟨0, 0⟩, eB, false, 3⟩
def shN (rows cols : Int) (n : S50) : S50 :=
  if n.f0 = 2 then (if (mvR rows cols n.f5).2 = true then { n with f5 := (mvR rows cols n.f5).1 } else lostN)
  else if n.f0 = 3 then (if (mvR rows cols n.f5).2 = true ∧ (mvR rows cols n.f6).2 = true then { n with f5 := (mvR rows cols n.f5).1, f6 := (mvR rows cols n.f6).1 } else lostN)
  else n
theorem shift_ok (A : Option Addr) (c : Nat) (l : List S50) (rows cols : Int) (w : World) (hC : Kd.C k50 w A l.length l) (hle : l.length ≤ c) (hk : chk l = 0) :
  Calls Tryz.prog 37 #[.slice A l.length c, .int .i64 rows, .int .i64 cols] w fun e w' => ∃ v, e = .returned (.tuple #[v, .int .i64 0]) ∧ Kd.R k50 50 w' w.heap.size (fun _ => True) v (l.map (shN rows cols)) ∧ Below w.heap.size w w' := by
 obtain ⟨d, hd, -, hlen⟩ := Nep (l := l) (K := 600) (by rw [chk_f, hk])
 have hpos := hd.pos.1
 have HCH := lh (Na7.calls 600 _ c l 0 w hC hle (by rw [chk_f, hk]))
 obtain ⟨ad, rfl, hf⟩ := C_flat hC (by omega)
 have HF := lh hf
 have HL := lh (show 1 ≤ l.length ∧ l.length ≤ 256 ∧ l.length ≤ c by omega)
 clear hC hle hk hd hlen hpos hf
 go_enter Tryz.func37, Tryz.ntmps37
 go_upto_region 4 with (go_at_call 28; (with_reducible refine (HCH.out).mono ?_); rintro en w1 ⟨rfl, hb⟩; have HB1 := lh hb; have HF1 := lh (show ∀ (j : Nat) v, (flat l)[j]? = some v → w1.cell? (ad.add j) = some v from fun j v hv => Nad hb (HF.out j v hv)); clear hb HCH HF)
 go_upto_region 5 with ((with_reducible refine gD 21 rfl ?_); refine make_event rfl (t := 22) (e := 50) (x := .tmp 20) (y := .tmp 20) rfl Tryz.underlying22 info50 (n := l.length) ?hx ?hy (by have := HL.out; omega) (by have := HL.out; omega) ?_; (case hx => rfl); (case hy => rfl); intro w2 cur hcur hb_ hl_; obtain ⟨g, hg⟩ : ∃ x_ : Nat, x_ = w1.heap.size := ⟨_, rfl⟩; rw [← hg] at hb_ ⊢; have G := lh (show w.heap.size ≤ g from hg ▸ HB1.out.size); have HB2 := lh (Nab HB1.out hl_); have HF2 := lh (show ∀ (j : Nat) v, (flat l)[j]? = some v → w2.cell? (ad.add j) = some v from fun j v hv => Nad hl_ (HF1.out j v hv)); have HC := lh hcur; have J := lh hb_; clear hcur hb_ hl_ hg HB1 HF1)
 go_upto_region 6 with (fail)
 obtain ⟨hrun, hj3, hp3⟩ := copy_run (P := Tryz.prog) (t := 22) (t' := 22) (ty := 3) (cap := l.length) (c := c) Tryz.underlying22 (sz := 20) (by kernel_rfl) J.out (Ncv l) (by rw [Ncv]; exact HC.out.symm) HF2.out (flat_one l)
 rw [hrun]
 have HB3 := lh (hp3.below w G.out HB2.out)
 have J3 := lh hj3
 generalize w2.setCells g 0 (flat l) = w3 at HB3 J3 ⊢
 clear hrun hj3 hp3 HB2 HF2 HC J
 go_wp2_with (fail)
 go_loopw [27] (fun v27 w' => ∃ i : Nat, i ≤ l.length ∧ v27 = .int .i64 i ∧ Hid (w'.heap[g]? = some (.cells (flat ((l.take i).map (shN rows cols) ++ l.drop i)).toArray 50 (0, 0))) ∧ Hid (Below w.heap.size w w')) (fun v27 _ => l.length - (intOf v27).toNat)
 case atStart => exact ⟨0, Nat.zero_le _, rfl, lh (by simpa using J3.out), HB3⟩
 case round =>
  obtain ⟨i, hi, rfl, HJ, HB⟩ := hrel
  by_cases hlt : i < l.length
  ·obtain ⟨x, r, hd⟩ : ∃ x r, l.drop i = x :: r := ⟨_, _, List.drop_eq_getElem_cons hlt⟩
   obtain ⟨a, ha⟩ : ∃ a_, a_ = (l.take i).map (shN rows cols) := ⟨_, rfl⟩
   have hal : a.length = i := by rw [ha, List.length_map, List.length_take]; omega
   have hnext : (l.take (i + 1)).map (shN rows cols) ++ l.drop (i + 1) = a ++ shN rows cols x :: r := by
    have h1 : l.take (i + 1) = l.take i ++ [x] := by
     rw [List.take_succ_eq_append_getElem hlt]
     rw [List.drop_eq_getElem_cons hlt] at hd
     injection hd with h1 h2
     rw [h1]
    have h2 : l.drop (i + 1) = r := by
     rw [List.drop_eq_getElem_cons hlt] at hd
     injection hd with h1 h2
    rw [h1, h2, List.map_append, ← ha, List.append_assoc]
    rfl
   rw [hd, ← ha] at HJ
   have HN := lh hnext
   have HA := lh hal
   have HI := lh (show i < l.length ∧ i ≤ 256 by have := HL.out; omega)
   have HM := lh (flat_mid a x r)
   rw [hal] at HM
   clear hd ha hal hnext hi
   obtain ⟨k0, ⟨vk, ⟨vn, vd⟩, vt, vb, ve⟩, op, nm, ar, ⟨s5, r5, c5, p5, q5⟩, ⟨s6, r6, c6, p6, q6⟩⟩ := x
   have hu50 := Tryz.underlying50
   go_upto_region 9 with (first
    | ((with_reducible refine gD 31 rfl ?_); refine Nbg rfl (t := 50) (p := .tmp 30) rfl (g := g) (o' := i * 20) (e := 50) (cs := [.int .i64 k0, .int .i64 vk, .int .i64 vn, .int .i64 vd, .string vt, .bool vb, .int .i64 ve, .int .i64 op, .string nm, .int .i64 ar, .string s5, .int .i64 r5, .int .i64 c5, .bool p5, .bool q5, .string s6, .int .i64 r6, .int .i64 c6, .bool p6, .bool q6]) ?ha HJ.out ?hc hu50 rfl ?hi ?_; (case ha => rfl); (case hc => exact HM.out); (case hi => kernel_rfl))
    | ((with_reducible refine gD 11 rfl ?_); refine bX 11 #[.int .i64 0, .int .i64 0, .int .i64 0, .int .i64 0, .string ⟨#[]⟩, .bool false, .int .i64 0, .int .i64 0, .string ⟨#[]⟩, .int .i64 0, .string ⟨#[]⟩, .int .i64 0, .int .i64 0, .bool false, .bool false, .string ⟨#[]⟩, .int .i64 0, .int .i64 0, .bool false, .bool false] 50 ?_; intro g2 hg_ w4 hb_ hl_; have B4 := lh (Nab HB.out hl_); have J4 := lh (Nac HJ.out hl_); have G2 := lh (show w.heap.size ≤ g2 from hg_ ▸ HB.out.size); have NE := lh (show g ≠ g2 by have := Nbh HJ.out; omega); have I4 := lh hb_; clear hb_ hl_ hg_)
    | ((with_reducible refine gate_ (.store 50 (.tmp 11) (.tmp 31)) rfl ?_); refine sE I4.out 50 (.tmp 11) (.tmp 31) 0 (.agg #[.int .i64 k0, .int .i64 vk, .int .i64 vn, .int .i64 vd, .string vt, .bool vb, .int .i64 ve, .int .i64 op, .string nm, .int .i64 ar, .string s5, .int .i64 r5, .int .i64 c5, .bool p5, .bool q5, .string s6, .int .i64 r6, .int .i64 c6, .bool p6, .bool q6]) #[.int .i64 k0, .int .i64 vk, .int .i64 vn, .int .i64 vd, .string vt, .bool vb, .int .i64 ve, .int .i64 op, .string nm, .int .i64 ar, .string s5, .int .i64 r5, .int .i64 c5, .bool p5, .bool q5, .string s6, .int .i64 r6, .int .i64 c6, .bool p6, .bool q6] ?_; intro w5 hb_ hp_; have B5 := lh (hp_.below w G2.out B4.out); have J5 := lh (hp_.blk J4.out NE.out); have I5 := lh hb_; clear hb_ hp_ B4 J4 I4))
   have hw1 : wrap64 ((i : Int) + 1) = ((i + 1 : Nat) : Int) := by have := HI.out; unfold wrap64; omega
   have hu48 := Tryz.underlying48
   have f0 : w5.cell? ⟨g2, 0, none⟩ = some (.int .i64 k0) := (Naa I5.out 0).trans rfl
   obtain ⟨⟨⟨ms, mr, mc, mp, mq⟩, mo⟩, hm⟩ : ∃ q_, q_ = mvR rows cols ⟨s5, r5, c5, p5, q5⟩ := ⟨_, rfl⟩
   obtain ⟨⟨⟨ns, nr, nc, np, nq⟩, no⟩, hn⟩ : ∃ q_, q_ = mvR rows cols ⟨s6, r6, c6, p6, q6⟩ := ⟨_, rfl⟩
   have HV := lh (mv_calls rows cols ⟨s5, r5, c5, p5, q5⟩)
   have HV6 := lh (mv_calls rows cols ⟨s6, r6, c6, p6, q6⟩)
   rw [← hm] at HV
   rw [← hn] at HV6
   have HM5 := lh hm
   have HM6 := lh hn
   clear hm hn
   by_cases h2 : k0 = 2
   ·subst h2
    cases mo with
    | true =>
     have HS := lh (show shN rows cols ⟨2, ⟨vk, ⟨vn, vd⟩, vt, vb, ve⟩, op, nm, ar, ⟨s5, r5, c5, p5, q5⟩, ⟨s6, r6, c6, p6, q6⟩⟩ = ⟨2, ⟨vk, ⟨vn, vd⟩, vt, vb, ve⟩, op, nm, ar, ⟨ms, mr, mc, mp, mq⟩, ⟨s6, r6, c6, p6, q6⟩⟩ by unfold shN; rw [if_pos rfl, ← HM5.out]; rfl)
     clear HM5 HM6 HV6
     go_upto_region 12 with (first
      | ((with_reducible refine gD 42 rfl ?_); refine Nbg rfl (t := 48) (p := .tmp 41) rfl (g := g2) (o' := 10) (e := 50) (cs := [.string s5, .int .i64 r5, .int .i64 c5, .bool p5, .bool q5]) ?ha I5.out ?hc hu48 rfl ?hi ?_; (case ha => rfl); (case hc => rfl); (case hi => kernel_rfl))
      | (go_at_call 61; (with_reducible refine (HV.out _).mono ?_); rintro en w6 ⟨rfl, hb⟩; have B6 := lh (Nab B5.out hb); have J6 := lh (Nac J5.out hb); have I6 := lh (Nac I5.out hb); clear hb B5 J5 I5)
      | ((with_reducible refine gate_ (.store 48 (.tmp 48) (.tmp 46)) rfl ?_); refine sE I6.out 48 (.tmp 48) (.tmp 46) 10 (.agg #[.string ms, .int .i64 mr, .int .i64 mc, .bool mp, .bool mq]) #[.int .i64 2, .int .i64 vk, .int .i64 vn, .int .i64 vd, .string vt, .bool vb, .int .i64 ve, .int .i64 op, .string nm, .int .i64 ar, .string ms, .int .i64 mr, .int .i64 mc, .bool mp, .bool mq, .string s6, .int .i64 r6, .int .i64 c6, .bool p6, .bool q6] ?_; intro w7 hb_ hp_; have B7 := lh (hp_.below w G2.out B6.out); have J7 := lh (hp_.blk J6.out NE.out); have I7 := lh hb_; clear hb_ hp_ B6 J6 I6))
     have f7 : w7.cell? ⟨g2, 0, none⟩ = some (.int .i64 2) := (Naa I7.out 0).trans rfl
     go_wp2_with (first
      | ((with_reducible refine gD 71 rfl ?_); refine lA I7.out 50 (.tmp 11) hu50 ?_)
      | ((with_reducible refine gate_ (.store 50 (.tmp 72) (.tmp 71)) rfl ?_); refine Nbw rfl rfl (t := 50) (p := .tmp 72) (x := .tmp 71) rfl (g := g) (o' := i * 20) (e := 50) (u := .agg #[.int .i64 2, .int .i64 vk, .int .i64 vn, .int .i64 vd, .string vt, .bool vb, .int .i64 ve, .int .i64 op, .string nm, .int .i64 ar, .string ms, .int .i64 mr, .int .i64 mc, .bool mp, .bool mq, .string s6, .int .i64 r6, .int .i64 c6, .bool p6, .bool q6]) (seg := c50 ⟨2, ⟨vk, ⟨vn, vd⟩, vt, vb, ve⟩, op, nm, ar, ⟨ms, mr, mc, mp, mq⟩, ⟨s6, r6, c6, p6, q6⟩⟩) ?ha ?hx ?hu ?ht J7.out ?hf ?h1 (HA.out ▸ set_mid a ⟨2, ⟨vk, ⟨vn, vd⟩, vt, vb, ve⟩, op, nm, ar, ⟨s5, r5, c5, p5, q5⟩, ⟨s6, r6, c6, p6, q6⟩⟩ ⟨2, ⟨vk, ⟨vn, vd⟩, vt, vb, ve⟩, op, nm, ar, ⟨ms, mr, mc, mp, mq⟩, ⟨s6, r6, c6, p6, q6⟩⟩ r : Ndz (flat (a ++ ⟨2, ⟨vk, ⟨vn, vd⟩, vt, vb, ve⟩, op, nm, ar, ⟨s5, r5, c5, p5, q5⟩, ⟨s6, r6, c6, p6, q6⟩⟩ :: r)).toArray (i * 20) (c50 ⟨2, ⟨vk, ⟨vn, vd⟩, vt, vb, ve⟩, op, nm, ar, ⟨ms, mr, mc, mp, mq⟩, ⟨s6, r6, c6, p6, q6⟩⟩) = _) ?_; (case ha => rfl); (case hx => rfl); (case hu => rfl); (case ht => kernel_rfl); (case hf => rw [List.size_toArray, Ncv, List.length_append, List.length_cons, HA.out]; show i * 20 + 20 ≤ _; omega); (case h1 => rfl); intro w8 hb_ hp_; have B8 := lh (hp_.below w G.out B7.out); have J8 := lh hb_; clear hb_ hp_ B7 J7 I7))
     rw [hw1]
     clear hw1 hlt
     go_roundw
     case rel => exact ⟨i + 1, by have := HI.out; omega, rfl, lh (by rw [HN.out, HS.out]; exact J8.out), B8⟩
     case measure => simp only [intOf]; have := HI.out; omega
    | false =>
     have HS := lh (show shN rows cols ⟨2, ⟨vk, ⟨vn, vd⟩, vt, vb, ve⟩, op, nm, ar, ⟨s5, r5, c5, p5, q5⟩, ⟨s6, r6, c6, p6, q6⟩⟩ = lostN by unfold shN; rw [if_pos rfl, ← HM5.out]; rfl)
     clear HM5 HM6 HV6
     go_upto_region 12 with (first
      | ((with_reducible refine gD 42 rfl ?_); refine Nbg rfl (t := 48) (p := .tmp 41) rfl (g := g2) (o' := 10) (e := 50) (cs := [.string s5, .int .i64 r5, .int .i64 c5, .bool p5, .bool q5]) ?ha I5.out ?hc hu48 rfl ?hi ?_; (case ha => rfl); (case hc => rfl); (case hi => kernel_rfl))
      | (go_at_call 61; (with_reducible refine (HV.out _).mono ?_); rintro en w6 ⟨rfl, hb⟩; have B6 := lh (Nab B5.out hb); have J6 := lh (Nac J5.out hb); have I6 := lh (Nac I5.out hb); clear hb B5 J5 I5)
      | ((with_reducible refine gate_ (.store 48 (.tmp 48) (.tmp 46)) rfl ?_); refine sE I6.out 48 (.tmp 48) (.tmp 46) 10 (.agg #[.string ms, .int .i64 mr, .int .i64 mc, .bool mp, .bool mq]) #[.int .i64 2, .int .i64 vk, .int .i64 vn, .int .i64 vd, .string vt, .bool vb, .int .i64 ve, .int .i64 op, .string nm, .int .i64 ar, .string ms, .int .i64 mr, .int .i64 mc, .bool mp, .bool mq, .string s6, .int .i64 r6, .int .i64 c6, .bool p6, .bool q6] ?_; intro w7 hb_ hp_; have B7 := lh (hp_.below w G2.out B6.out); have J7 := lh (hp_.blk J6.out NE.out); have I7 := lh hb_; clear hb_ hp_ B6 J6 I6))
     have f7 : w7.cell? ⟨g2, 0, none⟩ = some (.int .i64 2) := (Naa I7.out 0).trans rfl
     go_wp2_with (first
      | (go_at_call 62; (with_reducible refine (Nb1.calls 3 4 0 0 ⟨#[]⟩ false 3 _ rfl).mono ?_); rintro en w8 ⟨rfl, hb⟩; have B8 := lh (Nab B7.out hb); have J8 := lh (Nac J7.out hb); have I8 := lh (Nac I7.out hb); clear hb B7 J7 I7)
      | ((with_reducible refine gate_ (.store 50 (.tmp 11) (.tmp 68)) rfl ?_); refine sE I8.out 50 (.tmp 11) (.tmp 68) 0 (.agg #[.int .i64 1, .int .i64 4, .int .i64 0, .int .i64 0, .string ⟨#[]⟩, .bool false, .int .i64 3, .int .i64 0, .string ⟨#[]⟩, .int .i64 0, .string ⟨#[]⟩, .int .i64 0, .int .i64 0, .bool false, .bool false, .string ⟨#[]⟩, .int .i64 0, .int .i64 0, .bool false, .bool false]) #[.int .i64 1, .int .i64 4, .int .i64 0, .int .i64 0, .string ⟨#[]⟩, .bool false, .int .i64 3, .int .i64 0, .string ⟨#[]⟩, .int .i64 0, .string ⟨#[]⟩, .int .i64 0, .int .i64 0, .bool false, .bool false, .string ⟨#[]⟩, .int .i64 0, .int .i64 0, .bool false, .bool false] ?_; intro w9 hb_ hp_; have B9 := lh (hp_.below w G2.out B8.out); have J9 := lh (hp_.blk J8.out NE.out); have I9 := lh hb_; clear hb_ hp_ B8 J8 I8)
      | ((with_reducible refine gD 71 rfl ?_); refine lA I9.out 50 (.tmp 11) hu50 ?_)
      | ((with_reducible refine gate_ (.store 50 (.tmp 72) (.tmp 71)) rfl ?_); refine Nbw rfl rfl (t := 50) (p := .tmp 72) (x := .tmp 71) rfl (g := g) (o' := i * 20) (e := 50) (u := .agg #[.int .i64 1, .int .i64 4, .int .i64 0, .int .i64 0, .string ⟨#[]⟩, .bool false, .int .i64 3, .int .i64 0, .string ⟨#[]⟩, .int .i64 0, .string ⟨#[]⟩, .int .i64 0, .int .i64 0, .bool false, .bool false, .string ⟨#[]⟩, .int .i64 0, .int .i64 0, .bool false, .bool false]) (seg := c50 lostN) ?ha ?hx ?hu ?ht J9.out ?hf ?h1 (HA.out ▸ set_mid a ⟨2, ⟨vk, ⟨vn, vd⟩, vt, vb, ve⟩, op, nm, ar, ⟨s5, r5, c5, p5, q5⟩, ⟨s6, r6, c6, p6, q6⟩⟩ lostN r : Ndz (flat (a ++ ⟨2, ⟨vk, ⟨vn, vd⟩, vt, vb, ve⟩, op, nm, ar, ⟨s5, r5, c5, p5, q5⟩, ⟨s6, r6, c6, p6, q6⟩⟩ :: r)).toArray (i * 20) (c50 lostN) = _) ?_; (case ha => rfl); (case hx => rfl); (case hu => rfl); (case ht => kernel_rfl); (case hf => rw [List.size_toArray, Ncv, List.length_append, List.length_cons, HA.out]; show i * 20 + 20 ≤ _; omega); (case h1 => rfl); intro w10 hb_ hp_; have B10 := lh (hp_.below w G.out B9.out); have J10 := lh hb_; clear hb_ hp_ B9 J9 I9))
     rw [hw1]
     clear hw1 hlt
     go_roundw
     case rel => exact ⟨i + 1, by have := HI.out; omega, rfl, lh (by rw [HN.out, HS.out]; exact J10.out), B10⟩
     case measure => simp only [intOf]; have := HI.out; omega
   ·have b2 : (k0 != 2) = true := bne_iff_ne.mpr h2
    by_cases h3 : k0 = 3
    ·subst h3
     clear h2 b2
     cases mo with
     | true =>
      cases no with
      | true =>
       have HS := lh (show shN rows cols ⟨3, ⟨vk, ⟨vn, vd⟩, vt, vb, ve⟩, op, nm, ar, ⟨s5, r5, c5, p5, q5⟩, ⟨s6, r6, c6, p6, q6⟩⟩ = ⟨3, ⟨vk, ⟨vn, vd⟩, vt, vb, ve⟩, op, nm, ar, ⟨ms, mr, mc, mp, mq⟩, ⟨ns, nr, nc, np, nq⟩⟩ by unfold shN; rw [if_neg (by show ¬ (3 : Int) = 2; decide), if_pos rfl, ← HM5.out, ← HM6.out]; rfl)
       clear HM5 HM6
       go_upto_region 12 with (first
      | ((with_reducible refine gD 42 rfl ?_); refine Nbg rfl (t := 48) (p := .tmp 41) rfl (g := g2) (o' := 10) (e := 50) (cs := [.string s5, .int .i64 r5, .int .i64 c5, .bool p5, .bool q5]) ?ha I5.out ?hc hu48 rfl ?hi ?_; (case ha => rfl); (case hc => rfl); (case hi => kernel_rfl))
      | (go_at_call 61; (with_reducible refine (HV.out _).mono ?_); rintro en w6 ⟨rfl, hb⟩; have B6 := lh (Nab B5.out hb); have J6 := lh (Nac J5.out hb); have I6 := lh (Nac I5.out hb); clear hb B5 J5 I5)
      | ((with_reducible refine gate_ (.store 48 (.tmp 48) (.tmp 46)) rfl ?_); refine sE I6.out 48 (.tmp 48) (.tmp 46) 10 (.agg #[.string ms, .int .i64 mr, .int .i64 mc, .bool mp, .bool mq]) #[.int .i64 3, .int .i64 vk, .int .i64 vn, .int .i64 vd, .string vt, .bool vb, .int .i64 ve, .int .i64 op, .string nm, .int .i64 ar, .string ms, .int .i64 mr, .int .i64 mc, .bool mp, .bool mq, .string s6, .int .i64 r6, .int .i64 c6, .bool p6, .bool q6] ?_; intro w7 hb_ hp_; have B7 := lh (hp_.below w G2.out B6.out); have J7 := lh (hp_.blk J6.out NE.out); have I7 := lh hb_; clear hb_ hp_ B6 J6 I6))
       have f7 : w7.cell? ⟨g2, 0, none⟩ = some (.int .i64 3) := (Naa I7.out 0).trans rfl
       go_wp2_with (first
      | ((with_reducible refine gD 54 rfl ?_); refine Nbg rfl (t := 48) (p := .tmp 53) rfl (g := g2) (o' := 15) (e := 50) (cs := [.string s6, .int .i64 r6, .int .i64 c6, .bool p6, .bool q6]) ?ha I7.out ?hc hu48 rfl ?hi ?_; (case ha => rfl); (case hc => rfl); (case hi => kernel_rfl))
      | (go_at_call 61; (with_reducible refine (HV6.out _).mono ?_); rintro en w8 ⟨rfl, hb⟩; have B8 := lh (Nab B7.out hb); have J8 := lh (Nac J7.out hb); have I8 := lh (Nac I7.out hb); clear hb B7 J7 I7)
      | ((with_reducible refine gate_ (.store 48 (.tmp 60) (.tmp 58)) rfl ?_); refine sE I8.out 48 (.tmp 60) (.tmp 58) 15 (.agg #[.string ns, .int .i64 nr, .int .i64 nc, .bool np, .bool nq]) #[.int .i64 3, .int .i64 vk, .int .i64 vn, .int .i64 vd, .string vt, .bool vb, .int .i64 ve, .int .i64 op, .string nm, .int .i64 ar, .string ms, .int .i64 mr, .int .i64 mc, .bool mp, .bool mq, .string ns, .int .i64 nr, .int .i64 nc, .bool np, .bool nq] ?_; intro w9 hb_ hp_; have B9 := lh (hp_.below w G2.out B8.out); have J9 := lh (hp_.blk J8.out NE.out); have I9 := lh hb_; clear hb_ hp_ B8 J8 I8)
      | ((with_reducible refine gD 71 rfl ?_); refine lA I9.out 50 (.tmp 11) hu50 ?_)
      | ((with_reducible refine gate_ (.store 50 (.tmp 72) (.tmp 71)) rfl ?_); refine Nbw rfl rfl (t := 50) (p := .tmp 72) (x := .tmp 71) rfl (g := g) (o' := i * 20) (e := 50) (u := .agg #[.int .i64 3, .int .i64 vk, .int .i64 vn, .int .i64 vd, .string vt, .bool vb, .int .i64 ve, .int .i64 op, .string nm, .int .i64 ar, .string ms, .int .i64 mr, .int .i64 mc, .bool mp, .bool mq, .string ns, .int .i64 nr, .int .i64 nc, .bool np, .bool nq]) (seg := c50 ⟨3, ⟨vk, ⟨vn, vd⟩, vt, vb, ve⟩, op, nm, ar, ⟨ms, mr, mc, mp, mq⟩, ⟨ns, nr, nc, np, nq⟩⟩) ?ha ?hx ?hu ?ht J9.out ?hf ?h1 (HA.out ▸ set_mid a ⟨3, ⟨vk, ⟨vn, vd⟩, vt, vb, ve⟩, op, nm, ar, ⟨s5, r5, c5, p5, q5⟩, ⟨s6, r6, c6, p6, q6⟩⟩ ⟨3, ⟨vk, ⟨vn, vd⟩, vt, vb, ve⟩, op, nm, ar, ⟨ms, mr, mc, mp, mq⟩, ⟨ns, nr, nc, np, nq⟩⟩ r : Ndz (flat (a ++ ⟨3, ⟨vk, ⟨vn, vd⟩, vt, vb, ve⟩, op, nm, ar, ⟨s5, r5, c5, p5, q5⟩, ⟨s6, r6, c6, p6, q6⟩⟩ :: r)).toArray (i * 20) (c50 ⟨3, ⟨vk, ⟨vn, vd⟩, vt, vb, ve⟩, op, nm, ar, ⟨ms, mr, mc, mp, mq⟩, ⟨ns, nr, nc, np, nq⟩⟩) = _) ?_; (case ha => rfl); (case hx => rfl); (case hu => rfl); (case ht => kernel_rfl); (case hf => rw [List.size_toArray, Ncv, List.length_append, List.length_cons, HA.out]; show i * 20 + 20 ≤ _; omega); (case h1 => rfl); intro w10 hb_ hp_; have B10 := lh (hp_.below w G.out B9.out); have J10 := lh hb_; clear hb_ hp_ B9 J9 I9))
       rw [hw1]
       clear hw1 hlt
       go_roundw
       case rel => exact ⟨i + 1, by have := HI.out; omega, rfl, lh (by rw [HN.out, HS.out]; exact J10.out), B10⟩
       case measure => simp only [intOf]; have := HI.out; omega
      | false =>
       have HS := lh (show shN rows cols ⟨3, ⟨vk, ⟨vn, vd⟩, vt, vb, ve⟩, op, nm, ar, ⟨s5, r5, c5, p5, q5⟩, ⟨s6, r6, c6, p6, q6⟩⟩ = lostN by unfold shN; rw [if_neg (by show ¬ (3 : Int) = 2; decide), if_pos rfl, ← HM5.out, ← HM6.out]; rfl)
       clear HM5 HM6
       go_upto_region 12 with (first
      | ((with_reducible refine gD 42 rfl ?_); refine Nbg rfl (t := 48) (p := .tmp 41) rfl (g := g2) (o' := 10) (e := 50) (cs := [.string s5, .int .i64 r5, .int .i64 c5, .bool p5, .bool q5]) ?ha I5.out ?hc hu48 rfl ?hi ?_; (case ha => rfl); (case hc => rfl); (case hi => kernel_rfl))
      | (go_at_call 61; (with_reducible refine (HV.out _).mono ?_); rintro en w6 ⟨rfl, hb⟩; have B6 := lh (Nab B5.out hb); have J6 := lh (Nac J5.out hb); have I6 := lh (Nac I5.out hb); clear hb B5 J5 I5)
      | ((with_reducible refine gate_ (.store 48 (.tmp 48) (.tmp 46)) rfl ?_); refine sE I6.out 48 (.tmp 48) (.tmp 46) 10 (.agg #[.string ms, .int .i64 mr, .int .i64 mc, .bool mp, .bool mq]) #[.int .i64 3, .int .i64 vk, .int .i64 vn, .int .i64 vd, .string vt, .bool vb, .int .i64 ve, .int .i64 op, .string nm, .int .i64 ar, .string ms, .int .i64 mr, .int .i64 mc, .bool mp, .bool mq, .string s6, .int .i64 r6, .int .i64 c6, .bool p6, .bool q6] ?_; intro w7 hb_ hp_; have B7 := lh (hp_.below w G2.out B6.out); have J7 := lh (hp_.blk J6.out NE.out); have I7 := lh hb_; clear hb_ hp_ B6 J6 I6))
       have f7 : w7.cell? ⟨g2, 0, none⟩ = some (.int .i64 3) := (Naa I7.out 0).trans rfl
       go_wp2_with (first
      | ((with_reducible refine gD 54 rfl ?_); refine Nbg rfl (t := 48) (p := .tmp 53) rfl (g := g2) (o' := 15) (e := 50) (cs := [.string s6, .int .i64 r6, .int .i64 c6, .bool p6, .bool q6]) ?ha I7.out ?hc hu48 rfl ?hi ?_; (case ha => rfl); (case hc => rfl); (case hi => kernel_rfl))
      | (go_at_call 61; (with_reducible refine (HV6.out _).mono ?_); rintro en w8 ⟨rfl, hb⟩; have B8 := lh (Nab B7.out hb); have J8 := lh (Nac J7.out hb); have I8 := lh (Nac I7.out hb); clear hb B7 J7 I7)
      | ((with_reducible refine gate_ (.store 48 (.tmp 60) (.tmp 58)) rfl ?_); refine sE I8.out 48 (.tmp 60) (.tmp 58) 15 (.agg #[.string ns, .int .i64 nr, .int .i64 nc, .bool np, .bool nq]) #[.int .i64 3, .int .i64 vk, .int .i64 vn, .int .i64 vd, .string vt, .bool vb, .int .i64 ve, .int .i64 op, .string nm, .int .i64 ar, .string ms, .int .i64 mr, .int .i64 mc, .bool mp, .bool mq, .string ns, .int .i64 nr, .int .i64 nc, .bool np, .bool nq] ?_; intro w9 hb_ hp_; have B9 := lh (hp_.below w G2.out B8.out); have J9 := lh (hp_.blk J8.out NE.out); have I9 := lh hb_; clear hb_ hp_ B8 J8 I8)
      | (go_at_call 62; (with_reducible refine (Nb1.calls 3 4 0 0 ⟨#[]⟩ false 3 _ rfl).mono ?_); rintro en w10 ⟨rfl, hb⟩; have B10 := lh (Nab B9.out hb); have J10 := lh (Nac J9.out hb); have I10 := lh (Nac I9.out hb); clear hb B9 J9 I9)
      | ((with_reducible refine gate_ (.store 50 (.tmp 11) (.tmp 68)) rfl ?_); refine sE I10.out 50 (.tmp 11) (.tmp 68) 0 (.agg #[.int .i64 1, .int .i64 4, .int .i64 0, .int .i64 0, .string ⟨#[]⟩, .bool false, .int .i64 3, .int .i64 0, .string ⟨#[]⟩, .int .i64 0, .string ⟨#[]⟩, .int .i64 0, .int .i64 0, .bool false, .bool false, .string ⟨#[]⟩, .int .i64 0, .int .i64 0, .bool false, .bool false]) #[.int .i64 1, .int .i64 4, .int .i64 0, .int .i64 0, .string ⟨#[]⟩, .bool false, .int .i64 3, .int .i64 0, .string ⟨#[]⟩, .int .i64 0, .string ⟨#[]⟩, .int .i64 0, .int .i64 0, .bool false, .bool false, .string ⟨#[]⟩, .int .i64 0, .int .i64 0, .bool false, .bool false] ?_; intro w11 hb_ hp_; have B11 := lh (hp_.below w G2.out B10.out); have J11 := lh (hp_.blk J10.out NE.out); have I11 := lh hb_; clear hb_ hp_ B10 J10 I10)
      | ((with_reducible refine gD 71 rfl ?_); refine lA I11.out 50 (.tmp 11) hu50 ?_)
      | ((with_reducible refine gate_ (.store 50 (.tmp 72) (.tmp 71)) rfl ?_); refine Nbw rfl rfl (t := 50) (p := .tmp 72) (x := .tmp 71) rfl (g := g) (o' := i * 20) (e := 50) (u := .agg #[.int .i64 1, .int .i64 4, .int .i64 0, .int .i64 0, .string ⟨#[]⟩, .bool false, .int .i64 3, .int .i64 0, .string ⟨#[]⟩, .int .i64 0, .string ⟨#[]⟩, .int .i64 0, .int .i64 0, .bool false, .bool false, .string ⟨#[]⟩, .int .i64 0, .int .i64 0, .bool false, .bool false]) (seg := c50 lostN) ?ha ?hx ?hu ?ht J11.out ?hf ?h1 (HA.out ▸ set_mid a ⟨3, ⟨vk, ⟨vn, vd⟩, vt, vb, ve⟩, op, nm, ar, ⟨s5, r5, c5, p5, q5⟩, ⟨s6, r6, c6, p6, q6⟩⟩ lostN r : Ndz (flat (a ++ ⟨3, ⟨vk, ⟨vn, vd⟩, vt, vb, ve⟩, op, nm, ar, ⟨s5, r5, c5, p5, q5⟩, ⟨s6, r6, c6, p6, q6⟩⟩ :: r)).toArray (i * 20) (c50 lostN) = _) ?_; (case ha => rfl); (case hx => rfl); (case hu => rfl); (case ht => kernel_rfl); (case hf => rw [List.size_toArray, Ncv, List.length_append, List.length_cons, HA.out]; show i * 20 + 20 ≤ _; omega); (case h1 => rfl); intro w12 hb_ hp_; have B12 := lh (hp_.below w G.out B11.out); have J12 := lh hb_; clear hb_ hp_ B11 J11 I11))
       rw [hw1]
       clear hw1 hlt
       go_roundw
       case rel => exact ⟨i + 1, by have := HI.out; omega, rfl, lh (by rw [HN.out, HS.out]; exact J12.out), B12⟩
       case measure => simp only [intOf]; have := HI.out; omega
     | false =>
      have HS := lh (show shN rows cols ⟨3, ⟨vk, ⟨vn, vd⟩, vt, vb, ve⟩, op, nm, ar, ⟨s5, r5, c5, p5, q5⟩, ⟨s6, r6, c6, p6, q6⟩⟩ = lostN by unfold shN; rw [if_neg (by show ¬ (3 : Int) = 2; decide), if_pos rfl, ← HM5.out]; rfl)
      clear HM5 HM6
      go_upto_region 12 with (first
      | ((with_reducible refine gD 42 rfl ?_); refine Nbg rfl (t := 48) (p := .tmp 41) rfl (g := g2) (o' := 10) (e := 50) (cs := [.string s5, .int .i64 r5, .int .i64 c5, .bool p5, .bool q5]) ?ha I5.out ?hc hu48 rfl ?hi ?_; (case ha => rfl); (case hc => rfl); (case hi => kernel_rfl))
      | (go_at_call 61; (with_reducible refine (HV.out _).mono ?_); rintro en w6 ⟨rfl, hb⟩; have B6 := lh (Nab B5.out hb); have J6 := lh (Nac J5.out hb); have I6 := lh (Nac I5.out hb); clear hb B5 J5 I5)
      | ((with_reducible refine gate_ (.store 48 (.tmp 48) (.tmp 46)) rfl ?_); refine sE I6.out 48 (.tmp 48) (.tmp 46) 10 (.agg #[.string ms, .int .i64 mr, .int .i64 mc, .bool mp, .bool mq]) #[.int .i64 3, .int .i64 vk, .int .i64 vn, .int .i64 vd, .string vt, .bool vb, .int .i64 ve, .int .i64 op, .string nm, .int .i64 ar, .string ms, .int .i64 mr, .int .i64 mc, .bool mp, .bool mq, .string s6, .int .i64 r6, .int .i64 c6, .bool p6, .bool q6] ?_; intro w7 hb_ hp_; have B7 := lh (hp_.below w G2.out B6.out); have J7 := lh (hp_.blk J6.out NE.out); have I7 := lh hb_; clear hb_ hp_ B6 J6 I6))
      have f7 : w7.cell? ⟨g2, 0, none⟩ = some (.int .i64 3) := (Naa I7.out 0).trans rfl
      go_wp2_with (first
      | ((with_reducible refine gD 54 rfl ?_); refine Nbg rfl (t := 48) (p := .tmp 53) rfl (g := g2) (o' := 15) (e := 50) (cs := [.string s6, .int .i64 r6, .int .i64 c6, .bool p6, .bool q6]) ?ha I7.out ?hc hu48 rfl ?hi ?_; (case ha => rfl); (case hc => rfl); (case hi => kernel_rfl))
      | (go_at_call 61; (with_reducible refine (HV6.out _).mono ?_); rintro en w8 ⟨rfl, hb⟩; have B8 := lh (Nab B7.out hb); have J8 := lh (Nac J7.out hb); have I8 := lh (Nac I7.out hb); clear hb B7 J7 I7)
      | ((with_reducible refine gate_ (.store 48 (.tmp 60) (.tmp 58)) rfl ?_); refine sE I8.out 48 (.tmp 60) (.tmp 58) 15 (.agg #[.string ns, .int .i64 nr, .int .i64 nc, .bool np, .bool nq]) #[.int .i64 3, .int .i64 vk, .int .i64 vn, .int .i64 vd, .string vt, .bool vb, .int .i64 ve, .int .i64 op, .string nm, .int .i64 ar, .string ms, .int .i64 mr, .int .i64 mc, .bool mp, .bool mq, .string ns, .int .i64 nr, .int .i64 nc, .bool np, .bool nq] ?_; intro w9 hb_ hp_; have B9 := lh (hp_.below w G2.out B8.out); have J9 := lh (hp_.blk J8.out NE.out); have I9 := lh hb_; clear hb_ hp_ B8 J8 I8)
      | (go_at_call 62; (with_reducible refine (Nb1.calls 3 4 0 0 ⟨#[]⟩ false 3 _ rfl).mono ?_); rintro en w10 ⟨rfl, hb⟩; have B10 := lh (Nab B9.out hb); have J10 := lh (Nac J9.out hb); have I10 := lh (Nac I9.out hb); clear hb B9 J9 I9)
      | ((with_reducible refine gate_ (.store 50 (.tmp 11) (.tmp 68)) rfl ?_); refine sE I10.out 50 (.tmp 11) (.tmp 68) 0 (.agg #[.int .i64 1, .int .i64 4, .int .i64 0, .int .i64 0, .string ⟨#[]⟩, .bool false, .int .i64 3, .int .i64 0, .string ⟨#[]⟩, .int .i64 0, .string ⟨#[]⟩, .int .i64 0, .int .i64 0, .bool false, .bool false, .string ⟨#[]⟩, .int .i64 0, .int .i64 0, .bool false, .bool false]) #[.int .i64 1, .int .i64 4, .int .i64 0, .int .i64 0, .string ⟨#[]⟩, .bool false, .int .i64 3, .int .i64 0, .string ⟨#[]⟩, .int .i64 0, .string ⟨#[]⟩, .int .i64 0, .int .i64 0, .bool false, .bool false, .string ⟨#[]⟩, .int .i64 0, .int .i64 0, .bool false, .bool false] ?_; intro w11 hb_ hp_; have B11 := lh (hp_.below w G2.out B10.out); have J11 := lh (hp_.blk J10.out NE.out); have I11 := lh hb_; clear hb_ hp_ B10 J10 I10)
      | ((with_reducible refine gD 71 rfl ?_); refine lA I11.out 50 (.tmp 11) hu50 ?_)
      | ((with_reducible refine gate_ (.store 50 (.tmp 72) (.tmp 71)) rfl ?_); refine Nbw rfl rfl (t := 50) (p := .tmp 72) (x := .tmp 71) rfl (g := g) (o' := i * 20) (e := 50) (u := .agg #[.int .i64 1, .int .i64 4, .int .i64 0, .int .i64 0, .string ⟨#[]⟩, .bool false, .int .i64 3, .int .i64 0, .string ⟨#[]⟩, .int .i64 0, .string ⟨#[]⟩, .int .i64 0, .int .i64 0, .bool false, .bool false, .string ⟨#[]⟩, .int .i64 0, .int .i64 0, .bool false, .bool false]) (seg := c50 lostN) ?ha ?hx ?hu ?ht J11.out ?hf ?h1 (HA.out ▸ set_mid a ⟨3, ⟨vk, ⟨vn, vd⟩, vt, vb, ve⟩, op, nm, ar, ⟨s5, r5, c5, p5, q5⟩, ⟨s6, r6, c6, p6, q6⟩⟩ lostN r : Ndz (flat (a ++ ⟨3, ⟨vk, ⟨vn, vd⟩, vt, vb, ve⟩, op, nm, ar, ⟨s5, r5, c5, p5, q5⟩, ⟨s6, r6, c6, p6, q6⟩⟩ :: r)).toArray (i * 20) (c50 lostN) = _) ?_; (case ha => rfl); (case hx => rfl); (case hu => rfl); (case ht => kernel_rfl); (case hf => rw [List.size_toArray, Ncv, List.length_append, List.length_cons, HA.out]; show i * 20 + 20 ≤ _; omega); (case h1 => rfl); intro w12 hb_ hp_; have B12 := lh (hp_.below w G.out B11.out); have J12 := lh hb_; clear hb_ hp_ B11 J11 I11))
      rw [hw1]
      clear hw1 hlt
      go_roundw
      case rel => exact ⟨i + 1, by have := HI.out; omega, rfl, lh (by rw [HN.out, HS.out]; exact J12.out), B12⟩
      case measure => simp only [intOf]; have := HI.out; omega
    ·have b3 : (k0 != 3) = true := bne_iff_ne.mpr h3
     have HS := lh (show shN rows cols ⟨k0, ⟨vk, ⟨vn, vd⟩, vt, vb, ve⟩, op, nm, ar, ⟨s5, r5, c5, p5, q5⟩, ⟨s6, r6, c6, p6, q6⟩⟩ = ⟨k0, ⟨vk, ⟨vn, vd⟩, vt, vb, ve⟩, op, nm, ar, ⟨s5, r5, c5, p5, q5⟩, ⟨s6, r6, c6, p6, q6⟩⟩ by unfold shN; rw [if_neg h2, if_neg h3])
     clear h2 h3 HV HV6 HM5 HM6
     go_wp2_with (fail)
     rw [hw1]
     clear hw1 hlt
     go_roundw
     case rel => exact ⟨i + 1, by have := HI.out; omega, rfl, lh (by rw [HN.out, HS.out]; exact J5.out), B5⟩
     case measure => simp only [intOf]; have := HI.out; omega
  ·obtain rfl : i = l.length := by omega
   have HR := lh (R_of_flat (base := w.heap.size) (xs := l.map (shN rows cols)) (by have := HJ.out; simpa using this) G.out (by rw [List.length_map]; have := HL.out; omega))
   rw [List.length_map] at HR
   clear hlt hi
   go_wp2_with (fail)
   go_ret2
   exact ⟨_, rfl, HR.out, HB.out⟩
theorem shift_bad (A : Option Addr) (c : Nat) (l : List S50) (rows cols : Int) (w : World) (hC : Kd.C k50 w A l.length l) (hle : l.length ≤ c) (hk : chk l ≠ 0) :
    Calls Tryz.prog 37 #[.slice A l.length c, .int .i64 rows, .int .i64 cols] w fun e w' => e = .returned (.tuple #[.slice none 0 0, .int .i64 (chk l)]) ∧ Below w.heap.size w w' := by
  have HCH := lh (Na7.calls 600 A c l (chk l) w hC hle (chk_f l))
  have b1 : (chk l != 0) = true := bne_iff_ne.mpr hk
  clear hC hle hk
  generalize chk l = e0 at HCH b1 ⊢
  go_enter Tryz.func37, Tryz.ntmps37
  go_wp2_with (go_at_call 28; (with_reducible refine (HCH.out).mono ?_); rintro en w1 ⟨rfl, hb⟩; have HB1 := lh hb; clear hb HCH)
  go_ret2
  exact ⟨rfl, HB1.out⟩
def msh.f (l0 : List S50) (a1 a2 : Int) : Option (List S50 × Int) := some (if chk l0 = 0 then (l0.map (shN a1 a2), 0) else ([], chk l0))
theorem msh.calls (A0 : Option Addr) (c0 : Nat) (l0 : List (S50)) (a1 : Int) (a2 : Int) (r1 : List (S50)) (r2 : Int) (w : World) (hr0 : Kd.C k50 w A0 l0.length l0) (hc0 : l0.length ≤ c0) (h : msh.f l0 a1 a2 = some (r1, r2)) :
    Calls Tryz.prog 37 #[.slice A0 l0.length c0, .int .i64 a1, .int .i64 a2] w fun e w' => ∃ v0_ : Value, e = .returned (.tuple #[v0_, .int .i64 r2]) ∧ Kd.R k50 50 w' w.heap.size (fun _ => True) v0_ r1 ∧ Below w.heap.size w w' := by
  have e := sI h
  by_cases hk : chk l0 = 0
  · rw [if_pos hk] at e
    obtain ⟨rfl, rfl⟩ := Prod.mk.inj e
    exact shift_ok A0 c0 l0 a1 a2 w hr0 hc0 hk
  · rw [if_neg hk] at e
    obtain ⟨rfl, rfl⟩ := Prod.mk.inj e
    exact (shift_bad A0 c0 l0 a1 a2 w hr0 hc0 hk).mono fun e w' ⟨h1, h2⟩ => ⟨_, h1, Kd.R_nil _ _ _ _ _, h2⟩
end Go.Proofs.YtejbbceidnaloaaGreatDoor.P
