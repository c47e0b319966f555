import Derived.Test.YtejbbceidnaloaaGreatDoorX23
import Derived.Lib.DecodeN
namespace Go.Proofs.YtejbbceidnaloaaGreatDoor.P
open Go.RowKit Go.Proofs.YtejbbceidnaloaaGreatDoorW.PrintWords Go.Proofs.YtejbbceidnaloaaGreatDoorW.PrintLast Go.Proofs.YtejbbceidnaloaaGreatDoorW.PrintMore
set_option linter.unusedVariables false
set_option linter.unusedSimpArgs false
theorem make_event {P : Program} {ops : Array Oper} {rest : List Oper} {o : Oper} {a : Act} {Q : Exit → Act → World → Prop} {W : World} (hgd : o.guard = none) {t e : TypeId} {x y : Operand} (ho : o.op = .makeSlice t x y) (ht : P.underlying t = some (.slice e)) {z : Value} {sz by_ : Nat} (hinfo : (P.info? e).map (fun i => (i.zero, i.size, i.bytes)) = some (some z, sz, by_)) {n : Nat}
    (hx : a.eval x = .int .i64 n) (hy : a.eval y = .int .i64 n) (hb : by_ * n ≤ 281474976710656) (hn : n ≤ 1000000)
    (h : ∀ w1 cur, cur.size = n * sz → w1.heap[W.heap.size]? = some (.cells cur e (0, 0)) → Below W.heap.size W w1 → wpList P ops Q rest (a.put o.dst (.slice (some ⟨W.heap.size, 0, none⟩) n n)) w1) : wpList P ops Q (o :: rest) a W := by
  obtain ⟨i0, hi, hzz⟩ := Option.map_eq_some_iff.1 hinfo
  simp only [Prod.mk.injEq] at hzz
  obtain ⟨hz, hs, hb1⟩ := hzz
  have hb3 : (i0.bytes : Int) * (n : Int) ≤ 281474976710656 := by
    rw [hb1, ← Int.natCast_mul]
    omega
  have hr := run_make (P := P) W t e i0 z ht hi hz .i64 .i64 (n : Int) (n : Int) (by omega) (by omega) hb3 (by omega)
  rw [Int.toNat_natCast] at hr
  refine wpList_plain hgd fun K hK => ?_
  unfold Oper.wp execOp
  simp only [ho, hx, hy, Sem.run_bind, Sem.run_pure, Result.andThen_ok, hr]
  exact hK _ _ (h _ _ (by rw [size_madeCells, hs]) (blk_new W _) (below_alloc (Below.refl _ _) _))
def lostN : S50 := nVal ⟨4, ⟨0, 0⟩, eB, false, 3⟩
def shN (rows cols : Int) (n : S50) : S50 :=
  if n.f0 = 2 then (if (mvR rows cols n.f5).2 = true then { n with f5 := (mvR rows cols n.f5).1 } else lostN)
  else if n.f0 = 3 then (if (mvR rows cols n.f5).2 = true ∧ (mvR rows cols n.f6).2 = true then { n with f5 := (mvR rows cols n.f5).1, f6 := (mvR rows cols n.f6).1 } else lostN)
  else n
set_option maxRecDepth 100000 in
set_option maxHeartbeats 4000000 in
theorem shift_ok (A : Option Addr) (c : Nat) (l : List S50) (rows cols : Int) (w : World) (hC : Kd.C k50 w A l.length l) (hle : l.length ≤ c) (hk : chk l = 0) :
  Calls Tryz.prog 37 #[.slice A l.length c, .int .i64 rows, .int .i64 cols] w fun e w' => ∃ v, e = .returned (.tuple #[v, .int .i64 0]) ∧ Kd.R k50 50 w' w.heap.size (fun _ => True) v (l.map (shN rows cols)) ∧ Below w.heap.size w w' := by
 obtain ⟨d, hd, -, hlen⟩ := check_back (l := l) (K := 600) (by rw [chk_f, hk])
 have hpos := hd.pos.1
 have HCH := lh (tree_Check.calls 600 _ c l 0 w hC hle (by rw [chk_f, hk]))
 obtain ⟨ad, rfl, hf⟩ := C_flat hC (by omega)
 have HF := lh hf
 have HL := lh (show 1 ≤ l.length ∧ l.length ≤ 256 ∧ l.length ≤ c by omega)
 clear hC hle hk hd hlen hpos hf
 go_enter Tryz.func37, Tryz.ntmps37
 go_upto_region 4 with (go_at_call 28; (with_reducible refine (HCH.out).mono ?_); rintro en w1 ⟨rfl, hb⟩; have HB1 := lh hb; have HF1 := lh (show ∀ (j : Nat) v, (flat l)[j]? = some v → w1.cell? (ad.add j) = some v from fun j v hv => pw_cell_below hb (HF.out j v hv)); clear hb HCH HF)
 go_upto_region 5 with ((with_reducible refine gate_dst (N := 21) rfl ?_); refine make_event rfl (t := 22) (e := 50) (x := .tmp 20) (y := .tmp 20) rfl Tryz.underlying22 info50 (n := l.length) ?hx ?hy (by have := HL.out; omega) (by have := HL.out; omega) ?_; (case hx => rfl); (case hy => rfl); intro w2 cur hcur hb_ hl_; obtain ⟨g, hg⟩ : ∃ x_ : Nat, x_ = w1.heap.size := ⟨_, rfl⟩; rw [← hg] at hb_ ⊢; have G := lh (show w.heap.size ≤ g from hg ▸ HB1.out.size); have HB2 := lh (below_step HB1.out hl_); have HF2 := lh (show ∀ (j : Nat) v, (flat l)[j]? = some v → w2.cell? (ad.add j) = some v from fun j v hv => pw_cell_below hl_ (HF1.out j v hv)); have HC := lh hcur; have J := lh hb_; clear hcur hb_ hl_ hg HB1 HF1)
 go_upto_region 6 with (fail)
 obtain ⟨hrun, hj3, hp3⟩ := copy_run (P := Tryz.prog) (t := 22) (t' := 22) (ty := 3) (cap := l.length) (c := c) Tryz.underlying22 (sz := 20) (by kernel_rfl) J.out (flat_len l) (by rw [flat_len]; exact HC.out.symm) HF2.out (flat_one l)
 rw [hrun]
 have HB3 := lh (hp3.below w G.out HB2.out)
 have J3 := lh hj3
 generalize w2.setCells g 0 (flat l) = w3 at HB3 J3 ⊢
 clear hrun hj3 hp3 HB2 HF2 HC J
 go_wp2_with (fail)
 go_loopw [27] (fun v27 w' => ∃ i : Nat, i ≤ l.length ∧ v27 = .int .i64 i ∧ Hid (w'.heap[g]? = some (.cells (flat ((l.take i).map (shN rows cols) ++ l.drop i)).toArray 50 (0, 0))) ∧ Hid (Below w.heap.size w w')) (fun v27 _ => l.length - (intOf v27).toNat)
 case atStart => exact ⟨0, Nat.zero_le _, rfl, lh (by simpa using J3.out), HB3⟩
 case round =>
  obtain ⟨i, hi, rfl, HJ, HB⟩ := hrel
  by_cases hlt : i < l.length
  ·obtain ⟨x, r, hd⟩ : ∃ x r, l.drop i = x :: r := ⟨_, _, List.drop_eq_getElem_cons hlt⟩
   obtain ⟨a, ha⟩ : ∃ a_, a_ = (l.take i).map (shN rows cols) := ⟨_, rfl⟩
   have hal : a.length = i := by rw [ha, List.length_map, List.length_take]; omega
   have hnext : (l.take (i + 1)).map (shN rows cols) ++ l.drop (i + 1) = a ++ shN rows cols x :: r := by
    have h1 : l.take (i + 1) = l.take i ++ [x] := by
     rw [List.take_succ_eq_append_getElem hlt]
     rw [List.drop_eq_getElem_cons hlt] at hd
     injection hd with h1 h2
     rw [h1]
    have h2 : l.drop (i + 1) = r := by
     rw [List.drop_eq_getElem_cons hlt] at hd
     injection hd with h1 h2
    rw [h1, h2, List.map_append, ← ha, List.append_assoc]
    rfl
   rw [hd, ← ha] at HJ
   have HN := lh hnext
   have HA := lh hal
   have HI := lh (show i < l.length ∧ i ≤ 256 by have := HL.out; omega)
   have HM := lh (flat_mid a x r)
   rw [hal] at HM
   clear hd ha hal hnext hi
   obtain ⟨k0, ⟨vk, ⟨vn, vd⟩, vt, vb, ve⟩, op, nm, ar, ⟨s5, r5, c5, p5, q5⟩, ⟨s6, r6, c6, p6, q6⟩⟩ := x
   have hu50 := Tryz.underlying50
   go_upto_region 9 with (first
    | ((with_reducible refine gate_dst (N := 31) rfl ?_); refine load_event rfl (t := 50) (p := .tmp 30) rfl (g := g) (o' := i * 20) (e := 50) (cs := [.int .i64 k0, .int .i64 vk, .int .i64 vn, .int .i64 vd, .string vt, .bool vb, .int .i64 ve, .int .i64 op, .string nm, .int .i64 ar, .string s5, .int .i64 r5, .int .i64 c5, .bool p5, .bool q5, .string s6, .int .i64 r6, .int .i64 c6, .bool p6, .bool q6]) ?ha HJ.out ?hc hu50 rfl ?hi ?_; (case ha => rfl); (case hc => exact HM.out); (case hi => kernel_rfl))
    | ((with_reducible refine gate_dst (N := 11) rfl ?_); refine bX 11 #[.int .i64 0, .int .i64 0, .int .i64 0, .int .i64 0, .string ⟨#[]⟩, .bool false, .int .i64 0, .int .i64 0, .string ⟨#[]⟩, .int .i64 0, .string ⟨#[]⟩, .int .i64 0, .int .i64 0, .bool false, .bool false, .string ⟨#[]⟩, .int .i64 0, .int .i64 0, .bool false, .bool false] 50 ?_; intro g2 hg_ w4 hb_ hl_; have B4 := lh (below_step HB.out hl_); have J4 := lh (blk_below HJ.out hl_); have G2 := lh (show w.heap.size ≤ g2 from hg_ ▸ HB.out.size); have NE := lh (show g ≠ g2 by have := blk_lt HJ.out; omega); have I4 := lh hb_; clear hb_ hl_ hg_)
    | ((with_reducible refine gate_ (.store 50 (.tmp 11) (.tmp 31)) rfl ?_); refine sE I4.out 50 (.tmp 11) (.tmp 31) 0 (.agg #[.int .i64 k0, .int .i64 vk, .int .i64 vn, .int .i64 vd, .string vt, .bool vb, .int .i64 ve, .int .i64 op, .string nm, .int .i64 ar, .string s5, .int .i64 r5, .int .i64 c5, .bool p5, .bool q5, .string s6, .int .i64 r6, .int .i64 c6, .bool p6, .bool q6]) #[.int .i64 k0, .int .i64 vk, .int .i64 vn, .int .i64 vd, .string vt, .bool vb, .int .i64 ve, .int .i64 op, .string nm, .int .i64 ar, .string s5, .int .i64 r5, .int .i64 c5, .bool p5, .bool q5, .string s6, .int .i64 r6, .int .i64 c6, .bool p6, .bool q6] ?_; intro w5 hb_ hp_; have B5 := lh (hp_.below w G2.out B4.out); have J5 := lh (hp_.blk J4.out NE.out); have I5 := lh hb_; clear hb_ hp_ B4 J4 I4))
   have hw1 : wrap64 ((i : Int) + 1) = ((i + 1 : Nat) : Int) := by have := HI.out; unfold wrap64; omega
   have hu48 := Tryz.underlying48
   have f0 : w5.cell? ⟨g2, 0, none⟩ = some (.int .i64 k0) := (blk_cell I5.out 0).trans rfl
   obtain ⟨⟨⟨ms, mr, mc, mp, mq⟩, mo⟩, hm⟩ : ∃ q_, q_ = mvR rows cols ⟨s5, r5, c5, p5, q5⟩ := ⟨_, rfl⟩
   obtain ⟨⟨⟨ns, nr, nc, np, nq⟩, no⟩, hn⟩ : ∃ q_, q_ = mvR rows cols ⟨s6, r6, c6, p6, q6⟩ := ⟨_, rfl⟩
   have HV := lh (mv_calls rows cols ⟨s5, r5, c5, p5, q5⟩)
   have HV6 := lh (mv_calls rows cols ⟨s6, r6, c6, p6, q6⟩)
   rw [← hm] at HV
   rw [← hn] at HV6
   have HM5 := lh hm
   have HM6 := lh hn
   clear hm hn
   by_cases h2 : k0 = 2
   ·subst h2
    cases mo with
    | true =>
     have HS := lh (show shN rows cols ⟨2, ⟨vk, ⟨vn, vd⟩, vt, vb, ve⟩, op, nm, ar, ⟨s5, r5, c5, p5, q5⟩, ⟨s6, r6, c6, p6, q6⟩⟩ = ⟨2, ⟨vk, ⟨vn, vd⟩, vt, vb, ve⟩, op, nm, ar, ⟨ms, mr, mc, mp, mq⟩, ⟨s6, r6, c6, p6, q6⟩⟩ by unfold shN; rw [if_pos rfl, ← HM5.out]; rfl)
     clear HM5 HM6 HV6
     go_upto_region 12 with (first
      | ((with_reducible refine gate_dst (N := 42) rfl ?_); refine load_event rfl (t := 48) (p := .tmp 41) rfl (g := g2) (o' := 10) (e := 50) (cs := [.string s5, .int .i64 r5, .int .i64 c5, .bool p5, .bool q5]) ?ha I5.out ?hc hu48 rfl ?hi ?_; (case ha => rfl); (case hc => rfl); (case hi => kernel_rfl))
      | (go_at_call 61; (with_reducible refine (HV.out _).mono ?_); rintro en w6 ⟨rfl, hb⟩; have B6 := lh (below_step B5.out hb); have J6 := lh (blk_below J5.out hb); have I6 := lh (blk_below I5.out hb); clear hb B5 J5 I5)
      | ((with_reducible refine gate_ (.store 48 (.tmp 48) (.tmp 46)) rfl ?_); refine sE I6.out 48 (.tmp 48) (.tmp 46) 10 (.agg #[.string ms, .int .i64 mr, .int .i64 mc, .bool mp, .bool mq]) #[.int .i64 2, .int .i64 vk, .int .i64 vn, .int .i64 vd, .string vt, .bool vb, .int .i64 ve, .int .i64 op, .string nm, .int .i64 ar, .string ms, .int .i64 mr, .int .i64 mc, .bool mp, .bool mq, .string s6, .int .i64 r6, .int .i64 c6, .bool p6, .bool q6] ?_; intro w7 hb_ hp_; have B7 := lh (hp_.below w G2.out B6.out); have J7 := lh (hp_.blk J6.out NE.out); have I7 := lh hb_; clear hb_ hp_ B6 J6 I6))
     have f7 : w7.cell? ⟨g2, 0, none⟩ = some (.int .i64 2) := (blk_cell I7.out 0).trans rfl
     go_wp2_with (first
      | ((with_reducible refine gate_dst (N := 71) rfl ?_); refine lA I7.out 50 (.tmp 11) hu50 ?_)
      | ((with_reducible refine gate_ (.store 50 (.tmp 72) (.tmp 71)) rfl ?_); refine store_event rfl rfl (t := 50) (p := .tmp 72) (x := .tmp 71) rfl (g := g) (o' := i * 20) (e := 50) (u := .agg #[.int .i64 2, .int .i64 vk, .int .i64 vn, .int .i64 vd, .string vt, .bool vb, .int .i64 ve, .int .i64 op, .string nm, .int .i64 ar, .string ms, .int .i64 mr, .int .i64 mc, .bool mp, .bool mq, .string s6, .int .i64 r6, .int .i64 c6, .bool p6, .bool q6]) (seg := c50 ⟨2, ⟨vk, ⟨vn, vd⟩, vt, vb, ve⟩, op, nm, ar, ⟨ms, mr, mc, mp, mq⟩, ⟨s6, r6, c6, p6, q6⟩⟩) ?ha ?hx ?hu ?ht J7.out ?hf ?h1 (HA.out ▸ set_mid a ⟨2, ⟨vk, ⟨vn, vd⟩, vt, vb, ve⟩, op, nm, ar, ⟨s5, r5, c5, p5, q5⟩, ⟨s6, r6, c6, p6, q6⟩⟩ ⟨2, ⟨vk, ⟨vn, vd⟩, vt, vb, ve⟩, op, nm, ar, ⟨ms, mr, mc, mp, mq⟩, ⟨s6, r6, c6, p6, q6⟩⟩ r : setRun (flat (a ++ ⟨2, ⟨vk, ⟨vn, vd⟩, vt, vb, ve⟩, op, nm, ar, ⟨s5, r5, c5, p5, q5⟩, ⟨s6, r6, c6, p6, q6⟩⟩ :: r)).toArray (i * 20) (c50 ⟨2, ⟨vk, ⟨vn, vd⟩, vt, vb, ve⟩, op, nm, ar, ⟨ms, mr, mc, mp, mq⟩, ⟨s6, r6, c6, p6, q6⟩⟩) = _) ?_; (case ha => rfl); (case hx => rfl); (case hu => rfl); (case ht => kernel_rfl); (case hf => rw [List.size_toArray, flat_len, List.length_append, List.length_cons, HA.out]; show i * 20 + 20 ≤ _; omega); (case h1 => rfl); intro w8 hb_ hp_; have B8 := lh (hp_.below w G.out B7.out); have J8 := lh hb_; clear hb_ hp_ B7 J7 I7))
     rw [hw1]
     clear hw1 hlt
     go_roundw
     case rel => exact ⟨i + 1, by have := HI.out; omega, rfl, lh (by rw [HN.out, HS.out]; exact J8.out), B8⟩
     case measure => simp only [intOf]; have := HI.out; omega
    | false =>
     have HS := lh (show shN rows cols ⟨2, ⟨vk, ⟨vn, vd⟩, vt, vb, ve⟩, op, nm, ar, ⟨s5, r5, c5, p5, q5⟩, ⟨s6, r6, c6, p6, q6⟩⟩ = lostN by unfold shN; rw [if_pos rfl, ← HM5.out]; rfl)
     clear HM5 HM6 HV6
     go_upto_region 12 with (first
      | ((with_reducible refine gate_dst (N := 42) rfl ?_); refine load_event rfl (t := 48) (p := .tmp 41) rfl (g := g2) (o' := 10) (e := 50) (cs := [.string s5, .int .i64 r5, .int .i64 c5, .bool p5, .bool q5]) ?ha I5.out ?hc hu48 rfl ?hi ?_; (case ha => rfl); (case hc => rfl); (case hi => kernel_rfl))
      | (go_at_call 61; (with_reducible refine (HV.out _).mono ?_); rintro en w6 ⟨rfl, hb⟩; have B6 := lh (below_step B5.out hb); have J6 := lh (blk_below J5.out hb); have I6 := lh (blk_below I5.out hb); clear hb B5 J5 I5)
      | ((with_reducible refine gate_ (.store 48 (.tmp 48) (.tmp 46)) rfl ?_); refine sE I6.out 48 (.tmp 48) (.tmp 46) 10 (.agg #[.string ms, .int .i64 mr, .int .i64 mc, .bool mp, .bool mq]) #[.int .i64 2, .int .i64 vk, .int .i64 vn, .int .i64 vd, .string vt, .bool vb, .int .i64 ve, .int .i64 op, .string nm, .int .i64 ar, .string ms, .int .i64 mr, .int .i64 mc, .bool mp, .bool mq, .string s6, .int .i64 r6, .int .i64 c6, .bool p6, .bool q6] ?_; intro w7 hb_ hp_; have B7 := lh (hp_.below w G2.out B6.out); have J7 := lh (hp_.blk J6.out NE.out); have I7 := lh hb_; clear hb_ hp_ B6 J6 I6))
     have f7 : w7.cell? ⟨g2, 0, none⟩ = some (.int .i64 2) := (blk_cell I7.out 0).trans rfl
     go_wp2_with (first
      | (go_at_call 62; (with_reducible refine (value_Fault.calls 3 4 0 0 ⟨#[]⟩ false 3 _ rfl).mono ?_); rintro en w8 ⟨rfl, hb⟩; have B8 := lh (below_step B7.out hb); have J8 := lh (blk_below J7.out hb); have I8 := lh (blk_below I7.out hb); clear hb B7 J7 I7)
      | ((with_reducible refine gate_ (.store 50 (.tmp 11) (.tmp 68)) rfl ?_); refine sE I8.out 50 (.tmp 11) (.tmp 68) 0 (.agg #[.int .i64 1, .int .i64 4, .int .i64 0, .int .i64 0, .string ⟨#[]⟩, .bool false, .int .i64 3, .int .i64 0, .string ⟨#[]⟩, .int .i64 0, .string ⟨#[]⟩, .int .i64 0, .int .i64 0, .bool false, .bool false, .string ⟨#[]⟩, .int .i64 0, .int .i64 0, .bool false, .bool false]) #[.int .i64 1, .int .i64 4, .int .i64 0, .int .i64 0, .string ⟨#[]⟩, .bool false, .int .i64 3, .int .i64 0, .string ⟨#[]⟩, .int .i64 0, .string ⟨#[]⟩, .int .i64 0, .int .i64 0, .bool false, .bool false, .string ⟨#[]⟩, .int .i64 0, .int .i64 0, .bool false, .bool false] ?_; intro w9 hb_ hp_; have B9 := lh (hp_.below w G2.out B8.out); have J9 := lh (hp_.blk J8.out NE.out); have I9 := lh hb_; clear hb_ hp_ B8 J8 I8)
      | ((with_reducible refine gate_dst (N := 71) rfl ?_); refine lA I9.out 50 (.tmp 11) hu50 ?_)
      | ((with_reducible refine gate_ (.store 50 (.tmp 72) (.tmp 71)) rfl ?_); refine store_event rfl rfl (t := 50) (p := .tmp 72) (x := .tmp 71) rfl (g := g) (o' := i * 20) (e := 50) (u := .agg #[.int .i64 1, .int .i64 4, .int .i64 0, .int .i64 0, .string ⟨#[]⟩, .bool false, .int .i64 3, .int .i64 0, .string ⟨#[]⟩, .int .i64 0, .string ⟨#[]⟩, .int .i64 0, .int .i64 0, .bool false, .bool false, .string ⟨#[]⟩, .int .i64 0, .int .i64 0, .bool false, .bool false]) (seg := c50 lostN) ?ha ?hx ?hu ?ht J9.out ?hf ?h1 (HA.out ▸ set_mid a ⟨2, ⟨vk, ⟨vn, vd⟩, vt, vb, ve⟩, op, nm, ar, ⟨s5, r5, c5, p5, q5⟩, ⟨s6, r6, c6, p6, q6⟩⟩ lostN r : setRun (flat (a ++ ⟨2, ⟨vk, ⟨vn, vd⟩, vt, vb, ve⟩, op, nm, ar, ⟨s5, r5, c5, p5, q5⟩, ⟨s6, r6, c6, p6, q6⟩⟩ :: r)).toArray (i * 20) (c50 lostN) = _) ?_; (case ha => rfl); (case hx => rfl); (case hu => rfl); (case ht => kernel_rfl); (case hf => rw [List.size_toArray, flat_len, List.length_append, List.length_cons, HA.out]; show i * 20 + 20 ≤ _; omega); (case h1 => rfl); intro w10 hb_ hp_; have B10 := lh (hp_.below w G.out B9.out); have J10 := lh hb_; clear hb_ hp_ B9 J9 I9))
     rw [hw1]
     clear hw1 hlt
     go_roundw
     case rel => exact ⟨i + 1, by have := HI.out; omega, rfl, lh (by rw [HN.out, HS.out]; exact J10.out), B10⟩
     case measure => simp only [intOf]; have := HI.out; omega
   ·have b2 : (k0 != 2) = true := bne_iff_ne.mpr h2
    by_cases h3 : k0 = 3
    ·subst h3
     clear h2 b2
     cases mo with
     | true =>
      cases no with
      | true =>
       have HS := lh (show shN rows cols ⟨3, ⟨vk, ⟨vn, vd⟩, vt, vb, ve⟩, op, nm, ar, ⟨s5, r5, c5, p5, q5⟩, ⟨s6, r6, c6, p6, q6⟩⟩ = ⟨3, ⟨vk, ⟨vn, vd⟩, vt, vb, ve⟩, op, nm, ar, ⟨ms, mr, mc, mp, mq⟩, ⟨ns, nr, nc, np, nq⟩⟩ by unfold shN; rw [if_neg (by show ¬ (3 : Int) = 2; decide), if_pos rfl, ← HM5.out, ← HM6.out]; rfl)
       clear HM5 HM6
       go_upto_region 12 with (first
      | ((with_reducible refine gate_dst (N := 42) rfl ?_); refine load_event rfl (t := 48) (p := .tmp 41) rfl (g := g2) (o' := 10) (e := 50) (cs := [.string s5, .int .i64 r5, .int .i64 c5, .bool p5, .bool q5]) ?ha I5.out ?hc hu48 rfl ?hi ?_; (case ha => rfl); (case hc => rfl); (case hi => kernel_rfl))
      | (go_at_call 61; (with_reducible refine (HV.out _).mono ?_); rintro en w6 ⟨rfl, hb⟩; have B6 := lh (below_step B5.out hb); have J6 := lh (blk_below J5.out hb); have I6 := lh (blk_below I5.out hb); clear hb B5 J5 I5)
      | ((with_reducible refine gate_ (.store 48 (.tmp 48) (.tmp 46)) rfl ?_); refine sE I6.out 48 (.tmp 48) (.tmp 46) 10 (.agg #[.string ms, .int .i64 mr, .int .i64 mc, .bool mp, .bool mq]) #[.int .i64 3, .int .i64 vk, .int .i64 vn, .int .i64 vd, .string vt, .bool vb, .int .i64 ve, .int .i64 op, .string nm, .int .i64 ar, .string ms, .int .i64 mr, .int .i64 mc, .bool mp, .bool mq, .string s6, .int .i64 r6, .int .i64 c6, .bool p6, .bool q6] ?_; intro w7 hb_ hp_; have B7 := lh (hp_.below w G2.out B6.out); have J7 := lh (hp_.blk J6.out NE.out); have I7 := lh hb_; clear hb_ hp_ B6 J6 I6))
       have f7 : w7.cell? ⟨g2, 0, none⟩ = some (.int .i64 3) := (blk_cell I7.out 0).trans rfl
       go_wp2_with (first
      | ((with_reducible refine gate_dst (N := 54) rfl ?_); refine load_event rfl (t := 48) (p := .tmp 53) rfl (g := g2) (o' := 15) (e := 50) (cs := [.string s6, .int .i64 r6, .int .i64 c6, .bool p6, .bool q6]) ?ha I7.out ?hc hu48 rfl ?hi ?_; (case ha => rfl); (case hc => rfl); (case hi => kernel_rfl))
      | (go_at_call 61; (with_reducible refine (HV6.out _).mono ?_); rintro en w8 ⟨rfl, hb⟩; have B8 := lh (below_step B7.out hb); have J8 := lh (blk_below J7.out hb); have I8 := lh (blk_below I7.out hb); clear hb B7 J7 I7)
      | ((with_reducible refine gate_ (.store 48 (.tmp 60) (.tmp 58)) rfl ?_); refine sE I8.out 48 (.tmp 60) (.tmp 58) 15 (.agg #[.string ns, .int .i64 nr, .int .i64 nc, .bool np, .bool nq]) #[.int .i64 3, .int .i64 vk, .int .i64 vn, .int .i64 vd, .string vt, .bool vb, .int .i64 ve, .int .i64 op, .string nm, .int .i64 ar, .string ms, .int .i64 mr, .int .i64 mc, .bool mp, .bool mq, .string ns, .int .i64 nr, .int .i64 nc, .bool np, .bool nq] ?_; intro w9 hb_ hp_; have B9 := lh (hp_.below w G2.out B8.out); have J9 := lh (hp_.blk J8.out NE.out); have I9 := lh hb_; clear hb_ hp_ B8 J8 I8)
      | ((with_reducible refine gate_dst (N := 71) rfl ?_); refine lA I9.out 50 (.tmp 11) hu50 ?_)
      | ((with_reducible refine gate_ (.store 50 (.tmp 72) (.tmp 71)) rfl ?_); refine store_event rfl rfl (t := 50) (p := .tmp 72) (x := .tmp 71) rfl (g := g) (o' := i * 20) (e := 50) (u := .agg #[.int .i64 3, .int .i64 vk, .int .i64 vn, .int .i64 vd, .string vt, .bool vb, .int .i64 ve, .int .i64 op, .string nm, .int .i64 ar, .string ms, .int .i64 mr, .int .i64 mc, .bool mp, .bool mq, .string ns, .int .i64 nr, .int .i64 nc, .bool np, .bool nq]) (seg := c50 ⟨3, ⟨vk, ⟨vn, vd⟩, vt, vb, ve⟩, op, nm, ar, ⟨ms, mr, mc, mp, mq⟩, ⟨ns, nr, nc, np, nq⟩⟩) ?ha ?hx ?hu ?ht J9.out ?hf ?h1 (HA.out ▸ set_mid a ⟨3, ⟨vk, ⟨vn, vd⟩, vt, vb, ve⟩, op, nm, ar, ⟨s5, r5, c5, p5, q5⟩, ⟨s6, r6, c6, p6, q6⟩⟩ ⟨3, ⟨vk, ⟨vn, vd⟩, vt, vb, ve⟩, op, nm, ar, ⟨ms, mr, mc, mp, mq⟩, ⟨ns, nr, nc, np, nq⟩⟩ r : setRun (flat (a ++ ⟨3, ⟨vk, ⟨vn, vd⟩, vt, vb, ve⟩, op, nm, ar, ⟨s5, r5, c5, p5, q5⟩, ⟨s6, r6, c6, p6, q6⟩⟩ :: r)).toArray (i * 20) (c50 ⟨3, ⟨vk, ⟨vn, vd⟩, vt, vb, ve⟩, op, nm, ar, ⟨ms, mr, mc, mp, mq⟩, ⟨ns, nr, nc, np, nq⟩⟩) = _) ?_; (case ha => rfl); (case hx => rfl); (case hu => rfl); (case ht => kernel_rfl); (case hf => rw [List.size_toArray, flat_len, List.length_append, List.length_cons, HA.out]; show i * 20 + 20 ≤ _; omega); (case h1 => rfl); intro w10 hb_ hp_; have B10 := lh (hp_.below w G.out B9.out); have J10 := lh hb_; clear hb_ hp_ B9 J9 I9))
       rw [hw1]
       clear hw1 hlt
       go_roundw
       case rel => exact ⟨i + 1, by have := HI.out; omega, rfl, lh (by rw [HN.out, HS.out]; exact J10.out), B10⟩
       case measure => simp only [intOf]; have := HI.out; omega
      | false =>
       have HS := lh (show shN rows cols ⟨3, ⟨vk, ⟨vn, vd⟩, vt, vb, ve⟩, op, nm, ar, ⟨s5, r5, c5, p5, q5⟩, ⟨s6, r6, c6, p6, q6⟩⟩ = lostN by unfold shN; rw [if_neg (by show ¬ (3 : Int) = 2; decide), if_pos rfl, ← HM5.out, ← HM6.out]; rfl)
       clear HM5 HM6
       go_upto_region 12 with (first
      | ((with_reducible refine gate_dst (N := 42) rfl ?_); refine load_event rfl (t := 48) (p := .tmp 41) rfl (g := g2) (o' := 10) (e := 50) (cs := [.string s5, .int .i64 r5, .int .i64 c5, .bool p5, .bool q5]) ?ha I5.out ?hc hu48 rfl ?hi ?_; (case ha => rfl); (case hc => rfl); (case hi => kernel_rfl))
      | (go_at_call 61; (with_reducible refine (HV.out _).mono ?_); rintro en w6 ⟨rfl, hb⟩; have B6 := lh (below_step B5.out hb); have J6 := lh (blk_below J5.out hb); have I6 := lh (blk_below I5.out hb); clear hb B5 J5 I5)
      | ((with_reducible refine gate_ (.store 48 (.tmp 48) (.tmp 46)) rfl ?_); refine sE I6.out 48 (.tmp 48) (.tmp 46) 10 (.agg #[.string ms, .int .i64 mr, .int .i64 mc, .bool mp, .bool mq]) #[.int .i64 3, .int .i64 vk, .int .i64 vn, .int .i64 vd, .string vt, .bool vb, .int .i64 ve, .int .i64 op, .string nm, .int .i64 ar, .string ms, .int .i64 mr, .int .i64 mc, .bool mp, .bool mq, .string s6, .int .i64 r6, .int .i64 c6, .bool p6, .bool q6] ?_; intro w7 hb_ hp_; have B7 := lh (hp_.below w G2.out B6.out); have J7 := lh (hp_.blk J6.out NE.out); have I7 := lh hb_; clear hb_ hp_ B6 J6 I6))
       have f7 : w7.cell? ⟨g2, 0, none⟩ = some (.int .i64 3) := (blk_cell I7.out 0).trans rfl
       go_wp2_with (first
      | ((with_reducible refine gate_dst (N := 54) rfl ?_); refine load_event rfl (t := 48) (p := .tmp 53) rfl (g := g2) (o' := 15) (e := 50) (cs := [.string s6, .int .i64 r6, .int .i64 c6, .bool p6, .bool q6]) ?ha I7.out ?hc hu48 rfl ?hi ?_; (case ha => rfl); (case hc => rfl); (case hi => kernel_rfl))
      | (go_at_call 61; (with_reducible refine (HV6.out _).mono ?_); rintro en w8 ⟨rfl, hb⟩; have B8 := lh (below_step B7.out hb); have J8 := lh (blk_below J7.out hb); have I8 := lh (blk_below I7.out hb); clear hb B7 J7 I7)
      | ((with_reducible refine gate_ (.store 48 (.tmp 60) (.tmp 58)) rfl ?_); refine sE I8.out 48 (.tmp 60) (.tmp 58) 15 (.agg #[.string ns, .int .i64 nr, .int .i64 nc, .bool np, .bool nq]) #[.int .i64 3, .int .i64 vk, .int .i64 vn, .int .i64 vd, .string vt, .bool vb, .int .i64 ve, .int .i64 op, .string nm, .int .i64 ar, .string ms, .int .i64 mr, .int .i64 mc, .bool mp, .bool mq, .string ns, .int .i64 nr, .int .i64 nc, .bool np, .bool nq] ?_; intro w9 hb_ hp_; have B9 := lh (hp_.below w G2.out B8.out); have J9 := lh (hp_.blk J8.out NE.out); have I9 := lh hb_; clear hb_ hp_ B8 J8 I8)
      | (go_at_call 62; (with_reducible refine (value_Fault.calls 3 4 0 0 ⟨#[]⟩ false 3 _ rfl).mono ?_); rintro en w10 ⟨rfl, hb⟩; have B10 := lh (below_step B9.out hb); have J10 := lh (blk_below J9.out hb); have I10 := lh (blk_below I9.out hb); clear hb B9 J9 I9)
      | ((with_reducible refine gate_ (.store 50 (.tmp 11) (.tmp 68)) rfl ?_); refine sE I10.out 50 (.tmp 11) (.tmp 68) 0 (.agg #[.int .i64 1, .int .i64 4, .int .i64 0, .int .i64 0, .string ⟨#[]⟩, .bool false, .int .i64 3, .int .i64 0, .string ⟨#[]⟩, .int .i64 0, .string ⟨#[]⟩, .int .i64 0, .int .i64 0, .bool false, .bool false, .string ⟨#[]⟩, .int .i64 0, .int .i64 0, .bool false, .bool false]) #[.int .i64 1, .int .i64 4, .int .i64 0, .int .i64 0, .string ⟨#[]⟩, .bool false, .int .i64 3, .int .i64 0, .string ⟨#[]⟩, .int .i64 0, .string ⟨#[]⟩, .int .i64 0, .int .i64 0, .bool false, .bool false, .string ⟨#[]⟩, .int .i64 0, .int .i64 0, .bool false, .bool false] ?_; intro w11 hb_ hp_; have B11 := lh (hp_.below w G2.out B10.out); have J11 := lh (hp_.blk J10.out NE.out); have I11 := lh hb_; clear hb_ hp_ B10 J10 I10)
      | ((with_reducible refine gate_dst (N := 71) rfl ?_); refine lA I11.out 50 (.tmp 11) hu50 ?_)
      | ((with_reducible refine gate_ (.store 50 (.tmp 72) (.tmp 71)) rfl ?_); refine store_event rfl rfl (t := 50) (p := .tmp 72) (x := .tmp 71) rfl (g := g) (o' := i * 20) (e := 50) (u := .agg #[.int .i64 1, .int .i64 4, .int .i64 0, .int .i64 0, .string ⟨#[]⟩, .bool false, .int .i64 3, .int .i64 0, .string ⟨#[]⟩, .int .i64 0, .string ⟨#[]⟩, .int .i64 0, .int .i64 0, .bool false, .bool false, .string ⟨#[]⟩, .int .i64 0, .int .i64 0, .bool false, .bool false]) (seg := c50 lostN) ?ha ?hx ?hu ?ht J11.out ?hf ?h1 (HA.out ▸ set_mid a ⟨3, ⟨vk, ⟨vn, vd⟩, vt, vb, ve⟩, op, nm, ar, ⟨s5, r5, c5, p5, q5⟩, ⟨s6, r6, c6, p6, q6⟩⟩ lostN r : setRun (flat (a ++ ⟨3, ⟨vk, ⟨vn, vd⟩, vt, vb, ve⟩, op, nm, ar, ⟨s5, r5, c5, p5, q5⟩, ⟨s6, r6, c6, p6, q6⟩⟩ :: r)).toArray (i * 20) (c50 lostN) = _) ?_; (case ha => rfl); (case hx => rfl); (case hu => rfl); (case ht => kernel_rfl); (case hf => rw [List.size_toArray, flat_len, List.length_append, List.length_cons, HA.out]; show i * 20 + 20 ≤ _; omega); (case h1 => rfl); intro w12 hb_ hp_; have B12 := lh (hp_.below w G.out B11.out); have J12 := lh hb_; clear hb_ hp_ B11 J11 I11))
       rw [hw1]
       clear hw1 hlt
       go_roundw
       case rel => exact ⟨i + 1, by have := HI.out; omega, rfl, lh (by rw [HN.out, HS.out]; exact J12.out), B12⟩
       case measure => simp only [intOf]; have := HI.out; omega
     | false =>
      have HS := lh (show shN rows cols ⟨3, ⟨vk, ⟨vn, vd⟩, vt, vb, ve⟩, op, nm, ar, ⟨s5, r5, c5, p5, q5⟩, ⟨s6, r6, c6, p6, q6⟩⟩ = lostN by unfold shN; rw [if_neg (by show ¬ (3 : Int) = 2; decide), if_pos rfl, ← HM5.out]; rfl)
      clear HM5 HM6
      go_upto_region 12 with (first
      | ((with_reducible refine gate_dst (N := 42) rfl ?_); refine load_event rfl (t := 48) (p := .tmp 41) rfl (g := g2) (o' := 10) (e := 50) (cs := [.string s5, .int .i64 r5, .int .i64 c5, .bool p5, .bool q5]) ?ha I5.out ?hc hu48 rfl ?hi ?_; (case ha => rfl); (case hc => rfl); (case hi => kernel_rfl))
      | (go_at_call 61; (with_reducible refine (HV.out _).mono ?_); rintro en w6 ⟨rfl, hb⟩; have B6 := lh (below_step B5.out hb); have J6 := lh (blk_below J5.out hb); have I6 := lh (blk_below I5.out hb); clear hb B5 J5 I5)
      | ((with_reducible refine gate_ (.store 48 (.tmp 48) (.tmp 46)) rfl ?_); refine sE I6.out 48 (.tmp 48) (.tmp 46) 10 (.agg #[.string ms, .int .i64 mr, .int .i64 mc, .bool mp, .bool mq]) #[.int .i64 3, .int .i64 vk, .int .i64 vn, .int .i64 vd, .string vt, .bool vb, .int .i64 ve, .int .i64 op, .string nm, .int .i64 ar, .string ms, .int .i64 mr, .int .i64 mc, .bool mp, .bool mq, .string s6, .int .i64 r6, .int .i64 c6, .bool p6, .bool q6] ?_; intro w7 hb_ hp_; have B7 := lh (hp_.below w G2.out B6.out); have J7 := lh (hp_.blk J6.out NE.out); have I7 := lh hb_; clear hb_ hp_ B6 J6 I6))
      have f7 : w7.cell? ⟨g2, 0, none⟩ = some (.int .i64 3) := (blk_cell I7.out 0).trans rfl
      go_wp2_with (first
      | ((with_reducible refine gate_dst (N := 54) rfl ?_); refine load_event rfl (t := 48) (p := .tmp 53) rfl (g := g2) (o' := 15) (e := 50) (cs := [.string s6, .int .i64 r6, .int .i64 c6, .bool p6, .bool q6]) ?ha I7.out ?hc hu48 rfl ?hi ?_; (case ha => rfl); (case hc => rfl); (case hi => kernel_rfl))
      | (go_at_call 61; (with_reducible refine (HV6.out _).mono ?_); rintro en w8 ⟨rfl, hb⟩; have B8 := lh (below_step B7.out hb); have J8 := lh (blk_below J7.out hb); have I8 := lh (blk_below I7.out hb); clear hb B7 J7 I7)
      | ((with_reducible refine gate_ (.store 48 (.tmp 60) (.tmp 58)) rfl ?_); refine sE I8.out 48 (.tmp 60) (.tmp 58) 15 (.agg #[.string ns, .int .i64 nr, .int .i64 nc, .bool np, .bool nq]) #[.int .i64 3, .int .i64 vk, .int .i64 vn, .int .i64 vd, .string vt, .bool vb, .int .i64 ve, .int .i64 op, .string nm, .int .i64 ar, .string ms, .int .i64 mr, .int .i64 mc, .bool mp, .bool mq, .string ns, .int .i64 nr, .int .i64 nc, .bool np, .bool nq] ?_; intro w9 hb_ hp_; have B9 := lh (hp_.below w G2.out B8.out); have J9 := lh (hp_.blk J8.out NE.out); have I9 := lh hb_; clear hb_ hp_ B8 J8 I8)
      | (go_at_call 62; (with_reducible refine (value_Fault.calls 3 4 0 0 ⟨#[]⟩ false 3 _ rfl).mono ?_); rintro en w10 ⟨rfl, hb⟩; have B10 := lh (below_step B9.out hb); have J10 := lh (blk_below J9.out hb); have I10 := lh (blk_below I9.out hb); clear hb B9 J9 I9)
      | ((with_reducible refine gate_ (.store 50 (.tmp 11) (.tmp 68)) rfl ?_); refine sE I10.out 50 (.tmp 11) (.tmp 68) 0 (.agg #[.int .i64 1, .int .i64 4, .int .i64 0, .int .i64 0, .string ⟨#[]⟩, .bool false, .int .i64 3, .int .i64 0, .string ⟨#[]⟩, .int .i64 0, .string ⟨#[]⟩, .int .i64 0, .int .i64 0, .bool false, .bool false, .string ⟨#[]⟩, .int .i64 0, .int .i64 0, .bool false, .bool false]) #[.int .i64 1, .int .i64 4, .int .i64 0, .int .i64 0, .string ⟨#[]⟩, .bool false, .int .i64 3, .int .i64 0, .string ⟨#[]⟩, .int .i64 0, .string ⟨#[]⟩, .int .i64 0, .int .i64 0, .bool false, .bool false, .string ⟨#[]⟩, .int .i64 0, .int .i64 0, .bool false, .bool false] ?_; intro w11 hb_ hp_; have B11 := lh (hp_.below w G2.out B10.out); have J11 := lh (hp_.blk J10.out NE.out); have I11 := lh hb_; clear hb_ hp_ B10 J10 I10)
      | ((with_reducible refine gate_dst (N := 71) rfl ?_); refine lA I11.out 50 (.tmp 11) hu50 ?_)
      | ((with_reducible refine gate_ (.store 50 (.tmp 72) (.tmp 71)) rfl ?_); refine store_event rfl rfl (t := 50) (p := .tmp 72) (x := .tmp 71) rfl (g := g) (o' := i * 20) (e := 50) (u := .agg #[.int .i64 1, .int .i64 4, .int .i64 0, .int .i64 0, .string ⟨#[]⟩, .bool false, .int .i64 3, .int .i64 0, .string ⟨#[]⟩, .int .i64 0, .string ⟨#[]⟩, .int .i64 0, .int .i64 0, .bool false, .bool false, .string ⟨#[]⟩, .int .i64 0, .int .i64 0, .bool false, .bool false]) (seg := c50 lostN) ?ha ?hx ?hu ?ht J11.out ?hf ?h1 (HA.out ▸ set_mid a ⟨3, ⟨vk, ⟨vn, vd⟩, vt, vb, ve⟩, op, nm, ar, ⟨s5, r5, c5, p5, q5⟩, ⟨s6, r6, c6, p6, q6⟩⟩ lostN r : setRun (flat (a ++ ⟨3, ⟨vk, ⟨vn, vd⟩, vt, vb, ve⟩, op, nm, ar, ⟨s5, r5, c5, p5, q5⟩, ⟨s6, r6, c6, p6, q6⟩⟩ :: r)).toArray (i * 20) (c50 lostN) = _) ?_; (case ha => rfl); (case hx => rfl); (case hu => rfl); (case ht => kernel_rfl); (case hf => rw [List.size_toArray, flat_len, List.length_append, List.length_cons, HA.out]; show i * 20 + 20 ≤ _; omega); (case h1 => rfl); intro w12 hb_ hp_; have B12 := lh (hp_.below w G.out B11.out); have J12 := lh hb_; clear hb_ hp_ B11 J11 I11))
      rw [hw1]
      clear hw1 hlt
      go_roundw
      case rel => exact ⟨i + 1, by have := HI.out; omega, rfl, lh (by rw [HN.out, HS.out]; exact J12.out), B12⟩
      case measure => simp only [intOf]; have := HI.out; omega
    ·have b3 : (k0 != 3) = true := bne_iff_ne.mpr h3
     have HS := lh (show shN rows cols ⟨k0, ⟨vk, ⟨vn, vd⟩, vt, vb, ve⟩, op, nm, ar, ⟨s5, r5, c5, p5, q5⟩, ⟨s6, r6, c6, p6, q6⟩⟩ = ⟨k0, ⟨vk, ⟨vn, vd⟩, vt, vb, ve⟩, op, nm, ar, ⟨s5, r5, c5, p5, q5⟩, ⟨s6, r6, c6, p6, q6⟩⟩ by unfold shN; rw [if_neg h2, if_neg h3])
     clear h2 h3 HV HV6 HM5 HM6
     go_wp2_with (fail)
     rw [hw1]
     clear hw1 hlt
     go_roundw
     case rel => exact ⟨i + 1, by have := HI.out; omega, rfl, lh (by rw [HN.out, HS.out]; exact J5.out), B5⟩
     case measure => simp only [intOf]; have := HI.out; omega
  ·obtain rfl : i = l.length := by omega
   have HR := lh (R_of_flat (base := w.heap.size) (xs := l.map (shN rows cols)) (by have := HJ.out; simpa using this) G.out (by rw [List.length_map]; have := HL.out; omega))
   rw [List.length_map] at HR
   clear hlt hi
   go_wp2_with (fail)
   go_ret2
   exact ⟨_, rfl, HR.out, HB.out⟩
set_option maxRecDepth 100000 in
theorem shift_bad (A : Option Addr) (c : Nat) (l : List S50) (rows cols : Int) (w : World) (hC : Kd.C k50 w A l.length l) (hle : l.length ≤ c) (hk : chk l ≠ 0) :
    Calls Tryz.prog 37 #[.slice A l.length c, .int .i64 rows, .int .i64 cols] w fun e w' => e = .returned (.tuple #[.slice none 0 0, .int .i64 (chk l)]) ∧ Below w.heap.size w w' := by
  have HCH := lh (tree_Check.calls 600 A c l (chk l) w hC hle (chk_f l))
  have b1 : (chk l != 0) = true := bne_iff_ne.mpr hk
  clear hC hle hk
  generalize chk l = e0 at HCH b1 ⊢
  go_enter Tryz.func37, Tryz.ntmps37
  go_wp2_with (go_at_call 28; (with_reducible refine (HCH.out).mono ?_); rintro en w1 ⟨rfl, hb⟩; have HB1 := lh hb; clear hb HCH)
  go_ret2
  exact ⟨rfl, HB1.out⟩
def move_Shift_g.f (l0 : List S50) (a1 : Int) (a2 : Int) : Option (List S50 × Int) := some (if chk l0 = 0 then (l0.map (shN a1 a2), 0) else ([], chk l0))
theorem move_Shift_g.calls (A0 : Option Addr) (c0 : Nat) (l0 : List (S50)) (a1 : Int) (a2 : Int) (r1 : List (S50)) (r2 : Int) (w : World) (hr0 : Kd.C k50 w A0 l0.length l0) (hc0 : l0.length ≤ c0) (h : move_Shift_g.f l0 a1 a2 = some (r1, r2)) :
    Calls Tryz.prog 37 #[.slice A0 l0.length c0, .int .i64 a1, .int .i64 a2] w fun e w' => ∃ v0_ : Value, e = .returned (.tuple #[v0_, .int .i64 r2]) ∧ Kd.R k50 50 w' w.heap.size (fun _ => True) v0_ r1 ∧ Below w.heap.size w w' := by
  have e := Option.some.inj h
  by_cases hk : chk l0 = 0
  · rw [if_pos hk] at e
    obtain ⟨rfl, rfl⟩ := Prod.mk.inj e
    exact shift_ok A0 c0 l0 a1 a2 w hr0 hc0 hk
  · rw [if_neg hk] at e
    obtain ⟨rfl, rfl⟩ := Prod.mk.inj e
    exact (shift_bad A0 c0 l0 a1 a2 w hr0 hc0 hk).mono fun e w' ⟨h1, h2⟩ => ⟨_, h1, Kd.R_nil _ _ _ _ _, h2⟩
section
attribute [local go_sem] max2_int min2_int max_two min_two max_three min_three max_four min_four
def move_Copy_g.f (a0 : ByteArray) (a1 : Int) (a2 : Int) : Option (ByteArray × Int) := (strings_CutPrefix.f a0 (⟨#[61]⟩ : ByteArray)).bind fun bt101 => (if bt101.2 = true then ((tree_Parse_g.f bt101.1).bind fun bt103 => (if bt103.2.1 = 0 then ((move_Shift_g.f bt103.1 a1 a2).bind fun bt108 => ((tree_Print_g.f bt108.1).bind fun bt112 => (if (bt112.1.size : Int) ≥ 1024 then (some ((⟨#[]⟩ : ByteArray), 2)) else (if 1 + bt112.1.size ≤ 9223372036854775807 then (some ((⟨#[61]⟩ : ByteArray) ++ bt112.1, 0)) else (none))))) else (some ((⟨#[]⟩ : ByteArray), bt103.2.1)))) else (some (a0, 0)))
set_option maxHeartbeats 8000000 in
set_option maxRecDepth 100000 in
theorem move_Copy_g.calls (a0 : ByteArray) (a1 : Int) (a2 : Int) (r1 : ByteArray) (r2 : Int) (w : World) (hG : GL w) (h : move_Copy_g.f a0 a1 a2 = some (r1, r2)) :
 Calls Tryz.prog 41 #[.string a0, .int .i64 a1, .int .i64 a2] w fun e w' => e = .returned (.tuple #[.string r1, .int .i64 r2]) ∧ Below w.heap.size w w' := by
 have HB := aM (Below.refl w.heap.size w)
 have H := h
 unfold move_Copy_g.f at H
 clear h
 replace H := Option.bind_eq_some_iff.mp H
 obtain ⟨⟨t101, t102⟩, A40, H⟩ := H
 try dsimp only at H
 have A4 := aM A40
 clear A40
 by_cases c5 : t102 = true
 ·subst c5
  rw [if_pos rfl] at H
  replace H := Option.bind_eq_some_iff.mp H
  obtain ⟨⟨t103, t104, t105⟩, A60, H⟩ := H
  try dsimp only at H
  have A6 := aM A60
  clear A60
  by_cases c7 : t104 = 0
  ·rw [if_pos c7] at H
   obtain ⟨c7b0, c7b1⟩ := bqT c7
   clear c7
   replace H := Option.bind_eq_some_iff.mp H
   obtain ⟨⟨t108, t109⟩, A80, H⟩ := H
   try dsimp only at H
   have A8 := aM A80
   clear A80
   replace H := Option.bind_eq_some_iff.mp H
   obtain ⟨⟨t112, t113⟩, A90, H⟩ := H
   try dsimp only at H
   have A9 := aM A90
   clear A90
   by_cases c10 : (t112.size : Int) ≥ 1024
   ·rw [if_pos c10] at H
    have c10b0 : decide (1024 ≤ (t112.size : Int)) = true := decide_eq_true c10
    have c10b1 : decide (1024 ≤ t112.size) = true := decide_eq_true (by omega)
    clear c10
    simp only [Option.some.injEq, Prod.mk.injEq] at H
    obtain ⟨rfl, rfl⟩ := H
    go_enter Tryz.func41, Tryz.ntmps41
    go_wp2_with (first | ((with_reducible refine gate_callee (f := 64) rfl ?_); refine gL 17 Tryz.func64 #[.string a0, .string (⟨#[61]⟩ : ByteArray)] ?_; (with_reducible refine (strings_CutPrefix.calls a0 (⟨#[61]⟩ : ByteArray) t101 true _ A4.out).mono ?_); rintro e w' ⟨rfl, ⟨nd, rfl⟩⟩; refine ⟨_, rfl, ?_⟩) | ((with_reducible refine gate_callee (f := 21) rfl ?_); refine gL 25 Tryz.func21 #[.string t101] ?_; (with_reducible refine (tree_Parse_g.calls t101 t103 t104 t105 _ ?side1 A6.out).mono ?_); (case side1 => exact GL.below hG bE); rintro e w11 ⟨v106, rfl, ho0, hb⟩; refine ⟨_, rfl, ?_⟩; have HO107 := aM (Kd.R_lower ho0 (below_size bE)); replace HB := aM (below_step bE hb); (try clear hb); (try clear ho0); obtain ⟨Ao12, co12, eo12⟩ := Kd.R_slice HO107.out; subst eo12) | ((with_reducible refine gate_callee (f := 37) rfl ?_); refine gL 36 Tryz.func37 #[.slice Ao12 t103.length co12, .int .i64 a1, .int .i64 a2] ?_; (with_reducible refine (move_Shift_g.calls _ _ t103 a1 a2 t108 t109 _ ?side1 ?side2 A8.out).mono ?_); (case side1 => repeat (first | exact (Kd.R_reads' HO107.out).2.2 | (with_reducible refine Kd.C_alloc ?_ _) | (with_reducible refine Kd.C_drewN ?_ _) | (with_reducible refine Kd.C_drew ?_))); (case side2 => exact (Kd.R_reads' HO107.out).2.1); rintro e w13 ⟨v110, rfl, ho0, hb⟩; refine ⟨_, rfl, ?_⟩; have HO111 := aM (Kd.R_lower (Kd.R_new' ho0 (Kd.R_lt (by (with_reducible repeat (first | apply Kd.R_alloc | apply Kd.R_drewN | apply Kd.R_drew)); exact HO107.out))) (below_size bE)); replace HO107 := aM (Kd.R_elder' (by (with_reducible repeat (first | apply Kd.R_alloc | apply Kd.R_drewN | apply Kd.R_drew)); exact HO107.out) (Kd.R_base ho0) hb); replace HB := aM (below_step bE hb); (try clear hb); (try clear ho0); obtain ⟨Ao14, co14, eo14⟩ := Kd.R_slice HO111.out; subst eo14) | ((with_reducible refine gate_callee (f := 26) rfl ?_); refine gL 41 Tryz.func26 #[.slice Ao14 t108.length co14] ?_; (with_reducible refine (tree_Print_g.calls _ _ t108 t112 t113 _ ?side3 ?side1 ?side2 A9.out).mono ?_); (case side1 => repeat (first | exact (Kd.R_reads' HO111.out).2.2 | (with_reducible refine Kd.C_alloc ?_ _) | (with_reducible refine Kd.C_drewN ?_ _) | (with_reducible refine Kd.C_drew ?_))); (case side2 => exact (Kd.R_reads' HO111.out).2.1); (case side3 => exact GL.below hG bE); rintro e w15 ⟨rfl, hb⟩; refine ⟨_, rfl, ?_⟩; replace HO107 := aM (Kd.R_below (by (with_reducible repeat (first | apply Kd.R_alloc | apply Kd.R_drewN | apply Kd.R_drew)); exact HO107.out) hb); replace HO111 := aM (Kd.R_below (by (with_reducible repeat (first | apply Kd.R_alloc | apply Kd.R_drewN | apply Kd.R_drew)); exact HO111.out) hb); replace HB := aM (below_step bE hb); (try clear hb)))
    go_ret2
    exact ⟨eR, bE⟩
   ·rw [if_neg c10] at H
    have c10b0 : decide (1024 ≤ (t112.size : Int)) = false := decide_eq_false c10
    have c10b1 : decide (1024 ≤ t112.size) = false := decide_eq_false (by omega)
    clear c10
    by_cases c16 : 1 + t112.size ≤ 9223372036854775807
    ·rw [if_pos c16] at H
     have c16b0 := eq_true c16
     have c16b1 : decide (1 + t112.size ≤ 9223372036854775807) = true := decide_eq_true c16
     try have c16b2 : (9223372036854775807 < 1 + t112.size) = False := eq_false (Nat.not_lt.2 c16)
     simp only [Option.some.injEq, Prod.mk.injEq] at H
     obtain ⟨rfl, rfl⟩ := H
     go_enter Tryz.func41, Tryz.ntmps41
     go_wp2_with (first | ((with_reducible refine gate_callee (f := 64) rfl ?_); refine gL 17 Tryz.func64 #[.string a0, .string (⟨#[61]⟩ : ByteArray)] ?_; (with_reducible refine (strings_CutPrefix.calls a0 (⟨#[61]⟩ : ByteArray) t101 true _ A4.out).mono ?_); rintro e w' ⟨rfl, ⟨nd, rfl⟩⟩; refine ⟨_, rfl, ?_⟩) | ((with_reducible refine gate_callee (f := 21) rfl ?_); refine gL 25 Tryz.func21 #[.string t101] ?_; (with_reducible refine (tree_Parse_g.calls t101 t103 t104 t105 _ ?side1 A6.out).mono ?_); (case side1 => exact GL.below hG bE); rintro e w17 ⟨v106, rfl, ho0, hb⟩; refine ⟨_, rfl, ?_⟩; have HO107 := aM (Kd.R_lower ho0 (below_size bE)); replace HB := aM (below_step bE hb); (try clear hb); (try clear ho0); obtain ⟨Ao18, co18, eo18⟩ := Kd.R_slice HO107.out; subst eo18) | ((with_reducible refine gate_callee (f := 37) rfl ?_); refine gL 36 Tryz.func37 #[.slice Ao18 t103.length co18, .int .i64 a1, .int .i64 a2] ?_; (with_reducible refine (move_Shift_g.calls _ _ t103 a1 a2 t108 t109 _ ?side1 ?side2 A8.out).mono ?_); (case side1 => repeat (first | exact (Kd.R_reads' HO107.out).2.2 | (with_reducible refine Kd.C_alloc ?_ _) | (with_reducible refine Kd.C_drewN ?_ _) | (with_reducible refine Kd.C_drew ?_))); (case side2 => exact (Kd.R_reads' HO107.out).2.1); rintro e w19 ⟨v110, rfl, ho0, hb⟩; refine ⟨_, rfl, ?_⟩; have HO111 := aM (Kd.R_lower (Kd.R_new' ho0 (Kd.R_lt (by (with_reducible repeat (first | apply Kd.R_alloc | apply Kd.R_drewN | apply Kd.R_drew)); exact HO107.out))) (below_size bE)); replace HO107 := aM (Kd.R_elder' (by (with_reducible repeat (first | apply Kd.R_alloc | apply Kd.R_drewN | apply Kd.R_drew)); exact HO107.out) (Kd.R_base ho0) hb); replace HB := aM (below_step bE hb); (try clear hb); (try clear ho0); obtain ⟨Ao20, co20, eo20⟩ := Kd.R_slice HO111.out; subst eo20) | ((with_reducible refine gate_callee (f := 26) rfl ?_); refine gL 41 Tryz.func26 #[.slice Ao20 t108.length co20] ?_; (with_reducible refine (tree_Print_g.calls _ _ t108 t112 t113 _ ?side3 ?side1 ?side2 A9.out).mono ?_); (case side1 => repeat (first | exact (Kd.R_reads' HO111.out).2.2 | (with_reducible refine Kd.C_alloc ?_ _) | (with_reducible refine Kd.C_drewN ?_ _) | (with_reducible refine Kd.C_drew ?_))); (case side2 => exact (Kd.R_reads' HO111.out).2.1); (case side3 => exact GL.below hG bE); rintro e w21 ⟨rfl, hb⟩; refine ⟨_, rfl, ?_⟩; replace HO107 := aM (Kd.R_below (by (with_reducible repeat (first | apply Kd.R_alloc | apply Kd.R_drewN | apply Kd.R_drew)); exact HO107.out) hb); replace HO111 := aM (Kd.R_below (by (with_reducible repeat (first | apply Kd.R_alloc | apply Kd.R_drewN | apply Kd.R_drew)); exact HO111.out) hb); replace HB := aM (below_step bE hb); (try clear hb)))
     go_ret2
     exact ⟨eR, bE⟩
    ·rw [if_neg c16] at H
     exact absurd H (by simp)
  ·rw [if_neg c7] at H
   obtain ⟨c7b0, c7b1⟩ := bqF c7
   simp only [Option.some.injEq, Prod.mk.injEq] at H
   obtain ⟨rfl, rfl⟩ := H
   go_enter Tryz.func41, Tryz.ntmps41
   go_wp2_with (first | ((with_reducible refine gate_callee (f := 64) rfl ?_); refine gL 17 Tryz.func64 #[.string a0, .string (⟨#[61]⟩ : ByteArray)] ?_; (with_reducible refine (strings_CutPrefix.calls a0 (⟨#[61]⟩ : ByteArray) t101 true _ A4.out).mono ?_); rintro e w' ⟨rfl, ⟨nd, rfl⟩⟩; refine ⟨_, rfl, ?_⟩) | ((with_reducible refine gate_callee (f := 21) rfl ?_); refine gL 25 Tryz.func21 #[.string t101] ?_; (with_reducible refine (tree_Parse_g.calls t101 t103 t104 t105 _ ?side1 A6.out).mono ?_); (case side1 => exact GL.below hG bE); rintro e w22 ⟨v106, rfl, ho0, hb⟩; refine ⟨_, rfl, ?_⟩; have HO107 := aM (Kd.R_lower ho0 (below_size bE)); replace HB := aM (below_step bE hb); (try clear hb); (try clear ho0)))
   go_ret2
   exact ⟨eR, bE⟩
 ·replace c5 := Bool.eq_false_iff.mpr c5
  subst c5
  rw [if_neg Bool.false_ne_true] at H
  simp only [Option.some.injEq, Prod.mk.injEq] at H
  obtain ⟨rfl, rfl⟩ := H
  go_enter Tryz.func41, Tryz.ntmps41
  go_wp2_with (first | ((with_reducible refine gate_callee (f := 64) rfl ?_); refine gL 17 Tryz.func64 #[.string a0, .string (⟨#[61]⟩ : ByteArray)] ?_; (with_reducible refine (strings_CutPrefix.calls a0 (⟨#[61]⟩ : ByteArray) t101 false _ A4.out).mono ?_); rintro e w' ⟨rfl, ⟨nd, rfl⟩⟩; refine ⟨_, rfl, ?_⟩))
  go_ret2
  exact ⟨eR, bE⟩
end
section
attribute [local go_sem] max2_int min2_int max_two min_two max_three min_three max_four min_four
def ab6.f  : Option (Bool) := (move_Copy_g.f (⟨#[61, 65, 49]⟩ : ByteArray) 1 0).bind fun bt101 => (if bt101.2 = 0 then (some (bt101.1.toList == ([61, 65, 50] : List UInt8))) else (some false))
set_option maxHeartbeats 8000000 in
set_option maxRecDepth 100000 in
theorem ab6.calls  (r : Bool) (w : World) (hG : GL w) (h : ab6.f  = some r) :
 Calls Tryz.prog 39 #[] w fun e w' => e = .returned (.bool r) ∧ Below w.heap.size w w' := by
 have HB := aM (Below.refl w.heap.size w)
 have H := h
 unfold ab6.f at H
 clear h
 replace H := Option.bind_eq_some_iff.mp H
 obtain ⟨⟨t101, t102⟩, A10, H⟩ := H
 try dsimp only at H
 have A1 := aM A10
 clear A10
 by_cases c2 : t102 = 0
 ·rw [if_pos c2] at H
  obtain ⟨c2b0, c2b1⟩ := bqT c2
  clear c2
  obtain rfl := Option.some.inj H
  go_enter Tryz.func39, Tryz.ntmps39
  go_wp2_with (first | ((with_reducible refine gate_callee (f := 41) rfl ?_); refine gL 4 Tryz.func41 #[.string (⟨#[61, 65, 49]⟩ : ByteArray), .int .i64 1, .int .i64 0] ?_; (with_reducible refine (move_Copy_g.calls (⟨#[61, 65, 49]⟩ : ByteArray) 1 0 t101 t102 _ ?side1 A1.out).mono ?_); (case side1 => exact GL.below hG bE); rintro e w3 ⟨rfl, hb⟩; refine ⟨_, rfl, ?_⟩; replace HB := aM (below_step bE hb); (try clear hb)))
  go_ret
  exact ⟨eR, bE⟩
 ·rw [if_neg c2] at H
  obtain ⟨c2b0, c2b1⟩ := bqF c2
  obtain rfl := Option.some.inj H
  go_enter Tryz.func39, Tryz.ntmps39
  go_wp2_with (first | ((with_reducible refine gate_callee (f := 41) rfl ?_); refine gL 4 Tryz.func41 #[.string (⟨#[61, 65, 49]⟩ : ByteArray), .int .i64 1, .int .i64 0] ?_; (with_reducible refine (move_Copy_g.calls (⟨#[61, 65, 49]⟩ : ByteArray) 1 0 t101 t102 _ ?side1 A1.out).mono ?_); (case side1 => exact GL.below hG bE); rintro e w4 ⟨rfl, hb⟩; refine ⟨_, rfl, ?_⟩; replace HB := aM (below_step bE hb); (try clear hb)))
  go_ret
  exact ⟨eR, bE⟩
end
theorem quot_at (c : UInt8) (r : List UInt8) (h : (quotL (c :: r)).2.2 ≠ 0) : (quotL (c :: r)).2.1 ≤ (c :: r).length := by
 unfold quotL at h ⊢
 cases hq : qend ((c :: r).drop 1) with
 | none => simp
 | some e =>
  rw [hq] at h
  simp only at h ⊢
  cases hb : badAt ((c :: r).take (e + 2)) with
  | some i =>
   have := badAt_le _ _ hb
   rw [List.length_take] at this
   simp only; omega
  | none => rw [hb] at h; exact absurd rfl h
theorem next_at (c : UInt8) (r : List UInt8) (h : (nextL (c :: r)).2.2.2 ≠ 0) : (nextL (c :: r)).2.2.1 ≤ (c :: r).length := by
 rw [nextL] at h ⊢
 split
 ·exact num_le _
 rename_i hd
 rw [if_neg hd] at h
 split
 ·rename_i h34
  rw [if_pos h34] at h
  exact quot_at c r h
 ·split
  ·exact runL_le _ _
  ·have hpre : ∀ L, (beginsL (c :: r) L).length ≤ (c :: r).length := by
    intro L
    obtain ⟨q, hq⟩ := begins_pre (c :: r) L
    have := congrArg List.length hq
    rw [List.length_append] at this
    omega
   split
   ·split
    ·simp
    ·exact hpre _
   ·split
    ·exact hpre _
    ·split <;> simp
theorem scan_at : ∀ (n : Nat) (l : List UInt8) (k p : Nat) (c q : Int), l.length ≤ n → scanL k p l = .error (c, q) → (p : Int) ≤ q ∧ q ≤ ((p + l.length : Nat) : Int)
 | n, l, 0, p, c, q, hn, h => by cases h
 | n, [], k + 1, p, c, q, hn, h => by cases h
 | 0, d :: r, k + 1, p, c, q, hn, h => by simp at hn
 | n + 1, d :: r, k + 1, p, c, q, hn, h => by
  simp only [List.length_cons] at hn
  rw [scanL] at h
  split at h
  ·have := scan_at n r k (p + 1) c q (by omega) h
   rw [List.length_cons]; omega
  ·split at h
   ·rename_i h0
    have hl := next_len d r h0
    split at h
    ·cases h
    ·rename_i e he
     cases h
     have := scan_at n _ k _ c q (by rw [List.length_drop, List.length_cons]; omega) he
     rw [List.length_drop] at this
     omega
   ·rename_i h0
    have := next_at d r h0
    cases h
    omega
theorem toks_at : ∀ (n : Nat) (l : List UInt8) (k p : Nat) (ts : List S39), l.length ≤ n → scanL k p l = .ok ts → ∀ t ∈ ts, (p : Int) ≤ t.f2 ∧ t.f2 ≤ ((p + l.length : Nat) : Int)
 | n, l, 0, p, ts, hn, h => by cases h; intro t ht; cases ht
 | n, [], k + 1, p, ts, hn, h => by cases h; intro t ht; cases ht
 | 0, c :: r, k + 1, p, ts, hn, h => by simp at hn
 | n + 1, c :: r, k + 1, p, ts, hn, h => by
  simp only [List.length_cons] at hn
  rw [scanL] at h
  split at h
  ·intro t ht
   have := toks_at n r k (p + 1) ts (by omega) h t ht
   rw [List.length_cons]; omega
  ·split at h
   ·rename_i h0
    have hl := next_len c r h0
    split at h
    ·rename_i us hu
     cases h
     intro t ht
     rcases List.mem_cons.1 ht with rfl | ht
     ·show (p : Int) ≤ (p : Int) ∧ (p : Int) ≤ _
      omega
     ·have := toks_at n _ k _ us (by rw [List.length_drop, List.length_cons]; omega) hu t ht
      rw [List.length_drop] at this
      omega
    ·cases h
   ·cases h
theorem fail_at {ts : List S39} {n : Nat} (h : ∀ t ∈ ts, (0 : Int) ≤ t.f2 ∧ t.f2 ≤ (n : Int)) (i : Int) : 0 ≤ failAt ts (n : Int) i ∧ failAt ts (n : Int) i ≤ n := by
 unfold failAt
 split
 ·rcases tokA_mem (ts := ts) i with e | e
  ·rw [e]
   show (0 : Int) ≤ 0 ∧ (0 : Int) ≤ n
   omega
  ·exact h _ e
 ·omega
theorem parse_cases (l : List UInt8) : ((parseL l).2.1 = 0 ∧ (parseL l).2.2 = 0 ∧ chk (parseL l).1 = 0) ∨ ((parseL l).2.1 ≠ 0 ∧ (parseL l).1 = [] ∧ 0 ≤ (parseL l).2.2 ∧ (parseL l).2.2 ≤ l.length) := by
 unfold parseL
 by_cases hl : 1024 < l.length
 ·rw [if_pos hl]
  exact .inr ⟨by decide, rfl, by show (0 : Int) ≤ 0; omega, by show (0 : Int) ≤ _; omega⟩
 rw [if_neg hl]
 cases hsc : scanL l.length 0 l with
 | error q =>
  obtain ⟨c, p⟩ := q
  have h1 := scan_er _ l _ _ c p (Nat.le_refl _) hsc
  have h2 := scan_at _ l _ _ c p (Nat.le_refl _) hsc
  rw [Nat.zero_add] at h2
  exact .inr ⟨h1, rfl, h2.1, h2.2⟩
 | ok ts =>
  simp only
  have ht := toks_at _ l _ _ ts (Nat.le_refl _) hsc
  rw [Nat.zero_add] at ht
  cases hw : wholeX ts (l.length : Int) with
  | error q =>
   obtain ⟨c, p⟩ := q
   have hf := wholeX_f ts (l.length : Int)
   rw [hw] at hf
   obtain ⟨hc, i, hi⟩ := whole_er theO ts _ _ c p hf
   have hp := fail_at (n := l.length) ht i
   rw [← hi] at hp
   exact .inr ⟨by show c ≠ 0; omega, rfl, hp.1, hp.2⟩
  | ok t =>
   simp only
   by_cases hc : chk t = 0
   ·rw [if_pos hc]
    exact .inl ⟨rfl, rfl, hc⟩
   ·rw [if_neg hc]
    exact .inr ⟨hc, rfl, by show (0 : Int) ≤ 0; omega, by show (0 : Int) ≤ _; omega⟩
section
set_option maxRecDepth 100000
theorem able6_true : ab6.f = some true := by kernel_rfl
end
def inR (a b : Int) : Prop := 0 ≤ a ∧ a < 65536 ∧ 0 ≤ b ∧ b < 256
instance (a b : Int) : Decidable (inR a b) := by unfold inR; infer_instance
theorem right_in (a b : Int) : place_Right.f 0 a b = some (decide (inR a b)) := by
 unfold place_Right.f place_sheet.f place_row.f place_column.f inR
 by_cases h1 : 0 ≤ a <;> by_cases h2 : a < 65536 <;> by_cases h3 : 0 ≤ b <;> by_cases h4 : b < 256 <;> simp [h1, h2, h3, h4]
theorem shift_in {a b x y : Int} (h : inR a b) (hx : -1000000000 ≤ x ∧ x ≤ 1000000000) (hy : -1000000000 ≤ y ∧ y ≤ 1000000000) : place_Shift.f 100 0 a b x y = some (if inR (a + x) (b + y) then (0, a + x, b + y, true) else (0, 0, 0, false)) := by
 have hw : wrap64 (a + x) = a + x ∧ wrap64 (b + y) = b + y := by unfold inR at h; unfold wrap64; omega
 have hj : ∀ z : Bool, (z = true → ¬ inR (a + x) (b + y)) → place_Shift.j0 100 x y z 0 a b = some (if inR (a + x) (b + y) then (0, a + x, b + y, true) else (0, 0, 0, false)) := by
  intro z hz
  rw [place_Shift.j0]
  by_cases ht : z = true
  ·rw [if_pos ht, if_neg (hz ht)]
  ·rw [if_neg ht, hw.1, hw.2, right_in, Option.bind_some]
   by_cases hi : inR (a + x) (b + y)
   ·rw [if_pos (decide_eq_true hi), if_pos hi]
   ·rw [if_neg (by simpa using hi), if_neg hi]
 unfold place_Shift.f
 rw [right_in, Option.bind_some, if_pos (decide_eq_true h)]
 have hn : ∀ z : Bool, (z = true → (x < -65536 ∨ 65536 < x ∨ y < -256 ∨ 256 < y)) → z = true → ¬ inR (a + x) (b + y) := by
  intro z h1 h2
  have := h1 h2
  unfold inR at h ⊢
  omega
 generalize (if inR (a + x) (b + y) then ((0 : Int), a + x, b + y, true) else (0, 0, 0, false)) = R at hj ⊢
 repeat' split
 all_goals (apply hj; apply hn; intro hz; first | omega | (have := of_decide_eq_true hz; omega))
theorem mv_in {r : S48} (h : refR r = true) {x y : Int} (hx : -1000000000 ≤ x ∧ x ≤ 1000000000) (hy : -1000000000 ≤ y ∧ y ≤ 1000000000) :
 mvR x y r = (if inR (r.f1 + if r.f3 = true then 0 else x) (r.f2 + if r.f4 = true then 0 else y) then (⟨r.f0, r.f1 + (if r.f3 = true then 0 else x), r.f2 + (if r.f4 = true then 0 else y), r.f3, r.f4⟩, true) else (⟨r.f0, 0, 0, r.f3, r.f4⟩, false)) := by
 have hr : inR r.f1 r.f2 := by
  unfold refR refB at h
  simp only [Bool.and_eq_true, decide_eq_true_eq] at h
  exact h.2
 unfold mvR
 rw [shift_in hr (by split <;> omega) (by split <;> omega)]
 by_cases hi : inR (r.f1 + if r.f3 = true then 0 else x) (r.f2 + if r.f4 = true then 0 else y)
 ·rw [if_pos hi, if_pos hi]
 ·rw [if_neg hi, if_neg hi]
theorem parts_cell {r : S48} (h : refR r = true) : partsS (nCell r) = 0 := by
 have h : refB r.f0 r.f1 r.f2 = true := h
 have hz : refB zR.f0 zR.f1 zR.f2 = true := by kernel_rfl
 unfold partsS partsF
 rw [if_neg (by show ¬ (2 : Int) = 1; decide), if_pos (show (nCell r).f0 = 2 from rfl)]
 show partsV2 _ _ _ _ _ _ _ _ _ r.f0 r.f1 r.f2 r.f3 r.f4 _ _ _ _ _ (refB r.f0 r.f1 r.f2) _ = 0
 rw [h]
 kernel_rfl
theorem parts_area {r s : S48} (h : refR r = true) (hs : refR s = true) (he : s.f0 = eB) : partsS (nArea r s) = 0 := by
 obtain ⟨s0, s1, s2, s3, s4⟩ := s
 obtain rfl : s0 = eB := he
 have h : refB r.f0 r.f1 r.f2 = true := h
 have hs : refB eB s1 s2 = true := hs
 unfold partsS partsF
 rw [if_neg (by show ¬ (3 : Int) = 1; decide), if_neg (by show ¬ (3 : Int) = 2; decide), if_pos (show (nArea r ⟨eB, s1, s2, s3, s4⟩).f0 = 3 from rfl)]
 show partsV3 _ _ _ _ _ _ _ _ _ r.f0 r.f1 r.f2 r.f3 r.f4 eB s1 s2 s3 s4 (refB r.f0 r.f1 r.f2) (refB eB s1 s2) = 0
 rw [h, hs]
 kernel_rfl
theorem ref_in {r : S48} (h : refR r = true) {a b : Int} (hi : inR a b) : refR ⟨r.f0, a, b, r.f3, r.f4⟩ = true := by
 unfold refR refB at h ⊢
 simp only [Bool.and_eq_true, decide_eq_true_eq] at h ⊢
 exact ⟨h.1, hi⟩
theorem lost_parts : partsS lostN = 0 := by kernel_rfl
theorem sh_parts {n : S50} (h : 0 ≤ partsS n) {x y : Int} (hx : -1000000000 ≤ x ∧ x ≤ 1000000000) (hy : -1000000000 ≤ y ∧ y ≤ 1000000000) : partsS (shN x y n) = partsS n := by
 have hg := good_of n h
 generalize hz : partsS n = z at hg
 cases hg with
 | cell r hr =>
  obtain ⟨A, B, hAB⟩ : ∃ A B, mvR x y r = (if inR A B then (⟨r.f0, A, B, r.f3, r.f4⟩, true) else (⟨r.f0, 0, 0, r.f3, r.f4⟩, false)) := ⟨_, _, mv_in hr hx hy⟩
  unfold shN
  rw [if_pos (show (nCell r).f0 = 2 from rfl), show (nCell r).f5 = r from rfl, hAB]
  by_cases hi : inR A B
  ·rw [if_pos hi, if_pos rfl]
   exact parts_cell (ref_in hr hi)
  ·rw [if_neg hi, if_neg (show ¬ (false : Bool) = true by decide)]
   exact lost_parts
 | area r s hr hs he =>
  obtain ⟨A, B, hAB⟩ : ∃ A B, mvR x y r = (if inR A B then (⟨r.f0, A, B, r.f3, r.f4⟩, true) else (⟨r.f0, 0, 0, r.f3, r.f4⟩, false)) := ⟨_, _, mv_in hr hx hy⟩
  obtain ⟨C, D, hCD⟩ : ∃ A B, mvR x y s = (if inR A B then (⟨s.f0, A, B, s.f3, s.f4⟩, true) else (⟨s.f0, 0, 0, s.f3, s.f4⟩, false)) := ⟨_, _, mv_in hs hx hy⟩
  unfold shN
  rw [if_neg (by show ¬ (3 : Int) = 2; decide), if_pos (show (nArea r s).f0 = 3 from rfl), show (nArea r s).f5 = r from rfl, show (nArea r s).f6 = s from rfl, hAB, hCD]
  by_cases h1 : inR A B
  ·by_cases h2 : inR C D
   ·rw [if_pos h1, if_pos h2, if_pos ⟨rfl, rfl⟩]
    exact parts_area (ref_in hr h1) (ref_in hs h2) he
   ·rw [if_neg h2, if_neg (show ¬ (_ ∧ (false : Bool) = true) from fun h => absurd h.2 (by decide))]
    exact lost_parts
  ·rw [if_neg h1, if_neg (show ¬ ((false : Bool) = true ∧ _) from fun h => absurd h.1 (by decide))]
   exact lost_parts
 | _ => exact hz
end Go.Proofs.YtejbbceidnaloaaGreatDoor.P
