import Derived.Test.YtejbbceidnaloaaGreatDoorU19
import Derived.Lib.ItoaNum
import Derived.Lib.SplitLaws
import Derived.Lib.Replace
namespace Go.Proofs.YtejbbceidnaloaaGreatDoor.P
open Go.RowKit Go.Proofs.YtejbbceidnaloaaGreatDoorW.PrintWords Go.Proofs.YtejbbceidnaloaaGreatDoorW.PrintLast Go.Proofs.YtejbbceidnaloaaGreatDoorW.PrintMore
set_option linter.unusedVariables false
set_option linter.unusedSimpArgs false
theorem right_some (a b c : Int) : ∃ t, Nag.f a b c = some t := by
 unfold Nag.f Nbr.f Ncg.f Nbu.f
 repeat' (first | exact ⟨_, rfl⟩ | split | simp only [Option.bind_some])
theorem sh_some (a b x y : Int) : ∃ t0 t1 t2 t3, Nad.f 100 0 a b x y = some (t0, t1, t2, t3) := by
 have hj : ∀ z, ∃ t0 t1 t2 t3, Nad.j0 100 x y z 0 a b = some (t0, t1, t2, t3) := by
  intro z
  rw [Nad.j0]
  split
  ·exact ⟨_, _, _, _, rfl⟩
  ·obtain ⟨t, ht⟩ := right_some 0 (wrap64 (a + x)) (wrap64 (b + y))
   rw [ht, Option.bind_some]
   split <;> exact ⟨_, _, _, _, rfl⟩
 obtain ⟨t, ht⟩ := right_some 0 a b
 unfold Nad.f
 rw [ht, Option.bind_some]
 repeat' split
 all_goals exact hj _
def mvR (rows cols : Int) (r : S48) : S48 × Bool := match Nad.f 100 0 r.f1 r.f2 (if r.f3 = true then 0 else rows) (if r.f4 = true then 0 else cols) with
 | some (_, a, b, ok) => (⟨r.f0, a, b, r.f3, r.f4⟩, ok)
 | none => (r, false)
set_option maxRecDepth 100000 in
set_option maxHeartbeats 4000000 in
theorem mv_go (s : ByteArray) (a b rows cols t0 t1 t2 : Int) (p q t3 : Bool) (w : World) (h : Nad.f 100 0 a b (if p = true then 0 else rows) (if q = true then 0 else cols) = some (t0, t1, t2, t3)) :
 Calls Tryz.prog 61 #[.agg #[.string s, .int .i64 a, .int .i64 b, .bool p, .bool q], .int .i64 rows, .int .i64 cols] w fun e w' => e = .returned (.tuple #[.agg #[.string s, .int .i64 t1, .int .i64 t2, .bool p, .bool q], .bool t3]) ∧ Below w.heap.size w w' := by
 have HS := lh (fun w => Nad.calls 100 0 a b _ _ t0 t1 t2 t3 w h)
 have hu48 := Tryz.underlying48
 clear h
 go_enter Tryz.func61, Tryz.ntmps61
 go_upto_region 1 with (first
  | ((with_reducible refine gate_dst (N := 3) rfl ?_); refine bX 3 #[.string s, .int .i64 a, .int .i64 b, .bool p, .bool q] 48 ?_; intro g3 hg_ w1 hb_ hl_; have B1 := lh hl_; have G3 := lh (show w.heap.size ≤ g3 from hg_ ▸ Nat.le_refl _); have J1 := lh hb_; clear hb_ hl_ hg_)
  | ((with_reducible refine gate_dst (N := 6) rfl ?_); refine bX 6 #[.string ⟨#[]⟩, .int .i64 0, .int .i64 0, .bool false, .bool false] 48 ?_; intro g6 hg_ w2 hb_ hl_; have B2 := lh (below_step B1.out hl_); have G6 := lh (show w.heap.size ≤ g6 from hg_ ▸ B1.out.size); have J2 := lh (blk_below J1.out hl_); have NE := lh (show g6 ≠ g3 by have := blk_lt J1.out; omega); have K2 := lh hb_; clear hb_ hl_ hg_ B1 J1))
 have f3 : w2.cell? ⟨g3, 3, none⟩ = some (.bool p) := (blk_cell J2.out 3).trans rfl
 have f4 : w2.cell? ⟨g3, 4, none⟩ = some (.bool q) := (blk_cell J2.out 4).trans rfl
 have f1 : w2.cell? ⟨g3, 1, none⟩ = some (.int .i64 a) := (blk_cell J2.out 1).trans rfl
 have f2 : w2.cell? ⟨g3, 2, none⟩ = some (.int .i64 b) := (blk_cell J2.out 2).trans rfl
 cases p <;> cases q
 all_goals
  simp only [if_true, Bool.false_eq_true, if_false] at HS
  go_upto_region 6 with (first
   | (go_at_call 99; (with_reducible refine (HS.out _).mono ?_); rintro en w3 ⟨rfl, hb⟩; have B3 := lh (below_step B2.out hb); have J3 := lh (blk_below J2.out hb); have K3 := lh (blk_below K2.out hb); clear hb B2 J2 K2)
   | ((with_reducible refine gate_dst (N := 8) rfl ?_); refine bX 8 #[.int .i64 0, .int .i64 0, .int .i64 0] 64 ?_; intro g8 hg_ w4 hb_ hl_; have B4 := lh (below_step B3.out hl_); have G8 := lh (show w.heap.size ≤ g8 from hg_ ▸ B3.out.size); have J4 := lh (blk_below J3.out hl_); have K4 := lh (blk_below K3.out hl_); have NJ := lh (show g3 ≠ g8 by have := blk_lt J3.out; omega); have NK := lh (show g6 ≠ g8 by have := blk_lt K3.out; omega); have I4 := lh hb_; clear hb_ hl_ hg_ B3 J3 K3)
   | ((with_reducible refine gate_ (.store 64 (.tmp 8) (.tmp 23)) rfl ?_); refine sE I4.out 64 (.tmp 8) (.tmp 23) 0 (.agg #[.int .i64 t0, .int .i64 t1, .int .i64 t2]) #[.int .i64 t0, .int .i64 t1, .int .i64 t2] ?_; intro w5 hb_ hp_; have B5 := lh (hp_.below w G8.out B4.out); have J5 := lh (hp_.blk J4.out NJ.out); have K5 := lh (hp_.blk K4.out NK.out); have I5 := lh hb_; clear hb_ hp_ B4 J4 K4 I4))
  refine start_ (n := 8) (S := fun w' => w'.cell? ⟨g8, 1, none⟩ = some (.int .i64 t1) ∧ w'.cell? ⟨g8, 2, none⟩ = some (.int .i64 t2)) (ds := [7]) #[false, false, false, false, false, false, false, false] (by kernel_rfl) rfl rfl ⟨(blk_cell (blk_drew I5.out) 1).trans rfl, (blk_cell (blk_drew I5.out) 2).trans rfl⟩ (fun hHeld => ?_)
  refine pP 0 25 ?_
  refine pP 2 27 ?_
  refine tP 1 26 hHeld ?_
  refine pP 4 29 ?_
  refine tP 3 28 hHeld ?_
  refine one_ (i := 5) (N := none) #[true, true, true, true, true, true, false, false] rfl rfl (by kernel_rfl) (by decide) (fun K hK => ?_)
  refine store_skip (g := g3) (o' := 1) (e := 48) (t := 3) (p := .tmp 29) (x := .tmp 26) (u := .int .i64 t1) (seg := [.int .i64 t1]) (by rfl) rfl rfl rfl rfl rfl (by kernel_rfl) (blk_drew J5.out) (by simp) (by rfl) rfl (fun w6 hb_ hp_ => ?_)
  have B6 := lh (hp_.below w G3.out B5.out.drew)
  have K6 := lh (hp_.blk (blk_drew K5.out) NE.out)
  have J6 := lh hb_
  refine hK.out _ _ ⟨(blk_cell (hp_.blk (blk_drew I5.out) NJ.out.symm) 1).trans rfl, (blk_cell (hp_.blk (blk_drew I5.out) NJ.out.symm) 2).trans rfl⟩ (fun hHeld => ?_)
  clear hK K hb_ hp_ B5 J5 K5 I5
  refine pP 6 30 ?_
  refine last_ (i := 7) (N := none) #[true, true, true, true, true, true, true, true] rfl rfl (by kernel_rfl) (by decide) (fun K hK => ?_)
  refine store_skip (g := g3) (o' := 2) (e := 48) (t := 3) (p := .tmp 30) (x := .tmp 28) (u := .int .i64 t2) (seg := [.int .i64 t2]) (by rfl) rfl rfl rfl rfl rfl (by kernel_rfl) J6.out (by simp [setRun]) (by rfl) rfl (fun w7 hb_ hp_ => ?_)
  have B7 := lh (hp_.below w G3.out B6.out)
  have K7 := lh (hp_.blk K6.out NE.out)
  have J7 := lh hb_
  refine hK.out _ _ ?_
  clear hK K hb_ hp_ B6 J6 K6 hHeld
  refine done_ (by kernel_rfl) ?_
  simp only [Exit.then, setRun, List.setIfInBounds_toArray, List.set_cons_zero, List.set_cons_succ] at J7 ⊢
  go_wp2_with (first
   | ((with_reducible refine gate_dst (N := 31) rfl ?_); refine lA J7.out 48 (.tmp 3) hu48 ?_)
   | ((with_reducible refine gate_ (.store 48 (.tmp 6) (.tmp 31)) rfl ?_); first
       | refine sE K7.out 48 (.tmp 6) (.tmp 31) 0 (.agg #[.string s, .int .i64 t1, .int .i64 t2, .bool true, .bool true]) #[.string s, .int .i64 t1, .int .i64 t2, .bool true, .bool true] ?_
       | refine sE K7.out 48 (.tmp 6) (.tmp 31) 0 (.agg #[.string s, .int .i64 t1, .int .i64 t2, .bool true, .bool false]) #[.string s, .int .i64 t1, .int .i64 t2, .bool true, .bool false] ?_
       | refine sE K7.out 48 (.tmp 6) (.tmp 31) 0 (.agg #[.string s, .int .i64 t1, .int .i64 t2, .bool false, .bool true]) #[.string s, .int .i64 t1, .int .i64 t2, .bool false, .bool true] ?_
       | refine sE K7.out 48 (.tmp 6) (.tmp 31) 0 (.agg #[.string s, .int .i64 t1, .int .i64 t2, .bool false, .bool false]) #[.string s, .int .i64 t1, .int .i64 t2, .bool false, .bool false] ?_
      intro w8 hb_ hp_; have B8 := lh (hp_.below w G6.out B7.out); have K8 := lh hb_; clear hb_ hp_ B7 K7 J7))
  refine bodyPost_ret (results_ct rfl _ _ g6 48 _ (0, 0) _ rfl K8.out Tryz.underlying48 rfl (by kernel_rfl)) rfl ?_
  exact ⟨rfl, B8.out⟩
theorem mv_calls (rows cols : Int) (r : S48) (w : World) : Calls Tryz.prog 61 #[.agg #[.string r.f0, .int .i64 r.f1, .int .i64 r.f2, .bool r.f3, .bool r.f4], .int .i64 rows, .int .i64 cols] w fun e w' => e = .returned (.tuple #[.agg #[.string (mvR rows cols r).1.f0, .int .i64 (mvR rows cols r).1.f1, .int .i64 (mvR rows cols r).1.f2, .bool (mvR rows cols r).1.f3, .bool (mvR rows cols r).1.f4], .bool (mvR rows cols r).2]) ∧ Below w.heap.size w w' := by
 obtain ⟨t0, t1, t2, t3, h⟩ := sh_some r.f1 r.f2 (if r.f3 = true then 0 else rows) (if r.f4 = true then 0 else cols)
 have := mv_go r.f0 r.f1 r.f2 rows cols t0 t1 t2 r.f3 r.f4 t3 w h
 unfold mvR
 rw [h]
 exact this
theorem txt_open (nm : ByteArray) : txt [(3, nm), mk [40]] = (nm ++ (⟨#[40]⟩ : ByteArray)).data.toList := by
 simp [Nbo, tk5, tk3, txt_nil, mk, mB]
set_option maxRecDepth 100000 in
set_option maxHeartbeats 4000000 in
theorem call_one {w0 : World} {lv : Value} {L : Lf} {l : List S50} {k : Nat} (ih : ∀ j, j < k → Prints w0 lv L l j) (hl : l.length ≤ 100000) : PrintsC w0 lv L l k := by
 intro n w g bs a T q hnm har hal h ht hlen
 obtain ⟨k0, ⟨vk, ⟨vn, vd⟩, vt, vb, ve⟩, op, nm, ar, ⟨s5, r5, c5, p5, q5⟩, ⟨s6, r6, c6, p6, q6⟩⟩ := n
 show Calls Tryz.prog 77 #[.pointer (some ⟨g, 0, none⟩), .agg #[.int .i64 k0, .int .i64 vk, .int .i64 vn, .int .i64 vd, .string vt, .bool vb, .int .i64 ve, .int .i64 op, .string nm, .int .i64 ar, .string s5, .int .i64 r5, .int .i64 c5, .bool p5, .bool q5, .string s6, .int .i64 r6, .int .i64 c6, .bool p6, .bool q6]] w (fun e w' => e = .returned (.tuple #[]) ∧ Wrote w0.heap.size w g (bs ++ txt ((3, nm) :: mk [40] :: (T ++ [mk [41]]))) lv ((l.length : Int) - q.length) w')
 replace hnm : nm.size ≤ 100000 := hnm
 replace har : ar ≤ 100000 := har
 replace ht : atkF L k true ar (l.drop a) = some (T, q) := ht
 replace hlen : (bs ++ txt ((3, nm) :: mk [40] :: (T ++ [mk [41]]))).length ≤ 1000000000 := hlen
 have HIH := lh ih
 have HT := lh ht
 have HAR := lh har
 have HLL := lh hl
 have HPB := lh h.bel
 have HLT := lh h.pr.lt
 have HB := lh h.bel.size
 have HP := lh (show Wrote w0.heap.size w g bs lv (a : Int) w from ⟨h.pr, Below.refl _ _, Far.refl _ _⟩)
 have hU0 : txt ((3, nm) :: mk [40] :: (T ++ [mk [41]])) = txt [(3, nm), mk [40]] ++ txt T ++ [41] := by
  rw [show (3, nm) :: mk [40] :: (T ++ [mk [41]]) = [(3, nm), mk [40]] ++ T ++ [mk [41]] by simp, Nbh, Nbh]; rfl
 have HU0 := lh hU0
 have HLEN := lh (show (bs ++ txt [(3, nm), mk [40]] ++ txt T).length + 1 ≤ 1000000000 by rw [hU0] at hlen; simp only [List.length_append, List.length_cons, List.length_nil] at hlen ⊢; omega)
 have HLS := lh (show bs.length + (nm ++ (⟨#[40]⟩ : ByteArray)).size ≤ 140737488355328 by have h2 := HLEN.out; rw [txt_open] at h2; simp only [List.length_append, Array.length_toList] at h2; have h3 : (nm ++ (⟨#[40]⟩ : ByteArray)).data.size = (nm ++ (⟨#[40]⟩ : ByteArray)).size := rfl; omega)
 have c1 : nm.size + 1 ≤ 9223372036854775807 := by omega
 have c1f : (9223372036854775807 < nm.size + 1) = False := eq_false (Nat.not_lt.2 c1)
 clear h ih ht hlen hU0 hnm har hl
 have hu50 := Tryz.underlying50
 go_enter Tryz.func77, Tryz.ntmps77
 go_upto_region 1 with ((with_reducible refine gate_dst (N := 3) rfl ?_); refine bX 3 #[.int .i64 k0, .int .i64 vk, .int .i64 vn, .int .i64 vd, .string vt, .bool vb, .int .i64 ve, .int .i64 op, .string nm, .int .i64 ar, .string s5, .int .i64 r5, .int .i64 c5, .bool p5, .bool q5, .string s6, .int .i64 r6, .int .i64 c6, .bool p6, .bool q6] 50 ?_; intro g3 hg_ w1 hb_ hl_; have NE := lh (show g3 ≠ g by have := HLT.out; omega); have HP1 := lh (HP.out.step HB.out hl_); have J := lh hb_; clear hb_ hl_ hg_ HP)
 have e8 : w1.cell? ⟨g3, 8, none⟩ = some (.string nm) := (blk_cell J.out 8).trans rfl
 have HSZ := lh (show w0.heap.size ≤ w1.drew.heap.size from Nat.le_trans HB.out HP1.out.bel.size)
 refine start_ (n := 7) (S := fun w' => w'.cell? ⟨g3, 8, none⟩ = some (.string nm)) (ds := []) #[false, false, false, false, false, false, false] (by kernel_rfl) rfl rfl (e8) (fun hHeld => ?_)
 refine pP 0 5 ?_
 refine pP 1 6 ?_
 refine pP 2 7 ?_
 refine pP 3 8 ?_
 refine take_ (i := 4) (N := some 9) (v := ?_) (a' := ?_) #[true, true, true, true, true, false, false] rfl rfl (by kernel_rfl) (fun _ _ _ h => h) (Or.inl ⟨by rfl, ?_⟩) hHeld ?_ ?_
 rotate_left
 ·intro w' s0
  go_simp
  with_reducible rfl
 rotate_left
 ·simp only [Act.put, List.setIfInBounds_toArray, List.set_cons_zero, List.set_cons_succ, i64_w, i32_w]
  rfl
 refine pP 5 10 ?_
 refine one_ (i := 6) (N := some 11) #[true, true, true, true, true, true, true] rfl rfl (by kernel_rfl) (by decide) (fun K hK => ?_)
 refine goes_ Tryz.func59 (by kernel_rfl) rfl #[.pointer (some ⟨g, 0, none⟩), .string (nm ++ (⟨#[40]⟩ : ByteArray))] (by rfl) rfl rfl (by simp only [List.map_toArray, List.map_cons, List.map_nil]; rfl) ?_
 with_reducible refine (Nan HP1.out.pr.drew (nm ++ (⟨#[40]⟩ : ByteArray)) HLS.out HSZ.out).mono ?_
 rintro en w2 ⟨rfl, hw⟩
 refine ⟨_, rfl, ?_⟩
 have HP2 := lh (HP1.out.drewn.trans hw)
 have J2 := lh (hw.far _ _ _ _ NE.out (by decide) (blk_drew J.out))
 clear hw
 refine hK.out _ _ ((blk_cell J2.out 8).trans rfl) (fun hHeld => ?_)
 clear hK K
 refine nP 11 ?_
 refine done_ (by kernel_rfl) ?_
 clear hHeld c1 c1f HSZ HLS e8 HP1 J
 have e9 : w2.cell? ⟨g3, 9, none⟩ = some (.int .i64 ar) := (blk_cell J2.out 9).trans rfl
 go_wp2_with (fail)
 clear e9
 have HST := lh (show (bs ++ txt [(3, nm), mk [40]]) ++ txt [] = bs ++ (nm ++ (⟨#[40]⟩ : ByteArray)).data.toList by rw [txt_open, txt_nil, List.append_nil])
 generalize ((nm ++ (⟨#[40]⟩ : ByteArray)).size : Int) = sz
 go_loopg [14] k (fun jq v14 w' => ∃ (i b : Nat) (dn U : List Tk), v14 = .int .i64 i ∧ Hid (atkF L jq (decide (i = 0)) (ar - i) (l.drop b) = some (U, q)) ∧ Hid (dn ++ U = T) ∧ Hid (jq ≤ k) ∧ Hid (Wrote w0.heap.size w g ((bs ++ txt [(3, nm), mk [40]]) ++ txt dn) lv (b : Int) w') ∧ Hid (b ≤ l.length))
 case atStart => exact ⟨0, a, [], T, rfl, lh (by have h := HT.out; rw [show ar - ((0 : Nat) : Int) = ar by omega]; exact h), lh rfl, lh (Nat.le_refl _), lh (by rw [HST.out]; exact HP2.out), lh hal⟩
 case round =>
  clear HP2 HST J2 hHeld
  obtain ⟨i, b, dn, U, rfl, HR, HU, HK, HW, HI⟩ := hrel
  obtain ⟨j, hj⟩ : ∃ j, gk = j + 1 := by
   rcases gk with _ | j
   ·have h := HR.out; rw [atkF] at h; cases h
   ·exact ⟨j, rfl⟩
  subst hj
  have hr := HR.out
  rw [atkF] at hr
  by_cases hm : ar - (i : Int) ≤ 0
  ·rw [if_pos hm] at hr
   obtain ⟨rfl, rfl⟩ := Prod.mk.inj (Option.some.inj hr)
   have b15 : decide ((i : Int) < ar) = false := decide_eq_false (by omega)
   have HL9 := lh (show ((bs ++ txt [(3, nm), mk [40]]) ++ txt dn).length + 1 ≤ 140737488355328 by have h := HLEN.out; have h2 := HU.out; rw [List.append_nil] at h2; rw [h2]; omega)
   have HDR := lh (show (l.length : Int) - (l.drop b).length = b by have := HI.out; rw [List.length_drop]; omega)
   clear hr hm HR
   go_upto_region 9 with (fail)
   go_wp2_with (go_at_call 58; (with_reducible refine (Nca HW.out.pr 41 (n := 41) rfl HL9.out (Nat.le_trans HB.out HW.out.bel.size)).mono ?_); rintro en w3 ⟨rfl, hw⟩; have HW3 := lh (HW.out.trans hw); clear hw)
   go_end0
   refine ⟨rfl, ?_⟩
   have h := HW3.out
   have h2 := HU.out
   rw [List.append_nil] at h2
   rw [HU0.out, HDR.out, ← h2, ← List.append_assoc, ← List.append_assoc]
   exact h
  ·rw [if_neg hm] at hr
   obtain ⟨⟨V1, q1⟩, hV1, hE1⟩ := Option.bind_eq_some_iff.1 hr
   obtain ⟨⟨V2, q2⟩, hV2, hE2⟩ := Option.map_eq_some_iff.1 hE1
   obtain ⟨rfl, rfl⟩ := Prod.mk.inj hE2
   have b15 : decide ((i : Int) < ar) = true := decide_eq_true (by omega)
   obtain ⟨p1, -, hp1⟩ := (tk_suf L j).1 _ _ _ _ hV1
   obtain ⟨hq1, hq2, hq3⟩ := drop_suf hp1
   have HQ2 := lh hq2
   have HV1 := lh hV1
   have HV2 := lh (show atkF L j false (ar - ((i + 1 : Nat) : Int)) (l.drop (l.length - q1.length)) = some (V2, q2) by rw [hq3, show ar - ((i + 1 : Nat) : Int) = ar - i - 1 by omega]; exact hV2)
   have hw1 : wrap64 ((i : Int) + 1) = (i : Int) + 1 := by have := HAR.out; unfold wrap64; omega
   have HJ := lh (HIH.out j (by have := HK.out; omega))
   clear hr hE1 hE2 hV1 hV2 hp1 hq1 hq2 hq3 hm HR
   by_cases hi : i = 0
   ·have hd : decide (i = 0) = true := decide_eq_true hi
    have b18 : decide (0 < i) = false := decide_eq_false (by omega)
    have HDD := lh (show dn ++ (V1 ++ V2) = T by have h2 := HU.out; rw [hd, if_pos rfl] at h2; exact h2)
    have HL9 := lh (show ((bs ++ txt [(3, nm), mk [40]]) ++ txt dn ++ txt V1).length ≤ 1000000000 by have h := HLEN.out; rw [← HDD.out] at h; simp only [Nbh, List.length_append] at h ⊢; omega)
    clear hd hi HU
    go_wp2_with (fail)
    refine (HJ.out 1 _ g _ b V1 q1 ⟨HW.out.pr, HPB.out.trans HW.out.bel⟩ HV1.out HL9.out).mono ?_
    rintro en w4 ⟨rfl, hw⟩
    have HW4 := lh (HW.out.trans hw)
    clear hw
    go_wp2
    go_roundg j
    case measure => omega
    case rel => exact ⟨i + 1, l.length - q1.length, dn ++ V1, V2, by first | rw [hw1]; rfl | rfl, lh (by have h := HV2.out; rw [show decide (i + 1 = 0) = false from decide_eq_false (by omega)]; exact h), lh (by rw [← HDD.out, List.append_assoc]), lh (by have := HK.out; omega), lh (by rw [HQ2.out, Nbh, ← List.append_assoc]; exact HW4.out), lh (by omega)⟩
   ·have hd : decide (i = 0) = false := decide_eq_false hi
    have b18 : decide (0 < i) = true := decide_eq_true (by omega)
    have HL9 := lh (show ((bs ++ txt [(3, nm), mk [40]]) ++ txt dn ++ [44] ++ txt V1).length ≤ 1000000000 by have h := HLEN.out; have h2 := HU.out; rw [← h2, hd, if_neg (by simp)] at h; simp only [Nbh, Nbo, tk5, tk3, mk, mB, List.length_append, List.length_cons, List.length_nil] at h ⊢; omega)
    have HDD := lh (show dn ++ (mk [44] :: V1 ++ V2) = T by have h2 := HU.out; rw [hd, if_neg (by simp)] at h2; exact h2)
    have HTX := lh (show txt (dn ++ mk [44] :: V1) = txt dn ++ [44] ++ txt V1 by rw [Nbh, Nbo]; simp [mk, mB, tk5])
    have HI0 := lh hi
    clear hd hi HU
    go_wp2_with ((go_at_call 58; (with_reducible refine (Nca HW.out.pr 44 (n := 44) rfl (by have h := HL9.out; simp only [List.length_append, List.length_cons, List.length_nil] at h ⊢; omega) (Nat.le_trans HB.out HW.out.bel.size)).mono ?_); rintro en w3 ⟨rfl, hw⟩; have HW3 := lh (HW.out.trans hw); clear hw))
    refine (HJ.out 1 _ g _ b V1 q1 ⟨HW3.out.pr, HPB.out.trans HW3.out.bel⟩ HV1.out HL9.out).mono ?_
    rintro en w4 ⟨rfl, hw⟩
    have HW4 := lh (HW3.out.trans hw)
    clear hw
    go_wp2
    go_roundg j
    case measure => omega
    case rel => exact ⟨i + 1, l.length - q1.length, dn ++ mk [44] :: V1, V2, by first | rw [hw1]; rfl | rfl, lh (by have h := HV2.out; rw [show decide (i + 1 = 0) = false from decide_eq_false (by omega)]; exact h), lh (by rw [← HDD.out]; simp), lh (by have := HK.out; omega), lh (by rw [HQ2.out, HTX.out, ← List.append_assoc, ← List.append_assoc]; exact HW4.out), lh (by omega)⟩
section
set_option maxRecDepth 100000
set_option maxHeartbeats 2000000
structure NodeW (n : S50) : Prop where
 op : n.f0 = 5 → tightS n.f2 = tightO n.f2
 nm : n.f3.size ≤ 100000
 ar : n.f4 ≤ 100000
 kd : n.f0 ≠ 1 → n.f0 ≠ 2 → n.f0 ≠ 3 → n.f0 ≠ 6 → n.f0 ≠ 5 → n.f0 = 4
theorem prints_all {w0 : World} {A : Option Addr} {c : Nat} {l : List S50} {L : Lf} (hC : Kd.C k50 w0 A l.length l) (hl : l.length ≤ 100000) (lf : ∀ n ∈ l, LeafW w0 (.slice A l.length c) L n) (nw : ∀ n ∈ l, NodeW n) : ∀ k, Prints w0 (.slice A l.length c) L l k := by
 intro k
 induction k using Nat.strongRecOn with
 | _ k ih =>
  cases k with
  | zero => intro least w g bs a T q hp ht hlen; rw [tkF] at ht; cases ht
  | succ k =>
   intro least w g bs a T q hp ht hlen
   have hal : a < l.length := by
    refine Nat.lt_of_not_le fun h => ?_
    rw [List.drop_eq_nil_of_le h, tkF] at ht
    cases ht
   have hx := List.drop_eq_getElem_cons hal
   obtain ⟨ad, cs, rfl, hcl, hK, hcell⟩ := Kd.C_get (Kd.C_below hC hp.bel) z50 (a : Int) (by omega) (by omega)
   rw [show l.getD ((a : Int)).toNat z50 = l[a] by simp [List.getD, hal]] at hK
   have hm : l[a] ∈ l := List.getElem_mem hal
   have h1 := lf _ hm
   have h2 := nw _ hm
   obtain rfl := k50_open hK
   rw [hx] at ht
   generalize l[a] = x at *
   obtain ⟨k0, ⟨vk, ⟨vn, vd⟩, vt, vb, ve⟩, op, nm, ar, ⟨s5, r5, c5, p5, q5⟩, ⟨s6, r6, c6, p6, q6⟩⟩ := x
   exact node_one hp hal hl (ih k (Nat.lt_succ_self k)) (call_one (fun j hj => ih j (by omega)) hl) h1 h2.op h2.nm h2.ar h2.kd (fun j v hv => by rw [add_add]; exact hcell j v hv) ht hlen
theorem print_err {k : Nat} {A : Option Addr} {c : Nat} {l : List S50} {w : World} (hC : Kd.C k50 w A l.length l) (hc : l.length ≤ c) {e : Int} (hcc : Nas.f k l = some e) (he : e ≠ 0) :
 Calls Tryz.prog 26 #[.slice A l.length c] w fun en w' => en = .returned (.tuple #[.string ⟨#[]⟩, .int .i64 e]) ∧ Below w.heap.size w w' := by
 have HC := lh (Nas.calls k A c l e w hC hc hcc)
 have b2 : (e != 0) = true := bne_iff_ne.mpr he
 clear hC hcc hc he
 go_enter Tryz.func26, Tryz.ntmps26
 go_wp2_with (go_at_call 28; (with_reducible refine (HC.out).mono ?_); rintro en w1 ⟨rfl, hb⟩; have HB := lh hb; clear hb)
 go_ret2
 exact ⟨rfl, HB.out⟩
theorem print_ok {k k2 : Nat} {A : Option Addr} {c : Nat} {l : List S50} {w : World} (hG : GL w) (hC : Kd.C k50 w A l.length l) (hc : l.length ≤ c) (hl : l.length ≤ 100000) (hcc : Nas.f k l = some 0) {L : Lf} {T : List Tk}
 (lf : ∀ w0, GL w0 → ∀ n ∈ l, LeafW w0 (.slice A l.length c) L n) (nw : ∀ n ∈ l, NodeW n) (ht : tkF L k2 1 l = some (T, [])) (hlen : (txt T).length ≤ 1000000000) (hne : txt T ≠ []) :
 Calls Tryz.prog 26 #[.slice A l.length c] w fun en w' => en = .returned (.tuple #[.string ⟨(txt T).toArray⟩, .int .i64 0]) ∧ Below w.heap.size w w' := by
 have HC := lh (Nas.calls k A c l 0 w hC hc hcc)
 have HK := lh hC
 have HG := lh hG
 have HLF := lh lf
 have HNW := lh nw
 have HT := lh ht
 have HLEN := lh hlen
 have HL := lh hl
 have HNE := lh hne
 clear hC hcc hc hG lf nw ht hlen hl hne
 go_enter Tryz.func26, Tryz.ntmps26
 go_upto_region 5 with (first
  | (go_at_call 28; (with_reducible refine (HC.out).mono ?_); rintro en w1 ⟨rfl, hb⟩; have HB := lh hb; clear hb)
  | ((with_reducible refine gate_dst (N := 13) rfl ?_); refine bX 13 #[.pointer none, .slice none 0 0, .slice A l.length c, .int .i64 0] 87 ?_; intro g hg_ w2 hb_ hl_; have ZG := lh (show w1.heap.size ≤ g from hg_ ▸ Nat.le_refl _); have HB2 := lh hl_; have J := lh hb_; clear hb_ hl_ hg_))
 have HPR := lh (show Pr w1 (.slice A l.length c) w2 g [] ((0 : Nat) : Int) from ⟨⟨ZG.out, .pointer none, .slice none 0 0, .inl rfl, J.out, own_nil _ _ _ _, by simp [Value.ownBlock]⟩, HB2.out⟩)
 have HN := lh (prints_all (Kd.C_below HK.out HB.out) HL.out (HLF.out w1 (HG.out.below HB.out)) HNW.out k2 1 w2 g [] 0 T [] HPR.out (by rw [List.drop_zero]; exact HT.out) (by rw [List.nil_append]; exact HLEN.out))
 go_upto_region 6 with (go_at_call 50; (with_reducible refine (HN.out).mono ?_); rintro en w3 ⟨rfl, hw⟩; have HW := lh hw; clear hw)
 have HS := lh (string_some (l := txt T) (by have h := HW.out.pr; rw [List.nil_append] at h; exact h) HNE.out)
 have HBB := lh (below_step HB.out (HB2.out.trans (HW.out.bel.mono (by omega))))
 go_wp2_with (go_at_call 51; (with_reducible refine (HS.out).mono ?_); rintro en w4 ⟨rfl, hb⟩; have HB4 := lh hb; clear hb)
 go_ret2
 refine ⟨rfl, ?_⟩
 exact HBB.out.trans (HB4.out.mono (by have := HB.out.size; omega))
end
def decB (n : Int) : ByteArray := ⟨(Lib.decDigits n.toNat).toArray⟩
theorem itoa_dig {n : Int} (h : 0 ≤ n) : (⟨(Lib.itoa n).toArray⟩ : ByteArray) = decB n := by
 unfold Lib.itoa decB; rw [if_neg (by omega)]
def isDig (c : UInt8) : Prop := 48 ≤ c.toNat ∧ c.toNat ≤ 57
def decVal (a : Nat) (l : List UInt8) : Nat := l.foldl (fun a c => a * 10 + (c.toNat - 48)) a
theorem decVal_nil (a : Nat) : decVal a [] = a := by unfold decVal; exact List.foldl_nil
theorem Nch (a : Nat) (c : UInt8) (l : List UInt8) : decVal a (c :: l) = decVal (a * 10 + (c.toNat - 48)) l := by unfold decVal; exact List.foldl_cons ..
theorem decVal_ge : ∀ (l : List UInt8) (a : Nat), a ≤ decVal a l := by
 intro l
 induction l with
 | nil => intro a; rw [decVal_nil]; exact Nat.le_refl _
 | cons c l ih =>
  intro a
  rw [Nch]
  have := ih (a * 10 + (c.toNat - 48))
  omega
theorem decVal_snoc (d : UInt8) : ∀ (l : List UInt8) (a : Nat), decVal a (l ++ [d]) = decVal a l * 10 + (d.toNat - 48) := by
 intro l
 induction l with
 | nil => intro a; rw [List.nil_append, Nch, decVal_nil, decVal_nil]
 | cons c l ih => intro a; rw [List.cons_append, Nch, Nch]; exact ih _
theorem decVal_lt : ∀ (l : List UInt8) (a : Nat), (∀ c ∈ l, isDig c) → decVal a l < (a + 1) * 10 ^ l.length := by
 intro l
 induction l with
 | nil => intro a _; rw [decVal_nil, List.length_nil]; omega
 | cons c l ih =>
  intro a h
  rw [Nch, List.length_cons]
  have hc := h c (List.mem_cons_self ..)
  refine Nat.lt_of_lt_of_le (ih (a * 10 + (c.toNat - 48)) (fun d hd => h d (List.mem_cons_of_mem _ hd))) ?_
  rw [Nat.pow_succ, Nat.mul_comm (10 ^ l.length) 10, ← Nat.mul_assoc]
  refine Nat.mul_le_mul_right _ ?_
  unfold isDig at hc
  omega
def canon (l : List UInt8) : Prop := (∀ c ∈ l, isDig c) ∧ ∃ c r, l = c :: r ∧ c.toNat ≠ 48
theorem dig_toNat {i : Nat} (h : i < 10) : (UInt8.ofNat (48 + i)).toNat = 48 + i := by
 rw [UInt8.toNat_ofNat']; omega
theorem dec_canon : ∀ (u : Nat), (∀ c ∈ Lib.decDigits u, isDig c) ∧ decVal 0 (Lib.decDigits u) = u ∧ (0 < u → canon (Lib.decDigits u)) := by
 intro u
 induction u using Nat.strongRecOn with
 | _ u ih =>
  unfold Lib.decDigits
  split
  ·rename_i h
   have e := dig_toNat h
   have d : ∀ c ∈ [UInt8.ofNat (48 + u)], isDig c := by
    intro c hc
    rw [List.mem_singleton] at hc
    subst hc
    unfold isDig
    omega
   refine ⟨d, ?_, fun hu => ⟨d, _, _, rfl, by omega⟩⟩
   rw [Nch, decVal_nil]
   omega
  ·rename_i h
   obtain ⟨d, v, c⟩ := ih (u / 10) (by omega)
   have e := dig_toNat (i := u % 10) (by omega)
   have d' : ∀ c ∈ Lib.decDigits (u / 10) ++ [UInt8.ofNat (48 + u % 10)], isDig c := by
    intro x hx
    rcases List.mem_append.mp hx with hx | hx
    ·exact d x hx
    ·rw [List.mem_singleton] at hx
     subst hx
     unfold isDig
     omega
   refine ⟨d', ?_, fun hu => ⟨d', ?_⟩⟩
   ·rw [decVal_snoc, v, e]; omega
   ·obtain ⟨_, x, r, hx, hn⟩ := c (by omega)
    exact ⟨x, r ++ [UInt8.ofNat (48 + u % 10)], by rw [hx]; rfl, hn⟩
theorem bt0 (a : UInt8) (l : List UInt8) : bt ⟨(a :: l).toArray⟩ 0 = (a.toNat : Int) := by
 unfold bt
 rw [dif_pos (show (0 : Int).toNat < (⟨(a :: l).toArray⟩ : ByteArray).size by show 0 < (a :: l).toArray.size; simp)]
 rfl
theorem drop_list (l : List UInt8) (n : Nat) : ((⟨l.toArray⟩ : ByteArray).extract n (⟨l.toArray⟩ : ByteArray).size).data.toList = l.drop n := by
 have e : (⟨l.toArray⟩ : ByteArray).size = l.length := by show l.toArray.size = _; simp
 rw [e, ByteArray.data_extract, Array.toList_extract, List.extract_eq_take_drop]
 simp only
 rw [List.take_of_length_le (by simp)]
theorem Nac (l : List UInt8) : (⟨l.toArray⟩ : ByteArray).size = l.length := by show l.toArray.size = _; simp
def colL (n : Int) : List UInt8 := if n < 26 then [UInt8.ofNat (65 + n).toNat] else [UInt8.ofNat (65 + n / 26 - 1).toNat, UInt8.ofNat (65 + n % 26).toNat]
theorem colB_list (n : Int) (h0 : 0 ≤ n) (h1 : n < 256) : colB n = ⟨(colL n).toArray⟩ := by
 unfold colB colL
 rw [if_neg (by omega), if_neg (by omega)]
 split <;> rfl
theorem nat8 {n : Nat} (h : n < 256) : (UInt8.ofNat n).toNat = n := by rw [UInt8.toNat_ofNat']; omega
theorem list_text (s : ByteArray) : s = ⟨s.data.toList.toArray⟩ := by cases s; rfl
theorem append_list (l m : List UInt8) : (⟨l.toArray⟩ : ByteArray) ++ ⟨m.toArray⟩ = ⟨(l ++ m).toArray⟩ := by
 apply ByteArray.ext
 rw [ByteArray.data_append]
 simp
theorem ix_cons_eq (c : UInt8) (l : List UInt8) : Lib.index (c :: l) [c] = 0 := by
 rw [Lib.index, if_pos (by simp [List.isPrefixOf])]
theorem ix_cons_ne {b c : UInt8} (l : List UInt8) (h : b ≠ c) : Lib.index (b :: l) [c] = if Lib.index l [c] == -1 then -1 else Lib.index l [c] + 1 := by
 rw [Lib.index, if_neg (by simp [List.isPrefixOf, Ne.symm h])]
theorem replaceK_one (c : UInt8) (new : List UInt8) : ∀ (s : List UInt8) (k : Nat), Lib.count s [c] ≤ k → Lib.replaceK [c] new k s = s.flatMap fun b => if b = c then new else [b]
 | [], k, _ => by
  cases k with
  | zero => rfl
  | succ k => rfl
 | b :: l, k, h => by
  by_cases hb : b = c
  ·subst hb
   rw [Lib.count_cons_eq] at h
   obtain ⟨k, rfl⟩ : ∃ k', k = k' + 1 := ⟨k - 1, by omega⟩
   rw [Lib.replaceK_hit _ _ _ _ 0 (ix_cons_eq _ _)]
   have ih := replaceK_one b new l k (by omega)
   simp only [List.take_zero, List.nil_append, List.length_cons, List.length_nil, Nat.zero_add, List.drop_succ_cons, List.drop_zero, List.flatMap_cons, if_true]
   rw [ih]
  ·rw [Lib.count_cons_ne _ _ _ hb] at h
   have ih := replaceK_one c new l k h
   simp only [List.flatMap_cons, if_neg hb, List.singleton_append]
   rw [← ih]
   cases k with
   | zero => rfl
   | succ k =>
    rcases Lib.index_spec l [c] with ⟨h1, _⟩ | ⟨i, h1, _⟩
    ·rw [Lib.replaceK, Lib.replaceK, ix_cons_ne l hb, h1]; rfl
    ·have h2 : Lib.index (b :: l) [c] = ((i + 1 : Nat) : Int) := by
      rw [ix_cons_ne l hb, h1, if_neg (by rw [beq_iff_eq]; omega)]; rfl
     rw [Lib.replaceK_hit _ _ _ _ _ h1, Lib.replaceK_hit _ _ _ _ _ h2]
     simp only [List.take_succ_cons, List.length_cons, List.length_nil, Nat.zero_add, List.cons_append]
     rw [show i + 1 + 1 = (i + 1) + 1 from rfl, List.drop_succ_cons]
def dblL (l : List UInt8) : List UInt8 := l.flatMap fun b => if b = 34 then [34, 34] else [b]
theorem replaceAll_dbl (l : List UInt8) : Lib.replaceAll l [34] [34, 34] = dblL l := by
 unfold Lib.replaceAll Lib.replace
 rw [if_neg (by decide), show Lib.replaceNum l [34] (-1) = Lib.count l [34] by unfold Lib.replaceNum; rw [if_pos (by omega)]]
 exact replaceK_one 34 [34, 34] l _ (Nat.le_refl _)
theorem dblL_len : ∀ l : List UInt8, (dblL l).length ≤ 2 * l.length
 | [] => Nat.le_refl _
 | b :: l => by
  have ih := dblL_len l
  unfold dblL at ih ⊢
  rw [List.flatMap_cons, List.length_append, List.length_cons]
  split <;> simp only [List.length_cons, List.length_nil] <;> omega
theorem dec_le : ∀ (n u : Nat), u < 10 ^ (n + 1) → (Lib.decDigits u).length ≤ n + 1
 | 0, u, h => by
  rw [Lib.decDigits, dif_pos (by simpa using h)]; simp
 | n + 1, u, h => by
  rw [Lib.decDigits]
  split
  ·simp
  ·have ih := dec_le n (u / 10) (by rw [Nat.div_lt_iff_lt_mul (by decide)]; rw [Nat.pow_succ] at h; exact h)
   rw [List.length_append, List.length_singleton]; omega
theorem colL_up {c : Int} (h0 : 0 ≤ c) (h1 : c < 256) : ∀ b ∈ colL c, 65 ≤ b.toNat ∧ b.toNat ≤ 90 := by
 intro b hb
 unfold colL at hb
 split at hb
 ·rw [List.mem_singleton] at hb
  rw [hb, nat8 (by omega)]; omega
 ·rcases List.mem_cons.1 hb with rfl | hb
  ·rw [nat8 (by omega)]; omega
  ·rw [List.mem_singleton] at hb
   rw [hb, nat8 (by omega)]; omega
theorem colL_len (c : Int) : 1 ≤ (colL c).length ∧ (colL c).length ≤ 2 := by unfold colL; split <;> simp
theorem nines {b : UInt8} : ([49, 50, 51, 52, 53, 54, 55, 56, 57] : List UInt8).contains b = true ↔ 49 ≤ b.toNat ∧ b.toNat ≤ 57 := by
 constructor
 ·intro h
  have hm := List.contains_iff_mem.1 h
  simp only [List.mem_cons, List.not_mem_nil, or_false] at hm
  rcases hm with rfl | rfl | rfl | rfl | rfl | rfl | rfl | rfl | rfl <;> decide
 ·intro h
  have hb : b = UInt8.ofNat b.toNat := by rw [UInt8.ofNat_toNat]
  rw [hb]
  obtain ⟨h1, h2⟩ := h
  generalize b.toNat = n at *
  have : n = 49 ∨ n = 50 ∨ n = 51 ∨ n = 52 ∨ n = 53 ∨ n = 54 ∨ n = 55 ∨ n = 56 ∨ n = 57 := by omega
  rcases this with rfl | rfl | rfl | rfl | rfl | rfl | rfl | rfl | rfl <;> decide
theorem ixany_skip (chars : List UInt8) : ∀ (l m : List UInt8), (∀ b ∈ l, chars.contains b = false) → Lib.indexAny m chars = 0 → Lib.indexAny (l ++ m) chars = (l.length : Int)
 | [], m, _, h => by simpa using h
 | b :: l, m, hl, h => by
  have ih := ixany_skip chars l m (fun x hx => hl x (List.mem_cons_of_mem _ hx)) h
  rw [List.cons_append, Lib.indexAny, if_neg (by rw [hl b (List.mem_cons_self ..)]; decide), ih, if_neg (by rw [beq_iff_eq]; omega), List.length_cons]
  rfl
def nameL (r c : Int) : List UInt8 := colL c ++ Lib.decDigits (r + 1).toNat
theorem name_index {r c : Int} (h0 : 0 ≤ r) (h1 : r < 65536) (h2 : 0 ≤ c) (h3 : c < 256) : Lib.indexAny (nameL r c) [49, 50, 51, 52, 53, 54, 55, 56, 57] = ((colL c).length : Int) := by
 refine ixany_skip _ _ _ (fun b hb => ?_) ?_
 ·have := colL_up h2 h3 b hb
  rw [Bool.eq_false_iff]
  intro h
  have := nines.1 h
  omega
 ·obtain ⟨d, _, cn⟩ := dec_canon (r + 1).toNat
  obtain ⟨_, x, l, hx, hn⟩ := cn (by omega)
  have hd := d x (by rw [hx]; exact List.mem_cons_self ..)
  unfold isDig at hd
  rw [hx, Lib.indexAny, if_pos (nines.2 (by omega))]
theorem name_ascii {r c : Int} (h0 : 0 ≤ r) (h1 : r < 65536) (h2 : 0 ≤ c) (h3 : c < 256) : ∀ b ∈ nameL r c, b.toNat < 128 := by
 intro b hb
 rcases List.mem_append.1 hb with hb | hb
 ·have := colL_up h2 h3 b hb; omega
 ·have := (dec_canon (r + 1).toNat).1 b hb
  unfold isDig at this
  omega
theorem name_len {r c : Int} (h0 : 0 ≤ r) (h1 : r < 65536) : (nameL r c).length ≤ 8 := by
 have := dec_le 4 (r + 1).toNat (by omega)
 have := colL_len c
 unfold nameL
 rw [List.length_append]; omega
theorem name_f {r c : Int} (h0 : 0 ≤ r) (h1 : r < 65536) (h2 : 0 ≤ c) (h3 : c < 256) : Nao.f 0 r c = some ⟨(nameL r c).toArray⟩ := by
 have hw : wrap64 (r + 1) = r + 1 := by unfold wrap64; omega
 have hi : Nai.f (r + 1) = some (decB (r + 1)) := by
  unfold Nai.f
  rw [if_pos (by omega), itoa_dig (by omega)]
 unfold Nao.f
 rw [place_Right_f, hw, decide_eq_true ⟨h0, h1, h2, h3⟩]
 simp only [Option.bind_some, if_true, place_Col.f, hi]
 have hc := colL_len c
 have hd := dec_le 4 (r + 1).toNat (by omega)
 rw [colB_list c h2 h3]
 unfold decB
 rw [if_pos (by rw [Nac, Nac]; omega), append_list]
 rfl
def numL (n d : Int) : List UInt8 :=
 Lib.decDigits (n / d).toNat ++ (if d = 1 then [] else 46 :: Lib.trimRightB ((Lib.decDigits (1000000 + n % d * (1000000 / d)).toNat).drop 1) 48)
theorem trimR_len (l : List UInt8) (c : UInt8) : (Lib.trimRightB l c).length ≤ l.length := by
 unfold Lib.trimRightB
 rw [List.length_reverse]
 have := (List.dropWhile_sublist (l := l.reverse) (fun x => x == c)).length_le
 rw [List.length_reverse] at this
 exact this
theorem num_len {n d : Int} (h0 : 0 ≤ n) (h1 : n ≤ 1000000000000) (h2 : 1 ≤ d) (h3 : d ≤ 1000000) : (numL n d).length ≤ 30 := by
 have hq : 0 ≤ n / d ∧ n / d ≤ n := ⟨Int.ediv_nonneg h0 (by omega), Int.ediv_le_self _ h0⟩
 have e1 := dec_le 12 (n / d).toNat (by omega)
 have hr : 0 ≤ n % d ∧ n % d < d := ⟨Int.emod_nonneg _ (by omega), Int.emod_lt_of_pos _ (by omega)⟩
 have hm : n % d * (1000000 / d) ≤ 1000000 := by
  have a1 : n % d * (1000000 / d) ≤ d * (1000000 / d) := Int.mul_le_mul_of_nonneg_right (by omega) (Int.ediv_nonneg (by omega) (by omega))
  have a2 : d * (1000000 / d) ≤ 1000000 := Int.mul_ediv_self_le (by omega)
  omega
 have hm0 : 0 ≤ n % d * (1000000 / d) := Int.mul_nonneg hr.1 (Int.ediv_nonneg (by omega) (by omega))
 have e2 := dec_le 7 (1000000 + n % d * (1000000 / d)).toNat (by omega)
 unfold numL
 rw [List.length_append]
 split
 ·simp only [List.length_nil]; omega
 ·have := trimR_len ((Lib.decDigits (1000000 + n % d * (1000000 / d)).toNat).drop 1) 48
  rw [List.length_drop] at this
  rw [List.length_cons]; omega
theorem itoa_f {n : Int} (h0 : 0 ≤ n) (h1 : n ≤ 9223372036854775807) : Nai.f n = some ⟨(Lib.decDigits n.toNat).toArray⟩ := by
 unfold Nai.f
 rw [if_pos (by omega), itoa_dig h0]; rfl
theorem trim_f {l : List UInt8} (h : l.length ≤ 1000000) : Nbj.f ⟨l.toArray⟩ ⟨#[48]⟩ = some ⟨(Lib.trimRightB l 48).toArray⟩ := by
 unfold Nbj.f
 rw [if_pos ⟨rfl, by decide, by rw [Nac]; omega⟩]; rfl
theorem dec_pos (u : Nat) : 1 ≤ (Lib.decDigits u).length := by
 rw [Lib.decDigits]; split <;> simp
theorem tail_list (l : List UInt8) : (⟨l.toArray⟩ : ByteArray).extract 1 (⟨l.toArray⟩ : ByteArray).size = ⟨(l.drop 1).toArray⟩ := by
 apply ByteArray.ext
 have := drop_list l 1
 exact Array.toList_inj.1 (by rw [this])
theorem num_text_f {n d : Int} (hR : numB n d = true) (h0 : 0 ≤ n) (hd : (1000000 : Int) % d = 0) {K : Nat} (hK : 1000003 ≤ K) : Naf.f K n d = some ⟨(numL n d).toArray⟩ := by
 have hb := hR
 unfold numB at hb
 obtain ⟨-, h1, h2, h3, -⟩ := of_decide_eq_true hb
 have hq : 0 ≤ n / d ∧ n / d ≤ n := ⟨Int.ediv_nonneg h0 (by omega), Int.ediv_le_self _ h0⟩
 have hr : 0 ≤ n % d ∧ n % d < d := ⟨Int.emod_nonneg _ (by omega), Int.emod_lt_of_pos _ (by omega)⟩
 have hm : n % d * (1000000 / d) ≤ 1000000 := by
  have a1 : n % d * (1000000 / d) ≤ d * (1000000 / d) := Int.mul_le_mul_of_nonneg_right (by omega) (Int.ediv_nonneg (by omega) (by omega))
  have a2 : d * (1000000 / d) ≤ 1000000 := Int.mul_ediv_self_le (by omega)
  omega
 have hm0 : 0 ≤ n % d * (1000000 / d) := Int.mul_nonneg hr.1 (Int.ediv_nonneg (by omega) (by omega))
 have hk : 0 ≤ 1000000 / d ∧ (1000000 / d : Int) ≤ 1000000 := ⟨Int.ediv_nonneg (by omega) (by omega), Int.ediv_le_self _ (by omega)⟩
 have e1 := dec_le 12 (n / d).toNat (by omega)
 have e2 := dec_le 7 (1000000 + n % d * (1000000 / d)).toNat (by omega)
 have e3 := dec_pos (1000000 + n % d * (1000000 / d)).toNat
 obtain ⟨K, rfl⟩ : ∃ K', K = K' + 1 := ⟨K - 1, by omega⟩
 have hs : Nbf.f n = some n := by
  unfold Nbf.f
  rw [if_neg (by omega)]
  congr 1
  simp [IntKind.wrap, IntKind.bits]
  omega
 have w1 : wrap64 n = n := by unfold wrap64; omega
 have w2 : wrap64 (n / d) = n / d := by unfold wrap64; omega
 have w3 : wrap64 (1000000 / d : Int) = 1000000 / d := by unfold wrap64; omega
 have w4 : wrap64 (n % d * (1000000 / d)) = n % d * (1000000 / d) := by unfold wrap64; omega
 have w5 : wrap64 (1000000 + n % d * (1000000 / d)) = 1000000 + n % d * (1000000 / d) := by unfold wrap64; omega
 have t1 : Int.tdiv n d = n / d := Int.tdiv_eq_ediv_of_nonneg h0
 have t2 : Int.tmod n d = n % d := Int.tmod_eq_emod_of_nonneg h0
 unfold Naf.f num_taken.f
 rw [num_Right_f n d _ (by omega), hR]
 simp only [Option.bind_some, if_true]
 rw [hs]
 simp only [Option.bind_some]
 rw [if_neg (by omega), w1, Naf.j0, if_neg (by omega), if_pos hd, t1, t2, w2, w3, w4, w5, itoa_f hq.1 (by omega)]
 simp only [Option.bind_some]
 have z0 : (⟨#[]⟩ : ByteArray) ++ ⟨(Lib.decDigits (n / d).toNat).toArray⟩ = ⟨(Lib.decDigits (n / d).toNat).toArray⟩ := by
  rw [show (⟨#[]⟩ : ByteArray) = ⟨([] : List UInt8).toArray⟩ from rfl, append_list]; rfl
 have z1 : (⟨#[]⟩ : ByteArray).size = 0 := rfl
 rw [z0, z1, Nac, if_pos (by omega)]
 unfold numL
 by_cases hd1 : d = 1
 ·rw [if_pos hd1, if_pos hd1, List.append_nil]
 ·rw [if_neg hd1, if_neg hd1, itoa_f (by omega) (by omega)]
  simp only [Option.bind_some]
  rw [if_pos (by omega), Nac, if_pos (by omega), ← Nac, tail_list, trim_f (by rw [List.length_drop]; omega)]
  simp only [Option.bind_some]
  have e4 := trimR_len ((Lib.decDigits (1000000 + n % d * (1000000 / d)).toNat).drop 1) 48
  rw [List.length_drop] at e4
  rw [show (⟨#[46]⟩ : ByteArray) = ⟨([46] : List UInt8).toArray⟩ from rfl, append_list, Nac, Nac, if_pos (by simp only [List.length_append, List.length_singleton]; omega), append_list]
  simp
mutual
inductive Tre : List S50 → Nat → Prop
 | node (n : S50) (c : Nat) (p : List S50) (d : Nat) : partsS n = (c : Int) → Frs c p d → Tre (n :: p) (d + 1)
inductive Frs : Nat → List S50 → Nat → Prop
 | nil : Frs 0 [] 0
 | cons (p q : List S50) (c d e : Nat) : Tre p d → Frs c q e → Frs (c + 1) (p ++ q) (max d e)
end
theorem parts_le (x : S50) : partsS x ≤ 30 := by
 unfold partsS partsF partsV1 partsV2 partsV3 partsV4 partsV5 partsV6
 repeat' split
 all_goals omega
theorem Tre.pos {p : List S50} {d : Nat} (h : Tre p d) : 1 ≤ p.length ∧ 1 ≤ d ∧ d ≤ p.length := by
 induction h using Tre.rec (motive_2 := fun c p d _ => c ≤ p.length ∧ d ≤ p.length) with
 | node n c p d h1 h2 ih => simp only [List.length_cons]; omega
 | nil => exact ⟨Nat.le_refl _, Nat.le_refl _⟩
 | cons p q c d e h1 h2 i1 i2 => simp only [List.length_append]; omega
theorem mxN (a b : Nat) : mx (a : Int) (b : Int) = ((max a b : Nat) : Int) := by unfold mx; split <;> omega
theorem wr1 {i : Int} (h0 : 0 ≤ i) (h1 : i ≤ 1000000000000) : wrap64 (i + 1) = i + 1 := by unfold wrap64; omega
theorem getD_drop {l p q : List S50} {n : S50} {i : Nat} (h : l.drop i = n :: p) : i < l.length ∧ rd_T50 l (i : Int) = n ∧ l.drop (i + 1) = p := by
 have hi : i < l.length := by
  refine Nat.lt_of_not_le fun hh => ?_
  rw [List.drop_eq_nil_of_le hh] at h
  cases h
 rw [List.drop_eq_getElem_cons hi] at h
 injection h with h1 h2
 refine ⟨hi, ?_, h2⟩
 unfold rd_T50
 simp [List.getD, hi, h1]
theorem over_all (l : List S50) (hl : l.length ≤ 100000000) : ∀ (m : Nat),
 (∀ (p q : List S50) (d i K : Nat), Tre p d → p.length ≤ m → l.drop i = p ++ q → 2 * p.length + 1 ≤ K → Nae.f K l (i : Int) = some (((i + p.length : Nat) : Int), (d : Int))) ∧
 (∀ (c : Nat) (p q : List S50) (e i K dn dp : Nat) (z : Int), Frs c p e → p.length ≤ m → l.drop i = p ++ q → i ≤ l.length → 2 * p.length + 2 ≤ K → z = ((dn + c : Nat) : Int) → z ≤ 100 → dp ≤ 100000000 → Nae.l0 K l (i : Int) (dp : Int) z (dn : Int) = some (((i + p.length : Nat) : Int), ((max dp e + 1 : Nat) : Int))) := by
 intro m
 induction m with
 | zero =>
  refine ⟨?_, ?_⟩
  ·intro p q d i K h hp
   have := h.pos
   omega
  ·intro c p q e i K dn dp z h hp hd hi hK hz hz1 hdp
   obtain ⟨K, rfl⟩ : ∃ K', K = K' + 1 := ⟨K - 1, by omega⟩
   cases h with
   | nil =>
    rw [Nae.l0, if_neg (by omega), wr1 (by omega) (by omega)]
    simp
   | cons p q c d e h1 h2 =>
    have := h1.pos
    simp only [List.length_append] at hp
    omega
 | succ m ih =>
  obtain ⟨ih1, ih2⟩ := ih
  have hf : ∀ (p q : List S50) (d i K : Nat), Tre p d → p.length ≤ m + 1 → l.drop i = p ++ q → 2 * p.length + 1 ≤ K → Nae.f K l (i : Int) = some (((i + p.length : Nat) : Int), (d : Int)) := by
   intro p q d i K h hp hd hK
   obtain ⟨K, rfl⟩ : ∃ K', K = K' + 1 := ⟨K - 1, by omega⟩
   cases h with
   | node n c p d h1 h2 =>
    obtain ⟨hi, hn, hd2⟩ := getD_drop (q := q) (l := l) (n := n) (p := p ++ q) (by rw [hd]; rfl)
    simp only [List.length_cons] at hp hK
    have hc := parts_le n
    rw [Nae.f, if_neg (by omega), if_pos (by omega), if_pos (by omega), hn]
    show (if partsS n < 0 then some ((-1 : Int), (0 : Int)) else _) = _
    rw [if_neg (by omega), wr1 (by omega) (by omega)]
    have h3 := ih2 c p q d (i + 1) K 0 0 (partsS n) h2 (by omega) hd2 (by omega) (by omega) (by omega) (by omega) (by omega)
    rw [show ((i : Int) + 1) = ((i + 1 : Nat) : Int) by omega]
    refine h3.trans ?_
    simp only [List.length_cons, Nat.zero_max]
    rw [show i + 1 + p.length = i + (p.length + 1) by omega]
  refine ⟨hf, ?_⟩
  intro c p q e i K dn dp z h hp hd hi hK hz hz1 hdp
  obtain ⟨K, rfl⟩ : ∃ K', K = K' + 1 := ⟨K - 1, by omega⟩
  cases h with
  | nil =>
   rw [Nae.l0, if_neg (by omega), wr1 (by omega) (by omega)]
   simp
  | cons p q2 c d e h1 h2 =>
   have hp1 := h1.pos
   simp only [List.length_append] at hp hK
   rw [Nae.l0, if_pos (by omega), hf p (q2 ++ q) d i K h1 (by omega) (by rw [hd, List.append_assoc]) (by omega)]
   show (if ((i + p.length : Nat) : Int) < 0 then some ((-1 : Int), (0 : Int)) else _) = _
   rw [if_neg (by omega), mxN, wr1 (by omega) (by omega)]
   have hd2 : l.drop (i + p.length) = q2 ++ q := by rw [← List.drop_drop, hd, List.append_assoc, List.drop_left]
   have hle : i + p.length ≤ l.length := by
    have := congrArg List.length hd
    simp only [List.length_drop, List.length_append] at this
    omega
   have h3 := ih2 c q2 q e (i + p.length) K (dn + 1) (max dp d) z h2 (by omega) hd2 hle (by omega) (by omega) hz1 (by omega)
   rw [show ((dn : Int) + 1) = ((dn + 1 : Nat) : Int) by omega]
   refine h3.trans ?_
   simp only [List.length_append]
   rw [show i + p.length + q2.length = i + (p.length + q2.length) by omega, Nat.max_assoc]
theorem over_back (l : List S50) (hl : l.length ≤ 100000000) : ∀ (K : Nat),
 (∀ (i : Nat) (e d : Int), Nae.f K l (i : Int) = some (e, d) → 0 ≤ e → ∃ (p q : List S50) (dd : Nat), l.drop i = p ++ q ∧ Tre p dd ∧ e = ((i + p.length : Nat) : Int) ∧ d = (dd : Int)) ∧
 (∀ (i dn c dp : Nat) (e d : Int), i ≤ l.length → dn + c ≤ 100 → dp ≤ 100000000 → Nae.l0 K l (i : Int) (dp : Int) ((dn + c : Nat) : Int) (dn : Int) = some (e, d) → 0 ≤ e → ∃ (p q : List S50) (dd : Nat), l.drop i = p ++ q ∧ Frs c p dd ∧ e = ((i + p.length : Nat) : Int) ∧ d = ((max dp dd + 1 : Nat) : Int)) := by
 intro K
 induction K with
 | zero =>
  refine ⟨?_, ?_⟩
  ·intro i e d h; rw [Nae.f] at h; cases h
  ·intro i dn c dp e d _ _ _ h; rw [Nae.l0] at h; cases h
 | succ K ih =>
  obtain ⟨ih1, ih2⟩ := ih
  refine ⟨?_, ?_⟩
  ·intro i e d h he
   rw [Nae.f] at h
   split at h
   ·cases h; omega
   rename_i hi
   rw [if_pos (by omega), if_pos (by omega)] at h
   have hil : i < l.length := by omega
   have hx := List.drop_eq_getElem_cons hil
   obtain ⟨-, hn, -⟩ := getD_drop (q := []) hx
   rw [hn] at h
   change (if partsS l[i] < 0 then some ((-1 : Int), (0 : Int)) else _) = _ at h
   split at h
   ·cases h; omega
   rename_i hp
   have hle := parts_le l[i]
   obtain ⟨c, hc⟩ : ∃ c : Nat, partsS l[i] = (c : Int) := ⟨(partsS l[i]).toNat, by omega⟩
   rw [wr1 (by omega) (by omega), hc, show ((i : Int) + 1) = ((i + 1 : Nat) : Int) by omega, show (c : Int) = ((0 + c : Nat) : Int) by omega] at h
   obtain ⟨p, q, dd, h1, h2, h3, h4⟩ := ih2 (i + 1) 0 c 0 e d (by omega) (by omega) (by omega) h he
   refine ⟨l[i] :: p, q, dd + 1, ?_, .node _ c p dd hc h2, ?_, ?_⟩
   ·rw [hx, h1]; rfl
   ·rw [h3]; simp only [List.length_cons]; omega
   ·rw [h4]; omega
  ·intro i dn c dp e d hi hc hdp h he
   rw [Nae.l0] at h
   by_cases hlt : (dn : Int) < ((dn + c : Nat) : Int)
   ·rw [if_pos hlt] at h
    obtain ⟨⟨e1, d1⟩, ho, h⟩ := Option.bind_eq_some_iff.1 h
    change (if e1 < 0 then some ((-1 : Int), (0 : Int)) else _) = _ at h
    split at h
    ·cases h; omega
    rename_i he1
    obtain ⟨p, q, dd, h1, h2, h3, h4⟩ := ih1 i e1 d1 ho (by omega)
    have hpos := h2.pos
    have hlen := congrArg List.length h1
    simp only [List.length_drop, List.length_append] at hlen
    obtain ⟨c, rfl⟩ : ∃ c', c = c' + 1 := ⟨c - 1, by omega⟩
    rw [h3, h4, mxN, wr1 (by omega) (by omega), show ((dn : Int) + 1) = ((dn + 1 : Nat) : Int) by omega, show dn + (c + 1) = dn + 1 + c by omega] at h
    obtain ⟨p2, q2, dd2, g1, g2, g3, g4⟩ := ih2 (i + p.length) (dn + 1) c (max dp dd) e d (by omega) (by omega) (by omega) h he
    have hq : q = p2 ++ q2 := by rw [← g1, ← List.drop_drop, h1, List.drop_left]
    refine ⟨p ++ p2, q2, max dd dd2, ?_, .cons p p2 c dd dd2 h2 g2, ?_, ?_⟩
    ·rw [h1, hq, List.append_assoc]
    ·rw [g3]; simp only [List.length_append]; omega
    ·rw [g4, Nat.max_assoc]
   ·rw [if_neg hlt] at h
    obtain rfl : c = 0 := by omega
    cases h
    refine ⟨[], l.drop i, 0, rfl, .nil, by simp, ?_⟩
    rw [wr1 (by omega) (by omega)]; omega
theorem over_some (l : List S50) (hl : l.length ≤ 100000000) : ∀ (m : Nat),
 (∀ (i K : Nat), l.length - i ≤ m → 2 * m + 1 ≤ K → ∃ x, Nae.f K l (i : Int) = some x) ∧
 (∀ (i dn c dp K : Nat), i ≤ l.length → l.length - i ≤ m → dn + c ≤ 100 → dp ≤ 100000000 → 2 * m + 2 ≤ K → ∃ x, Nae.l0 K l (i : Int) (dp : Int) ((dn + c : Nat) : Int) (dn : Int) = some x) := by
 intro m
 induction m with
 | zero =>
  have hf : ∀ (i K : Nat), l.length - i ≤ 0 → 2 * 0 + 1 ≤ K → ∃ x, Nae.f K l (i : Int) = some x := by
   intro i K hi hK
   obtain ⟨K, rfl⟩ : ∃ K', K = K' + 1 := ⟨K - 1, by omega⟩
   exact ⟨_, by rw [Nae.f, if_pos (by omega)]⟩
  refine ⟨hf, ?_⟩
  intro i dn c dp K hil hi hc hdp hK
  obtain ⟨K, rfl⟩ : ∃ K', K = K' + 1 := ⟨K - 1, by omega⟩
  rw [Nae.l0]
  by_cases hlt : (dn : Int) < ((dn + c : Nat) : Int)
  ·obtain ⟨K, rfl⟩ : ∃ K', K = K' + 1 := ⟨K - 1, by omega⟩
   rw [if_pos hlt, Nae.f, if_pos (by omega)]
   exact ⟨_, rfl⟩
  ·rw [if_neg hlt]; exact ⟨_, rfl⟩
 | succ m ih =>
  obtain ⟨ih1, ih2⟩ := ih
  have hf : ∀ (i K : Nat), l.length - i ≤ m + 1 → 2 * (m + 1) + 1 ≤ K → ∃ x, Nae.f K l (i : Int) = some x := by
   intro i K hi hK
   obtain ⟨K, rfl⟩ : ∃ K', K = K' + 1 := ⟨K - 1, by omega⟩
   rw [Nae.f]
   by_cases hil : (l.length : Int) ≤ (i : Int)
   ·exact ⟨_, if_pos hil⟩
   rw [if_neg hil, if_pos (by omega), if_pos (by omega)]
   have hil : i < l.length := by omega
   obtain ⟨-, hn, -⟩ := getD_drop (q := []) (List.drop_eq_getElem_cons hil)
   rw [hn]
   show ∃ x, (if partsS l[i] < 0 then some ((-1 : Int), (0 : Int)) else _) = some x
   split
   ·exact ⟨_, rfl⟩
   rename_i hp
   have hle := parts_le l[i]
   obtain ⟨c, hc⟩ : ∃ c : Nat, partsS l[i] = (c : Int) := ⟨(partsS l[i]).toNat, by omega⟩
   rw [wr1 (by omega) (by omega), hc, show ((i : Int) + 1) = ((i + 1 : Nat) : Int) by omega, show (c : Int) = ((0 + c : Nat) : Int) by omega]
   exact ih2 (i + 1) 0 c 0 K (by omega) (by omega) (by omega) (by omega) (by omega)
  refine ⟨hf, ?_⟩
  intro i dn c dp K hil hi hc hdp hK
  obtain ⟨K, rfl⟩ : ∃ K', K = K' + 1 := ⟨K - 1, by omega⟩
  rw [Nae.l0]
  by_cases hlt : (dn : Int) < ((dn + c : Nat) : Int)
  ·rw [if_pos hlt]
   obtain ⟨⟨e1, d1⟩, ho⟩ := hf i K (by omega) (by omega)
   rw [ho]
   show ∃ x, (if e1 < 0 then some ((-1 : Int), (0 : Int)) else _) = some x
   split
   ·exact ⟨_, rfl⟩
   rename_i he
   obtain ⟨p, q, dd, h1, h2, h3, h4⟩ := (over_back l hl K).1 i e1 d1 ho (by omega)
   have hpos := h2.pos
   have hlen := congrArg List.length h1
   simp only [List.length_drop, List.length_append] at hlen
   obtain ⟨c, rfl⟩ : ∃ c', c = c' + 1 := ⟨c - 1, by omega⟩
   rw [h3, h4, mxN, wr1 (by omega) (by omega), show ((dn : Int) + 1) = ((dn + 1 : Nat) : Int) by omega, show dn + (c + 1) = dn + 1 + c by omega]
   exact ih2 (i + p.length) (dn + 1) c (max dp dd) K (by omega) (by omega) (by omega) (by omega) (by omega)
  ·rw [if_neg hlt]; exact ⟨_, rfl⟩
end Go.Proofs.YtejbbceidnaloaaGreatDoor.P
