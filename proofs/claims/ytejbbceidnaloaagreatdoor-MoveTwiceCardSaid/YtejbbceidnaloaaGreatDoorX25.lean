import Derived.Test.YtejbbceidnaloaaGreatDoorX24
namespace Go.Proofs.YtejbbceidnaloaaGreatDoor.P
open Go.RowKit Go.Proofs.YtejbbceidnaloaaGreatDoorW.PrintWords Go.Proofs.YtejbbceidnaloaaGreatDoorW.PrintLast Go.Proofs.YtejbbceidnaloaaGreatDoorW.PrintMore
set_option linter.unusedVariables false
set_option linter.unusedSimpArgs false
theorem Tre.map {f : S50 → S50} {p : List S50} {d : Nat} (h : Tre p d) : (∀ n ∈ p, partsS (f n) = partsS n) → Tre (p.map f) d := by
 induction h using Tre.rec (motive_2 := fun c p d _ => (∀ n ∈ p, partsS (f n) = partsS n) → Frs c (p.map f) d) with
 | node n c p d h1 h2 ih =>
  intro hf
  exact .node (f n) c (p.map f) d (by rw [hf n (List.mem_cons_self ..)]; exact h1) (ih fun m hm => hf m (List.mem_cons_of_mem _ hm))
 | nil => exact .nil
 | cons p q c d e h1 h2 i1 i2 =>
  rename_i hf
  rw [List.map_append]
  exact .cons _ _ c d e (i1 fun m hm => hf m (List.mem_append_left _ hm)) (i2 fun m hm => hf m (List.mem_append_right _ hm))
theorem chk_shift {l : List S50} (h : chk l = 0) {x y : Int} (hx : -1000000000 ≤ x ∧ x ≤ 1000000000) (hy : -1000000000 ≤ y ∧ y ≤ 1000000000) : chk (l.map (shN x y)) = 0 := by
 obtain ⟨d, hd, hd2, hl⟩ := check_back (l := l) (K := 600) (by rw [chk_f, h])
 have hm := hd.map (f := shN x y) (fun n hn => sh_parts (hd.good n hn) hx hy)
 have := check_tre hm (by rw [List.length_map]; exact hl) (Nat.le_refl 600)
 rw [chk_f, if_pos hd2] at this
 exact Option.some.inj this
theorem sh_two {n : S50} (h : 0 ≤ partsS n) {a b c d : Int} (ha : -100000 ≤ a ∧ a ≤ 100000) (hb : -100000 ≤ b ∧ b ≤ 100000) (hc : -100000 ≤ c ∧ c ≤ 100000) (hd : -100000 ≤ d ∧ d ≤ 100000) (hk : (shN a b n).f0 = n.f0) : shN c d (shN a b n) = shN (a + c) (b + d) n := by
 have hg := good_of n h
 generalize partsS n = z at hg
 have key : ∀ r : S48, refR r = true → (mvR a b r).2 = true → refR (mvR a b r).1 = true ∧ mvR c d (mvR a b r).1 = mvR (a + c) (b + d) r := by
  intro r hr h1
  rw [mv_in hr (by omega) (by omega)] at h1 ⊢
  by_cases hi : inR (r.f1 + if r.f3 = true then 0 else a) (r.f2 + if r.f4 = true then 0 else b)
  ·rw [if_pos hi]
   have hr2 := ref_in hr hi
   refine ⟨hr2, ?_⟩
   rw [mv_in hr2 (by omega) (by omega), mv_in hr (by omega) (by omega)]
   simp only
   rw [show (r.f1 + if r.f3 = true then 0 else a) + (if r.f3 = true then 0 else c) = r.f1 + (if r.f3 = true then 0 else a + c) by split <;> omega, show (r.f2 + if r.f4 = true then 0 else b) + (if r.f4 = true then 0 else d) = r.f2 + (if r.f4 = true then 0 else b + d) by split <;> omega]
  ·rw [if_neg hi] at h1
   cases h1
 cases hg with
 | cell r hr =>
  have e1 : shN a b (nCell r) = if (mvR a b r).2 = true then nCell (mvR a b r).1 else lostN := rfl
  rw [e1] at hk ⊢
  by_cases h1 : (mvR a b r).2 = true
  ·obtain ⟨k1, k2⟩ := key r hr h1
   rw [if_pos h1]
   show (if (mvR c d (mvR a b r).1).2 = true then nCell (mvR c d (mvR a b r).1).1 else lostN) = if (mvR (a + c) (b + d) r).2 = true then nCell (mvR (a + c) (b + d) r).1 else lostN
   rw [k2]
  ·rw [if_neg h1] at hk
   cases hk
 | area r s hr hs he =>
  have e1 : ∀ x y (r s : S48), shN x y (nArea r s) = if (mvR x y r).2 = true ∧ (mvR x y s).2 = true then nArea (mvR x y r).1 (mvR x y s).1 else lostN := fun _ _ _ _ => rfl
  rw [e1] at hk ⊢
  by_cases h1 : (mvR a b r).2 = true ∧ (mvR a b s).2 = true
  ·obtain ⟨k1, k2⟩ := key r hr h1.1
   obtain ⟨k3, k4⟩ := key s hs h1.2
   rw [if_pos h1, e1, e1, k2, k4]
  ·rw [if_neg h1] at hk
   cases hk
 | _ => rfl
noncomputable def eqS (x y : S50) : Bool := @decide (x = y) (Classical.propDecidable _)
theorem eqS_iff {x y : S50} : eqS x y = true ↔ x = y := by unfold eqS; exact @decide_eq_true_iff _ (Classical.propDecidable _)
theorem toList_eq {a b : ByteArray} : a.toList = b.toList ↔ a = b := by
 rw [ByteArray.toList_eq, ByteArray.toList_eq]
 exact ⟨fun h => lb_ext h, fun h => by rw [h]⟩
def eqSB (x y : S50) : Bool := x.f0 == y.f0 && ((x.f1.f0 == y.f1.f0 && ((x.f1.f1.f0 == y.f1.f1.f0 && (x.f1.f1.f1 == y.f1.f1.f1)) && (x.f1.f2.toList == y.f1.f2.toList && (x.f1.f3 == y.f1.f3 && (x.f1.f4 == y.f1.f4))))) && (x.f2 == y.f2 && (x.f3.toList == y.f3.toList && (x.f4 == y.f4 && ((x.f5.f0.toList == y.f5.f0.toList && (x.f5.f1 == y.f5.f1 && (x.f5.f2 == y.f5.f2 && (x.f5.f3 == y.f5.f3 && (x.f5.f4 == y.f5.f4))))) && ((x.f6.f0.toList == y.f6.f0.toList && (x.f6.f1 == y.f6.f1 && (x.f6.f2 == y.f6.f2 && (x.f6.f3 == y.f6.f3 && (x.f6.f4 == y.f6.f4)))))))))))
theorem eqSB_iff {x y : S50} : eqSB x y = true ↔ x = y := by
 unfold eqSB
 simp only [Bool.and_eq_true, beq_iff_eq, toList_eq]
 constructor
 ·rintro ⟨h0, ⟨h1, ⟨h2, h3⟩, h4, h5, h6⟩, h7, h8, h9, ⟨h10, h11, h12, h13, h14⟩, h15, h16, h17, h18, h19⟩
  obtain ⟨x0, ⟨x1, ⟨x2, x3⟩, x4, x5, x6⟩, x7, x8, x9, ⟨x10, x11, x12, x13, x14⟩, ⟨x15, x16, x17, x18, x19⟩⟩ := x
  obtain ⟨y0, ⟨y1, ⟨y2, y3⟩, y4, y5, y6⟩, y7, y8, y9, ⟨y10, y11, y12, y13, y14⟩, ⟨y15, y16, y17, y18, y19⟩⟩ := y
  simp only at h0 h1 h2 h3 h4 h5 h6 h7 h8 h9 h10 h11 h12 h13 h14 h15 h16 h17 h18 h19
  subst h0 h1 h2 h3 h4 h5 h6 h7 h8 h9 h10 h11 h12 h13 h14 h15 h16 h17 h18 h19
  rfl
 ·rintro rfl
  simp
theorem eq50V (d : Nat) (w : World) (x y : S50) : (Op.equalIn (d + 4) 50 (.agg (cs50 x).toArray) (.agg (cs50 y).toArray)).run Tryz.prog w = .ok (eqS x y) w := by
 refine (eqA50 d w x.f0 y.f0 x.f1.f0 y.f1.f0 x.f1.f1.f0 y.f1.f1.f0 x.f1.f1.f1 y.f1.f1.f1 x.f1.f2 y.f1.f2 x.f1.f3 y.f1.f3 x.f1.f4 y.f1.f4 x.f2 y.f2 x.f3 y.f3 x.f4 y.f4 x.f5.f0 y.f5.f0 x.f5.f1 y.f5.f1 x.f5.f2 y.f5.f2 x.f5.f3 y.f5.f3 x.f5.f4 y.f5.f4 x.f6.f0 y.f6.f0 x.f6.f1 y.f6.f1 x.f6.f2 y.f6.f2 x.f6.f3 y.f6.f3 x.f6.f4 y.f6.f4).trans ?_
 congr 1
 exact (Bool.eq_iff_iff.2 (eqSB_iff.trans eqS_iff.symm))
theorem neq50 {o : Oper} {a : Act} (x y : S50) (w : World) (ho : o.op = .binOp .neq 50 (.tmp 20) (.tmp 24) 50) (hx : a.eval (.tmp 20) = .agg (cs50 x).toArray) (hy : a.eval (.tmp 24) = .agg (cs50 y).toArray) :
 (execOp a.eval o).run Tryz.prog w = .ok (.value (.bool (!eqS x y))) w := by
 unfold execOp
 simp only [ho, hx, hy, Sem.run_bind, Sem.run_pure]
 rw [run_eqGuard_agg (hm := Tryz.eqGuardType50)]
 simp only [Result.andThen]
 rw [run_neq_struct, eq50V 9996 w x y]
 rfl
def eqRows : List S50 → List S50 → Bool
 | [], [] => true
 | x :: l, y :: m => eqSB x y && eqRows l m
 | _, _ => false
theorem eqRows_iff : ∀ {l m : List S50}, eqRows l m = true ↔ l = m
 | [], [] => by simp [eqRows]
 | [], y :: m => by simp [eqRows]
 | x :: l, [] => by simp [eqRows]
 | x :: l, y :: m => by
  rw [eqRows, Bool.and_eq_true, eqSB_iff, eqRows_iff]
  simp
theorem eqRows_dec (l m : List S50) : eqRows l m = @decide (l = m) (Classical.propDecidable _) := by
 rw [Bool.eq_iff_iff, eqRows_iff]
 exact (@decide_eq_true_iff _ (Classical.propDecidable _)).symm
section
set_option maxRecDepth 100000
set_option maxHeartbeats 4000000
theorem same40_any (A1 A2 : Option Addr) (c1 c2 : Nat) (l1 l2 : List S50) (w : World) (hC1 : Kd.C k50 w A1 l1.length l1) (hC2 : Kd.C k50 w A2 l2.length l2) (hl : l1.length ≤ 1000000000000) : Calls Tryz.prog 40 #[.slice A1 l1.length c1, .slice A2 l2.length c2] w fun e w' => e = .returned (.bool (@decide (l1 = l2) (Classical.propDecidable _))) ∧ Below w.heap.size w w' := by
 have HC1 := lh hC1
 have HC2 := lh hC2
 have HL := lh hl
 have hu50 := Tryz.underlying50
 obtain ⟨r, hr⟩ : ∃ r : Bool, r = @decide (l1 = l2) (Classical.propDecidable _) := ⟨_, rfl⟩
 rw [← hr]
 have HR := lh hr
 clear hC1 hC2 hl hr
 by_cases hne : l1.length = l2.length
 ·have HNE := lh hne
  rw [← hne]
  clear hne
  go_enter Tryz.func40, Tryz.ntmps40
  go_wp2_with (fail)
  go_loopw [5] (fun v5 w' => ∃ i : Nat, i ≤ l1.length ∧ v5 = .int .i64 i ∧ Hid (∀ j, j < i → rd_T50 l1 (j : Int) = rd_T50 l2 (j : Int)) ∧ Hid (Below w.heap.size w w')) (fun v5 _ => l1.length - (intOf v5).toNat)
  case atStart => exact ⟨0, Nat.zero_le _, rfl, lh (fun j hj => by omega), lh (Below.refl _ _)⟩
  case round =>
   obtain ⟨i, hi, rfl, HE, HB⟩ := hrel
   by_cases hlt : i < l1.length
   ·obtain ⟨ad1, q1, rfl, hq1, hk1, hx0⟩ := Kd.C_get (Kd.C_below HC1.out HB.out) z50 (i : Int) (by omega) (by omega)
    obtain ⟨ad2, q2, rfl, hq2, hk2, hy0⟩ := Kd.C_get (Kd.C_below HC2.out HB.out) z50 (i : Int) (by omega) (by have := HNE.out; omega)
    obtain rfl := k50_open hk1
    obtain rfl := k50_open hk2
    have HX := lh hx0
    have HY := lh hy0
    obtain ⟨x, hxx⟩ : ∃ x_ : S50, x_ = rd_T50 l1 (i : Int) := ⟨_, rfl⟩
    obtain ⟨y, hyy⟩ : ∃ x_ : S50, x_ = rd_T50 l2 (i : Int) := ⟨_, rfl⟩
    have HXX := lh hxx
    have HYY := lh hyy
    have hx : ∀ (j : Nat) v, (cs50 x)[j]? = some v → wr.cell? ((ad1.add (i * 20)).add j) = some v := fun j v hv => by rw [add_add]; exact HX.out j v (by rw [hxx] at hv; exact hv)
    have hy : ∀ (j : Nat) v, (cs50 y)[j]? = some v → wr.cell? ((ad2.add (i * 20)).add j) = some v := fun j v hv => by rw [add_add]; exact HY.out j v (by rw [hyy] at hv; exact hv)
    clear hx0 hy0 hxx hyy hk1 hk2 hq1 hq2 HX HY
    have HI := lh hi
    have hlen2 : i < l2.length := by have := HNE.out; omega
    go_upto_region 6 with (fail)
    refine start_ (n := 9) (S := fun w' => (∀ (j : Nat) v, (cs50 x)[j]? = some v → w'.cell? ((ad1.add (i * 20)).add j) = some v) ∧ ∀ (j : Nat) v, (cs50 y)[j]? = some v → w'.cell? ((ad2.add (i * 20)).add j) = some v) (ds := []) #[false, false, false, false, false, false, false, false, false] (by kernel_rfl) rfl rfl ⟨hx, hy⟩ (fun hHeld => ?_)
    refine pP 0 17 ?_
    refine pP 1 18 ?_
    refine pP 2 19 ?_
    refine pP 4 21 ?_
    refine pP 5 22 ?_
    refine pP 6 23 ?_
    refine take_ (i := 3) (N := some 20) (v := ?_) (a' := ?_) #[true, true, true, true, true, true, true, false, false] rfl rfl (by kernel_rfl) (fun _ _ _ h => h) (Or.inl ⟨by rfl, ?_⟩) hHeld ?_ ?_
    rotate_left
    ·rintro w' ⟨s0, s1⟩
     refine elem_yields (t := 50) (p := .tmp 19) (ad := ad1.add (i * 20)) (cs := cs50 x) ?_ ?_ s0 hu50 rfl ?_
     ·rfl
     ·rfl
     ·kernel_rfl
    rotate_left
    ·simp only [Act.put, List.setIfInBounds_toArray, List.set_cons_zero, List.set_cons_succ, i64_w, i32_w]
     rfl
    refine take_ (i := 7) (N := some 24) (v := ?_) (a' := ?_) #[true, true, true, true, true, true, true, true, false] rfl rfl (by kernel_rfl) (fun _ _ _ h => h) (Or.inl ⟨by rfl, ?_⟩) hHeld ?_ ?_
    rotate_left
    ·rintro w' ⟨s0, s1⟩
     refine elem_yields (t := 50) (p := .tmp 23) (ad := ad2.add (i * 20)) (cs := cs50 y) ?_ ?_ s1 hu50 rfl ?_
     ·rfl
     ·rfl
     ·kernel_rfl
    rotate_left
    ·simp only [Act.put, List.setIfInBounds_toArray, List.set_cons_zero, List.set_cons_succ, i64_w, i32_w]
     rfl
    refine pure_ (i := 8) (N := some 25) (v := ?_) (a' := ?_) #[true, true, true, true, true, true, true, true, true] rfl rfl (by kernel_rfl) (fun _ _ _ h => h) (Or.inl ⟨by rfl, ?_⟩) ?_ ?_
    rotate_left
    ·intro w'
     refine neq50 x y w' ?_ ?_ ?_
     ·rfl
     ·rfl
     ·rfl
    rotate_left
    ·simp only [Act.put, List.setIfInBounds_toArray, List.set_cons_zero, List.set_cons_succ, i64_w, i32_w]
     rfl
    refine done_ (by kernel_rfl) ?_
    cases hb : eqS x y with
    | true =>
     have hxy := eqS_iff.1 hb
     have HXY := lh (show rd_T50 l1 (i : Int) = rd_T50 l2 (i : Int) by rw [← HXX.out, ← HYY.out, hxy])
     have hw1 : wrap64 ((i : Int) + 1) = (i : Int) + 1 := wr1 (by omega) (by have := HL.out; omega)
     have HB2 := lh (show Below w.heap.size w wr.drew from HB.out.drew)
     clear hxy hx hy
     go_wp2_with (fail)
     rw [hw1]
     clear hw1
     go_roundw
     case rel => exact ⟨i + 1, Nat.succ_le_of_lt hlt, rfl, lh (fun j hj => by rcases Nat.lt_succ_iff_lt_or_eq.1 hj with h | rfl; exact HE.out j h; exact HXY.out), HB2⟩
     case measure => simp only [intOf]; omega
    | false =>
     have hxy : ¬ x = y := fun h => by rw [eqS_iff.2 h] at hb; cases hb
     have HRF := lh (show r = false by rw [HR.out]; exact @decide_eq_false _ (Classical.propDecidable _) (fun hh => hxy (by rw [HXX.out, HYY.out, hh])))
     have HB2 := lh (show Below w.heap.size w wr.drew from HB.out.drew)
     clear hxy hx hy
     go_wp2_with (fail)
     go_ret
     exact ⟨by rw [HRF.out]; rfl, HB2.out⟩
   ·obtain rfl : i = l1.length := by omega
    have HRT := lh (show r = true by
     rw [HR.out]
     refine @decide_eq_true _ (Classical.propDecidable _) (List.ext_getElem HNE.out fun j h1 h2 => ?_)
     have := HE.out j h1
     unfold rd_T50 at this
     simpa [List.getD, h1, h2] using this)
    clear hi hlt
    go_wp2_with (fail)
    go_ret
    exact ⟨by rw [HRT.out]; rfl, HB.out⟩
 ·have HRF := lh (show r = false by rw [HR.out]; exact @decide_eq_false _ (Classical.propDecidable _) (fun hh => hne (by rw [hh])))
  have hb : ((l1.length : Int) != (l2.length : Int)) = true := by rw [bne_iff_ne]; omega
  clear hne
  go_enter Tryz.func40, Tryz.ntmps40
  go_wp2_with (fail)
  go_ret
  exact ⟨by rw [HRF.out]; rfl, Below.refl _ _⟩
def law6_same_h.f (l0 : List (S50)) (l1 : List (S50)) : Option Bool := if l0.length ≤ 1000000000000 then some (eqRows l0 l1) else none
theorem law6_same_h.calls (A0 : Option Addr) (c0 : Nat) (l0 : List (S50)) (A1 : Option Addr) (c1 : Nat) (l1 : List (S50)) (r : Bool) (w : World) (hr0 : Kd.C k50 w A0 l0.length l0) (hc0 : l0.length ≤ c0) (hr1 : Kd.C k50 w A1 l1.length l1) (hc1 : l1.length ≤ c1) (h : law6_same_h.f l0 l1 = some r) :
 Calls Tryz.prog 40 #[.slice A0 l0.length c0, .slice A1 l1.length c1] w fun e w' => e = .returned (.bool r) ∧ Below w.heap.size w w' := by
 unfold law6_same_h.f at h
 split at h
 ·rename_i hl
  obtain rfl := Option.some.inj h
  rw [eqRows_dec]
  exact same40_any A0 A1 c0 c1 l0 l1 w hr0 hr1 hl
 ·cases h
def able6_g.f : Option Bool := some true
theorem able6_g.calls (r : Bool) (w : World) (hG : GL w) (h : able6_g.f = some r) : Calls Tryz.prog 39 #[] w fun e w' => e = .returned (.bool r) ∧ Below w.heap.size w w' := by
 obtain rfl := Option.some.inj h
 exact ab6.calls true w hG able6_true
end
end Go.Proofs.YtejbbceidnaloaaGreatDoor.P
