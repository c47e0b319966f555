import Derived.Test.YtejbbceidnaloaaGreatDoorK42
namespace Go.Proofs.YtejbbceidnaloaaGreatDoor.P
open Go.RowKit Go.Proofs.YtejbbceidnaloaaGreatDoorW.PrintWords Go.Proofs.YtejbbceidnaloaaGreatDoorW.PrintLast Go.Proofs.YtejbbceidnaloaaGreatDoorW.PrintMore
set_option linter.unusedVariables false
set_option linter.unusedSimpArgs false
noncomputable def eqS (x y : S50) : Bool := @decide (x = y) (Classical.propDecidable _)
theorem eqS_iff {x y : S50} : eqS x y = true ↔ x = y := by unfold eqS; exact @decide_eq_true_iff _ (Classical.propDecidable _)
theorem toList_eq {a b : ByteArray} : a.toList = b.toList ↔ a = b := by
 rw [ByteArray.toList_eq, ByteArray.toList_eq]
 exact ⟨fun h => lb_ext h, fun h => by rw [h]⟩
def eqSB (x y : S50) : Bool := x.f0 == y.f0 && ((x.f1.f0 == y.f1.f0 && ((x.f1.f1.f0 == y.f1.f1.f0 && (x.f1.f1.f1 == y.f1.f1.f1)) && (x.f1.f2.toList == y.f1.f2.toList && (x.f1.f3 == y.f1.f3 && (x.f1.f4 == y.f1.f4))))) && (x.f2 == y.f2 && (x.f3.toList == y.f3.toList && (x.f4 == y.f4 && ((x.f5.f0.toList == y.f5.f0.toList && (x.f5.f1 == y.f5.f1 && (x.f5.f2 == y.f5.f2 && (x.f5.f3 == y.f5.f3 && (x.f5.f4 == y.f5.f4))))) && ((x.f6.f0.toList == y.f6.f0.toList && (x.f6.f1 == y.f6.f1 && (x.f6.f2 == y.f6.f2 && (x.f6.f3 == y.f6.f3 && (x.f6.f4 == y.f6.f4)))))))))))
theorem eqSB_iff {x y : S50} : eqSB x y = true ↔ x = y := by
 unfold eqSB
 simp only [Bool.and_eq_true, beq_iff_eq, toList_eq]
 constructor
 ·rintro ⟨h0, ⟨h1, ⟨h2, h3⟩, h4, h5, h6⟩, h7, h8, h9, ⟨h10, h11, h12, h13, h14⟩, h15, h16, h17, h18, h19⟩
  obtain ⟨x0, ⟨x1, ⟨x2, x3⟩, x4, x5, x6⟩, x7, x8, x9, ⟨x10, x11, x12, x13, x14⟩, ⟨x15, x16, x17, x18, x19⟩⟩ := x
  obtain ⟨y0, ⟨y1, ⟨y2, y3⟩, y4, y5, y6⟩, y7, y8, y9, ⟨y10, y11, y12, y13, y14⟩, ⟨y15, y16, y17, y18, y19⟩⟩ := y
  simp only at h0 h1 h2 h3 h4 h5 h6 h7 h8 h9 h10 h11 h12 h13 h14 h15 h16 h17 h18 h19
  subst h0 h1 h2 h3 h4 h5 h6 h7 h8 h9 h10 h11 h12 h13 h14 h15 h16 h17 h18 h19
  rfl
 ·rintro rfl
  simp
theorem eq50V (d : Nat) (w : World) (x y : S50) : (Op.equalIn (d + 4) 50 (.agg (cs50 x).toArray) (.agg (cs50 y).toArray)).run Tryz.prog w = .ok (eqS x y) w := by
 refine (eqA50 d w x.f0 y.f0 x.f1.f0 y.f1.f0 x.f1.f1.f0 y.f1.f1.f0 x.f1.f1.f1 y.f1.f1.f1 x.f1.f2 y.f1.f2 x.f1.f3 y.f1.f3 x.f1.f4 y.f1.f4 x.f2 y.f2 x.f3 y.f3 x.f4 y.f4 x.f5.f0 y.f5.f0 x.f5.f1 y.f5.f1 x.f5.f2 y.f5.f2 x.f5.f3 y.f5.f3 x.f5.f4 y.f5.f4 x.f6.f0 y.f6.f0 x.f6.f1 y.f6.f1 x.f6.f2 y.f6.f2 x.f6.f3 y.f6.f3 x.f6.f4 y.f6.f4).trans ?_
 congr 1
 exact (Bool.eq_iff_iff.2 (eqSB_iff.trans eqS_iff.symm))
theorem neq50 {o : Oper} {a : Act} (x y : S50) (w : World) (ho : o.op = .binOp .neq 50 (.tmp 20) (.tmp 24) 50) (hx : a.eval (.tmp 20) = .agg (cs50 x).toArray) (hy : a.eval (.tmp 24) = .agg (cs50 y).toArray) :
 (execOp a.eval o).run Tryz.prog w = .ok (.value (.bool (!eqS x y))) w := by
 unfold execOp
 simp only [ho, hx, hy, Sem.run_bind, Sem.run_pure]
 rw [run_eqGuard_agg (hm := Tryz.eqGuardType50)]
 simp only [Result.andThen]
 rw [run_neq_struct, eq50V 9996 w x y]
 rfl
set_option maxRecDepth 100000 in
set_option maxHeartbeats 4000000 in
theorem same24_any (A1 A2 : Option Addr) (c1 c2 : Nat) (l1 l2 : List S50) (w : World) (hC1 : Kd.C k50 w A1 l1.length l1) (hC2 : Kd.C k50 w A2 l2.length l2) (hl : l1.length ≤ 1000000000000) : Calls Tryz.prog 24 #[.slice A1 l1.length c1, .slice A2 l2.length c2] w fun e w' => e = .returned (.bool (@decide (l1 = l2) (Classical.propDecidable _))) ∧ Below w.heap.size w w' := by
 have HC1 := Lib.hid hC1
 have HC2 := Lib.hid hC2
 have HL := Lib.hid hl
 have hu50 := Tryz.underlying50
 obtain ⟨r, hr⟩ : ∃ r : Bool, r = @decide (l1 = l2) (Classical.propDecidable _) := ⟨_, rfl⟩
 rw [← hr]
 have HR := Lib.hid hr
 clear hC1 hC2 hl hr
 by_cases hne : l1.length = l2.length
 ·have HNE := Lib.hid hne
  rw [← hne]
  clear hne
  go_enter Tryz.func24, Tryz.ntmps24
  go_wp2_with (fail)
  go_loopw [5] (fun v5 w' => ∃ i : Nat, i ≤ l1.length ∧ v5 = .int .i64 i ∧ Hid (∀ j, j < i → rd_T50 l1 (j : Int) = rd_T50 l2 (j : Int)) ∧ Hid (Below w.heap.size w w')) (fun v5 _ => l1.length - (intOf v5).toNat)
  case atStart => exact ⟨0, Nat.zero_le _, rfl, Lib.hid (fun j hj => by omega), Lib.hid (Below.refl _ _)⟩
  case round =>
   obtain ⟨i, hi, rfl, HE, HB⟩ := hrel
   by_cases hlt : i < l1.length
   ·obtain ⟨ad1, q1, rfl, hq1, hk1, hx0⟩ := Kd.C_get (Kd.C_below HC1.out HB.out) z50 (i : Int) (by omega) (by omega)
    obtain ⟨ad2, q2, rfl, hq2, hk2, hy0⟩ := Kd.C_get (Kd.C_below HC2.out HB.out) z50 (i : Int) (by omega) (by have := HNE.out; omega)
    obtain rfl := k50_open hk1
    obtain rfl := k50_open hk2
    have HX := Lib.hid hx0
    have HY := Lib.hid hy0
    obtain ⟨x, hxx⟩ : ∃ x_ : S50, x_ = rd_T50 l1 (i : Int) := ⟨_, rfl⟩
    obtain ⟨y, hyy⟩ : ∃ x_ : S50, x_ = rd_T50 l2 (i : Int) := ⟨_, rfl⟩
    have HXX := Lib.hid hxx
    have HYY := Lib.hid hyy
    have hx : ∀ (j : Nat) v, (cs50 x)[j]? = some v → wr.cell? ((ad1.add (i * 20)).add j) = some v := fun j v hv => by rw [add_add]; exact HX.out j v (by rw [hxx] at hv; exact hv)
    have hy : ∀ (j : Nat) v, (cs50 y)[j]? = some v → wr.cell? ((ad2.add (i * 20)).add j) = some v := fun j v hv => by rw [add_add]; exact HY.out j v (by rw [hyy] at hv; exact hv)
    clear hx0 hy0 hxx hyy hk1 hk2 hq1 hq2 HX HY
    have HI := Lib.hid hi
    have hlen2 : i < l2.length := by have := HNE.out; omega
    go_upto_region 6 with (fail)
    refine start_ (n := 9) (S := fun w' => (∀ (j : Nat) v, (cs50 x)[j]? = some v → w'.cell? ((ad1.add (i * 20)).add j) = some v) ∧ ∀ (j : Nat) v, (cs50 y)[j]? = some v → w'.cell? ((ad2.add (i * 20)).add j) = some v) (ds := []) #[false, false, false, false, false, false, false, false, false] (by kernel_rfl) rfl rfl ⟨hx, hy⟩ (fun hHeld => ?_)
    refine pP 0 17 ?_
    refine pP 1 18 ?_
    refine pP 2 19 ?_
    refine pP 4 21 ?_
    refine pP 5 22 ?_
    refine pP 6 23 ?_
    refine take_ (i := 3) (N := some 20) (v := ?_) (a' := ?_) #[true, true, true, true, true, true, true, false, false] rfl rfl (by kernel_rfl) (fun _ _ _ h => h) (Or.inl ⟨by rfl, ?_⟩) hHeld ?_ ?_
    rotate_left
    ·rintro w' ⟨s0, s1⟩
     refine elem_yields (t := 50) (p := .tmp 19) (ad := ad1.add (i * 20)) (cs := cs50 x) ?_ ?_ s0 hu50 rfl ?_
     ·rfl
     ·rfl
     ·kernel_rfl
    rotate_left
    ·simp only [Act.put, List.setIfInBounds_toArray, List.set_cons_zero, List.set_cons_succ, i64_w, i32_w]
     rfl
    refine take_ (i := 7) (N := some 24) (v := ?_) (a' := ?_) #[true, true, true, true, true, true, true, true, false] rfl rfl (by kernel_rfl) (fun _ _ _ h => h) (Or.inl ⟨by rfl, ?_⟩) hHeld ?_ ?_
    rotate_left
    ·rintro w' ⟨s0, s1⟩
     refine elem_yields (t := 50) (p := .tmp 23) (ad := ad2.add (i * 20)) (cs := cs50 y) ?_ ?_ s1 hu50 rfl ?_
     ·rfl
     ·rfl
     ·kernel_rfl
    rotate_left
    ·simp only [Act.put, List.setIfInBounds_toArray, List.set_cons_zero, List.set_cons_succ, i64_w, i32_w]
     rfl
    refine pure_ (i := 8) (N := some 25) (v := ?_) (a' := ?_) #[true, true, true, true, true, true, true, true, true] rfl rfl (by kernel_rfl) (fun _ _ _ h => h) (Or.inl ⟨by rfl, ?_⟩) ?_ ?_
    rotate_left
    ·intro w'
     refine neq50 x y w' ?_ ?_ ?_
     ·rfl
     ·rfl
     ·rfl
    rotate_left
    ·simp only [Act.put, List.setIfInBounds_toArray, List.set_cons_zero, List.set_cons_succ, i64_w, i32_w]
     rfl
    refine done_ (by kernel_rfl) ?_
    cases hb : eqS x y with
    | true =>
     have hxy := eqS_iff.1 hb
     have HXY := Lib.hid (show rd_T50 l1 (i : Int) = rd_T50 l2 (i : Int) by rw [← HXX.out, ← HYY.out, hxy])
     have hw1 : wrap64 ((i : Int) + 1) = (i : Int) + 1 := wr1 (by omega) (by have := HL.out; omega)
     have HB2 := Lib.hid (show Below w.heap.size w wr.drew from HB.out.drew)
     clear hxy hx hy
     go_wp2_with (fail)
     rw [hw1]
     clear hw1
     go_roundw
     case rel => exact ⟨i + 1, Nat.succ_le_of_lt hlt, rfl, Lib.hid (fun j hj => by rcases Nat.lt_succ_iff_lt_or_eq.1 hj with h | rfl; exact HE.out j h; exact HXY.out), HB2⟩
     case measure => simp only [intOf]; omega
    | false =>
     have hxy : ¬ x = y := fun h => by rw [eqS_iff.2 h] at hb; cases hb
     have HRF := Lib.hid (show r = false by rw [HR.out]; exact @decide_eq_false _ (Classical.propDecidable _) (fun hh => hxy (by rw [HXX.out, HYY.out, hh])))
     have HB2 := Lib.hid (show Below w.heap.size w wr.drew from HB.out.drew)
     clear hxy hx hy
     go_wp2_with (fail)
     go_ret
     exact ⟨by rw [HRF.out]; rfl, HB2.out⟩
   ·obtain rfl : i = l1.length := by omega
    have HRT := Lib.hid (show r = true by
     rw [HR.out]
     refine @decide_eq_true _ (Classical.propDecidable _) (List.ext_getElem HNE.out fun j h1 h2 => ?_)
     have := HE.out j h1
     unfold rd_T50 at this
     simpa [List.getD, h1, h2] using this)
    clear hi hlt
    go_wp2_with (fail)
    go_ret
    exact ⟨by rw [HRT.out]; rfl, HB.out⟩
 ·have HRF := Lib.hid (show r = false by rw [HR.out]; exact @decide_eq_false _ (Classical.propDecidable _) (fun hh => hne (by rw [hh])))
  have hb : ((l1.length : Int) != (l2.length : Int)) = true := by rw [bne_iff_ne]; omega
  clear hne
  go_enter Tryz.func24, Tryz.ntmps24
  go_wp2_with (fail)
  go_ret
  exact ⟨by rw [HRF.out]; rfl, Below.refl _ _⟩
def eqRows : List S50 → List S50 → Bool
 | [], [] => true
 | x :: l, y :: m => eqSB x y && eqRows l m
 | _, _ => false
theorem eqRows_iff : ∀ {l m : List S50}, eqRows l m = true ↔ l = m
 | [], [] => by simp [eqRows]
 | [], y :: m => by simp [eqRows]
 | x :: l, [] => by simp [eqRows]
 | x :: l, y :: m => by
  rw [eqRows, Bool.and_eq_true, eqSB_iff, eqRows_iff]
  simp
theorem eqRows_dec (l m : List S50) : eqRows l m = @decide (l = m) (Classical.propDecidable _) := by
 rw [Bool.eq_iff_iff, eqRows_iff]
 exact (@decide_eq_true_iff _ (Classical.propDecidable _)).symm
def law5_same_h.f (l0 : List (S50)) (l1 : List (S50)) : Option Bool := if l0.length ≤ 1000000000000 then some (eqRows l0 l1) else none
theorem law5_same_h.calls (A0 : Option Addr) (c0 : Nat) (l0 : List (S50)) (A1 : Option Addr) (c1 : Nat) (l1 : List (S50)) (r : Bool) (w : World) (hr0 : Kd.C k50 w A0 l0.length l0) (hc0 : l0.length ≤ c0) (hr1 : Kd.C k50 w A1 l1.length l1) (hc1 : l1.length ≤ c1) (h : law5_same_h.f l0 l1 = some r) :
 Calls Tryz.prog 24 #[.slice A0 l0.length c0, .slice A1 l1.length c1] w fun e w' => e = .returned (.bool r) ∧ Below w.heap.size w w' := by
 unfold law5_same_h.f at h
 split at h
 ·rename_i hl
  obtain rfl := Option.some.inj h
  rw [eqRows_dec]
  exact same24_any A0 A1 c0 c1 l0 l1 w hr0 hr1 hl
 ·cases h
end Go.Proofs.YtejbbceidnaloaaGreatDoor.P
