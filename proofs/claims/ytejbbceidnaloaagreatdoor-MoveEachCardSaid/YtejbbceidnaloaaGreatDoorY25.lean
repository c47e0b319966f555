import Derived.Test.YtejbbceidnaloaaGreatDoorY24
namespace Go.Proofs.YtejbbceidnaloaaGreatDoor.P
open Go.RowKit Go.Proofs.YtejbbceidnaloaaGreatDoorW.PrintWords Go.Proofs.YtejbbceidnaloaaGreatDoorW.PrintLast Go.Proofs.YtejbbceidnaloaaGreatDoorW.PrintMore
set_option linter.unusedVariables false
set_option linter.unusedSimpArgs false
section
attribute [local go_sem] max2_int min2_int max_two min_two max_three min_three max_four min_four
def mte.l0 : Nat → ByteArray → List (S64) → List ByteArray → Int → Int → Int → Int → Option (Bool)
 | 0, _, _, _, _, _, _, _ => none
 | k + 1, x0, x2, x7, x11, x102000, x102001, x102002 => if x11 < (x2.length : Int) then (if 0 ≤ x11 then ((mcp.f x0 (wrap64 (((rd_T64 x2 x11).f1) - x102001)) (wrap64 (((rd_T64 x2 x11).f2) - x102002))).bind fun bt117 => (if bt117.2 = 0 then (if x11 < (x7.length : Int) then (if bt117.1.toList = (rdOf ByteArray.empty x7 x11).toList then (mte.l0 k x0 x2 x7 (wrap64 (x11 + 1)) x102000 x102001 x102002) else (some false)) else (none)) else (some false))) else (none)) else (some true)
def mte.f (k : Nat) (a0 : ByteArray) (a1_0 : Int) (a1_1 : Int) (a1_2 : Int) (l2 : List (S64)) : Option (Bool) := (able6_g.f).bind fun t102 => (if t102 = true then (if (l2.length : Int) > 500 then (some true) else ((some (([] : List (S64)) : List (S64))).bind fun y103 => (if y103.length + l2.length < 5864062014805 then ((mfl.f k a0 a1_0 a1_1 a1_2 (y103 ++ l2)).bind fun bt109 => (if bt109.2 = 110 then (some ((bt109.1.length : Int) == 0)) else (if bt109.2 = 0 then (if (bt109.1.length : Int) = (l2.length : Int) then (mte.l0 k a0 l2 bt109.1 0 a1_0 a1_1 a1_2) else (some false)) else ((mcp.f a0 0 0).bind fun bt113 => (if (bt109.1.length : Int) = 0 then (if (l2.length : Int) > 0 then (if bt113.2 = 0 then (some (bt109.2 == 2)) else (some true)) else (some false)) else (some false)))))) else (none)))) else (some false))
def mte.T5 : Bool × List (List Nat × List Nat) := (true, [([], []), ([], []), ([], []), ([], []), ([2, 3], [2, 3]), ([0, 1, 4, 4], [0, 1, 4]), ([5], [5]), ([6], [6]), ([6], [6]), ([7, 5, 0, 1, 2, 3, 4, 5, 6, 7], [7]), ([8, 9, 0, 1, 2, 3, 4, 5, 6, 7, 8, 9], [8])])
def mte.B5 : List Nat := [0, 0, 0, 0, 12, 31, 63, 127, 127, 255, 1023]
theorem mte.tab5 : rtab .any (opsOf Tryz.f20 5) = mte.T5 := by kernel_rfl
theorem mte.bits5 : waitsOk mte.T5.2 mte.B5 = true := by kernel_rfl
def mte.T16 : Bool × List (List Nat × List Nat) := (true, [([], []), ([], []), ([], []), ([1, 2], [1, 2]), ([3], [3]), ([4], [4]), ([], []), ([6], [6]), ([5, 7], [5, 7]), ([], []), ([], []), ([9, 10], [9, 10]), ([11], [11]), ([12], [12]), ([], []), ([14], [14]), ([13, 15], [13, 15]), ([0, 8, 16], [0, 8, 16]), ([17], [17]), ([18], [18]), ([18], [18]), ([19, 17, 0, 1, 2, 3, 4, 5, 6, 7, 8, 9, 10, 11, 12, 13, 14, 15, 16, 17, 18, 19], [19]), ([20, 21, 0, 1, 2, 3, 4, 5, 6, 7, 8, 9, 10, 11, 12, 13, 14, 15, 16, 17, 18, 19, 20, 21], [20])])
def mte.B16 : List Nat := [0, 0, 0, 6, 14, 30, 0, 64, 254, 0, 0, 1536, 3584, 7680, 0, 16384, 65024, 131071, 262143, 524287, 524287, 1048575, 4194303]
theorem mte.tab16 : rtab .any (opsOf Tryz.f20 16) = mte.T16 := by kernel_rfl
theorem mte.bits16 : waitsOk mte.T16.2 mte.B16 = true := by kernel_rfl
set_option maxHeartbeats 8000000 in
set_option maxRecDepth 100000 in
theorem mte.calls (k : Nat) (a0 : ByteArray) (a1_0 : Int) (a1_1 : Int) (a1_2 : Int) (A2 : Option Addr) (c2 : Nat) (l2 : List (S64)) (r : Bool) (w : World) (hr2 : Kd.C k64 w A2 l2.length l2) (hc2 : l2.length ≤ c2) (hG : GL w) (hr_ : Aside0 (r = true)) (h : mte.f k a0 a1_0 a1_1 a1_2 l2 = some r) :
 Calls Tryz.prog 20 #[.string a0, .agg #[.int .i64 a1_0, .int .i64 a1_1, .int .i64 a1_2], .slice A2 l2.length c2] w fun e w' => e = .returned (.bool r) ∧ Below w.heap.size w w' := by
 have hu64 := Tryz.underlying64
 have HR2 := aM hr2
 have HC2 := aM hc2
 clear hr2 hc2
 have HB := aM (Below.refl w.heap.size w)
 have H := h
 unfold mte.f at H
 clear h
 replace H := Option.bind_eq_some_iff.mp H
 obtain ⟨t102, A40, H⟩ := H
 try dsimp only at H
 have A4 := aM A40
 clear A40
 by_cases c5 : t102 = true
 ·subst c5
  rw [if_pos rfl] at H
  by_cases c6 : (l2.length : Int) > 500
  ·rw [if_pos c6] at H
   have c6b0 : decide (500 < (l2.length : Int)) = true := decide_eq_true c6
   have c6b1 : decide (500 < l2.length) = true := decide_eq_true (by omega)
   clear c6
   obtain rfl := Option.some.inj H
   go_enter Tryz.func20, Tryz.ntmps20
   go_wp2_with (first | ((with_reducible refine gate_dst (N := 4) rfl ?_); (try (refine gate_guard (by rfl) ?_; dsimp only)); refine bX 4 #[.int .i64 a1_0, .int .i64 a1_1, .int .i64 a1_2] 64 ?_; intro gb101 hg w7 hbox hb; have BK101 := aM (hbox); have GW101 := aM ((by rw [hg]; exact (below_size bE) : w.heap.size ≤ gb101)); have GE101 := GW101; replace HB := aM (below_step bE hb); clear hb hbox hg) | ((with_reducible refine gate_callee (f := 39) rfl ?_); refine gL 14 Tryz.func39 #[] ?_; (with_reducible refine (able6_g.calls  true _ ?side1 A4.out).mono ?_); (case side1 => exact GL.below hG bE); rintro e w8 ⟨rfl, hb⟩; refine ⟨_, rfl, ?_⟩; replace BK101 := aM (blk_below (g := gb101) (o := .cells #[.int .i64 a1_0, .int .i64 a1_1, .int .i64 a1_2] 64 (0, 0)) (bd BK101.out) hb); replace HB := aM (below_step bE hb); (try clear hb)))
   go_ret
   exact ⟨eR, bE⟩
  ·rw [if_neg c6] at H
   have c6b0 : decide (500 < (l2.length : Int)) = false := decide_eq_false c6
   have c6b1 : decide (500 < l2.length) = false := decide_eq_false (by omega)
   clear c6
   obtain ⟨y103, hy103⟩ : ∃ y_ : List (S64), y_ = (([] : List (S64))) := ⟨_, rfl⟩
   replace H : (if y103.length + l2.length < 5864062014805 then ((mfl.f k a0 a1_0 a1_1 a1_2 (y103 ++ l2)).bind fun bt109 => (if bt109.2 = 110 then (some ((bt109.1.length : Int) == 0)) else (if bt109.2 = 0 then (if (bt109.1.length : Int) = (l2.length : Int) then (mte.l0 k a0 l2 bt109.1 0 a1_0 a1_1 a1_2) else (some false)) else ((mcp.f a0 0 0).bind fun bt113 => (if (bt109.1.length : Int) = 0 then (if (l2.length : Int) > 0 then (if bt113.2 = 0 then (some (bt109.2 == 2)) else (some true)) else (some false)) else (some false)))))) else (none)) = some r := by first | (rw [hy103]; with_reducible exact H) | (have H2_ := (Option.bind_some _ _).symm.trans H; rw [hy103]; with_reducible exact H2_) | (have H2_ := (Option.bind_some _ _).symm.trans H; with_reducible exact H2_) | with_reducible exact H | (rw [hy103]; exact H) | exact H
   have Ny103 := aM hy103
   clear hy103
   by_cases c9 : y103.length + l2.length < 5864062014805
   ·rw [if_pos c9] at H
    have LMc9 := aM c9
    clear c9
    obtain ⟨y106, hy106⟩ : ∃ y_ : List (S64), y_ = (y103 ++ l2) := ⟨_, rfl⟩
    replace H : ((mfl.f k a0 a1_0 a1_1 a1_2 y106).bind fun bt109 => (if bt109.2 = 110 then (some ((bt109.1.length : Int) == 0)) else (if bt109.2 = 0 then (if (bt109.1.length : Int) = (l2.length : Int) then (mte.l0 k a0 l2 bt109.1 0 a1_0 a1_1 a1_2) else (some false)) else ((mcp.f a0 0 0).bind fun bt113 => (if (bt109.1.length : Int) = 0 then (if (l2.length : Int) > 0 then (if bt113.2 = 0 then (some (bt109.2 == 2)) else (some true)) else (some false)) else (some false)))))) = some r := by first | (rw [hy106]; with_reducible exact H) | (have H2_ := (Option.bind_some _ _).symm.trans H; rw [hy106]; with_reducible exact H2_) | (have H2_ := (Option.bind_some _ _).symm.trans H; with_reducible exact H2_) | with_reducible exact H | (rw [hy106]; exact H) | exact H
    have Ny106 := aM hy106
    clear hy106
    replace H := Option.bind_eq_some_iff.mp H
    obtain ⟨⟨t109, t112⟩, A100, H⟩ := H
    try dsimp only at H
    have A10 := aM A100
    clear A100
    by_cases c11 : t112 = 110
    ·rw [if_pos c11] at H
     obtain ⟨c11b0, c11b1⟩ := bqT c11
     clear c11
     obtain rfl := Option.some.inj H
     go_enter Tryz.func20, Tryz.ntmps20
     try go_wp2_with (first | ((with_reducible refine gate_dst (N := 4) rfl ?_); (try (refine gate_guard (by rfl) ?_; dsimp only)); refine bX 4 #[.int .i64 a1_0, .int .i64 a1_1, .int .i64 a1_2] 64 ?_; intro gb101 hg w12 hbox hb; have BK101 := aM (hbox); have GW101 := aM ((by rw [hg]; exact (below_size bE) : w.heap.size ≤ gb101)); have GE101 := GW101; replace HB := aM (below_step bE hb); clear hb hbox hg) | ((with_reducible refine gate_callee (f := 39) rfl ?_); refine gL 14 Tryz.func39 #[] ?_; (with_reducible refine (able6_g.calls  true _ ?side1 A4.out).mono ?_); (case side1 => exact GL.below hG bE); rintro e w13 ⟨rfl, hb⟩; refine ⟨_, rfl, ?_⟩; replace BK101 := aM (blk_below (g := gb101) (o := .cells #[.int .i64 a1_0, .int .i64 a1_1, .int .i64 a1_2] 64 (0, 0)) (bd BK101.out) hb); replace HB := aM (below_step bE hb); (try clear hb)))
     have n0_ := aM (blk_drew BK101.out)
     have n1_ := aM (below_drew1 HB.out)
     clear BK101
     clear HB
     have BK101 := n0_
     have HB := n1_
     clear n0_ n1_
     refine start_ (n := 11) (S := fun w' => w'.cell? ⟨gb101, 0, none⟩ = some (.int .i64 a1_0) ∧ w'.cell? ⟨gb101, 1, none⟩ = some (.int .i64 a1_1) ∧ w'.cell? ⟨gb101, 2, none⟩ = some (.int .i64 a1_2)) (ds := []) #[false, false, false, false, false, false, false, false, false, false, false] (by kernel_rfl) rfl rfl ⟨(blk_cell BK101.out 0).trans rfl, (blk_cell BK101.out 1).trans rfl, (blk_cell BK101.out 2).trans rfl⟩ (fun hHeld => ?_); refine with_tabW mte.tab5 mte.bits5 (fun HT_ HW_ => ?_)
     generalize w13.drew = w14 at BK101 HB hHeld ⊢
     refine pP 0 20 ?_ (hc := any_of HT_.out (by kernel_rfl))
     refine pP 3 23 ?_ (hc := any_of HT_.out (by kernel_rfl))
     refine take_ (i := 1) (N := some 21) (v := ?_) (a' := ?_) #[true, true, false, true, false, false, false, false, false, false, false] rfl rfl (take_ofW HT_.out HW_.out (by kernel_rfl)) (fun _ _ _ h => h) (Or.inl ⟨by rfl, ?_⟩) hHeld ?_ ?_
     rotate_left
     ·rintro w' ⟨s0, s1, s2⟩
      go_simp
      with_reducible rfl
     rotate_left
     ·simp only [Act.put, List.setIfInBounds_toArray, List.set_cons_zero, List.set_cons_succ, i64_w, i32_w]
      rfl
     refine one_ (i := 2) (N := some 22) #[true, true, true, true, false, false, false, false, false, false, false] rfl rfl (one_of HT_.out (by kernel_rfl)) (by decide) (fun K hK => ?_)
     refine Kd.R_lit_step k64 _ 64 ?hg (N := 22) ?hd (xs := ([] : List (S64))) (inner := []) (ok := fun _ => True) (okp := fun _ => True) ?hr ?hp (fun _ hk => hk) trivial (Below.refl _ _) (Nat.le_refl _) (by simp) ?_; (case hd => rfl); (case hg => rfl); (case hr => go_simp <;> rfl); (case hp => exact (Reps.none _ _))
     intro v104 w15 ho16 hb hg_ hnew_
     clear hg_ hnew_
     (first | rw [← Ny103.out] at ho16 | (simp only [Int.reduceToNat] at ho16; rw [← Ny103.out] at ho16))
     have n0_ := aM (Kd.R_lower (Kd.R_newB ho16 (g := gb101) (o := .cells #[.int .i64 a1_0, .int .i64 a1_1, .int .i64 a1_2] 64 (0, 0)) (bd BK101.out)) (below_size bE))
     have n1_ := aM (blk_below (g := gb101) (o := .cells #[.int .i64 a1_0, .int .i64 a1_1, .int .i64 a1_2] 64 (0, 0)) (bd BK101.out) hb)
     have n2_ := aM (below_step bE hb)
     clear BK101
     clear HB
     have HO105 := n0_
     have BK101 := n1_
     have HB := n2_
     clear n0_ n1_ n2_
     clear hb ho16
     refine hK.out _ _ ⟨(blk_cell BK101.out 0).trans rfl, (blk_cell BK101.out 1).trans rfl, (blk_cell BK101.out 2).trans rfl⟩ (fun hHeld => ?_)
     clear hK K
     refine nP 22 ?_
     refine one_ (i := 4) (N := some 24) #[true, true, true, true, true, false, false, false, false, false, false] rfl rfl (one_of HT_.out (by kernel_rfl)) (by decide) (fun K hK => ?_)
     refine Kd.R_append_rows_step k64 (w0 := w) w.heap.size (by rfl) (.tmp 22) (.tmp 23) 65 64 (.agg #[(.int .i64 0), (.int .i64 0), (.int .i64 0)]) 24 rfl Tryz.underlying65 info64 rfl (by decide) (by omega) v104 y103 l2 _ _ _ (fun k_ => k_ ≠ gb101) (fun _ => False) rfl rfl ?aO ?aR (fun _ _ h => h) (fun _ h => h.elim) ?aF ?aB ?aS ?aL ?_
     (case aR => repeat (first | exact (Kd.C_below HR2.out HB.out) | (with_reducible refine Kd.C_alloc ?_ _) | (with_reducible refine Kd.C_drewN ?_ _) | (with_reducible refine Kd.C_drew ?_)))
     (case aB => exact bE)
     (case aF => exact (fun k_ hk => Kd.freshB (g := gb101) (o := .cells #[.int .i64 a1_0, .int .i64 a1_1, .int .i64 a1_2] 64 (0, 0)) (bd BK101.out) k_ hk))
     (case aO => exact (by (with_reducible repeat (first | apply Kd.R_alloc | apply Kd.R_drewN | apply Kd.R_drew)); exact Kd.R_mono HO105.out (fun _ hk => hk.2)))
     (case aS => exact (below_size bE))
     (case aL => have := LMc9.out; omega)
     intro v107 w17 ho hb hg hat
     rw [← Ny106.out] at ho
     have n0_ := aM (blk_grown (g := gb101) (o := .cells #[.int .i64 a1_0, .int .i64 a1_1, .int .i64 a1_2] 64 (0, 0)) (bd BK101.out) hg (Kd.R_away HO105.out (fun _ hk => hk.2)))
     have n1_ := aM (hb)
     have n2_ := aM (ho)
     clear BK101
     clear HB
     clear HO105
     have BK101 := n0_
     have HB := n1_
     have HO108 := n2_
     clear n0_ n1_ n2_
     clear ho hb hg hat
     obtain ⟨Ao18, co18, eo18⟩ := Kd.R_slice HO108.out
     (first | subst eo18 | (injection eo18 with f1_ f2_ f3_; have f4_ := f1_.symm; have f5_ := f3_.symm; clear f1_ f2_ f3_; subst f4_; subst f5_))
     refine hK.out _ _ ⟨(blk_cell BK101.out 0).trans rfl, (blk_cell BK101.out 1).trans rfl, (blk_cell BK101.out 2).trans rfl⟩ (fun hHeld => ?_)
     clear hK K
     refine nP 24 ?_
     refine one_ (i := 5) (N := some 25) #[true, true, true, true, true, true, false, false, false, false, false] rfl rfl (one_of HT_.out (by kernel_rfl)) (by decide) (fun K hK => ?_)
     refine goes_ Tryz.func44 (by kernel_rfl) rfl #[.string a0, .agg #[.int .i64 a1_0, .int .i64 a1_1, .int .i64 a1_2], .slice Ao18 y106.length co18] (by rfl) rfl rfl (by (try simp only [List.map_toArray, List.map_cons, List.map_nil]); first | done | rfl | (simp only [List.length_drop, List.length_take]; rfl)) ?_
     with_reducible refine (mfl.calls k a0 a1_0 a1_1 a1_2 _ _ y106 t109 t112 _ ?side1 ?side2 ?side3 A10.out).mono ?_
     (case side1 => repeat (first | exact (Kd.R_reads' HO108.out).2.2 | (with_reducible refine Kd.C_alloc ?_ _) | (with_reducible refine Kd.C_drewN ?_ _) | (with_reducible refine Kd.C_drew ?_)))
     (case side2 => exact (Kd.R_reads' HO108.out).2.1)
     (case side3 => exact GL.below hG bE)
     rintro e w19 ⟨v110, rfl, ho0, hb⟩
     refine ⟨_, rfl, ?_⟩
     have n0_ := aM (Kd.R_below (by (with_reducible repeat (first | apply Kd.R_alloc | apply Kd.R_drewN | apply Kd.R_drew)); exact HO108.out) hb)
     have n1_ := aM (Kd.R_lower ho0 (below_size bE))
     have n2_ := aM (blk_below (g := gb101) (o := .cells #[.int .i64 a1_0, .int .i64 a1_1, .int .i64 a1_2] 64 (0, 0)) (bd BK101.out) hb)
     have n3_ := aM (below_step bE hb)
     clear HO108
     clear BK101
     clear HB
     have HO108 := n0_
     have HO111 := n1_
     have BK101 := n2_
     have HB := n3_
     clear n0_ n1_ n2_ n3_
     (try clear hb)
     (try clear ho0)
     refine hK.out _ _ ⟨(blk_cell BK101.out 0).trans rfl, (blk_cell BK101.out 1).trans rfl, (blk_cell BK101.out 2).trans rfl⟩ (fun hHeld => ?_)
     clear hK K
     refine nP 25 ?_
     refine pP 6 19 ?_ (hc := any_of HT_.out (by kernel_rfl))
     refine pP 7 26 ?_ (hc := any_of HT_.out (by kernel_rfl))
     refine pP 8 27 ?_ (hc := any_of HT_.out (by kernel_rfl))
     refine pP 9 7 ?_ (hc := any_of HT_.out (by kernel_rfl))
     refine pP 10 8 ?_ (hc := any_of HT_.out (by kernel_rfl))
     refine done_ (done_of HT_.out (by kernel_rfl)) ?_
     obtain ⟨Ao20, co20, eo20⟩ := Kd.R_slice HO111.out
     subst eo20
     try go_wp2
     go_ret
     exact ⟨eR, bE⟩
    ·rw [if_neg c11] at H
     obtain ⟨c11b0, c11b1⟩ := bqF c11
     by_cases c21 : t112 = 0
     ·rw [if_pos c21] at H
      obtain ⟨c21b0, c21b1⟩ := bqT c21
      clear c21
      by_cases c22 : (t109.length : Int) = (l2.length : Int)
      ·rw [if_pos c22] at H
       obtain ⟨c22b0, c22b1⟩ := bqT c22
       have c22b2 : (t109.length == l2.length) = true := by first | simpa using c22 | (simp at c22 ⊢; omega)
       clear c22
       have H' := aM H
       clear H
       go_enter Tryz.func20, Tryz.ntmps20
       try go_wp2_with (first | ((with_reducible refine gate_dst (N := 4) rfl ?_); (try (refine gate_guard (by rfl) ?_; dsimp only)); refine bX 4 #[.int .i64 a1_0, .int .i64 a1_1, .int .i64 a1_2] 64 ?_; intro gb101 hg w23 hbox hb; have BK101 := aM (hbox); have GW101 := aM ((by rw [hg]; exact (below_size bE) : w.heap.size ≤ gb101)); have GE101 := GW101; replace HB := aM (below_step bE hb); clear hb hbox hg) | ((with_reducible refine gate_callee (f := 39) rfl ?_); refine gL 14 Tryz.func39 #[] ?_; (with_reducible refine (able6_g.calls  true _ ?side1 A4.out).mono ?_); (case side1 => exact GL.below hG bE); rintro e w24 ⟨rfl, hb⟩; refine ⟨_, rfl, ?_⟩; replace BK101 := aM (blk_below (g := gb101) (o := .cells #[.int .i64 a1_0, .int .i64 a1_1, .int .i64 a1_2] 64 (0, 0)) (bd BK101.out) hb); replace HB := aM (below_step bE hb); (try clear hb)))
       have n0_ := aM (blk_drew BK101.out)
       have n1_ := aM (below_drew1 HB.out)
       clear BK101
       clear HB
       have BK101 := n0_
       have HB := n1_
       clear n0_ n1_
       refine start_ (n := 11) (S := fun w' => w'.cell? ⟨gb101, 0, none⟩ = some (.int .i64 a1_0) ∧ w'.cell? ⟨gb101, 1, none⟩ = some (.int .i64 a1_1) ∧ w'.cell? ⟨gb101, 2, none⟩ = some (.int .i64 a1_2)) (ds := []) #[false, false, false, false, false, false, false, false, false, false, false] (by kernel_rfl) rfl rfl ⟨(blk_cell BK101.out 0).trans rfl, (blk_cell BK101.out 1).trans rfl, (blk_cell BK101.out 2).trans rfl⟩ (fun hHeld => ?_); refine with_tabW mte.tab5 mte.bits5 (fun HT_ HW_ => ?_)
       generalize w24.drew = w25 at BK101 HB hHeld ⊢
       refine pP 0 20 ?_ (hc := any_of HT_.out (by kernel_rfl))
       refine pP 3 23 ?_ (hc := any_of HT_.out (by kernel_rfl))
       refine take_ (i := 1) (N := some 21) (v := ?_) (a' := ?_) #[true, true, false, true, false, false, false, false, false, false, false] rfl rfl (take_ofW HT_.out HW_.out (by kernel_rfl)) (fun _ _ _ h => h) (Or.inl ⟨by rfl, ?_⟩) hHeld ?_ ?_
       rotate_left
       ·rintro w' ⟨s0, s1, s2⟩
        go_simp
        with_reducible rfl
       rotate_left
       ·simp only [Act.put, List.setIfInBounds_toArray, List.set_cons_zero, List.set_cons_succ, i64_w, i32_w]
        rfl
       refine one_ (i := 2) (N := some 22) #[true, true, true, true, false, false, false, false, false, false, false] rfl rfl (one_of HT_.out (by kernel_rfl)) (by decide) (fun K hK => ?_)
       refine Kd.R_lit_step k64 _ 64 ?hg (N := 22) ?hd (xs := ([] : List (S64))) (inner := []) (ok := fun _ => True) (okp := fun _ => True) ?hr ?hp (fun _ hk => hk) trivial (Below.refl _ _) (Nat.le_refl _) (by simp) ?_; (case hd => rfl); (case hg => rfl); (case hr => go_simp <;> rfl); (case hp => exact (Reps.none _ _))
       intro v104 w26 ho27 hb hg_ hnew_
       clear hg_ hnew_
       (first | rw [← Ny103.out] at ho27 | (simp only [Int.reduceToNat] at ho27; rw [← Ny103.out] at ho27))
       have n0_ := aM (Kd.R_lower (Kd.R_newB ho27 (g := gb101) (o := .cells #[.int .i64 a1_0, .int .i64 a1_1, .int .i64 a1_2] 64 (0, 0)) (bd BK101.out)) (below_size bE))
       have n1_ := aM (blk_below (g := gb101) (o := .cells #[.int .i64 a1_0, .int .i64 a1_1, .int .i64 a1_2] 64 (0, 0)) (bd BK101.out) hb)
       have n2_ := aM (below_step bE hb)
       clear BK101
       clear HB
       have HO105 := n0_
       have BK101 := n1_
       have HB := n2_
       clear n0_ n1_ n2_
       clear hb ho27
       refine hK.out _ _ ⟨(blk_cell BK101.out 0).trans rfl, (blk_cell BK101.out 1).trans rfl, (blk_cell BK101.out 2).trans rfl⟩ (fun hHeld => ?_)
       clear hK K
       refine nP 22 ?_
       refine one_ (i := 4) (N := some 24) #[true, true, true, true, true, false, false, false, false, false, false] rfl rfl (one_of HT_.out (by kernel_rfl)) (by decide) (fun K hK => ?_)
       refine Kd.R_append_rows_step k64 (w0 := w) w.heap.size (by rfl) (.tmp 22) (.tmp 23) 65 64 (.agg #[(.int .i64 0), (.int .i64 0), (.int .i64 0)]) 24 rfl Tryz.underlying65 info64 rfl (by decide) (by omega) v104 y103 l2 _ _ _ (fun k_ => k_ ≠ gb101) (fun _ => False) rfl rfl ?aO ?aR (fun _ _ h => h) (fun _ h => h.elim) ?aF ?aB ?aS ?aL ?_
       (case aR => repeat (first | exact (Kd.C_below HR2.out HB.out) | (with_reducible refine Kd.C_alloc ?_ _) | (with_reducible refine Kd.C_drewN ?_ _) | (with_reducible refine Kd.C_drew ?_)))
       (case aB => exact bE)
       (case aF => exact (fun k_ hk => Kd.freshB (g := gb101) (o := .cells #[.int .i64 a1_0, .int .i64 a1_1, .int .i64 a1_2] 64 (0, 0)) (bd BK101.out) k_ hk))
       (case aO => exact (by (with_reducible repeat (first | apply Kd.R_alloc | apply Kd.R_drewN | apply Kd.R_drew)); exact Kd.R_mono HO105.out (fun _ hk => hk.2)))
       (case aS => exact (below_size bE))
       (case aL => have := LMc9.out; omega)
       intro v107 w28 ho hb hg hat
       rw [← Ny106.out] at ho
       have n0_ := aM (blk_grown (g := gb101) (o := .cells #[.int .i64 a1_0, .int .i64 a1_1, .int .i64 a1_2] 64 (0, 0)) (bd BK101.out) hg (Kd.R_away HO105.out (fun _ hk => hk.2)))
       have n1_ := aM (hb)
       have n2_ := aM (ho)
       clear BK101
       clear HB
       clear HO105
       have BK101 := n0_
       have HB := n1_
       have HO108 := n2_
       clear n0_ n1_ n2_
       clear ho hb hg hat
       obtain ⟨Ao29, co29, eo29⟩ := Kd.R_slice HO108.out
       (first | subst eo29 | (injection eo29 with f1_ f2_ f3_; have f4_ := f1_.symm; have f5_ := f3_.symm; clear f1_ f2_ f3_; subst f4_; subst f5_))
       refine hK.out _ _ ⟨(blk_cell BK101.out 0).trans rfl, (blk_cell BK101.out 1).trans rfl, (blk_cell BK101.out 2).trans rfl⟩ (fun hHeld => ?_)
       clear hK K
       refine nP 24 ?_
       refine one_ (i := 5) (N := some 25) #[true, true, true, true, true, true, false, false, false, false, false] rfl rfl (one_of HT_.out (by kernel_rfl)) (by decide) (fun K hK => ?_)
       refine goes_ Tryz.func44 (by kernel_rfl) rfl #[.string a0, .agg #[.int .i64 a1_0, .int .i64 a1_1, .int .i64 a1_2], .slice Ao29 y106.length co29] (by rfl) rfl rfl (by (try simp only [List.map_toArray, List.map_cons, List.map_nil]); first | done | rfl | (simp only [List.length_drop, List.length_take]; rfl)) ?_
       with_reducible refine (mfl.calls k a0 a1_0 a1_1 a1_2 _ _ y106 t109 t112 _ ?side1 ?side2 ?side3 A10.out).mono ?_
       (case side1 => repeat (first | exact (Kd.R_reads' HO108.out).2.2 | (with_reducible refine Kd.C_alloc ?_ _) | (with_reducible refine Kd.C_drewN ?_ _) | (with_reducible refine Kd.C_drew ?_)))
       (case side2 => exact (Kd.R_reads' HO108.out).2.1)
       (case side3 => exact GL.below hG bE)
       rintro e w30 ⟨v110, rfl, ho0, hb⟩
       refine ⟨_, rfl, ?_⟩
       have n0_ := aM (Kd.R_below (by (with_reducible repeat (first | apply Kd.R_alloc | apply Kd.R_drewN | apply Kd.R_drew)); exact HO108.out) hb)
       have n1_ := aM (Kd.R_lower ho0 (below_size bE))
       have n2_ := aM (blk_below (g := gb101) (o := .cells #[.int .i64 a1_0, .int .i64 a1_1, .int .i64 a1_2] 64 (0, 0)) (bd BK101.out) hb)
       have n3_ := aM (below_step bE hb)
       clear HO108
       clear BK101
       clear HB
       have HO108 := n0_
       have HO111 := n1_
       have BK101 := n2_
       have HB := n3_
       clear n0_ n1_ n2_ n3_
       (try clear hb)
       (try clear ho0)
       refine hK.out _ _ ⟨(blk_cell BK101.out 0).trans rfl, (blk_cell BK101.out 1).trans rfl, (blk_cell BK101.out 2).trans rfl⟩ (fun hHeld => ?_)
       clear hK K
       refine nP 25 ?_
       refine pP 6 19 ?_ (hc := any_of HT_.out (by kernel_rfl))
       refine pP 7 26 ?_ (hc := any_of HT_.out (by kernel_rfl))
       refine pP 8 27 ?_ (hc := any_of HT_.out (by kernel_rfl))
       refine pP 9 7 ?_ (hc := any_of HT_.out (by kernel_rfl))
       refine pP 10 8 ?_ (hc := any_of HT_.out (by kernel_rfl))
       refine done_ (done_of HT_.out (by kernel_rfl)) ?_
       obtain ⟨Ao31, co31, eo31⟩ := Kd.R_slice HO111.out
       subst eo31
       try go_wp2
       go_loopg [11] k (fun kq v11 w' => ∃ (x11_1 : Int), v11 = .int .i64 x11_1 ∧ Aside0 (mte.l0 kq a0 l2 t109 x11_1 a1_0 a1_1 a1_2 = some r) ∧ Aside0 (kq ≤ k) ∧ Aside0 (Kd.R Kd.string 9 w' w.heap.size (fun _ => True) (.slice Ao31 t109.length co31) t109) ∧ Aside0 (w'.heap[gb101]? = some (.cells #[.int .i64 a1_0, .int .i64 a1_1, .int .i64 a1_2] 64 (0, 0))) ∧ Aside0 (Below w.heap.size w w'))
       case atStart => exact ⟨(0), (by first | rfl | (simp; done) | (simp [*]; done)), H', ⟨Nat.le_refl _⟩, ⟨by (with_reducible repeat (first | apply Kd.R_alloc | apply Kd.R_drewN | apply Kd.R_drew)); exact HO111.out⟩, ⟨BK101.out⟩, ⟨bE⟩⟩
       case round =>
        clear H'
        try clear c1
        try clear c2
        try clear p2
        try clear c3
        try clear c4
        try clear c5
        try clear c6
        try clear c6b0
        try clear c6b1
        try clear c9
        try clear c11
        try clear c11b0
        try clear c11b1
        try clear c20
        try clear c21
        try clear c21b0
        try clear c21b1
        try clear c22
        try clear c22b0
        try clear c22b1
        try clear c22b2
        obtain ⟨x11_1, rfl, HA, HK1, HO_7, BK101, HB⟩ := hrel
        cases gk with
        | zero => exact absurd HA.out (by simp [mte.l0])
        | succ k1 =>
         have H := HA.out
         clear HA
         simp only [mte.l0] at H
         by_cases c32 : x11_1 < (l2.length : Int)
         ·rw [if_pos c32] at H
          have c32b0 : decide (x11_1 < (l2.length : Int)) = true := decide_eq_true c32
          clear c32
          by_cases c33 : 0 ≤ x11_1
          ·rw [if_pos c33] at H
           have c33b0 : decide (0 ≤ x11_1) = true := decide_eq_true c33
           clear c33
           replace H := Option.bind_eq_some_iff.mp H
           obtain ⟨⟨t117, t118⟩, A340, H⟩ := H
           try dsimp only at H
           have A34 := aM A340
           clear A340
           by_cases c35 : t118 = 0
           ·rw [if_pos c35] at H
            obtain ⟨c35b0, c35b1⟩ := bqT c35
            clear c35
            by_cases c36 : x11_1 < (t109.length : Int)
            ·rw [if_pos c36] at H
             have c36b0 : decide (x11_1 < (t109.length : Int)) = true := decide_eq_true c36
             clear c36
             by_cases c37 : t117.toList = (rdOf ByteArray.empty t109 x11_1).toList
             ·rw [if_pos c37] at H
              obtain ⟨c37b0, c37b1⟩ := bqT c37
              clear c37
              have H' := aM H
              clear H
              try go_wp2
              have n0_ := aM (Kd.R_drew HO_7.out)
              have n1_ := aM (blk_drew BK101.out)
              have n2_ := aM (below_drew1 HB.out)
              clear HO_7
              clear BK101
              clear HB
              have HO_7 := n0_
              have BK101 := n1_
              have HB := n2_
              clear n0_ n1_ n2_
              have p115 : 0 ≤ (x11_1 : Int) := of_decide_eq_true (by first | (with_reducible assumption) | assumption)
              have q115 : x11_1 < (l2.length : Int) := of_decide_eq_true (by first | (with_reducible assumption) | assumption)
              obtain ⟨ad115, e115, hx115_0, hx115_1, hx115_2⟩ := at_T64 HR2.out x11_1 p115 q115
              have hw115_2 := hx115_2
              have hw115_1 := hx115_1
              have hw115_0 := hx115_0
              cases e115
              replace hx115_0 := (HB.out.cell (World.block_lt_of_cell? w _ hx115_0)).trans hx115_0
              replace hx115_1 := (HB.out.cell (World.block_lt_of_cell? w _ hx115_1)).trans hx115_1
              replace hx115_2 := (HB.out.cell (World.block_lt_of_cell? w _ hx115_2)).trans hx115_2
              replace p115 := eq_true p115
              replace q115 := eq_true q115
              have p116 : 0 ≤ (x11_1 : Int) := of_decide_eq_true (by first | (with_reducible assumption) | assumption)
              have q116 : x11_1 < (l2.length : Int) := of_decide_eq_true (by first | (with_reducible assumption) | assumption)
              obtain ⟨ad116, e116, hx116_0, hx116_1, hx116_2⟩ := at_T64 HR2.out x11_1 p116 q116
              have hw116_2 := hx116_2
              have hw116_1 := hx116_1
              have hw116_0 := hx116_0
              obtain rfl : ad115 = ad116 := (by injection e116)
              replace hx116_0 := (HB.out.cell (World.block_lt_of_cell? w _ hx116_0)).trans hx116_0
              replace hx116_1 := (HB.out.cell (World.block_lt_of_cell? w _ hx116_1)).trans hx116_1
              replace hx116_2 := (HB.out.cell (World.block_lt_of_cell? w _ hx116_2)).trans hx116_2
              replace p116 := eq_true p116
              replace q116 := eq_true q116
              refine start_ (n := 23) (S := fun w' => w'.cell? ⟨gb101, 0, none⟩ = some (.int .i64 a1_0) ∧ w'.cell? ⟨gb101, 1, none⟩ = some (.int .i64 a1_1) ∧ w'.cell? ⟨gb101, 2, none⟩ = some (.int .i64 a1_2) ∧ w'.cell? (ad115.add ((x11_1).toNat * 3)) = some (.int .i64 ((rd_T64 l2 x11_1).f0)) ∧ w'.cell? ⟨(ad115.add ((x11_1).toNat * 3)).block, (ad115.add ((x11_1).toNat * 3)).off + 1, none⟩ = some (.int .i64 ((rd_T64 l2 x11_1).f1)) ∧ w'.cell? ⟨(ad115.add ((x11_1).toNat * 3)).block, (ad115.add ((x11_1).toNat * 3)).off + 2, none⟩ = some (.int .i64 ((rd_T64 l2 x11_1).f2)) ∧ w'.cell? (ad115.add ((x11_1).toNat * 3)) = some (.int .i64 ((rd_T64 l2 x11_1).f0)) ∧ w'.cell? ⟨(ad115.add ((x11_1).toNat * 3)).block, (ad115.add ((x11_1).toNat * 3)).off + 1, none⟩ = some (.int .i64 ((rd_T64 l2 x11_1).f1)) ∧ w'.cell? ⟨(ad115.add ((x11_1).toNat * 3)).block, (ad115.add ((x11_1).toNat * 3)).off + 2, none⟩ = some (.int .i64 ((rd_T64 l2 x11_1).f2))) (ds := []) #[false, false, false, false, false, false, false, false, false, false, false, false, false, false, false, false, false, false, false, false, false, false, false] (by kernel_rfl) rfl rfl ⟨(blk_cell BK101.out 0).trans rfl, (blk_cell BK101.out 1).trans rfl, (blk_cell BK101.out 2).trans rfl, ((HB.out.cell (World.block_lt_of_cell? w _ hw115_0)).trans hw115_0), ((HB.out.cell (World.block_lt_of_cell? w _ hw115_1)).trans hw115_1), ((HB.out.cell (World.block_lt_of_cell? w _ hw115_2)).trans hw115_2), ((HB.out.cell (World.block_lt_of_cell? w _ hw116_0)).trans hw116_0), ((HB.out.cell (World.block_lt_of_cell? w _ hw116_1)).trans hw116_1), ((HB.out.cell (World.block_lt_of_cell? w _ hw116_2)).trans hw116_2)⟩ (fun hHeld => ?_); refine with_tabW mte.tab16 mte.bits16 (fun HT_ HW_ => ?_)
              generalize wr.drew = w38 at HO_7 BK101 HB hx115_0 hx115_1 hx115_2 hx116_0 hx116_1 hx116_2 hHeld ⊢
              refine pP 0 68 ?_ (hc := any_of HT_.out (by kernel_rfl))
              refine pP 1 69 ?_ (hc := any_of HT_.out (by kernel_rfl))
              refine pP 2 70 ?_ (hc := any_of HT_.out (by kernel_rfl))
              refine pP 3 71 ?_ (hc := any_of HT_.out (by kernel_rfl))
              refine pP 4 72 ?_ (hc := any_of HT_.out (by kernel_rfl))
              refine pP 6 74 ?_ (hc := any_of HT_.out (by kernel_rfl))
              refine pP 9 77 ?_ (hc := any_of HT_.out (by kernel_rfl))
              refine pP 10 78 ?_ (hc := any_of HT_.out (by kernel_rfl))
              refine pP 11 79 ?_ (hc := any_of HT_.out (by kernel_rfl))
              refine pP 12 80 ?_ (hc := any_of HT_.out (by kernel_rfl))
              refine pP 14 82 ?_ (hc := any_of HT_.out (by kernel_rfl))
              refine take_ (i := 5) (N := some 73) (v := ?_) (a' := ?_) #[true, true, true, true, true, true, true, false, false, true, true, true, true, false, true, false, false, false, false, false, false, false, false] rfl rfl (take_ofW HT_.out HW_.out (by kernel_rfl)) (fun _ _ _ h => h) (Or.inl ⟨by rfl, ?_⟩) hHeld ?_ ?_
              rotate_left
              ·rintro w' ⟨s0, s1, s2, s3, s4, s5, s6, s7, s8⟩
               go_simp
               with_reducible rfl
              rotate_left
              ·simp only [Act.put, List.setIfInBounds_toArray, List.set_cons_zero, List.set_cons_succ, i64_w, i32_w]
               rfl
              refine take_ (i := 7) (N := some 75) (v := ?_) (a' := ?_) #[true, true, true, true, true, true, true, true, false, true, true, true, true, false, true, false, false, false, false, false, false, false, false] rfl rfl (take_ofW HT_.out HW_.out (by kernel_rfl)) (fun _ _ _ h => h) (Or.inl ⟨by rfl, ?_⟩) hHeld ?_ ?_
              rotate_left
              ·rintro w' ⟨s0, s1, s2, s3, s4, s5, s6, s7, s8⟩
               go_simp
               with_reducible rfl
              rotate_left
              ·simp only [Act.put, List.setIfInBounds_toArray, List.set_cons_zero, List.set_cons_succ, i64_w, i32_w]
               rfl
              refine pP 8 76 ?_ (hc := any_of HT_.out (by kernel_rfl))
              refine take_ (i := 13) (N := some 81) (v := ?_) (a' := ?_) #[true, true, true, true, true, true, true, true, true, true, true, true, true, true, true, false, false, false, false, false, false, false, false] rfl rfl (take_ofW HT_.out HW_.out (by kernel_rfl)) (fun _ _ _ h => h) (Or.inl ⟨by rfl, ?_⟩) hHeld ?_ ?_
              rotate_left
              ·rintro w' ⟨s0, s1, s2, s3, s4, s5, s6, s7, s8⟩
               go_simp
               with_reducible rfl
              rotate_left
              ·simp only [Act.put, List.setIfInBounds_toArray, List.set_cons_zero, List.set_cons_succ, i64_w, i32_w]
               rfl
              refine take_ (i := 15) (N := some 83) (v := ?_) (a' := ?_) #[true, true, true, true, true, true, true, true, true, true, true, true, true, true, true, true, false, false, false, false, false, false, false] rfl rfl (take_ofW HT_.out HW_.out (by kernel_rfl)) (fun _ _ _ h => h) (Or.inl ⟨by rfl, ?_⟩) hHeld ?_ ?_
              rotate_left
              ·rintro w' ⟨s0, s1, s2, s3, s4, s5, s6, s7, s8⟩
               go_simp
               with_reducible rfl
              rotate_left
              ·simp only [Act.put, List.setIfInBounds_toArray, List.set_cons_zero, List.set_cons_succ, i64_w, i32_w]
               rfl
              refine pP 16 84 ?_ (hc := any_of HT_.out (by kernel_rfl))
              refine one_ (i := 17) (N := some 85) #[true, true, true, true, true, true, true, true, true, true, true, true, true, true, true, true, true, true, false, false, false, false, false] rfl rfl (one_of HT_.out (by kernel_rfl)) (by decide) (fun K hK => ?_)
              refine goes_ Tryz.func41 (by kernel_rfl) rfl #[.string a0, .int .i64 (wrap64 (((rd_T64 l2 x11_1).f1) - a1_1)), .int .i64 (wrap64 (((rd_T64 l2 x11_1).f2) - a1_2))] (by rfl) rfl rfl (by (try simp only [List.map_toArray, List.map_cons, List.map_nil]); first | done | rfl | (simp only [List.length_drop, List.length_take]; rfl)) ?_
              with_reducible refine (mcp.calls a0 (wrap64 (((rd_T64 l2 x11_1).f1) - a1_1)) (wrap64 (((rd_T64 l2 x11_1).f2) - a1_2)) t117 t118 _ ?side1 A34.out).mono ?_
              (case side1 => exact GL.below hG bE)
              rintro e w39 ⟨rfl, hb⟩
              refine ⟨_, rfl, ?_⟩
              have n0_ := aM (Kd.R_below (by (with_reducible repeat (first | apply Kd.R_alloc | apply Kd.R_drewN | apply Kd.R_drew)); exact HO_7.out) hb)
              have n1_ := aM (blk_below (g := gb101) (o := .cells #[.int .i64 a1_0, .int .i64 a1_1, .int .i64 a1_2] 64 (0, 0)) (bd BK101.out) hb)
              have n2_ := aM (below_step bE hb)
              clear HO_7
              clear BK101
              clear HB
              have HO_7 := n0_
              have BK101 := n1_
              have HB := n2_
              clear n0_ n1_ n2_
              (try clear hb)
              refine hK.out _ _ ⟨(blk_cell BK101.out 0).trans rfl, (blk_cell BK101.out 1).trans rfl, (blk_cell BK101.out 2).trans rfl, ((HB.out.cell (World.block_lt_of_cell? w _ hw115_0)).trans hw115_0), ((HB.out.cell (World.block_lt_of_cell? w _ hw115_1)).trans hw115_1), ((HB.out.cell (World.block_lt_of_cell? w _ hw115_2)).trans hw115_2), ((HB.out.cell (World.block_lt_of_cell? w _ hw116_0)).trans hw116_0), ((HB.out.cell (World.block_lt_of_cell? w _ hw116_1)).trans hw116_1), ((HB.out.cell (World.block_lt_of_cell? w _ hw116_2)).trans hw116_2)⟩ (fun hHeld => ?_)
              clear hK K
              refine nP 85 ?_
              refine pP 18 67 ?_ (hc := any_of HT_.out (by kernel_rfl))
              refine pP 19 86 ?_ (hc := any_of HT_.out (by kernel_rfl))
              refine pP 20 87 ?_ (hc := any_of HT_.out (by kernel_rfl))
              refine pP 21 12 ?_ (hc := any_of HT_.out (by kernel_rfl))
              refine pP 22 13 ?_ (hc := any_of HT_.out (by kernel_rfl))
              refine done_ (done_of HT_.out (by kernel_rfl)) ?_
              have p119 : 0 ≤ (x11_1 : Int) := of_decide_eq_true (by first | (with_reducible assumption) | assumption)
              have q119 : x11_1 < (t109.length : Int) := of_decide_eq_true (by first | (with_reducible assumption) | assumption)
              obtain ⟨ad119, e119, hx119_0⟩ := Kd.at_string (Kd.R_reads' HO_7.out).2.2 x11_1 p119 q119
              cases e119
              replace p119 := eq_true p119
              replace q119 := eq_true q119
              try go_wp2
              go_roundg k1
              case measure => have := HK1.out; omega
              case rel => exact ⟨(wrap64 (x11_1 + 1)), (by first | rfl | (simp; done) | (simp [*]; done)), H', ⟨by have := HK1.out; omega⟩, ⟨by (with_reducible repeat (first | apply Kd.R_alloc | apply Kd.R_drewN | apply Kd.R_drew)); exact HO_7.out⟩, ⟨BK101.out⟩, ⟨bE⟩⟩
             ·rw [if_neg c37] at H
              obtain ⟨c37b0, c37b1⟩ := bqF c37
              exact Bool.noConfusion ((Option.some.inj H).trans hr_.out)
            ·rw [if_neg c36] at H
             exact absurd H (by simp)
           ·rw [if_neg c35] at H
            obtain ⟨c35b0, c35b1⟩ := bqF c35
            exact Bool.noConfusion ((Option.some.inj H).trans hr_.out)
          ·rw [if_neg c33] at H
           exact absurd H (by simp)
         ·rw [if_neg c32] at H
          have c32b0 : decide (x11_1 < (l2.length : Int)) = false := decide_eq_false c32
          clear c32
          obtain rfl := Option.some.inj H
          go_wp2
          go_ret
          exact ⟨eR, bE⟩
      ·rw [if_neg c22] at H
       obtain ⟨c22b0, c22b1⟩ := bqF c22
       have c22b2 : (t109.length == l2.length) = false := by first | simpa using c22 | (simp at c22 ⊢; omega)
       exact Bool.noConfusion ((Option.some.inj H).trans hr_.out)
     ·rw [if_neg c21] at H
      obtain ⟨c21b0, c21b1⟩ := bqF c21
      replace H := Option.bind_eq_some_iff.mp H
      obtain ⟨⟨t113, t114⟩, A400, H⟩ := H
      try dsimp only at H
      have A40 := aM A400
      clear A400
      by_cases c41 : (t109.length : Int) = 0
      ·rw [if_pos c41] at H
       obtain ⟨c41b0, c41b1⟩ := bqT c41
       clear c41
       by_cases c42 : (l2.length : Int) > 0
       ·rw [if_pos c42] at H
        have c42b0 : decide (0 < (l2.length : Int)) = true := decide_eq_true c42
        have c42b1 : decide (0 < l2.length) = true := decide_eq_true (by omega)
        clear c42
        by_cases c43 : t114 = 0
        ·rw [if_pos c43] at H
         obtain ⟨c43b0, c43b1⟩ := bqT c43
         clear c43
         obtain rfl := Option.some.inj H
         go_enter Tryz.func20, Tryz.ntmps20
         try go_wp2_with (first | ((with_reducible refine gate_dst (N := 4) rfl ?_); (try (refine gate_guard (by rfl) ?_; dsimp only)); refine bX 4 #[.int .i64 a1_0, .int .i64 a1_1, .int .i64 a1_2] 64 ?_; intro gb101 hg w44 hbox hb; have BK101 := aM (hbox); have GW101 := aM ((by rw [hg]; exact (below_size bE) : w.heap.size ≤ gb101)); have GE101 := GW101; replace HB := aM (below_step bE hb); clear hb hbox hg) | ((with_reducible refine gate_callee (f := 39) rfl ?_); refine gL 14 Tryz.func39 #[] ?_; (with_reducible refine (able6_g.calls  true _ ?side1 A4.out).mono ?_); (case side1 => exact GL.below hG bE); rintro e w45 ⟨rfl, hb⟩; refine ⟨_, rfl, ?_⟩; replace BK101 := aM (blk_below (g := gb101) (o := .cells #[.int .i64 a1_0, .int .i64 a1_1, .int .i64 a1_2] 64 (0, 0)) (bd BK101.out) hb); replace HB := aM (below_step bE hb); (try clear hb)))
         have n0_ := aM (blk_drew BK101.out)
         have n1_ := aM (below_drew1 HB.out)
         clear BK101
         clear HB
         have BK101 := n0_
         have HB := n1_
         clear n0_ n1_
         refine start_ (n := 11) (S := fun w' => w'.cell? ⟨gb101, 0, none⟩ = some (.int .i64 a1_0) ∧ w'.cell? ⟨gb101, 1, none⟩ = some (.int .i64 a1_1) ∧ w'.cell? ⟨gb101, 2, none⟩ = some (.int .i64 a1_2)) (ds := []) #[false, false, false, false, false, false, false, false, false, false, false] (by kernel_rfl) rfl rfl ⟨(blk_cell BK101.out 0).trans rfl, (blk_cell BK101.out 1).trans rfl, (blk_cell BK101.out 2).trans rfl⟩ (fun hHeld => ?_); refine with_tabW mte.tab5 mte.bits5 (fun HT_ HW_ => ?_)
         generalize w45.drew = w46 at BK101 HB hHeld ⊢
         refine pP 0 20 ?_ (hc := any_of HT_.out (by kernel_rfl))
         refine pP 3 23 ?_ (hc := any_of HT_.out (by kernel_rfl))
         refine take_ (i := 1) (N := some 21) (v := ?_) (a' := ?_) #[true, true, false, true, false, false, false, false, false, false, false] rfl rfl (take_ofW HT_.out HW_.out (by kernel_rfl)) (fun _ _ _ h => h) (Or.inl ⟨by rfl, ?_⟩) hHeld ?_ ?_
         rotate_left
         ·rintro w' ⟨s0, s1, s2⟩
          go_simp
          with_reducible rfl
         rotate_left
         ·simp only [Act.put, List.setIfInBounds_toArray, List.set_cons_zero, List.set_cons_succ, i64_w, i32_w]
          rfl
         refine one_ (i := 2) (N := some 22) #[true, true, true, true, false, false, false, false, false, false, false] rfl rfl (one_of HT_.out (by kernel_rfl)) (by decide) (fun K hK => ?_)
         refine Kd.R_lit_step k64 _ 64 ?hg (N := 22) ?hd (xs := ([] : List (S64))) (inner := []) (ok := fun _ => True) (okp := fun _ => True) ?hr ?hp (fun _ hk => hk) trivial (Below.refl _ _) (Nat.le_refl _) (by simp) ?_; (case hd => rfl); (case hg => rfl); (case hr => go_simp <;> rfl); (case hp => exact (Reps.none _ _))
         intro v104 w47 ho48 hb hg_ hnew_
         clear hg_ hnew_
         (first | rw [← Ny103.out] at ho48 | (simp only [Int.reduceToNat] at ho48; rw [← Ny103.out] at ho48))
         have n0_ := aM (Kd.R_lower (Kd.R_newB ho48 (g := gb101) (o := .cells #[.int .i64 a1_0, .int .i64 a1_1, .int .i64 a1_2] 64 (0, 0)) (bd BK101.out)) (below_size bE))
         have n1_ := aM (blk_below (g := gb101) (o := .cells #[.int .i64 a1_0, .int .i64 a1_1, .int .i64 a1_2] 64 (0, 0)) (bd BK101.out) hb)
         have n2_ := aM (below_step bE hb)
         clear BK101
         clear HB
         have HO105 := n0_
         have BK101 := n1_
         have HB := n2_
         clear n0_ n1_ n2_
         clear hb ho48
         refine hK.out _ _ ⟨(blk_cell BK101.out 0).trans rfl, (blk_cell BK101.out 1).trans rfl, (blk_cell BK101.out 2).trans rfl⟩ (fun hHeld => ?_)
         clear hK K
         refine nP 22 ?_
         refine one_ (i := 4) (N := some 24) #[true, true, true, true, true, false, false, false, false, false, false] rfl rfl (one_of HT_.out (by kernel_rfl)) (by decide) (fun K hK => ?_)
         refine Kd.R_append_rows_step k64 (w0 := w) w.heap.size (by rfl) (.tmp 22) (.tmp 23) 65 64 (.agg #[(.int .i64 0), (.int .i64 0), (.int .i64 0)]) 24 rfl Tryz.underlying65 info64 rfl (by decide) (by omega) v104 y103 l2 _ _ _ (fun k_ => k_ ≠ gb101) (fun _ => False) rfl rfl ?aO ?aR (fun _ _ h => h) (fun _ h => h.elim) ?aF ?aB ?aS ?aL ?_
         (case aR => repeat (first | exact (Kd.C_below HR2.out HB.out) | (with_reducible refine Kd.C_alloc ?_ _) | (with_reducible refine Kd.C_drewN ?_ _) | (with_reducible refine Kd.C_drew ?_)))
         (case aB => exact bE)
         (case aF => exact (fun k_ hk => Kd.freshB (g := gb101) (o := .cells #[.int .i64 a1_0, .int .i64 a1_1, .int .i64 a1_2] 64 (0, 0)) (bd BK101.out) k_ hk))
         (case aO => exact (by (with_reducible repeat (first | apply Kd.R_alloc | apply Kd.R_drewN | apply Kd.R_drew)); exact Kd.R_mono HO105.out (fun _ hk => hk.2)))
         (case aS => exact (below_size bE))
         (case aL => have := LMc9.out; omega)
         intro v107 w49 ho hb hg hat
         rw [← Ny106.out] at ho
         have n0_ := aM (blk_grown (g := gb101) (o := .cells #[.int .i64 a1_0, .int .i64 a1_1, .int .i64 a1_2] 64 (0, 0)) (bd BK101.out) hg (Kd.R_away HO105.out (fun _ hk => hk.2)))
         have n1_ := aM (hb)
         have n2_ := aM (ho)
         clear BK101
         clear HB
         clear HO105
         have BK101 := n0_
         have HB := n1_
         have HO108 := n2_
         clear n0_ n1_ n2_
         clear ho hb hg hat
         obtain ⟨Ao50, co50, eo50⟩ := Kd.R_slice HO108.out
         (first | subst eo50 | (injection eo50 with f1_ f2_ f3_; have f4_ := f1_.symm; have f5_ := f3_.symm; clear f1_ f2_ f3_; subst f4_; subst f5_))
         refine hK.out _ _ ⟨(blk_cell BK101.out 0).trans rfl, (blk_cell BK101.out 1).trans rfl, (blk_cell BK101.out 2).trans rfl⟩ (fun hHeld => ?_)
         clear hK K
         refine nP 24 ?_
         refine one_ (i := 5) (N := some 25) #[true, true, true, true, true, true, false, false, false, false, false] rfl rfl (one_of HT_.out (by kernel_rfl)) (by decide) (fun K hK => ?_)
         refine goes_ Tryz.func44 (by kernel_rfl) rfl #[.string a0, .agg #[.int .i64 a1_0, .int .i64 a1_1, .int .i64 a1_2], .slice Ao50 y106.length co50] (by rfl) rfl rfl (by (try simp only [List.map_toArray, List.map_cons, List.map_nil]); first | done | rfl | (simp only [List.length_drop, List.length_take]; rfl)) ?_
         with_reducible refine (mfl.calls k a0 a1_0 a1_1 a1_2 _ _ y106 t109 t112 _ ?side1 ?side2 ?side3 A10.out).mono ?_
         (case side1 => repeat (first | exact (Kd.R_reads' HO108.out).2.2 | (with_reducible refine Kd.C_alloc ?_ _) | (with_reducible refine Kd.C_drewN ?_ _) | (with_reducible refine Kd.C_drew ?_)))
         (case side2 => exact (Kd.R_reads' HO108.out).2.1)
         (case side3 => exact GL.below hG bE)
         rintro e w51 ⟨v110, rfl, ho0, hb⟩
         refine ⟨_, rfl, ?_⟩
         have n0_ := aM (Kd.R_below (by (with_reducible repeat (first | apply Kd.R_alloc | apply Kd.R_drewN | apply Kd.R_drew)); exact HO108.out) hb)
         have n1_ := aM (Kd.R_lower ho0 (below_size bE))
         have n2_ := aM (blk_below (g := gb101) (o := .cells #[.int .i64 a1_0, .int .i64 a1_1, .int .i64 a1_2] 64 (0, 0)) (bd BK101.out) hb)
         have n3_ := aM (below_step bE hb)
         clear HO108
         clear BK101
         clear HB
         have HO108 := n0_
         have HO111 := n1_
         have BK101 := n2_
         have HB := n3_
         clear n0_ n1_ n2_ n3_
         (try clear hb)
         (try clear ho0)
         refine hK.out _ _ ⟨(blk_cell BK101.out 0).trans rfl, (blk_cell BK101.out 1).trans rfl, (blk_cell BK101.out 2).trans rfl⟩ (fun hHeld => ?_)
         clear hK K
         refine nP 25 ?_
         refine pP 6 19 ?_ (hc := any_of HT_.out (by kernel_rfl))
         refine pP 7 26 ?_ (hc := any_of HT_.out (by kernel_rfl))
         refine pP 8 27 ?_ (hc := any_of HT_.out (by kernel_rfl))
         refine pP 9 7 ?_ (hc := any_of HT_.out (by kernel_rfl))
         refine pP 10 8 ?_ (hc := any_of HT_.out (by kernel_rfl))
         refine done_ (done_of HT_.out (by kernel_rfl)) ?_
         try go_wp2_with (first | ((with_reducible refine gate_callee (f := 41) rfl ?_); refine gL 37 Tryz.func41 #[.string a0, .int .i64 0, .int .i64 0] ?_; (with_reducible refine (mcp.calls a0 0 0 t113 t114 _ ?side1 A40.out).mono ?_); (case side1 => exact GL.below hG bE); rintro e w52 ⟨rfl, hb⟩; refine ⟨_, rfl, ?_⟩; replace HO108 := aM (Kd.R_below (by (with_reducible repeat (first | apply Kd.R_alloc | apply Kd.R_drewN | apply Kd.R_drew)); exact HO108.out) hb); replace HO111 := aM (Kd.R_below (by (with_reducible repeat (first | apply Kd.R_alloc | apply Kd.R_drewN | apply Kd.R_drew)); exact HO111.out) hb); replace BK101 := aM (blk_below (g := gb101) (o := .cells #[.int .i64 a1_0, .int .i64 a1_1, .int .i64 a1_2] 64 (0, 0)) (bd BK101.out) hb); replace HB := aM (below_step bE hb); (try clear hb); obtain ⟨Ao53, co53, eo53⟩ := Kd.R_slice HO111.out; subst eo53))
         go_ret
         exact ⟨eR, bE⟩
        ·rw [if_neg c43] at H
         obtain ⟨c43b0, c43b1⟩ := bqF c43
         obtain rfl := Option.some.inj H
         go_enter Tryz.func20, Tryz.ntmps20
         try go_wp2_with (first | ((with_reducible refine gate_dst (N := 4) rfl ?_); (try (refine gate_guard (by rfl) ?_; dsimp only)); refine bX 4 #[.int .i64 a1_0, .int .i64 a1_1, .int .i64 a1_2] 64 ?_; intro gb101 hg w54 hbox hb; have BK101 := aM (hbox); have GW101 := aM ((by rw [hg]; exact (below_size bE) : w.heap.size ≤ gb101)); have GE101 := GW101; replace HB := aM (below_step bE hb); clear hb hbox hg) | ((with_reducible refine gate_callee (f := 39) rfl ?_); refine gL 14 Tryz.func39 #[] ?_; (with_reducible refine (able6_g.calls  true _ ?side1 A4.out).mono ?_); (case side1 => exact GL.below hG bE); rintro e w55 ⟨rfl, hb⟩; refine ⟨_, rfl, ?_⟩; replace BK101 := aM (blk_below (g := gb101) (o := .cells #[.int .i64 a1_0, .int .i64 a1_1, .int .i64 a1_2] 64 (0, 0)) (bd BK101.out) hb); replace HB := aM (below_step bE hb); (try clear hb)))
         have n0_ := aM (blk_drew BK101.out)
         have n1_ := aM (below_drew1 HB.out)
         clear BK101
         clear HB
         have BK101 := n0_
         have HB := n1_
         clear n0_ n1_
         refine start_ (n := 11) (S := fun w' => w'.cell? ⟨gb101, 0, none⟩ = some (.int .i64 a1_0) ∧ w'.cell? ⟨gb101, 1, none⟩ = some (.int .i64 a1_1) ∧ w'.cell? ⟨gb101, 2, none⟩ = some (.int .i64 a1_2)) (ds := []) #[false, false, false, false, false, false, false, false, false, false, false] (by kernel_rfl) rfl rfl ⟨(blk_cell BK101.out 0).trans rfl, (blk_cell BK101.out 1).trans rfl, (blk_cell BK101.out 2).trans rfl⟩ (fun hHeld => ?_); refine with_tabW mte.tab5 mte.bits5 (fun HT_ HW_ => ?_)
         generalize w55.drew = w56 at BK101 HB hHeld ⊢
         refine pP 0 20 ?_ (hc := any_of HT_.out (by kernel_rfl))
         refine pP 3 23 ?_ (hc := any_of HT_.out (by kernel_rfl))
         refine take_ (i := 1) (N := some 21) (v := ?_) (a' := ?_) #[true, true, false, true, false, false, false, false, false, false, false] rfl rfl (take_ofW HT_.out HW_.out (by kernel_rfl)) (fun _ _ _ h => h) (Or.inl ⟨by rfl, ?_⟩) hHeld ?_ ?_
         rotate_left
         ·rintro w' ⟨s0, s1, s2⟩
          go_simp
          with_reducible rfl
         rotate_left
         ·simp only [Act.put, List.setIfInBounds_toArray, List.set_cons_zero, List.set_cons_succ, i64_w, i32_w]
          rfl
         refine one_ (i := 2) (N := some 22) #[true, true, true, true, false, false, false, false, false, false, false] rfl rfl (one_of HT_.out (by kernel_rfl)) (by decide) (fun K hK => ?_)
         refine Kd.R_lit_step k64 _ 64 ?hg (N := 22) ?hd (xs := ([] : List (S64))) (inner := []) (ok := fun _ => True) (okp := fun _ => True) ?hr ?hp (fun _ hk => hk) trivial (Below.refl _ _) (Nat.le_refl _) (by simp) ?_; (case hd => rfl); (case hg => rfl); (case hr => go_simp <;> rfl); (case hp => exact (Reps.none _ _))
         intro v104 w57 ho58 hb hg_ hnew_
         clear hg_ hnew_
         (first | rw [← Ny103.out] at ho58 | (simp only [Int.reduceToNat] at ho58; rw [← Ny103.out] at ho58))
         have n0_ := aM (Kd.R_lower (Kd.R_newB ho58 (g := gb101) (o := .cells #[.int .i64 a1_0, .int .i64 a1_1, .int .i64 a1_2] 64 (0, 0)) (bd BK101.out)) (below_size bE))
         have n1_ := aM (blk_below (g := gb101) (o := .cells #[.int .i64 a1_0, .int .i64 a1_1, .int .i64 a1_2] 64 (0, 0)) (bd BK101.out) hb)
         have n2_ := aM (below_step bE hb)
         clear BK101
         clear HB
         have HO105 := n0_
         have BK101 := n1_
         have HB := n2_
         clear n0_ n1_ n2_
         clear hb ho58
         refine hK.out _ _ ⟨(blk_cell BK101.out 0).trans rfl, (blk_cell BK101.out 1).trans rfl, (blk_cell BK101.out 2).trans rfl⟩ (fun hHeld => ?_)
         clear hK K
         refine nP 22 ?_
         refine one_ (i := 4) (N := some 24) #[true, true, true, true, true, false, false, false, false, false, false] rfl rfl (one_of HT_.out (by kernel_rfl)) (by decide) (fun K hK => ?_)
         refine Kd.R_append_rows_step k64 (w0 := w) w.heap.size (by rfl) (.tmp 22) (.tmp 23) 65 64 (.agg #[(.int .i64 0), (.int .i64 0), (.int .i64 0)]) 24 rfl Tryz.underlying65 info64 rfl (by decide) (by omega) v104 y103 l2 _ _ _ (fun k_ => k_ ≠ gb101) (fun _ => False) rfl rfl ?aO ?aR (fun _ _ h => h) (fun _ h => h.elim) ?aF ?aB ?aS ?aL ?_
         (case aR => repeat (first | exact (Kd.C_below HR2.out HB.out) | (with_reducible refine Kd.C_alloc ?_ _) | (with_reducible refine Kd.C_drewN ?_ _) | (with_reducible refine Kd.C_drew ?_)))
         (case aB => exact bE)
         (case aF => exact (fun k_ hk => Kd.freshB (g := gb101) (o := .cells #[.int .i64 a1_0, .int .i64 a1_1, .int .i64 a1_2] 64 (0, 0)) (bd BK101.out) k_ hk))
         (case aO => exact (by (with_reducible repeat (first | apply Kd.R_alloc | apply Kd.R_drewN | apply Kd.R_drew)); exact Kd.R_mono HO105.out (fun _ hk => hk.2)))
         (case aS => exact (below_size bE))
         (case aL => have := LMc9.out; omega)
         intro v107 w59 ho hb hg hat
         rw [← Ny106.out] at ho
         have n0_ := aM (blk_grown (g := gb101) (o := .cells #[.int .i64 a1_0, .int .i64 a1_1, .int .i64 a1_2] 64 (0, 0)) (bd BK101.out) hg (Kd.R_away HO105.out (fun _ hk => hk.2)))
         have n1_ := aM (hb)
         have n2_ := aM (ho)
         clear BK101
         clear HB
         clear HO105
         have BK101 := n0_
         have HB := n1_
         have HO108 := n2_
         clear n0_ n1_ n2_
         clear ho hb hg hat
         obtain ⟨Ao60, co60, eo60⟩ := Kd.R_slice HO108.out
         (first | subst eo60 | (injection eo60 with f1_ f2_ f3_; have f4_ := f1_.symm; have f5_ := f3_.symm; clear f1_ f2_ f3_; subst f4_; subst f5_))
         refine hK.out _ _ ⟨(blk_cell BK101.out 0).trans rfl, (blk_cell BK101.out 1).trans rfl, (blk_cell BK101.out 2).trans rfl⟩ (fun hHeld => ?_)
         clear hK K
         refine nP 24 ?_
         refine one_ (i := 5) (N := some 25) #[true, true, true, true, true, true, false, false, false, false, false] rfl rfl (one_of HT_.out (by kernel_rfl)) (by decide) (fun K hK => ?_)
         refine goes_ Tryz.func44 (by kernel_rfl) rfl #[.string a0, .agg #[.int .i64 a1_0, .int .i64 a1_1, .int .i64 a1_2], .slice Ao60 y106.length co60] (by rfl) rfl rfl (by (try simp only [List.map_toArray, List.map_cons, List.map_nil]); first | done | rfl | (simp only [List.length_drop, List.length_take]; rfl)) ?_
         with_reducible refine (mfl.calls k a0 a1_0 a1_1 a1_2 _ _ y106 t109 t112 _ ?side1 ?side2 ?side3 A10.out).mono ?_
         (case side1 => repeat (first | exact (Kd.R_reads' HO108.out).2.2 | (with_reducible refine Kd.C_alloc ?_ _) | (with_reducible refine Kd.C_drewN ?_ _) | (with_reducible refine Kd.C_drew ?_)))
         (case side2 => exact (Kd.R_reads' HO108.out).2.1)
         (case side3 => exact GL.below hG bE)
         rintro e w61 ⟨v110, rfl, ho0, hb⟩
         refine ⟨_, rfl, ?_⟩
         have n0_ := aM (Kd.R_below (by (with_reducible repeat (first | apply Kd.R_alloc | apply Kd.R_drewN | apply Kd.R_drew)); exact HO108.out) hb)
         have n1_ := aM (Kd.R_lower ho0 (below_size bE))
         have n2_ := aM (blk_below (g := gb101) (o := .cells #[.int .i64 a1_0, .int .i64 a1_1, .int .i64 a1_2] 64 (0, 0)) (bd BK101.out) hb)
         have n3_ := aM (below_step bE hb)
         clear HO108
         clear BK101
         clear HB
         have HO108 := n0_
         have HO111 := n1_
         have BK101 := n2_
         have HB := n3_
         clear n0_ n1_ n2_ n3_
         (try clear hb)
         (try clear ho0)
         refine hK.out _ _ ⟨(blk_cell BK101.out 0).trans rfl, (blk_cell BK101.out 1).trans rfl, (blk_cell BK101.out 2).trans rfl⟩ (fun hHeld => ?_)
         clear hK K
         refine nP 25 ?_
         refine pP 6 19 ?_ (hc := any_of HT_.out (by kernel_rfl))
         refine pP 7 26 ?_ (hc := any_of HT_.out (by kernel_rfl))
         refine pP 8 27 ?_ (hc := any_of HT_.out (by kernel_rfl))
         refine pP 9 7 ?_ (hc := any_of HT_.out (by kernel_rfl))
         refine pP 10 8 ?_ (hc := any_of HT_.out (by kernel_rfl))
         refine done_ (done_of HT_.out (by kernel_rfl)) ?_
         try go_wp2_with (first | ((with_reducible refine gate_callee (f := 41) rfl ?_); refine gL 37 Tryz.func41 #[.string a0, .int .i64 0, .int .i64 0] ?_; (with_reducible refine (mcp.calls a0 0 0 t113 t114 _ ?side1 A40.out).mono ?_); (case side1 => exact GL.below hG bE); rintro e w62 ⟨rfl, hb⟩; refine ⟨_, rfl, ?_⟩; replace HO108 := aM (Kd.R_below (by (with_reducible repeat (first | apply Kd.R_alloc | apply Kd.R_drewN | apply Kd.R_drew)); exact HO108.out) hb); replace HO111 := aM (Kd.R_below (by (with_reducible repeat (first | apply Kd.R_alloc | apply Kd.R_drewN | apply Kd.R_drew)); exact HO111.out) hb); replace BK101 := aM (blk_below (g := gb101) (o := .cells #[.int .i64 a1_0, .int .i64 a1_1, .int .i64 a1_2] 64 (0, 0)) (bd BK101.out) hb); replace HB := aM (below_step bE hb); (try clear hb); obtain ⟨Ao63, co63, eo63⟩ := Kd.R_slice HO111.out; subst eo63))
         go_ret
         exact ⟨eR, bE⟩
       ·rw [if_neg c42] at H
        have c42b0 : decide (0 < (l2.length : Int)) = false := decide_eq_false c42
        have c42b1 : decide (0 < l2.length) = false := decide_eq_false (by omega)
        clear c42
        exact Bool.noConfusion ((Option.some.inj H).trans hr_.out)
      ·rw [if_neg c41] at H
       obtain ⟨c41b0, c41b1⟩ := bqF c41
       have c41b2 : ¬ (t109 = []) := fun h_ => c41 (by rw [h_]; rfl)
       exact Bool.noConfusion ((Option.some.inj H).trans hr_.out)
   ·rw [if_neg c9] at H
    exact absurd H (by simp)
 ·replace c5 := Bool.eq_false_iff.mpr c5
  subst c5
  rw [if_neg Bool.false_ne_true] at H
  exact Bool.noConfusion ((Option.some.inj H).trans hr_.out)
end
end Go.Proofs.YtejbbceidnaloaaGreatDoor.P
