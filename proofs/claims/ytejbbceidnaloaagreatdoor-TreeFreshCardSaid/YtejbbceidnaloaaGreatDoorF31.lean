import Derived.Test.YtejbbceidnaloaaGreatDoorF30
set_option linter.unusedVariables false
set_option linter.unusedSimpArgs false
set_option maxRecDepth 100000
set_option maxHeartbeats 8000000
namespace Go.Proofs.YtejbbceidnaloaaGreatDoor.P
open Go.RowKit AW AL AM
theorem read_none {c : UInt8} {r : List UInt8} (hl : r.length ≤ 10000) (h : c ≠ 45) (hd : ¬ isDig c) {K : Nat} (hK : 10 ≤ K) : Na5.f K ⟨(c :: r).toArray⟩ = some (0, 0, false) := by
 unfold Na5.f
 rw [cut_no c 45 r (by omega) h]
 simp only [Option.bind_some]
 have := digits_f [] (c :: r) (by simp; omega) hd (fun x hx => by cases hx) (K := K) (by simp; omega)
 rw [List.nil_append] at this
 rw [this]
 rfl
theorem index_event {ops : Array Oper} {rest : List Oper} {o : Oper} {a : Act} {Q : Exit → Act → World → Prop} {W : World} (hgd : o.guard = none) {t : TypeId} {x y : Operand} (ho : o.op = .index t x y) {c i v : Value} (hx : a.eval x = c) (hy : a.eval y = i) (hr : ∀ W, (Instr.index t c i).run Tryz.prog W = .ok v W)
 (h : wpList Tryz.prog ops Q rest (a.put o.dst v) W) : wpList Tryz.prog ops Q (o :: rest) a W := by
 refine wpList_plain hgd fun K hKK => ?_
 unfold Oper.wp execOp
 simp only [ho, hx, hy, Sem.run_bind, Sem.run_pure, Result.andThen_ok, hr]
 exact hKK _ _ h
theorem iX {ops : Array Oper} {rest : List Oper} {o : Oper} {a : Act} {Q : Exit → Act → World → Prop} {W : World} (k : Int) (s : ByteArray) (h : wpList Tryz.prog ops Q rest (a.put o.dst (.string s)) W) (hgd : o.guard = none := by exact rfl) {t : TypeId} {x y : Operand} (ho : o.op = .index t x y := by exact rfl) (hx : a.eval x = namesV := by exact rfl) (hy : a.eval y = .int .i64 k := by exact rfl) (hr : ∀ W, (Instr.index t namesV (.int .i64 k)).run Tryz.prog W = .ok (.string s) W := by exact fun W => by kernel_rfl) : wpList Tryz.prog ops Q (o :: rest) a W :=
 index_event hgd ho hx hy hr h
def Nee : List (Nat × ByteArray × Int × Int) := [(0, ⟨#[35, 68, 73, 86, 47, 48, 33]⟩, 1, 1), (1, ⟨#[35, 86, 65, 76, 85, 69, 33]⟩, 2, 2), (2, ⟨#[35, 82, 69, 70, 33]⟩, 3, 3), (3, ⟨#[35, 78, 85, 77, 33]⟩, 4, 4), (4, ⟨#[35, 78, 47, 65]⟩, 5, 5), (5, ⟨#[35, 67, 73, 82, 67, 76, 69, 33]⟩, 6, 6), (6, ⟨#[35, 76, 79, 78, 71, 33]⟩, 7, 7), (7, ⟨#[35, 65, 82, 71, 33]⟩, 8, 8)]
theorem fault_no : ∀ q ∈ Nee, strings_CutPrefix.f q.2.1 ⟨#[39]⟩ = some (q.2.1, false) ∧ Na5.f 10 q.2.1 = some (0, 0, false) ∧ q.1 ≤ 7 ∧ Nb3.f q.2.2.1 = some (4, 0, 0, ⟨#[]⟩, false, q.2.2.2) := by
 intro q h
 simp only [Nee, List.mem_cons, List.not_mem_nil, or_false] at h
 rcases h with rfl | rfl | rfl | rfl | rfl | rfl | rfl | rfl <;> exact ⟨cut_no 35 39 _ (by decide) (by decide), read_none (c := 35) (r := _) (by decide) (by decide) (by unfold isDig; decide) (Nat.le_refl _), by decide, rfl⟩
theorem Ncv (j : Nat) (s : ByteArray) (a r : Int) (hq : (j, s, a, r) ∈ Nee) (w : World) (hG : GL w) :
 Calls Tryz.prog 147 #[.string s] w fun en w' => en = .returned (.agg #[.int .i64 4, .int .i64 0, .int .i64 0, .string ⟨#[]⟩, .bool false, .int .i64 r]) ∧ Below w.heap.size w w' := by
 have HGL := lh hG
 have HC := lh (fault_no _ hq).1
 have HN := lh (fault_no _ hq).2.1
 have hv := (fault_no _ hq).2.2.2
 have HW1 := lh (fun w => Nc6.calls true ⟨#[84, 82, 85, 69]⟩ w rfl)
 have HW2 := lh (fun w => Nc6.calls false ⟨#[70, 65, 76, 83, 69]⟩ w rfl)
 have HF := lh (fun w => Nb3.calls a 4 0 0 ⟨#[]⟩ false r w hv)
 have hu46 := Tryz.underlying46
 have hu44 := Tryz.underlying44
 clear hG hv
 simp only [Nee, List.mem_cons, List.not_mem_nil, or_false, Prod.mk.injEq] at hq
 rcases hq with ⟨hj, rfl, rfl, hr⟩ | ⟨hj, rfl, rfl, hr⟩ | ⟨hj, rfl, rfl, hr⟩ | ⟨hj, rfl, rfl, hr⟩ | ⟨hj, rfl, rfl, hr⟩ | ⟨hj, rfl, rfl, hr⟩ | ⟨hj, rfl, rfl, hr⟩ | ⟨hj, rfl, rfl, hr⟩
 all_goals
  have HJ := lh hj
  clear hj hr
  simp only at HC HN HF
  go_enter Tryz.func147, Tryz.ntmps147
  go_upto_region 13 with (first
   | ((with_reducible refine gD 2 rfl ?_); refine bX 2 #[.int .i64 0, .int .i64 0, .int .i64 0, .string ⟨#[]⟩, .bool false, .int .i64 0] 46 ?_; intro g2 hg_ w1 hb_ hl_; have B1 := lh hl_; have G2 := lh (show w.heap.size ≤ g2 from hg_ ▸ Nat.le_refl _); have J1 := lh hb_; clear hb_ hl_ hg_)
   | (go_at_call 64; (with_reducible refine (strings_CutPrefix.calls _ ⟨#[39]⟩ _ false _ HC.out).mono ?_); rintro en w2 ⟨rfl, hd_⟩; have B2 := lh (Nac B1.out hd_.below); have J2 := lh (Nad J1.out hd_.below); clear hd_ B1 J1)
   | (go_at_call 179; (with_reducible refine (Na5.calls 10 _ 0 0 false _ HN.out).mono ?_); rintro en w3 ⟨rfl, hb_⟩; have B3 := lh (Nac B2.out hb_); have J3 := lh (Nad J2.out hb_); clear hb_ B2 J2)
   | ((with_reducible refine gD 5 rfl ?_); refine bX 5 #[.int .i64 0, .int .i64 0] 44 ?_; intro g5 hg_ w4 hb_ hl_; have B4 := lh (Nac B3.out hl_); have J4 := lh (Nad J3.out hl_); have G5 := lh (show w.heap.size ≤ g5 from hg_ ▸ B3.out.size); have NE := lh (show g2 ≠ g5 by have := Nbc J3.out; omega); have I4 := lh hb_; clear hb_ hl_ hg_ B3 J3)
   | ((with_reducible refine gate_ (.store 44 (.tmp 5) (.tmp 20)) rfl ?_); refine sE I4.out 44 (.tmp 5) (.tmp 20) 0 (.agg #[.int .i64 0, .int .i64 0]) #[.int .i64 0, .int .i64 0] ?_; intro w5 hb_ hp_; have B5 := lh (hp_.below w G5.out B4.out); have J5 := lh (hp_.blk J4.out NE.out); clear hb_ hp_ B4 J4 I4)
   | (go_at_call 186; (with_reducible refine (HW1.out _).mono ?_); rintro en w6 ⟨rfl, hd_⟩; have B6 := lh (Nac B5.out hd_.below); have J6 := lh (Nad J5.out hd_.below); clear hd_ B5 J5)
   | (go_at_call 186; (with_reducible refine (HW2.out _).mono ?_); rintro en w7 ⟨rfl, hd_⟩; have B7 := lh (Nac B6.out hd_.below); have J7 := lh (Nad J6.out hd_.below); clear hd_ B6 J6))
  have HG7 := lh (HGL.out.below B7.out)
  have n0 : w7.cell? ⟨2, 0, none⟩ = some (.string ⟨#[35, 68, 73, 86, 47, 48, 33]⟩) := Ncq HG7.out 0 (by decide)
  have n1 : w7.cell? ⟨2, 1, none⟩ = some (.string ⟨#[35, 86, 65, 76, 85, 69, 33]⟩) := Ncq HG7.out 1 (by decide)
  have n2 : w7.cell? ⟨2, 2, none⟩ = some (.string ⟨#[35, 82, 69, 70, 33]⟩) := Ncq HG7.out 2 (by decide)
  have n3 : w7.cell? ⟨2, 3, none⟩ = some (.string ⟨#[35, 78, 85, 77, 33]⟩) := Ncq HG7.out 3 (by decide)
  have n4 : w7.cell? ⟨2, 4, none⟩ = some (.string ⟨#[35, 78, 47, 65]⟩) := Ncq HG7.out 4 (by decide)
  have n5 : w7.cell? ⟨2, 5, none⟩ = some (.string ⟨#[35, 67, 73, 82, 67, 76, 69, 33]⟩) := Ncq HG7.out 5 (by decide)
  have n6 : w7.cell? ⟨2, 6, none⟩ = some (.string ⟨#[35, 76, 79, 78, 71, 33]⟩) := Ncq HG7.out 6 (by decide)
  have n7 : w7.cell? ⟨2, 7, none⟩ = some (.string ⟨#[35, 65, 82, 71, 33]⟩) := Ncq HG7.out 7 (by decide)
  have hu134 := Tryz.underlying134
  go_upto_region 14 with (fail)
  clear n0 n1 n2 n3 n4 n5 n6 n7
  go_loop [39] (fun v39 => ∃ k : Nat, k ≤ j ∧ v39 = .int .i64 k) (fun v39 => 8 - (intOf v39).toNat)
  case atStart => exact ⟨0, by omega, rfl⟩
  case round =>
   obtain ⟨k, hk, rfl⟩ := hrel
   have hj := HJ.out
   have hkk : k = 0 ∨ k = 1 ∨ k = 2 ∨ k = 3 ∨ k = 4 ∨ k = 5 ∨ k = 6 ∨ k = 7 := by omega
   rcases hkk with rfl | rfl | rfl | rfl | rfl | rfl | rfl | rfl
   all_goals first
    | (exfalso; omega)
    | (clear hk hj
       go_wp2_with ((with_reducible refine gD 42 rfl ?_); first | (refine iX 0 ⟨#[35, 68, 73, 86, 47, 48, 33]⟩ ?_) | (refine iX 1 ⟨#[35, 86, 65, 76, 85, 69, 33]⟩ ?_) | (refine iX 2 ⟨#[35, 82, 69, 70, 33]⟩ ?_) | (refine iX 3 ⟨#[35, 78, 85, 77, 33]⟩ ?_) | (refine iX 4 ⟨#[35, 78, 47, 65]⟩ ?_) | (refine iX 5 ⟨#[35, 67, 73, 82, 67, 76, 69, 33]⟩ ?_) | (refine iX 6 ⟨#[35, 76, 79, 78, 71, 33]⟩ ?_) | (refine iX 7 ⟨#[35, 65, 82, 71, 33]⟩ ?_))
       go_round
       case rel => first | exact ⟨1, by have := HJ.out; omega, rfl⟩ | exact ⟨2, by have := HJ.out; omega, rfl⟩ | exact ⟨3, by have := HJ.out; omega, rfl⟩ | exact ⟨4, by have := HJ.out; omega, rfl⟩ | exact ⟨5, by have := HJ.out; omega, rfl⟩ | exact ⟨6, by have := HJ.out; omega, rfl⟩ | exact ⟨7, by have := HJ.out; omega, rfl⟩
       case measure => simp [intOf])
    | (clear hk hj
       go_wp2_with (first
        | ((with_reducible refine gD 42 rfl ?_); first | (refine iX 0 ⟨#[35, 68, 73, 86, 47, 48, 33]⟩ ?_) | (refine iX 1 ⟨#[35, 86, 65, 76, 85, 69, 33]⟩ ?_) | (refine iX 2 ⟨#[35, 82, 69, 70, 33]⟩ ?_) | (refine iX 3 ⟨#[35, 78, 85, 77, 33]⟩ ?_) | (refine iX 4 ⟨#[35, 78, 47, 65]⟩ ?_) | (refine iX 5 ⟨#[35, 67, 73, 82, 67, 76, 69, 33]⟩ ?_) | (refine iX 6 ⟨#[35, 76, 79, 78, 71, 33]⟩ ?_) | (refine iX 7 ⟨#[35, 65, 82, 71, 33]⟩ ?_))
        | (go_at_call 62; (with_reducible refine (HF.out _).mono ?_); rintro en w8 ⟨rfl, hl_⟩; have B8 := lh (Nac B7.out hl_); have J8 := lh (Nad J7.out hl_); clear hl_)
        | ((with_reducible refine gate_ (.store 46 (.tmp 2) (.tmp 48)) rfl ?_); refine sE J8.out 46 (.tmp 2) (.tmp 48) 0 (.agg #[.int .i64 4, .int .i64 0, .int .i64 0, .string ⟨#[]⟩, .bool false, .int .i64 r]) #[.int .i64 4, .int .i64 0, .int .i64 0, .string ⟨#[]⟩, .bool false, .int .i64 r] ?_; intro w9 hb_ hp_; have B9 := lh (hp_.below w G2.out B8.out); have J9 := lh hb_; clear hb_ hp_))
       (try simp only [Exit.inBlock, Exit.then])
       refine bodyPost_ret (results_cell_row rfl _ _ g2 46 #[.int .i64 4, .int .i64 0, .int .i64 0, .string ⟨#[]⟩, .bool false, .int .i64 r] (0, 0) _ rfl J9.out Tryz.underlying46 rfl (by kernel_rfl)) rfl ?_
       exact ⟨rfl, B9.out⟩)
def Ndb.f (k : Nat) (a0_0 a0_1 : Int) : Option (Int × Int × Int × ByteArray × Bool × Int) := (Na6.f k a0_0 a0_1).bind fun t103 => (if t103 = true then (some (1, a0_0, a0_1, (⟨#[]⟩ : ByteArray), false, 0)) else (some (1, 0, 1, (⟨#[]⟩ : ByteArray), false, 0)))
theorem Ndb.calls (k : Nat) (a0_0 a0_1 r1 r2 r3 : Int) (r4 : ByteArray) (r5 : Bool) (r6 : Int) (w : World) (h : Ndb.f k a0_0 a0_1 = some (r1, r2, r3, r4, r5, r6)) :
 Calls Tryz.prog 181 #[.agg #[.int .i64 a0_0, .int .i64 a0_1]] w fun e w' => e = .returned (.agg #[.int .i64 r1, .int .i64 r2, .int .i64 r3, .string r4, .bool r5, .int .i64 r6]) ∧ Below w.heap.size w w' := by
 have hu44 := Tryz.underlying44
 have hu46 := Tryz.underlying46
 have HB := aM (Below.refl w.heap.size w)
 have H := h
 unfold Ndb.f at H
 clear h
 replace H := bS H
 obtain ⟨t103, A20, H⟩ := H
 try dsimp only at H
 have A2 := aM A20
 clear A20
 by_cases c3 : t103 = true
 ·subst c3
  rw [if_pos rfl] at H
  simp only [sJ, pJ] at H
  obtain ⟨rfl, rfl, rfl, rfl, rfl, rfl⟩ := H
  go_enter Tryz.func181, Tryz.ntmps181
  go_wp2_with (first | ((with_reducible refine gD 1 rfl ?_); refine bX 1 #[.int .i64 a0_0, .int .i64 a0_1] 44 ?_; intro gb101 hg w4 hbox hb; replace HB := bK w hbox hg hb; obtain ⟨BK101, GW101, HB⟩ := HB; have GE101 := GW101; clear hb hbox hg) | ((with_reducible refine gD 2 rfl ?_); refine bX 2 #[.int .i64 0, .int .i64 0, .int .i64 0, .string ⟨#[]⟩, .bool false, .int .i64 0] 46 ?_; intro gb102 hg w5 hbox hb; have BK102 := aM (hbox); have GW102 := aM ((by rw [hg]; exact (Nbb bE) : w.heap.size ≤ gb102)); have GE102 := GW102; have NB101_102 := aM ((by rw [hg]; exact Nat.ne_of_lt (Nbc BK101.out) : gb101 ≠ gb102)); have NB102_101 := aM ((by rw [hg]; exact Nat.ne_of_gt (Nbc BK101.out) : gb102 ≠ gb101)); replace BK101 := aM (Nad BK101.out hb); replace HB := aM (Nac bE hb); clear hb hbox hg; have hnb6 := NB101_102.out; have hnc6 := NB102_101.out; obtain ⟨hcz7_0, hcz7_1, hfz7_0, hfz7_1⟩ := bc2 BK101.out) | ((with_reducible refine gC 133 rfl ?_); refine gL 4 Tryz.func133 #[.agg #[.int .i64 a0_0, .int .i64 a0_1]] ?_; (with_reducible refine (Na6.calls k a0_0 a0_1 true _ A2.out).mono ?_); rintro e w8 ⟨rfl, hb⟩; refine ⟨_, rfl, ?_⟩; replace BK101 := aM (Nad BK101.out hb); replace BK102 := aM (Nad (g := gb102) (o := .cells #[.int .i64 0, .int .i64 0, .int .i64 0, .string ⟨#[]⟩, .bool false, .int .i64 0] 46 (0, 0)) BK102.out hb); replace HB := aM (Nac bE hb); (try clear hb); obtain ⟨hcz9_0, hcz9_1, hfz9_0, hfz9_1⟩ := bc2 BK101.out; obtain ⟨hcz10_0, hcz10_1, hcz10_2, hcz10_3, hcz10_4, hcz10_5, hfz10_0, hfz10_1, hfz10_2, hfz10_3, hfz10_4, hfz10_5⟩ := bc6 BK102.out))
  refine bodyPost_ret (results_cell_row rfl _ _ gb102 46 #[.int .i64 1, .int .i64 a0_0, .int .i64 a0_1, .string ⟨#[]⟩, .bool false, .int .i64 0] (0, 0) _ rfl (bP BK102.out) Tryz.underlying46 rfl (by kernel_rfl)) rfl ?_
  exact ⟨eR, bE⟩
 ·replace c3 := Bool.eq_false_iff.mpr c3
  subst c3
  rw [if_neg fT] at H
  simp only [sJ, pJ] at H
  obtain ⟨rfl, rfl, rfl, rfl, rfl, rfl⟩ := H
  go_enter Tryz.func181, Tryz.ntmps181
  go_wp2_with (first | ((with_reducible refine gD 1 rfl ?_); refine bX 1 #[.int .i64 a0_0, .int .i64 a0_1] 44 ?_; intro gb101 hg w11 hbox hb; replace HB := bK w hbox hg hb; obtain ⟨BK101, GW101, HB⟩ := HB; have GE101 := GW101; clear hb hbox hg) | ((with_reducible refine gD 2 rfl ?_); refine bX 2 #[.int .i64 0, .int .i64 0, .int .i64 0, .string ⟨#[]⟩, .bool false, .int .i64 0] 46 ?_; intro gb102 hg w12 hbox hb; have BK102 := aM (hbox); have GW102 := aM ((by rw [hg]; exact (Nbb bE) : w.heap.size ≤ gb102)); have GE102 := GW102; have NB101_102 := aM ((by rw [hg]; exact Nat.ne_of_lt (Nbc BK101.out) : gb101 ≠ gb102)); have NB102_101 := aM ((by rw [hg]; exact Nat.ne_of_gt (Nbc BK101.out) : gb102 ≠ gb101)); replace BK101 := aM (Nad BK101.out hb); replace HB := aM (Nac bE hb); clear hb hbox hg; have hnb13 := NB101_102.out; have hnc13 := NB102_101.out; obtain ⟨hcz14_0, hcz14_1, hfz14_0, hfz14_1⟩ := bc2 BK101.out) | ((with_reducible refine gC 133 rfl ?_); refine gL 4 Tryz.func133 #[.agg #[.int .i64 a0_0, .int .i64 a0_1]] ?_; (with_reducible refine (Na6.calls k a0_0 a0_1 false _ A2.out).mono ?_); rintro e w15 ⟨rfl, hb⟩; refine ⟨_, rfl, ?_⟩; replace BK101 := aM (Nad BK101.out hb); replace BK102 := aM (Nad (g := gb102) (o := .cells #[.int .i64 0, .int .i64 0, .int .i64 0, .string ⟨#[]⟩, .bool false, .int .i64 0] 46 (0, 0)) BK102.out hb); replace HB := aM (Nac bE hb); (try clear hb); obtain ⟨hcz16_0, hcz16_1, hfz16_0, hfz16_1⟩ := bc2 BK101.out; obtain ⟨hcz17_0, hcz17_1, hcz17_2, hcz17_3, hcz17_4, hcz17_5, hfz17_0, hfz17_1, hfz17_2, hfz17_3, hfz17_4, hfz17_5⟩ := bc6 BK102.out))
  refine bodyPost_ret (results_cell_row rfl _ _ gb102 46 #[.int .i64 1, .int .i64 0, .int .i64 1, .string ⟨#[]⟩, .bool false, .int .i64 0] (0, 0) _ rfl (by (with_reducible repeat first | apply Nal | apply Nag | apply Nao); refine Ncr (cs := #[.int .i64 1, .int .i64 0, .int .i64 1, .string ⟨#[]⟩, .bool false, .int .i64 0]) ?_ 5 _ rfl; (with_reducible repeat first | apply Nal | apply Nag | apply Nao); refine Ncr (cs := #[.int .i64 1, .int .i64 0, .int .i64 1, .string ⟨#[]⟩, .bool false, .int .i64 0]) ?_ 4 _ rfl; (with_reducible repeat first | apply Nal | apply Nag | apply Nao); refine Ncr (cs := #[.int .i64 1, .int .i64 0, .int .i64 1, .string ⟨#[]⟩, .bool false, .int .i64 0]) ?_ 3 _ rfl; (with_reducible repeat first | apply Nal | apply Nag | apply Nao); refine Ncr (cs := #[.int .i64 1, .int .i64 0, .int .i64 0, .string ⟨#[]⟩, .bool false, .int .i64 0]) ?_ 2 _ rfl; (with_reducible repeat first | apply Nal | apply Nag | apply Nao); refine Ncr (cs := #[.int .i64 1, .int .i64 0, .int .i64 0, .string ⟨#[]⟩, .bool false, .int .i64 0]) ?_ 1 _ rfl; (with_reducible repeat first | apply Nal | apply Nag | apply Nao); refine Ncr (cs := #[.int .i64 0, .int .i64 0, .int .i64 0, .string ⟨#[]⟩, .bool false, .int .i64 0]) ?_ 0 _ rfl; (with_reducible repeat first | apply Nal | apply Nag | apply Nao); refine Nbi ?_ NB102_101.out _; (with_reducible repeat first | apply Nal | apply Nag | apply Nao); refine Nbi ?_ NB102_101.out _; (with_reducible repeat first | apply Nal | apply Nag | apply Nao); exact BK102.out) Tryz.underlying46 rfl (by kernel_rfl)) rfl ?_
  exact ⟨eR, bE⟩
def Nc7.f (k : Nat) (a0 : ByteArray) : Option (Int × Int × Int × ByteArray × Bool × Int) := (Naw.f k a0).bind fun t102 => (if t102 = true then (if (a0.size : Int) > 256 then ((Nb3.f 7).bind fun bt103 => (some (bt103.1, bt103.2.1, bt103.2.2.1, bt103.2.2.2.1, bt103.2.2.2.2.1, bt103.2.2.2.2.2))) else (some (2, 0, 0, a0, false, 0))) else ((Nb3.f 2).bind fun bt109 => (some (bt109.1, bt109.2.1, bt109.2.2.1, bt109.2.2.2.1, bt109.2.2.2.2.1, bt109.2.2.2.2.2))))
theorem Nc7.calls (k : Nat) (a0 : ByteArray) (r1 r2 r3 : Int) (r4 : ByteArray) (r5 : Bool) (r6 : Int) (w : World) (h : Nc7.f k a0 = some (r1, r2, r3, r4, r5, r6)) :
 Calls Tryz.prog 182 #[.string a0] w fun e w' => e = .returned (.agg #[.int .i64 r1, .int .i64 r2, .int .i64 r3, .string r4, .bool r5, .int .i64 r6]) ∧ Below w.heap.size w w' := by
 have hu46 := Tryz.underlying46
 have HB := aM (Below.refl w.heap.size w)
 have H := h
 unfold Nc7.f at H
 clear h
 replace H := bS H
 obtain ⟨t102, A20, H⟩ := H
 try dsimp only at H
 have A2 := aM A20
 clear A20
 by_cases c3 : t102 = true
 ·subst c3
  rw [if_pos rfl] at H
  by_cases c4 : (a0.size : Int) > 256
  ·rw [if_pos c4] at H
   have c4b0 : decide (256 < (a0.size : Int)) = true := decide_eq_true c4
   have c4b1 : decide (256 < a0.size) = true := decide_eq_true (by omega)
   clear c4
   replace H := bS H
   obtain ⟨⟨t103, t104, t105, t106, t107, t108⟩, A50, H⟩ := H
   try dsimp only at H
   have A5 := aM A50
   clear A50
   simp only [sJ, pJ] at H
   obtain ⟨rfl, rfl, rfl, rfl, rfl, rfl⟩ := H
   go_enter Tryz.func182, Tryz.ntmps182
   go_wp2_with (first | ((with_reducible refine gD 2 rfl ?_); refine bX 2 #[.int .i64 0, .int .i64 0, .int .i64 0, .string ⟨#[]⟩, .bool false, .int .i64 0] 46 ?_; intro gb101 hg w6 hbox hb; replace HB := bK w hbox hg hb; obtain ⟨BK101, GW101, HB⟩ := HB; have GE101 := GW101; clear hb hbox hg) | ((with_reducible refine gC 134 rfl ?_); refine gL 5 Tryz.func134 #[.string a0] ?_; (with_reducible refine (Naw.calls k a0 true _ A2.out).mono ?_); rintro e w' ⟨rfl, ⟨nd, rfl⟩⟩; refine ⟨_, rfl, ?_⟩; (try (rw [Ncb w6]; generalize hq_ : World.drewN w6 _ = w6; have n0_ : Nah (w6.heap[gb101]? = some (.cells #[.int .i64 0, .int .i64 0, .int .i64 0, .string ⟨#[]⟩, .bool false, .int .i64 0] 46 (0, 0))) := ⟨by rw [← hq_]; exact (bd BK101.out)⟩; have n1_ : Nah (Below w.heap.size w w6) := ⟨by rw [← hq_]; exact bE⟩; clear BK101 HB hq_; have BK101 := n0_; have HB := n1_; clear n0_ n1_))) | ((with_reducible refine gC 62 rfl ?_); refine gL 12 Tryz.func62 #[.int .i64 7] ?_; (with_reducible refine (Nb3.calls 7 t103 t104 t105 t106 t107 t108 _ A5.out).mono ?_); rintro e w7 ⟨rfl, hb⟩; refine ⟨_, rfl, ?_⟩; replace BK101 := aM (Nad (g := gb101) (o := .cells #[.int .i64 0, .int .i64 0, .int .i64 0, .string ⟨#[]⟩, .bool false, .int .i64 0] 46 (0, 0)) (bd BK101.out) hb); replace HB := aM (Nac bE hb); (try clear hb); obtain ⟨hcz8_0, hcz8_1, hcz8_2, hcz8_3, hcz8_4, hcz8_5, hfz8_0, hfz8_1, hfz8_2, hfz8_3, hfz8_4, hfz8_5⟩ := bc6 BK101.out))
   refine bodyPost_ret (results_cell_row rfl _ _ gb101 46 #[.int .i64 t103, .int .i64 t104, .int .i64 t105, .string t106, .bool t107, .int .i64 t108] (0, 0) _ rfl (bP BK101.out) Tryz.underlying46 rfl (by kernel_rfl)) rfl ?_
   exact ⟨eR, bE⟩
  ·rw [if_neg c4] at H
   have c4b0 : decide (256 < (a0.size : Int)) = false := decide_eq_false c4
   have c4b1 : decide (256 < a0.size) = false := decide_eq_false (by omega)
   clear c4
   simp only [sJ, pJ] at H
   obtain ⟨rfl, rfl, rfl, rfl, rfl, rfl⟩ := H
   go_enter Tryz.func182, Tryz.ntmps182
   go_wp2_with (first | ((with_reducible refine gD 2 rfl ?_); refine bX 2 #[.int .i64 0, .int .i64 0, .int .i64 0, .string ⟨#[]⟩, .bool false, .int .i64 0] 46 ?_; intro gb101 hg w9 hbox hb; replace HB := bK w hbox hg hb; obtain ⟨BK101, GW101, HB⟩ := HB; have GE101 := GW101; clear hb hbox hg) | ((with_reducible refine gC 134 rfl ?_); refine gL 5 Tryz.func134 #[.string a0] ?_; (with_reducible refine (Naw.calls k a0 true _ A2.out).mono ?_); rintro e w' ⟨rfl, ⟨nd, rfl⟩⟩; refine ⟨_, rfl, ?_⟩; (try (rw [Ncb w9]; generalize hq_ : World.drewN w9 _ = w9; have n0_ : Nah (w9.heap[gb101]? = some (.cells #[.int .i64 0, .int .i64 0, .int .i64 0, .string ⟨#[]⟩, .bool false, .int .i64 0] 46 (0, 0))) := ⟨by rw [← hq_]; exact (bd BK101.out)⟩; have n1_ : Nah (Below w.heap.size w w9) := ⟨by rw [← hq_]; exact bE⟩; clear BK101 HB hq_; have BK101 := n0_; have HB := n1_; clear n0_ n1_)); obtain ⟨hcz10_0, hcz10_1, hcz10_2, hcz10_3, hcz10_4, hcz10_5, hfz10_0, hfz10_1, hfz10_2, hfz10_3, hfz10_4, hfz10_5⟩ := bc6 BK101.out))
   refine bodyPost_ret (results_cell_row rfl _ _ gb101 46 #[.int .i64 2, .int .i64 0, .int .i64 0, .string a0, .bool false, .int .i64 0] (0, 0) _ rfl (bP BK101.out) Tryz.underlying46 rfl (by kernel_rfl)) rfl ?_
   exact ⟨eR, bE⟩
 ·replace c3 := Bool.eq_false_iff.mpr c3
  subst c3
  rw [if_neg fT] at H
  replace H := bS H
  obtain ⟨⟨t109, t110, t111, t112, t113, t114⟩, A110, H⟩ := H
  try dsimp only at H
  have A11 := aM A110
  clear A110
  simp only [sJ, pJ] at H
  obtain ⟨rfl, rfl, rfl, rfl, rfl, rfl⟩ := H
  go_enter Tryz.func182, Tryz.ntmps182
  go_wp2_with (first | ((with_reducible refine gD 2 rfl ?_); refine bX 2 #[.int .i64 0, .int .i64 0, .int .i64 0, .string ⟨#[]⟩, .bool false, .int .i64 0] 46 ?_; intro gb101 hg w12 hbox hb; replace HB := bK w hbox hg hb; obtain ⟨BK101, GW101, HB⟩ := HB; have GE101 := GW101; clear hb hbox hg) | ((with_reducible refine gC 134 rfl ?_); refine gL 5 Tryz.func134 #[.string a0] ?_; (with_reducible refine (Naw.calls k a0 false _ A2.out).mono ?_); rintro e w' ⟨rfl, ⟨nd, rfl⟩⟩; refine ⟨_, rfl, ?_⟩; (try (rw [Ncb w12]; generalize hq_ : World.drewN w12 _ = w12; have n0_ : Nah (w12.heap[gb101]? = some (.cells #[.int .i64 0, .int .i64 0, .int .i64 0, .string ⟨#[]⟩, .bool false, .int .i64 0] 46 (0, 0))) := ⟨by rw [← hq_]; exact (bd BK101.out)⟩; have n1_ : Nah (Below w.heap.size w w12) := ⟨by rw [← hq_]; exact bE⟩; clear BK101 HB hq_; have BK101 := n0_; have HB := n1_; clear n0_ n1_))) | ((with_reducible refine gC 62 rfl ?_); refine gL 7 Tryz.func62 #[.int .i64 2] ?_; (with_reducible refine (Nb3.calls 2 t109 t110 t111 t112 t113 t114 _ A11.out).mono ?_); rintro e w13 ⟨rfl, hb⟩; refine ⟨_, rfl, ?_⟩; replace BK101 := aM (Nad (g := gb101) (o := .cells #[.int .i64 0, .int .i64 0, .int .i64 0, .string ⟨#[]⟩, .bool false, .int .i64 0] 46 (0, 0)) (bd BK101.out) hb); replace HB := aM (Nac bE hb); (try clear hb); obtain ⟨hcz14_0, hcz14_1, hcz14_2, hcz14_3, hcz14_4, hcz14_5, hfz14_0, hfz14_1, hfz14_2, hfz14_3, hfz14_4, hfz14_5⟩ := bc6 BK101.out))
  refine bodyPost_ret (results_cell_row rfl _ _ gb101 46 #[.int .i64 t109, .int .i64 t110, .int .i64 t111, .string t112, .bool t113, .int .i64 t114] (0, 0) _ rfl (bP BK101.out) Tryz.underlying46 rfl (by kernel_rfl)) rfl ?_
  exact ⟨eR, bE⟩
def Nd6.f (a0 : Bool) : Option (Int × Int × Int × ByteArray × Bool × Int) := some (3, 0, 0, (⟨#[]⟩ : ByteArray), a0, 0)
theorem Nd6.calls (a0 : Bool) (r1 r2 r3 : Int) (r4 : ByteArray) (r5 : Bool) (r6 : Int) (w : World) (h : Nd6.f a0 = some (r1, r2, r3, r4, r5, r6)) :
 Calls Tryz.prog 187 #[.bool a0] w fun e w' => e = .returned (.agg #[.int .i64 r1, .int .i64 r2, .int .i64 r3, .string r4, .bool r5, .int .i64 r6]) ∧ Below w.heap.size w w' := by
 have hu46 := Tryz.underlying46
 have HB := aM (Below.refl w.heap.size w)
 have H := h
 unfold Nd6.f at H
 clear h
 simp only [sJ, pJ] at H
 obtain ⟨rfl, rfl, rfl, rfl, rfl, rfl⟩ := H
 go_enter Tryz.func187, Tryz.ntmps187
 go_wp2_with (first | ((with_reducible refine gD 2 rfl ?_); refine bX 2 #[.int .i64 0, .int .i64 0, .int .i64 0, .string ⟨#[]⟩, .bool false, .int .i64 0] 46 ?_; intro gb101 hg w2 hbox hb; replace HB := bK w hbox hg hb; obtain ⟨BK101, GW101, HB⟩ := HB; have GE101 := GW101; clear hb hbox hg; obtain ⟨hcz3_0, hcz3_1, hcz3_2, hcz3_3, hcz3_4, hcz3_5, hfz3_0, hfz3_1, hfz3_2, hfz3_3, hfz3_4, hfz3_5⟩ := bc6 BK101.out))
 refine bodyPost_ret (results_cell_row rfl _ _ gb101 46 #[.int .i64 3, .int .i64 0, .int .i64 0, .string ⟨#[]⟩, .bool a0, .int .i64 0] (0, 0) _ rfl (bP BK101.out) Tryz.underlying46 rfl (by kernel_rfl)) rfl ?_
 exact ⟨eR, bE⟩
def Er (ts : List S39) (e : Int) {α : Type} (r : Res α) : Prop := ∀ c p, r = some (.error (c, p)) → (c = 50 ∨ c = 3) ∧ ∃ i, p = Nbg ts e i
section
variable {ts : List S39} {e : Int}
theorem Er.none_ {α : Type} : Er ts e (none : Res α) := fun _ _ h => by cases h
theorem Er.ok {α : Type} (a : α) : Er ts e (okR a) := fun _ _ h => by cases h
theorem Er.er {α : Type} (i : Int) : Er ts e (erR 50 (Nbg ts e i) : Res α) := fun _ _ h => by cases h; exact ⟨.inl rfl, i, rfl⟩
theorem Er.er3 {α : Type} (i : Int) : Er ts e (erR 3 (Nbg ts e i) : Res α) := fun _ _ h => by cases h; exact ⟨.inr rfl, i, rfl⟩
theorem Er.bnd {α β : Type} {r : Res α} {f : α → Res β} (h : Er ts e r) (hf : ∀ a, Er ts e (f a)) : Er ts e (r.bnd f) := by
 intro c p hh
 cases r with
 | none => cases hh
 | some x =>
  cases x with
  | error q =>
   obtain ⟨c', p'⟩ := q
   have := h c' p' rfl
   cases hh
   exact this
  | ok a => exact hf a c p hh
theorem Er.ite {α : Type} {P : Prop} [Decidable P] {a b : Res α} (h1 : Er ts e a) (h2 : Er ts e b) : Er ts e (if P then a else b) := by split <;> assumption
end
section
variable (O : Ops) (ts : List S39) (e : Int)
theorem celF_er (i : Int) : Er ts e (celF O ts e i) := by
 unfold celF
 refine .ite ?_ (.er _)
 split
 ·exact .ok _
 ·exact .er _
theorem refF_er (s : ByteArray) (i : Int) : Er ts e (refF O ts e s i) := by
 unfold refF
 refine .bnd (celF_er O ts e i) fun a => ?_
 refine .ite (.bnd (celF_er O ts e _) fun b => .ok _) (.ok _)
theorem perF_er : ∀ (k : Nat) (out : List S50) (i : Int), Er ts e (perF ts k out i)
 | 0, _, _ => by rw [perF]; exact .none_
 | k + 1, out, i => by rw [perF]; exact .ite (perF_er k _ _) (.ok _)
theorem er_all : ∀ k : Nat, (∀ least i, Er ts e (binF O ts e k least i)) ∧ (∀ least l i, Er ts e (lopF O ts e k least l i)) ∧ (∀ i, Er ts e (sgnF O ts e k i)) ∧ (∀ i, Er ts e (parF O ts e k i)) ∧ (∀ w i, Er ts e (worF O ts e k w i)) ∧ (∀ m i, Er ts e (calF O ts e k m i)) ∧ (∀ m acc n i, Er ts e (argF O ts e k m acc n i)) := by
 intro k
 induction k with
 | zero =>
  refine ⟨?_, ?_, ?_, ?_, ?_, ?_, ?_⟩
  ·intro _ _; rw [binF]; exact .none_
  ·intro _ _ _; rw [lopF]; exact .none_
  ·intro _; rw [sgnF]; exact .none_
  ·intro _; rw [parF]; exact .none_
  ·intro _ _; rw [worF]; exact .none_
  ·intro _ _; rw [calF]; exact .none_
  ·intro _ _ _ _; rw [argF]; exact .none_
 | succ k ih =>
  obtain ⟨h1, h2, h3, h4, h5, h6, h7⟩ := ih
  refine ⟨?_, ?_, ?_, ?_, ?_, ?_, ?_⟩
  ·intro _ _; rw [binF]; exact .ite (h3 _) (.bnd (h1 _ _) fun a => h2 _ _ _)
  ·intro _ _ _; rw [lopF]; exact .ite (.ok _) (.bnd (h1 _ _) fun a => h2 _ _ _)
  ·intro _; rw [sgnF]; exact .ite (.bnd (h3 _) fun a => .ok _) (.ite (.bnd (h3 _) fun a => .ok _) (.bnd (h4 _) fun a => perF_er ts e _ _ _))
  ·intro _; rw [parF]
   refine .ite (.bnd (h1 _ _) fun a => .ite (.ok _) (.er _)) (.ite (.ite (h5 _ _) (.ite ?_ (.ite (.ite (.ok _) (.er _)) (.ite (.ok _) (.er _))))) (.er _))
   split
   ·exact .ok _
   ·exact .er _
  ·intro _ _; rw [worF]; exact .ite (h6 _ _) (.ite (.ite (refF_er O ts e _ _) (.er _)) (.ite (.ok _) (.ite (.ok _) (refF_er O ts e _ _))))
  ·intro _ _; rw [calF]; exact .ite (.ite (.ok _) (h7 _ _ _ _)) (.er _)
  ·intro _ _ _ _; rw [argF]; exact .bnd (h1 _ _) fun a => .ite (.ite (.er3 _) (h7 _ _ _ _)) (.ite (.ok _) (.er _))
theorem whole_er (k : Nat) : Er ts e (Nds O ts e k) := by
 unfold Nds
 exact .bnd ((er_all O ts e k).1 _ _) fun a => .ite (.er _) (.ok _)
theorem whole_fuel {k : Nat} (hk : 16 * ts.length + 12 ≤ k) : ∃ x, Nds O ts e k = some x := by
 obtain ⟨x, hx, _⟩ := (enough O ts e ts.length).1 (16 * ts.length + 12) 1 0 (by omega) (by omega) (by omega) (by omega) (by omega) (by omega)
 have : ∃ x, Nds O ts e (16 * ts.length + 12) = some x := by
  unfold Nds
  rw [hx]
  cases x with
  | error p => exact ⟨_, rfl⟩
  | ok p => obtain ⟨l, a⟩ := p; simp only [Res.bnd]; split <;> exact ⟨_, rfl⟩
 obtain ⟨y, hy⟩ := this
 exact ⟨y, wholeF_le O ts e hk hy⟩
end
def NumTx (l : List UInt8) : Prop := ∃ a, a ≠ [] ∧ (∀ c ∈ a, isDig c) ∧ (l = a ∨ ∃ b, b ≠ [] ∧ (∀ c ∈ b, isDig c) ∧ l = a ++ 46 :: b)
theorem digB_iff (c : UInt8) : digB ((c.toNat : Nat) : Int) = true ↔ isDig c := by
 unfold digB isDig
 rw [Bool.and_eq_true, decide_eq_true_eq, decide_eq_true_eq]
 omega
theorem runL_take (p : Int → Bool) : ∀ (l : List UInt8), ∀ c ∈ l.take (runL p l), p c.toNat = true
 | [], c, h => by simp at h
 | d :: r, c, h => by
  rw [runL] at h
  split at h
  ·rename_i hd
   rw [List.take_succ_cons] at h
   rcases List.mem_cons.1 h with rfl | h
   ·exact hd
   ·exact runL_take p r c h
  ·simp at h
theorem num_shape {c : UInt8} {r : List UInt8} (h : digB c.toNat = true) : NumTx ((c :: r).take (numLx (c :: r))) := by
 have hpos : 1 ≤ runL digB (c :: r) := by rw [runL, if_pos h]; omega
 have hle := Nd0 digB (c :: r)
 have hda : ∀ x ∈ (c :: r).take (runL digB (c :: r)), isDig x := fun x hx => (digB_iff x).1 (runL_take digB _ x hx)
 have hne : (c :: r).take (runL digB (c :: r)) ≠ [] := by
  intro hh
  have := congrArg List.length hh
  rw [List.length_take, List.length_nil] at this
  omega
 generalize hl : c :: r = l at *
 refine ⟨l.take (runL digB l), hne, hda, ?_⟩
 unfold numLx
 split
 ·exact .inl rfl
 ·rename_i d q hq
  by_cases hc : d = 46 ∧ 0 < runL digB q
  ·rw [if_pos hc]
   refine .inr ⟨q.take (runL digB q), ?_, fun x hx => (digB_iff x).1 (runL_take digB _ x hx), ?_⟩
   ·intro hh
    have := congrArg List.length hh
    rw [List.length_take, List.length_nil] at this
    have := Nd0 digB q
    omega
   ·have e : l = l.take (runL digB l) ++ (46 :: q) := by
     conv => lhs; rw [← List.take_append_drop (runL digB l) l, hq, hc.1]
    have hlen : (l.take (runL digB l)).length = runL digB l := by rw [List.length_take]; omega
    generalize hn : runL digB l = n at *
    generalize hA : l.take n = A at *
    rw [e, List.take_append, List.take_of_length_le (by omega), hlen, show n + (1 + runL digB q) - n = runL digB q + 1 by omega, List.take_succ_cons]
  ·rw [if_neg hc, Nat.add_zero]; exact .inl rfl
theorem replaceK_len (old new : List UInt8) (h : new.length ≤ old.length) : ∀ (k : Nat) (l : List UInt8), (Lib.replaceK old new k l).length ≤ l.length
 | 0, l => Nat.le_refl _
 | k + 1, l => by
  rcases Lib.index_spec l old with ⟨h1, _⟩ | ⟨i, h1, _⟩
  ·rw [Lib.replaceK, if_pos (by rw [h1]; rfl)]; exact Nat.le_refl _
  ·have hroom := Lib.index_room l old (by omega)
   rw [Lib.replaceK_hit _ _ _ _ _ h1]
   have ih := replaceK_len old new h k (l.drop (i + old.length))
   rw [List.length_drop] at ih
   simp only [List.length_append, List.length_take]
   omega
theorem undbl_len (l : List UInt8) : (undblL l).length ≤ l.length := by
 unfold undblL Lib.replaceAll Lib.replace
 rw [if_neg (by decide)]
 exact replaceK_len _ _ (by decide) _ _
structure TokOk (n : Nat) (t : S39) : Prop where
 size : t.f1.size ≤ n
 num : t.f0 = 1 → NumTx t.f1.data.toList
 flt : t.f0 = 4 → t.f1 ∈ Nbu
theorem fault_mem {b : List UInt8} (h : b ∈ Nci) : (⟨b.toArray⟩ : ByteArray) ∈ Nbu := by
 unfold Nci at h
 obtain ⟨x, hx, rfl⟩ := List.mem_map.1 h
 rw [← list_text]; exact hx
theorem next_tok (c : UInt8) (r : List UInt8) (p : Int) (h : (nextL (c :: r)).2.2.2 = 0) : TokOk (c :: r).length ⟨(nextL (c :: r)).1, ⟨(nextL (c :: r)).2.1.toArray⟩, p⟩ := by
 have hb : ∀ L, (Na9 (c :: r) L).length ≤ (c :: r).length := by
  intro L
  obtain ⟨q, hq⟩ := Nda (c :: r) L
  have := congrArg List.length hq
  rw [List.length_append] at this
  omega
 rw [nextL] at h ⊢
 split
 ·rename_i hd
  exact ⟨by rw [Nak, List.length_take]; exact Nat.min_le_right _ _, fun _ => by simpa using num_shape hd, fun hh => absurd hh (show ¬ (1 : Int) = 4 by decide)⟩
 rename_i hd
 rw [if_neg hd] at h
 split
 ·refine ⟨?_, fun hh => absurd hh (show ¬ (2 : Int) = 1 by decide), fun hh => absurd hh (show ¬ (2 : Int) = 4 by decide)⟩
  show (⟨(quotL (c :: r)).1.toArray⟩ : ByteArray).size ≤ _
  rw [Nak]
  unfold quotL
  cases qend ((c :: r).drop 1) with
  | none => exact Nat.zero_le _
  | some e =>
   simp only
   cases badAt ((c :: r).take (e + 2)) with
   | some i => exact Nat.zero_le _
   | none =>
    have := undbl_len (((c :: r).drop 1).take e)
    rw [List.length_take, List.length_drop] at this
    show (undblL (((c :: r).drop 1).take e)).length ≤ _
    omega
 rename_i h34
 rw [if_neg h34] at h
 split
 ·exact ⟨by rw [Nak, List.length_take]; exact Nat.min_le_right _ _, fun hh => absurd hh (show ¬ (3 : Int) = 1 by decide), fun hh => absurd hh (show ¬ (3 : Int) = 4 by decide)⟩
 rename_i hl
 rw [if_neg hl] at h
 split
 ·rename_i h35
  rw [if_pos h35] at h
  split
  ·rename_i he
   rw [if_pos he] at h
   exact absurd h (by show ¬ (40 : Int) = 0; decide)
  ·rename_i he
   exact ⟨by rw [Nak]; exact hb _, fun hh => absurd hh (show ¬ (4 : Int) = 1 by decide), fun _ => fault_mem (begins_mem _ _ he)⟩
 ·split
  ·exact ⟨by rw [Nak]; exact hb _, fun hh => absurd hh (show ¬ (5 : Int) = 1 by decide), fun hh => absurd hh (show ¬ (5 : Int) = 4 by decide)⟩
  ·split
   ·exact ⟨by rw [Nak]; simp, fun hh => absurd hh (show ¬ (5 : Int) = 1 by decide), fun hh => absurd hh (show ¬ (5 : Int) = 4 by decide)⟩
   ·exact ⟨by rw [Nak]; simp, fun hh => absurd hh (show ¬ (0 : Int) = 1 by decide), fun hh => absurd hh (show ¬ (0 : Int) = 4 by decide)⟩
theorem TokOk.up {n m : Nat} {t : S39} (h : TokOk n t) (hm : n ≤ m) : TokOk m t := ⟨Nat.le_trans h.size hm, h.num, h.flt⟩
theorem scan_ok : ∀ (n : Nat) (l : List UInt8) (k p : Nat) (ts : List S39), l.length ≤ n → scanL k p l = .ok ts → ts.length ≤ l.length ∧ ∀ t ∈ ts, TokOk l.length t
 | n, l, 0, p, ts, hn, h => by cases h; exact ⟨Nat.zero_le _, fun t ht => by cases ht⟩
 | n, [], k + 1, p, ts, hn, h => by cases h; exact ⟨Nat.le_refl _, fun t ht => by cases ht⟩
 | 0, c :: r, k + 1, p, ts, hn, h => by simp at hn
 | n + 1, c :: r, k + 1, p, ts, hn, h => by
  simp only [List.length_cons] at hn
  rw [scanL] at h
  split at h
  ·obtain ⟨h1, h2⟩ := scan_ok n r k (p + 1) ts (by omega) h
   exact ⟨by simp; omega, fun t ht => (h2 t ht).up (by simp)⟩
  ·split at h
   ·rename_i h0
    have hl := Nd9 c r h0
    split at h
    ·rename_i us hu
     cases h
     obtain ⟨h1, h2⟩ := scan_ok n _ k _ us (by rw [List.length_drop, List.length_cons]; omega) hu
     rw [List.length_drop] at h1 h2
     refine ⟨by rw [List.length_cons]; omega, fun t ht => ?_⟩
     rcases List.mem_cons.1 ht with rfl | ht
     ·exact next_tok c r _ h0
     ·exact (h2 t ht).up (Nat.sub_le _ _)
    ·cases h
   ·cases h
theorem scan_er : ∀ (n : Nat) (l : List UInt8) (k p : Nat) (c q : Int), l.length ≤ n → scanL k p l = .error (c, q) → c ≠ 0
 | n, l, 0, p, c, q, hn, h => by cases h
 | n, [], k + 1, p, c, q, hn, h => by cases h
 | 0, d :: r, k + 1, p, c, q, hn, h => by simp at hn
 | n + 1, d :: r, k + 1, p, c, q, hn, h => by
  simp only [List.length_cons] at hn
  rw [scanL] at h
  split at h
  ·exact scan_er n r k (p + 1) c q (by omega) h
  ·split at h
   ·rename_i h0
    have hl := Nd9 d r h0
    split at h
    ·cases h
    ·rename_i e he
     cases h
     exact scan_er n _ k _ c q (by rw [List.length_drop, List.length_cons]; omega) he
   ·rename_i h0
    cases h
    exact h0
end Go.Proofs.YtejbbceidnaloaaGreatDoor.P
