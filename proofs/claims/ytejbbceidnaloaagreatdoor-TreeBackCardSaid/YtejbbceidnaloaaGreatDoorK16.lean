import Derived.Test.YtejbbceidnaloaaGreatDoorK15
namespace Go.Proofs.YtejbbceidnaloaaGreatDoor.P
open Go.RowKit Go.Proofs.YtejbbceidnaloaaGreatDoorW.PrintWords Go.Proofs.YtejbbceidnaloaaGreatDoorW.PrintLast Go.Proofs.YtejbbceidnaloaaGreatDoorW.PrintMore
set_option linter.unusedVariables false
set_option linter.unusedSimpArgs false
def partsF (k : Int) (v0 : Int) (v1 : Int) (v2 : Int) (v3 : ByteArray) (v4 : Bool) (v5 : Int) (o : Int) (m : ByteArray) (ag : Int) (a0 : ByteArray) (a1 : Int) (a2 : Int) (a3 : Bool) (a4 : Bool) (b0 : ByteArray) (b1 : Int) (b2 : Int) (b3 : Bool) (b4 : Bool) : Int :=
 if k = 1 then partsV1 v0 v1 v2 v3 v4 v5 o m ag a0 a1 a2 a3 a4 b0 b1 b2 b3 b4 (valB v0 v1 v2 v3 v4 v5)
 else if k = 2 then partsV2 v0 v1 v2 v3 v4 v5 o m ag a0 a1 a2 a3 a4 b0 b1 b2 b3 b4 (refB a0 a1 a2) (refB b0 b1 b2)
 else if k = 3 then partsV3 v0 v1 v2 v3 v4 v5 o m ag a0 a1 a2 a3 a4 b0 b1 b2 b3 b4 (refB a0 a1 a2) (refB b0 b1 b2)
 else if k = 4 then partsV4 v0 v1 v2 v3 v4 v5 o m ag a0 a1 a2 a3 a4 b0 b1 b2 b3 b4
 else if k = 5 then partsV5 v0 v1 v2 v3 v4 v5 o m ag a0 a1 a2 a3 a4 b0 b1 b2 b3 b4
 else if k = 6 then partsV6 v0 v1 v2 v3 v4 v5 o m ag a0 a1 a2 a3 a4 b0 b1 b2 b3 b4 (fnB m)
 else -1
theorem valB_den {v0 v1 v2 : Int} {v3 : ByteArray} {v4 : Bool} {v5 : Int} (h : valB v0 v1 v2 v3 v4 v5 = true) (h1 : v0 = 1) : 1 ≤ v2 ∧ v2 ≤ 1000000 := by
 subst h1
 unfold valB at h
 simp [numB] at h
 omega
theorem parts_any (k : Int) (v0 : Int) (v1 : Int) (v2 : Int) (v3 : ByteArray) (v4 : Bool) (v5 : Int) (o : Int) (m : ByteArray) (ag : Int) (a0 : ByteArray) (a1 : Int) (a2 : Int) (a3 : Bool) (a4 : Bool) (b0 : ByteArray) (b1 : Int) (b2 : Int) (b3 : Bool) (b4 : Bool) (w : World) : Calls Tryz.prog 56 #[.agg #[.int .i64 k, .int .i64 v0, .int .i64 v1, .int .i64 v2, .string v3, .bool v4, .int .i64 v5, .int .i64 o, .string m, .int .i64 ag, .string a0, .int .i64 a1, .int .i64 a2, .bool a3, .bool a4, .string b0, .int .i64 b1, .int .i64 b2, .bool b3, .bool b4]] w fun e w' => e = .returned (.int .i64 (partsF k v0 v1 v2 v3 v4 v5 o m ag a0 a1 a2 a3 a4 b0 b1 b2 b3 b4)) ∧ Below w.heap.size w w' := by
 unfold partsF
 by_cases h1 : k = 1
 ·subst h1
  rw [if_pos rfl]
  exact parts_1 1000002 _ v0 v1 v2 v3 v4 v5 o m ag a0 a1 a2 a3 a4 b0 b1 b2 b3 b4 w (value_Right_f _ _ _ _ _ _ _ (Nat.le_refl _)) (fun h e => valB_den h e) _ rfl
 rw [if_neg h1]
 by_cases h2 : k = 2
 ·subst h2
  rw [if_pos rfl]
  exact parts_2 18 _ _ v0 v1 v2 v3 v4 v5 o m ag a0 a1 a2 a3 a4 b0 b1 b2 b3 b4 w (tree_ref_f _ _ _ _ _ _ (Nat.le_refl _)) (tree_ref_f _ _ _ _ _ _ (Nat.le_refl _)) _ rfl
 rw [if_neg h2]
 by_cases h3 : k = 3
 ·subst h3
  rw [if_pos rfl]
  exact parts_3 18 _ _ v0 v1 v2 v3 v4 v5 o m ag a0 a1 a2 a3 a4 b0 b1 b2 b3 b4 w (tree_ref_f _ _ _ _ _ _ (Nat.le_refl _)) (tree_ref_f _ _ _ _ _ _ (Nat.le_refl _)) _ rfl
 rw [if_neg h3]
 by_cases h4 : k = 4
 ·subst h4
  rw [if_pos rfl]
  exact parts_4 v0 v1 v2 v3 v4 v5 o m ag a0 a1 a2 a3 a4 b0 b1 b2 b3 b4 w _ rfl
 rw [if_neg h4]
 by_cases h5 : k = 5
 ·subst h5
  rw [if_pos rfl]
  exact parts_5 v0 v1 v2 v3 v4 v5 o m ag a0 a1 a2 a3 a4 b0 b1 b2 b3 b4 w _ rfl
 rw [if_neg h5]
 by_cases h6 : k = 6
 ·subst h6
  rw [if_pos rfl]
  exact parts_6 _ v0 v1 v2 v3 v4 v5 o m ag a0 a1 a2 a3 a4 b0 b1 b2 b3 b4 w rfl _ rfl
 rw [if_neg h6]
 exact parts_0 k v0 v1 v2 v3 v4 v5 o m ag a0 a1 a2 a3 a4 b0 b1 b2 b3 b4 w (beq_eq_false_iff_ne.2 h1) (beq_eq_false_iff_ne.2 h2) (beq_eq_false_iff_ne.2 h3) (beq_eq_false_iff_ne.2 h4) (beq_eq_false_iff_ne.2 h5) (beq_eq_false_iff_ne.2 h6)
theorem add_add (ad : Addr) (m j : Nat) : (ad.add m).add j = ad.add (m + j) := by
 unfold Addr.add
 by_cases hj : j = 0
 ·subst hj; simp
 ·by_cases hm : m = 0
  ·subst hm; simp [hj]
  ·have : ¬ m + j = 0 := by omega
   simp [hj, hm, Nat.add_assoc]
theorem run_load_elem {P : Program} (w : World) (ad : Addr) (ty : TypeId) (cs : List Value) (d : TypeDesc) (hc : ∀ j v, cs[j]? = some v → w.cell? (ad.add j) = some v)
 (hu : P.underlying ty = some d) (hd : d.isRow = true) (hi : (P.info? ty).map (·.size) = some cs.length) :
 (loadVar ty ad).run P w = .ok (.agg cs.toArray) w := by
 have hl : (loadCells ad cs.length).run P w = .ok cs.toArray w := run_loadCells_list (P := P) w ad cs hc
 cases hq : P.info? ty with
 | none => simp [hq] at hi
 | some i =>
  have hs : i.size = cs.length := by simpa [hq] using hi
  have hagg : (isAgg ty).run P w = .ok true w := by
   unfold isAgg
   rw [Sem.run_bind, run_underlying hu w]
   cases d <;> simp_all
  simp [loadVar, Sem.run_bind, hagg, sizeOf, typeInfo, hq, hs, hl]
theorem elem_event {P : Program} {ops : Array Oper} {rest : List Oper} {o : Oper} {a : Act} {Q : Exit → Act → World → Prop} {W : World} (hgd : o.guard = none) {t : TypeId} {p : Operand} (ho : o.op = .load t p)
 {α : Type} {d : Kd α} {A : Option Addr} {n : Nat} {xs : List α} (hC : d.C W A n xs) (z : α) (i : Int) (h0 : 0 ≤ i) (h1 : i < n) {ad : Addr} (hA : A = some ad)
 (haddr : a.eval p = .pointer (some (ad.add (i.toNat * d.sz)))) {td : TypeDesc} (hu : P.underlying t = some td) (hd : td.isRow = true) (hi : (P.info? t).map (·.size) = some d.sz)
 (h : ∀ c, d.K W (xs.getD i.toNat z) c → wpList P ops Q rest (a.put o.dst (.agg c.toArray)) W) : wpList P ops Q (o :: rest) a W := by
 obtain ⟨ad', c, e, hl, hK, hc⟩ := Kd.C_get hC z i h0 h1
 obtain rfl : ad' = ad := by rw [hA] at e; exact (Option.some.inj e).symm
 refine wpList_plain hgd fun K hKK => ?_
 have hrun := run_load_elem (P := P) W (ad'.add (i.toNat * d.sz)) t c td (fun j v hv => by rw [add_add]; exact hc j v hv) hu hd (by rw [hl]; exact hi)
 unfold Oper.wp execOp
 simp only [ho, haddr, Instr.loadAt, Instr.sureAddr, Sem.run_bind, Sem.run_pure, Result.andThen_ok, hrun]
 exact hKK _ _ (h c hK)
def cs50 (x : S50) : List Value := [.int .i64 x.f0, .int .i64 x.f1.f0, .int .i64 x.f1.f1.f0, .int .i64 x.f1.f1.f1, .string x.f1.f2, .bool x.f1.f3, .int .i64 x.f1.f4, .int .i64 x.f2, .string x.f3, .int .i64 x.f4, .string x.f5.f0, .int .i64 x.f5.f1, .int .i64 x.f5.f2, .bool x.f5.f3, .bool x.f5.f4, .string x.f6.f0, .int .i64 x.f6.f1, .int .i64 x.f6.f2, .bool x.f6.f3, .bool x.f6.f4]
def v50 (x : S50) : Value := .agg (cs50 x).toArray
theorem node_event {ops : Array Oper} {rest : List Oper} {o : Oper} {a : Act} {Q : Exit → Act → World → Prop} {W : World} (hgd : o.guard = none) {p : Operand} (ho : o.op = .load 50 p)
 {A : Option Addr} {n : Nat} {xs : List S50} (hC : Kd.C k50 W A n xs) (i : Int) (h0 : 0 ≤ i) (h1 : i < n) {ad : Addr} (hA : A = some ad)
 (haddr : a.eval p = .pointer (some (ad.add (i.toNat * 20))))
 (h : wpList Tryz.prog ops Q rest (a.put o.dst (v50 (rd_T50 xs i))) W) : wpList Tryz.prog ops Q (o :: rest) a W :=
 elem_event hgd ho hC z50 i h0 h1 hA haddr Tryz.underlying50 rfl (by kernel_rfl) (fun c hc => by
  obtain rfl := k50_open hc
  exact h)
def partsS (x : S50) : Int := partsF x.f0 x.f1.f0 x.f1.f1.f0 x.f1.f1.f1 x.f1.f2 x.f1.f3 x.f1.f4 x.f2 x.f3 x.f4 x.f5.f0 x.f5.f1 x.f5.f2 x.f5.f3 x.f5.f4 x.f6.f0 x.f6.f1 x.f6.f2 x.f6.f3 x.f6.f4
theorem parts_v (x : S50) (w : World) : Calls Tryz.prog 56 #[v50 x] w fun e w' => e = .returned (.int .i64 (partsS x)) ∧ Below w.heap.size w w' :=
 parts_any _ _ _ _ _ _ _ _ _ _ _ _ _ _ _ _ _ _ _ _ w
def tree_partsV.f (x : S50) : Option Int := some (partsS x)
theorem tree_partsV.calls (x : S50) (r : Int) (w : World) (h : tree_partsV.f x = some r) : Calls Tryz.prog 56 #[v50 x] w fun e w' => e = .returned (.int .i64 r) ∧ Below w.heap.size w w' := by
 obtain rfl := Option.some.inj h
 exact parts_v x w
theorem at_N50 {w : World} {A : Option Addr} {n : Nat} {xs : List S50} (h : Kd.C k50 w A n xs) (i : Int) (h0 : 0 ≤ i) (h1 : i < n) : ∃ ad, A = some ad := by
 obtain ⟨ad, c, e, _⟩ := Kd.C_get h z50 i h0 h1
 exact ⟨ad, e⟩
section
attribute [local go_sem] max2_int min2_int max_two min_two max_three min_three max_four min_four
mutual
def tree_over.l0 : Nat → List (S50) → Int → Int → Int → Int → Option (Int × Int)
 | 0, _, _, _, _, _ => none
 | k + 1, x0, x4, x5, x22, x23 => if x23 < x22 then ((tree_over.f k x0 x4).bind fun bt103 => (if bt103.1 < 0 then (some ((-1), 0)) else (tree_over.l0 k x0 bt103.1 (mx x5 bt103.2) x22 (wrap64 (x23 + 1))))) else (some (x4, wrap64 (x5 + 1)))
def tree_over.f : Nat → List (S50) → Int → Option (Int × Int)
 | 0, _, _ => none
 | k + 1, l0, a1 => if a1 ≥ (l0.length : Int) then (some ((-1), 0)) else (if 0 ≤ a1 then (if a1 < (l0.length : Int) then ((tree_partsV.f (rd_T50 l0 a1)).bind fun t102 => (if t102 < 0 then (some ((-1), 0)) else (tree_over.l0 k l0 (wrap64 (a1 + 1)) 0 t102 0))) else (none)) else (none))
end
set_option maxHeartbeats 8000000 in
set_option maxRecDepth 100000 in
theorem tree_over.calls (k : Nat) : ∀ (A0 : Option Addr) (c0 : Nat) (l0 : List (S50)) (a1 : Int) (r1 : Int) (r2 : Int) (w : World) (hr0 : Kd.C k50 w A0 l0.length l0) (hc0 : l0.length ≤ c0) (h : tree_over.f k l0 a1 = some (r1, r2)),
 Calls Tryz.prog 53 #[.slice A0 l0.length c0, .int .i64 a1] w fun e w' => e = .returned (.tuple #[.int .i64 r1, .int .i64 r2]) ∧ Below w.heap.size w w' := by
 induction k using Nat.strongRecOn with
 | _ k ih =>
 intro A0 c0 l0 a1 r1 r2 w hr0 hc0 h
 cases k with
 | zero => exact absurd h (by simp [tree_over.f])
 | succ k =>
 simp only [tree_over.f] at h
 have hu50 := Tryz.underlying50
 have HR0 := Aside0.mk hr0
 have HC0 := Aside0.mk hc0
 clear hr0 hc0
 have HB := Aside0.mk (Below.refl w.heap.size w)
 have H : (if a1 ≥ (l0.length : Int) then (some ((-1), 0)) else (if 0 ≤ a1 then (if a1 < (l0.length : Int) then ((tree_partsV.f (rd_T50 l0 a1)).bind fun t102 => (if t102 < 0 then (some ((-1), 0)) else (tree_over.l0 k l0 (wrap64 (a1 + 1)) 0 t102 0))) else (none)) else (none))) = some (r1, r2) := h
 clear h
 by_cases c3 : a1 ≥ (l0.length : Int)
 ·rw [if_pos c3] at H
  have c3b0 : decide ((l0.length : Int) ≤ a1) = true := decide_eq_true c3
  clear c3
  simp only [Option.some.injEq, Prod.mk.injEq] at H
  obtain ⟨rfl, rfl⟩ := H
  go_enter Tryz.func53, Tryz.ntmps53
  go_wp2
  go_ret2
  exact ⟨eR, bE⟩
 ·rw [if_neg c3] at H
  have c3b0 : decide ((l0.length : Int) ≤ a1) = false := decide_eq_false c3
  clear c3
  by_cases c4 : 0 ≤ a1
  ·rw [if_pos c4] at H
   have c4b0 : decide (0 ≤ a1) = true := decide_eq_true c4
   clear c4
   by_cases c5 : a1 < (l0.length : Int)
   ·rw [if_pos c5] at H
    have c5b0 : decide (a1 < (l0.length : Int)) = true := decide_eq_true c5
    clear c5
    replace H := Option.bind_eq_some_iff.mp H
    obtain ⟨t102, A60, H⟩ := H
    try dsimp only at H
    have A6 := Aside0.mk A60
    clear A60
    by_cases c7 : t102 < 0
    ·rw [if_pos c7] at H
     have c7b0 : decide (t102 < 0) = true := decide_eq_true c7
     clear c7
     simp only [Option.some.injEq, Prod.mk.injEq] at H
     obtain ⟨rfl, rfl⟩ := H
     have p101 : 0 ≤ (a1 : Int) := of_decide_eq_true (by first | (with_reducible assumption) | assumption)
     have q101 : a1 < (l0.length : Int) := of_decide_eq_true (by first | (with_reducible assumption) | assumption)
     obtain ⟨ad101, e101⟩ := at_N50 HR0.out a1 p101 q101
     cases e101
     replace p101 := eq_true p101
     replace q101 := eq_true q101
     go_enter Tryz.func53, Tryz.ntmps53
     go_wp2_with (first | ((with_reducible refine gate_dst (N := 16) rfl ?_); refine node_event rfl rfl (xs := l0) (n := l0.length) (A := some ad101) ?hc a1 (of_eq_true p101) (of_eq_true q101) rfl ?ha ?_; (case hc => first | exact HR0.out | exact Kd.C_below HR0.out HB.out); (case ha => rfl)) | ((with_reducible refine gate_callee (f := 56) rfl ?_); refine gL 17 Tryz.func56 #[v50 (rd_T50 l0 a1)] ?_; (with_reducible refine (tree_partsV.calls (rd_T50 l0 a1) t102 _ A6.out).mono ?_); rintro e w8 ⟨rfl, hb⟩; refine ⟨_, rfl, ?_⟩; replace HB := Aside0.mk (below_step bE hb); (try clear hb); (try clear hb2); (try clear hk); (try clear hi)))
     go_ret2
     exact ⟨eR, bE⟩
    ·rw [if_neg c7] at H
     have c7b0 : decide (t102 < 0) = false := decide_eq_false c7
     clear c7
     have H' := Aside0.mk H
     clear H
     have p101 : 0 ≤ (a1 : Int) := of_decide_eq_true (by first | (with_reducible assumption) | assumption)
     have q101 : a1 < (l0.length : Int) := of_decide_eq_true (by first | (with_reducible assumption) | assumption)
     obtain ⟨ad101, e101⟩ := at_N50 HR0.out a1 p101 q101
     cases e101
     replace p101 := eq_true p101
     replace q101 := eq_true q101
     go_enter Tryz.func53, Tryz.ntmps53
     go_wp2_with (first | ((with_reducible refine gate_dst (N := 16) rfl ?_); refine node_event rfl rfl (xs := l0) (n := l0.length) (A := some ad101) ?hc a1 (of_eq_true p101) (of_eq_true q101) rfl ?ha ?_; (case hc => first | exact HR0.out | exact Kd.C_below HR0.out HB.out); (case ha => rfl)) | ((with_reducible refine gate_callee (f := 56) rfl ?_); refine gL 17 Tryz.func56 #[v50 (rd_T50 l0 a1)] ?_; (with_reducible refine (tree_partsV.calls (rd_T50 l0 a1) t102 _ A6.out).mono ?_); rintro e w9 ⟨rfl, hb⟩; refine ⟨_, rfl, ?_⟩; replace HB := Aside0.mk (below_step bE hb); (try clear hb); (try clear hb2); (try clear hk); (try clear hi)))
     go_loopg [4, 5, 23] k (fun kq v4 v5 v23 w' => ∃ (x4_1 : Int) (x5_1 : Int) (x23_1 : Int), v4 = .int .i64 x4_1 ∧ v5 = .int .i64 x5_1 ∧ v23 = .int .i64 x23_1 ∧ Aside0 (tree_over.l0 kq l0 x4_1 x5_1 t102 x23_1 = some (r1, r2)) ∧ Aside0 (kq ≤ k) ∧ Aside0 (Below w.heap.size w w'))
     case atStart => exact ⟨(wrap64 (a1 + 1)), (0), (0), (by first | rfl | (simp; done) | (simp [*]; done)), (by first | rfl | (simp; done) | (simp [*]; done)), (by first | rfl | (simp; done) | (simp [*]; done)), H', ⟨Nat.le_refl _⟩, ⟨bE⟩⟩
     case round =>
      clear H'
      try clear p1
      try clear q1
      try clear hx1
      try clear p2
      try clear c3
      try clear c3b0
      try clear c4
      try clear c4b0
      try clear c5
      try clear c5b0
      try clear p6
      try clear c7
      try clear c7b0
      try clear hx101_0
      try clear hx101_1
      try clear hx101_10
      try clear hx101_11
      try clear hx101_12
      try clear hx101_13
      try clear hx101_14
      try clear hx101_15
      try clear hx101_16
      try clear hx101_17
      try clear hx101_18
      try clear hx101_19
      try clear hx101_2
      try clear hx101_3
      try clear hx101_4
      try clear hx101_5
      try clear hx101_6
      try clear hx101_7
      try clear hx101_8
      try clear hx101_9
      try clear p101
      try clear q101
      obtain ⟨x4_1, x5_1, x23_1, rfl, rfl, rfl, HA, HK1, HB⟩ := hrel
      cases gk with
      | zero => exact absurd HA.out (by simp [tree_over.l0])
      | succ k1 =>
       have H := HA.out
       clear HA
       simp only [tree_over.l0] at H
       by_cases c10 : x23_1 < t102
       ·rw [if_pos c10] at H
        have c10b0 : decide (x23_1 < t102) = true := decide_eq_true c10
        clear c10
        replace H := Option.bind_eq_some_iff.mp H
        obtain ⟨⟨t103, t104⟩, A110, H⟩ := H
        try dsimp only at H
        have A11 := Aside0.mk A110
        clear A110
        by_cases c12 : t103 < 0
        ·rw [if_pos c12] at H
         have c12b0 : decide (t103 < 0) = true := decide_eq_true c12
         clear c12
         simp only [Option.some.injEq, Prod.mk.injEq] at H
         obtain ⟨rfl, rfl⟩ := H
         go_wp2_with (first | ((with_reducible refine gate_dst (N := 16) rfl ?_); refine node_event rfl rfl (xs := l0) (n := l0.length) (A := some ad101) ?hc a1 (of_eq_true p101) (of_eq_true q101) rfl ?ha ?_; (case hc => first | exact HR0.out | exact Kd.C_below HR0.out HB.out); (case ha => rfl)) | ((with_reducible refine gate_callee (f := 53) rfl ?_); refine gL 28 Tryz.func53 #[.slice (some ad101) l0.length c0, .int .i64 x4_1] ?_; (with_reducible refine (ih k1 (by have := HK1.out; omega) _ _ l0 x4_1 t103 t104 _ ?side1 ?side2 A11.out).mono ?_); (case side1 => repeat (first | exact (Kd.C_below HR0.out HB.out) | (with_reducible refine Kd.C_alloc ?_ _) | (with_reducible refine Kd.C_drewN ?_ _) | (with_reducible refine Kd.C_drew ?_))); (case side2 => exact HC0.out); rintro e w13 ⟨rfl, hb⟩; refine ⟨_, rfl, ?_⟩; replace HB := Aside0.mk (below_step bE hb); (try clear hb); (try clear hb2); (try clear hk); (try clear hi)))
         go_ret2
         exact ⟨eR, bE⟩
        ·rw [if_neg c12] at H
         have c12b0 : decide (t103 < 0) = false := decide_eq_false c12
         clear c12
         obtain ⟨ji14, hji14⟩ : ∃ j_ : Int, (mx x5_1 t104) = j_ := ⟨_, rfl⟩
         replace H : (tree_over.l0 k1 l0 t103 ji14 t102 (wrap64 (x23_1 + 1))) = some (r1, r2) := by first | (rw [hji14] at H; exact H) | (simp only [hji14] at H ⊢; exact H)
         (try rw [hji14] at A11)
         have hji14_ : (if x5_1 < t104 then t104 else x5_1) = ji14 := hji14
         have H' := Aside0.mk H
         clear H
         go_wp2_with (first | ((with_reducible refine gate_dst (N := 16) rfl ?_); refine node_event rfl rfl (xs := l0) (n := l0.length) (A := some ad101) ?hc a1 (of_eq_true p101) (of_eq_true q101) rfl ?ha ?_; (case hc => first | exact HR0.out | exact Kd.C_below HR0.out HB.out); (case ha => rfl)) | ((with_reducible refine gate_callee (f := 53) rfl ?_); refine gL 28 Tryz.func53 #[.slice (some ad101) l0.length c0, .int .i64 x4_1] ?_; (with_reducible refine (ih k1 (by have := HK1.out; omega) _ _ l0 x4_1 t103 t104 _ ?side1 ?side2 A11.out).mono ?_); (case side1 => repeat (first | exact (Kd.C_below HR0.out HB.out) | (with_reducible refine Kd.C_alloc ?_ _) | (with_reducible refine Kd.C_drewN ?_ _) | (with_reducible refine Kd.C_drew ?_))); (case side2 => exact HC0.out); rintro e w15 ⟨rfl, hb⟩; refine ⟨_, rfl, ?_⟩; replace HB := Aside0.mk (below_step bE hb); (try clear hb); (try clear hb2); (try clear hk); (try clear hi)))
         go_roundg k1
         case measure => have := HK1.out; omega
         case rel => exact ⟨(t103), (ji14), (wrap64 (x23_1 + 1)), (by first | rfl | (simp; done) | (simp [*]; done)), (by first | rfl | (simp; done) | (simp only [← hji14] <;> (first | rfl | simp)) | (simp [*]; done)), (by first | rfl | (simp; done) | (simp [*]; done)), H', ⟨by have := HK1.out; omega⟩, ⟨bE⟩⟩
       ·rw [if_neg c10] at H
        have c10b0 : decide (x23_1 < t102) = false := decide_eq_false c10
        clear c10
        simp only [Option.some.injEq, Prod.mk.injEq] at H
        obtain ⟨rfl, rfl⟩ := H
        go_wp2
        go_ret2
        exact ⟨eR, bE⟩
   ·rw [if_neg c5] at H
    exact absurd H (by simp)
  ·rw [if_neg c4] at H
   exact absurd H (by simp)
end
section
attribute [local go_sem] max2_int min2_int max_two min_two max_three min_three max_four min_four
def tree_Check.f (k : Nat) (l0 : List (S50)) : Option (Int) := if (l0.length : Int) > 256 then (some 52) else ((tree_over.f k l0 0).bind fun bt101 => (if bt101.1 = (l0.length : Int) then (if bt101.2 > 32 then (some 51) else (some 0)) else (some 53)))
set_option maxHeartbeats 8000000 in
set_option maxRecDepth 100000 in
theorem tree_Check.calls (k : Nat) (A0 : Option Addr) (c0 : Nat) (l0 : List (S50)) (r : Int) (w : World) (hr0 : Kd.C k50 w A0 l0.length l0) (hc0 : l0.length ≤ c0) (h : tree_Check.f k l0 = some r) :
 Calls Tryz.prog 28 #[.slice A0 l0.length c0] w fun e w' => e = .returned (.int .i64 r) ∧ Below w.heap.size w w' := by
 have HR0 := Aside0.mk hr0
 have HC0 := Aside0.mk hc0
 clear hr0 hc0
 have HB := Aside0.mk (Below.refl w.heap.size w)
 have H := h
 unfold tree_Check.f at H
 clear h
 by_cases c2 : (l0.length : Int) > 256
 ·rw [if_pos c2] at H
  have c2b0 : decide (256 < (l0.length : Int)) = true := decide_eq_true c2
  have c2b1 : decide (256 < l0.length) = true := decide_eq_true (by omega)
  clear c2
  obtain rfl := Option.some.inj H
  go_enter Tryz.func28, Tryz.ntmps28
  go_wp2
  go_ret
  exact ⟨eR, bE⟩
 ·rw [if_neg c2] at H
  have c2b0 : decide (256 < (l0.length : Int)) = false := decide_eq_false c2
  have c2b1 : decide (256 < l0.length) = false := decide_eq_false (by omega)
  clear c2
  replace H := Option.bind_eq_some_iff.mp H
  obtain ⟨⟨t101, t102⟩, A30, H⟩ := H
  try dsimp only at H
  have A3 := Aside0.mk A30
  clear A30
  by_cases c4 : t101 = (l0.length : Int)
  ·rw [if_pos c4] at H
   obtain ⟨c4b0, c4b1⟩ := bqT c4
   clear c4
   by_cases c5 : t102 > 32
   ·rw [if_pos c5] at H
    have c5b0 : decide (32 < t102) = true := decide_eq_true c5
    clear c5
    obtain rfl := Option.some.inj H
    go_enter Tryz.func28, Tryz.ntmps28
    go_wp2_with (first | ((with_reducible refine gate_callee (f := 53) rfl ?_); refine gL 10 Tryz.func53 #[.slice A0 l0.length c0, .int .i64 0] ?_; (with_reducible refine (tree_over.calls k _ _ l0 0 t101 t102 _ ?side1 ?side2 A3.out).mono ?_); (case side1 => repeat (first | exact HR0.out | (with_reducible refine Kd.C_alloc ?_ _) | (with_reducible refine Kd.C_drewN ?_ _) | (with_reducible refine Kd.C_drew ?_))); (case side2 => exact HC0.out); rintro e w6 ⟨rfl, hb⟩; refine ⟨_, rfl, ?_⟩; replace HB := Aside0.mk (below_step bE hb); (try clear hb); (try clear hb2); (try clear hk); (try clear hi)))
    go_ret
    exact ⟨eR, bE⟩
   ·rw [if_neg c5] at H
    have c5b0 : decide (32 < t102) = false := decide_eq_false c5
    clear c5
    obtain rfl := Option.some.inj H
    go_enter Tryz.func28, Tryz.ntmps28
    go_wp2_with (first | ((with_reducible refine gate_callee (f := 53) rfl ?_); refine gL 10 Tryz.func53 #[.slice A0 l0.length c0, .int .i64 0] ?_; (with_reducible refine (tree_over.calls k _ _ l0 0 t101 t102 _ ?side1 ?side2 A3.out).mono ?_); (case side1 => repeat (first | exact HR0.out | (with_reducible refine Kd.C_alloc ?_ _) | (with_reducible refine Kd.C_drewN ?_ _) | (with_reducible refine Kd.C_drew ?_))); (case side2 => exact HC0.out); rintro e w7 ⟨rfl, hb⟩; refine ⟨_, rfl, ?_⟩; replace HB := Aside0.mk (below_step bE hb); (try clear hb); (try clear hb2); (try clear hk); (try clear hi)))
    go_ret
    exact ⟨eR, bE⟩
  ·rw [if_neg c4] at H
   obtain ⟨c4b0, c4b1⟩ := bqF c4
   obtain rfl := Option.some.inj H
   go_enter Tryz.func28, Tryz.ntmps28
   go_wp2_with (first | ((with_reducible refine gate_callee (f := 53) rfl ?_); refine gL 10 Tryz.func53 #[.slice A0 l0.length c0, .int .i64 0] ?_; (with_reducible refine (tree_over.calls k _ _ l0 0 t101 t102 _ ?side1 ?side2 A3.out).mono ?_); (case side1 => repeat (first | exact HR0.out | (with_reducible refine Kd.C_alloc ?_ _) | (with_reducible refine Kd.C_drewN ?_ _) | (with_reducible refine Kd.C_drew ?_))); (case side2 => exact HC0.out); rintro e w8 ⟨rfl, hb⟩; refine ⟨_, rfl, ?_⟩; replace HB := Aside0.mk (below_step bE hb); (try clear hb); (try clear hb2); (try clear hk); (try clear hi)))
   go_ret
   exact ⟨eR, bE⟩
end
section
attribute [local go_sem] max2_int min2_int max_two min_two max_three min_three max_four min_four
def IsS72 (w0 W : World) (g : Nat) (f0 : List (S39)) (f1 : Int) (f2 : Int) : Prop := ∃ A0 c0, W.heap[g]? = some (.cells #[.slice A0 f0.length c0, .int .i64 f1, .int .i64 f2] 72 (0, 0)) ∧ w0.heap.size ≤ g ∧ Kd.C k39 w0 A0 f0.length f0
theorem IsS72.grown {w0 W : World} {g : Nat} {f0 : List (S39)} {f1 : Int} {f2 : Int} {W1 : World} {row : Option Nat} (h : IsS72 w0 W g f0 f1 f2) (hw : W.grownBy W1 row) (hne : some g ≠ row) : IsS72 w0 W1 g f0 f1 f2 := by
 obtain ⟨A0, c0, hb, hg, hr0⟩ := h
 exact ⟨A0, c0, blk_grown hb hw hne, hg, hr0⟩
theorem IsS72.below {w0 W : World} {g : Nat} {f0 : List (S39)} {f1 : Int} {f2 : Int} {W1 : World} (h : IsS72 w0 W g f0 f1 f2) (hw : Below W.heap.size W W1) : IsS72 w0 W1 g f0 f1 f2 := h.grown (grown_of_below hw none) (by simp)
theorem IsS72.alloc {w0 W : World} {g : Nat} {f0 : List (S39)} {f1 : Int} {f2 : Int} (h : IsS72 w0 W g f0 f1 f2) (o : Obj) : IsS72 w0 (W.alloc o) g f0 f1 f2 := h.below (below_alloc (Below.refl _ _) o)
theorem IsS72.drewN {w0 W : World} {g : Nat} {f0 : List (S39)} {f1 : Int} {f2 : Int} (h : IsS72 w0 W g f0 f1 f2) (m : Nat) : IsS72 w0 (W.drewN m) g f0 f1 f2 := h
theorem IsS72.drew {w0 W : World} {g : Nat} {f0 : List (S39)} {f1 : Int} {f2 : Int} (h : IsS72 w0 W g f0 f1 f2) : IsS72 w0 W.drew g f0 f1 f2 := h
theorem IsS72.lt {w0 W : World} {g : Nat} {f0 : List (S39)} {f1 : Int} {f2 : Int} (h : IsS72 w0 W g f0 f1 f2) : g < W.heap.size := by
 obtain ⟨A0, c0, hb, hg, hr0⟩ := h
 exact blk_lt hb
theorem IsS72.ge {w0 W : World} {g : Nat} {f0 : List (S39)} {f1 : Int} {f2 : Int} (h : IsS72 w0 W g f0 f1 f2) : w0.heap.size ≤ g := by
 obtain ⟨A0, c0, hb, hg, hr0⟩ := h
 exact hg
theorem cellS72_0 {W : World} {g : Nat} {A0 : Option Addr} {c0 : Nat} {f0 : List (S39)} {f1 : Int} {f2 : Int} (h : W.heap[g]? = some (.cells #[.slice A0 f0.length c0, .int .i64 f1, .int .i64 f2] 72 (0, 0))) : W.cell? ⟨g, 0, none⟩ = some (.slice A0 f0.length c0) := (blk_cell h 0).trans rfl
theorem cellS72_1 {W : World} {g : Nat} {A0 : Option Addr} {c0 : Nat} {f0 : List (S39)} {f1 : Int} {f2 : Int} (h : W.heap[g]? = some (.cells #[.slice A0 f0.length c0, .int .i64 f1, .int .i64 f2] 72 (0, 0))) : W.cell? ⟨g, 1, none⟩ = some (.int .i64 f1) := (blk_cell h 1).trans rfl
theorem IsS72.set_1 {w0 W : World} {g : Nat} {f0 : List (S39)} {f1 : Int} {f2 : Int} (h : IsS72 w0 W g f0 f1 f2) (x : Int) : IsS72 w0 (W.setCell ⟨g, 1, none⟩ (.int .i64 x)) g f0 x f2 := by
 obtain ⟨A0, c0, hb, hg, hr0⟩ := h
 exact ⟨A0, c0, by simpa using blk_set hb 1 (.int .i64 x), hg, hr0⟩
theorem cellS72_2 {W : World} {g : Nat} {A0 : Option Addr} {c0 : Nat} {f0 : List (S39)} {f1 : Int} {f2 : Int} (h : W.heap[g]? = some (.cells #[.slice A0 f0.length c0, .int .i64 f1, .int .i64 f2] 72 (0, 0))) : W.cell? ⟨g, 2, none⟩ = some (.int .i64 f2) := (blk_cell h 2).trans rfl
theorem IsS72.set_2 {w0 W : World} {g : Nat} {f0 : List (S39)} {f1 : Int} {f2 : Int} (h : IsS72 w0 W g f0 f1 f2) (x : Int) : IsS72 w0 (W.setCell ⟨g, 2, none⟩ (.int .i64 x)) g f0 f1 x := by
 obtain ⟨A0, c0, hb, hg, hr0⟩ := h
 exact ⟨A0, c0, by simpa using blk_set hb 2 (.int .i64 x), hg, hr0⟩
theorem IsS72.new (w0 W : World) (A0 : Option Addr) (c0 : Nat) (f0 : List (S39)) (f1 : Int) (f2 : Int) (hB : Below w0.heap.size w0 W) (hr0 : Kd.C k39 w0 A0 f0.length f0) : IsS72 w0 (W.alloc (.cells #[.slice A0 f0.length c0, .int .i64 f1, .int .i64 f2] 72)) W.heap.size f0 f1 f2 := ⟨A0, c0, by simpa using heap_alloc_new W _, hB.size, hr0⟩
def tree_parser_mark.f (s0_0 : List (S39)) (s0_1 : Int) (s0_2 : Int) : Option (ByteArray × Int × Int) := if s0_1 < (s0_0.length : Int) then (if 0 ≤ s0_1 then (if ((rd_T39 s0_0 s0_1).f0) = 5 then (some ((rd_T39 s0_0 s0_1).f1, s0_1, s0_2)) else (some ((⟨#[]⟩ : ByteArray), s0_1, s0_2))) else (none)) else (some ((⟨#[]⟩ : ByteArray), s0_1, s0_2))
set_option maxHeartbeats 8000000 in
set_option maxRecDepth 100000 in
theorem tree_parser_mark.calls (g : Nat) (s0_0 : List (S39)) (s0_1 : Int) (s0_2 : Int) (r1 : ByteArray) (r2 : Int) (r3 : Int) (w0 w : World) (hI : IsS72 w0 w g s0_0 s0_1 s0_2) (hB : Below w0.heap.size w0 w) (h : tree_parser_mark.f s0_0 s0_1 s0_2 = some (r1, r2, r3)) :
 Calls Tryz.prog 107 #[.pointer (some ⟨g, 0, none⟩)] w fun e w' => e = .returned (.string r1) ∧ IsS72 w0 w' g s0_0 r2 r3 ∧ Below w0.heap.size w0 w' ∧ KeepBut w w' g none := by
 have HI0 := Aside0.mk hI
 have HK := Aside0.mk (KeepBut.refl w g none)
 have HL := Aside0.mk hB.size
 clear hI
 have HW0 := Aside0.mk hB.size
 have HB := Aside0.mk hB
 clear hB
 have H := h
 unfold tree_parser_mark.f at H
 clear h
 by_cases c2 : s0_1 < (s0_0.length : Int)
 ·rw [if_pos c2] at H
  have c2b0 : decide (s0_1 < (s0_0.length : Int)) = true := decide_eq_true c2
  clear c2
  by_cases c3 : 0 ≤ s0_1
  ·rw [if_pos c3] at H
   have c3b0 : decide (0 ≤ s0_1) = true := decide_eq_true c3
   clear c3
   by_cases c4 : ((rd_T39 s0_0 s0_1).f0) = 5
   ·rw [if_pos c4] at H
    obtain ⟨c4b0, c4b1⟩ := bqT c4
    clear c4
    simp only [Option.some.injEq, Prod.mk.injEq] at H
    obtain ⟨rfl, rfl, rfl⟩ := H
    obtain ⟨ASz5_0, cSz5_0, HGz5, hgz5, HSz5_0⟩ := HI0.out
    have hcz5_0 := cellS72_0 HGz5
    have hcz5_1 := cellS72_1 HGz5
    have hcz5_2 := cellS72_2 HGz5
    have hfz5_1 := blk_frozen HGz5 1
    have hfz5_2 := blk_frozen HGz5 2
    clear HGz5 hgz5
    have p101 : 0 ≤ (s0_1 : Int) := of_decide_eq_true (by first | (with_reducible assumption) | assumption)
    have q101 : s0_1 < (s0_0.length : Int) := of_decide_eq_true (by first | (with_reducible assumption) | assumption)
    obtain ⟨ad101, e101, hx101_0, hx101_1, hx101_2⟩ := at_T39 HSz5_0 s0_1 p101 q101
    cases e101
    replace hx101_0 := pw_cell_below HB.out hx101_0
    replace hx101_1 := pw_cell_below HB.out hx101_1
    replace hx101_2 := pw_cell_below HB.out hx101_2
    replace p101 := eq_true p101
    replace q101 := eq_true q101
    have p102 : 0 ≤ (s0_1 : Int) := of_decide_eq_true (by first | (with_reducible assumption) | assumption)
    have q102 : s0_1 < (s0_0.length : Int) := of_decide_eq_true (by first | (with_reducible assumption) | assumption)
    obtain ⟨ad102, e102, hx102_0, hx102_1, hx102_2⟩ := at_T39 HSz5_0 s0_1 p102 q102
    obtain rfl : ad101 = ad102 := (by injection e102)
    replace hx102_0 := pw_cell_below HB.out hx102_0
    replace hx102_1 := pw_cell_below HB.out hx102_1
    replace hx102_2 := pw_cell_below HB.out hx102_2
    replace p102 := eq_true p102
    replace q102 := eq_true q102
    go_enter Tryz.func107, Tryz.ntmps107
    go_wp2
    repeat (go_quiet (fail); try go_wp2)
    go_ret
    exact ⟨eR, by repeat (first | (with_reducible first | exact HI0.out | apply IsS72.alloc | apply IsS72.drewN | apply IsS72.drew | apply IsS72.set_1 | apply IsS72.set_2) | exact HI0.out), by repeat (first | (with_reducible first | exact HB.out | apply below_alloc | apply pw_below_drewN | apply below_drew1 | refine below_set ?_ (IsS72.ge HI0.out)) | exact HB.out), by repeat (first | (with_reducible first | exact HK.out | apply KeepBut.set_ | apply keep_drewN | apply keep_drew | apply keep_alloc) | exact HK.out)⟩
   ·rw [if_neg c4] at H
    obtain ⟨c4b0, c4b1⟩ := bqF c4
    simp only [Option.some.injEq, Prod.mk.injEq] at H
    obtain ⟨rfl, rfl, rfl⟩ := H
    obtain ⟨ASz6_0, cSz6_0, HGz6, hgz6, HSz6_0⟩ := HI0.out
    have hcz6_0 := cellS72_0 HGz6
    have hcz6_1 := cellS72_1 HGz6
    have hcz6_2 := cellS72_2 HGz6
    have hfz6_1 := blk_frozen HGz6 1
    have hfz6_2 := blk_frozen HGz6 2
    clear HGz6 hgz6
    have p101 : 0 ≤ (s0_1 : Int) := of_decide_eq_true (by first | (with_reducible assumption) | assumption)
    have q101 : s0_1 < (s0_0.length : Int) := of_decide_eq_true (by first | (with_reducible assumption) | assumption)
    obtain ⟨ad101, e101, hx101_0, hx101_1, hx101_2⟩ := at_T39 HSz6_0 s0_1 p101 q101
    cases e101
    replace hx101_0 := pw_cell_below HB.out hx101_0
    replace hx101_1 := pw_cell_below HB.out hx101_1
    replace hx101_2 := pw_cell_below HB.out hx101_2
    replace p101 := eq_true p101
    replace q101 := eq_true q101
    go_enter Tryz.func107, Tryz.ntmps107
    go_wp2
    repeat (go_quiet (fail); try go_wp2)
    go_ret
    exact ⟨eR, by repeat (first | (with_reducible first | exact HI0.out | apply IsS72.alloc | apply IsS72.drewN | apply IsS72.drew | apply IsS72.set_1 | apply IsS72.set_2) | exact HI0.out), by repeat (first | (with_reducible first | exact HB.out | apply below_alloc | apply pw_below_drewN | apply below_drew1 | refine below_set ?_ (IsS72.ge HI0.out)) | exact HB.out), by repeat (first | (with_reducible first | exact HK.out | apply KeepBut.set_ | apply keep_drewN | apply keep_drew | apply keep_alloc) | exact HK.out)⟩
  ·rw [if_neg c3] at H
   exact absurd H (by simp)
 ·rw [if_neg c2] at H
  have c2b0 : decide (s0_1 < (s0_0.length : Int)) = false := decide_eq_false c2
  clear c2
  simp only [Option.some.injEq, Prod.mk.injEq] at H
  obtain ⟨rfl, rfl, rfl⟩ := H
  obtain ⟨ASz7_0, cSz7_0, HGz7, hgz7, HSz7_0⟩ := HI0.out
  have hcz7_0 := cellS72_0 HGz7
  have hcz7_1 := cellS72_1 HGz7
  have hcz7_2 := cellS72_2 HGz7
  have hfz7_1 := blk_frozen HGz7 1
  have hfz7_2 := blk_frozen HGz7 2
  clear HGz7 hgz7
  go_enter Tryz.func107, Tryz.ntmps107
  go_wp2
  repeat (go_quiet (fail); try go_wp2)
  go_ret
  exact ⟨eR, by repeat (first | (with_reducible first | exact HI0.out | apply IsS72.alloc | apply IsS72.drewN | apply IsS72.drew | apply IsS72.set_1 | apply IsS72.set_2) | exact HI0.out), by repeat (first | (with_reducible first | exact HB.out | apply below_alloc | apply pw_below_drewN | apply below_drew1 | refine below_set ?_ (IsS72.ge HI0.out)) | exact HB.out), by repeat (first | (with_reducible first | exact HK.out | apply KeepBut.set_ | apply keep_drewN | apply keep_drew | apply keep_alloc) | exact HK.out)⟩
end
section
attribute [local go_sem] max2_int min2_int max_two min_two max_three min_three max_four min_four
def tree_parser_takes.f (s0_0 : List (S39)) (s0_1 : Int) (s0_2 : Int) (a1 : ByteArray) : Option (Bool × Int × Int) := (tree_parser_mark.f s0_0 s0_1 s0_2).bind fun bt101 => (if bt101.1.toList = a1.toList then (some (true, wrap64 (bt101.2.1 + 1), bt101.2.2)) else (some (false, bt101.2.1, bt101.2.2)))
set_option maxHeartbeats 8000000 in
set_option maxRecDepth 100000 in
theorem tree_parser_takes.calls (g : Nat) (s0_0 : List (S39)) (s0_1 : Int) (s0_2 : Int) (a1 : ByteArray) (r1 : Bool) (r2 : Int) (r3 : Int) (w0 w : World) (hI : IsS72 w0 w g s0_0 s0_1 s0_2) (hB : Below w0.heap.size w0 w) (h : tree_parser_takes.f s0_0 s0_1 s0_2 a1 = some (r1, r2, r3)) :
 Calls Tryz.prog 143 #[.pointer (some ⟨g, 0, none⟩), .string a1] w fun e w' => e = .returned (.bool r1) ∧ IsS72 w0 w' g s0_0 r2 r3 ∧ Below w0.heap.size w0 w' ∧ KeepBut w w' g none := by
 have HI0 := Aside0.mk hI
 have HK := Aside0.mk (KeepBut.refl w g none)
 have HL := Aside0.mk hB.size
 clear hI
 have HW0 := Aside0.mk hB.size
 have HB := Aside0.mk hB
 clear hB
 have H := h
 unfold tree_parser_takes.f at H
 clear h
 replace H := Option.bind_eq_some_iff.mp H
 obtain ⟨⟨t101, t102, t103⟩, A30, H⟩ := H
 try dsimp only at H
 have A3 := Aside0.mk A30
 clear A30
 by_cases c4 : t101.toList = a1.toList
 ·rw [if_pos c4] at H
  obtain ⟨c4b0, c4b1⟩ := bqT c4
  clear c4
  simp only [Option.some.injEq, Prod.mk.injEq] at H
  obtain ⟨rfl, rfl, rfl⟩ := H
  go_enter Tryz.func143, Tryz.ntmps143
  go_wp2_with (first | ((with_reducible refine gate_callee (f := 107) rfl ?_); refine gL 6 Tryz.func107 #[.pointer (some ⟨g, 0, none⟩)] ?_; (with_reducible refine (tree_parser_mark.calls g s0_0 s0_1 s0_2 t101 t102 t103 w0 _ ?side1 ?side2 A3.out).mono ?_); (case side1 => repeat (first | (with_reducible first | exact HI0.out | apply IsS72.alloc | apply IsS72.drewN | apply IsS72.drew | apply IsS72.set_1 | apply IsS72.set_2) | exact HI0.out)); (case side2 => repeat (first | (with_reducible first | exact HB.out | apply below_alloc | apply pw_below_drewN | apply below_drew1 | refine below_set ?_ (IsS72.ge HI0.out)) | exact HB.out)); rintro e w5 ⟨rfl, hi, hb, hk⟩; refine ⟨_, rfl, ?_⟩; replace HK := Aside0.mk (KeepBut.trans (by repeat (first | (with_reducible first | exact HK.out | apply KeepBut.set_ | apply keep_drewN | apply keep_drew | apply keep_alloc) | exact HK.out)) hk (.inl rfl)); replace HB := Aside0.mk (hb); replace HI0 := Aside0.mk (hi); (try clear hb); (try clear hb2); (try clear hk); (try clear hi); obtain ⟨ASz6_0, cSz6_0, HGz6, hgz6, HSz6_0⟩ := HI0.out; have hcz6_0 := cellS72_0 HGz6; have hcz6_1 := cellS72_1 HGz6; have hcz6_2 := cellS72_2 HGz6; have hfz6_1 := blk_frozen HGz6 1; have hfz6_2 := blk_frozen HGz6 2; clear HGz6 hgz6))
  go_ret
  exact ⟨eR, by repeat (first | (with_reducible first | exact HI0.out | apply IsS72.alloc | apply IsS72.drewN | apply IsS72.drew | apply IsS72.set_1 | apply IsS72.set_2) | exact HI0.out), by repeat (first | (with_reducible first | exact HB.out | apply below_alloc | apply pw_below_drewN | apply below_drew1 | refine below_set ?_ (IsS72.ge HI0.out)) | exact HB.out), by repeat (first | (with_reducible first | exact HK.out | apply KeepBut.set_ | apply keep_drewN | apply keep_drew | apply keep_alloc) | exact HK.out)⟩
 ·rw [if_neg c4] at H
  obtain ⟨c4b0, c4b1⟩ := bqF c4
  simp only [Option.some.injEq, Prod.mk.injEq] at H
  obtain ⟨rfl, rfl, rfl⟩ := H
  go_enter Tryz.func143, Tryz.ntmps143
  go_wp2_with (first | ((with_reducible refine gate_callee (f := 107) rfl ?_); refine gL 6 Tryz.func107 #[.pointer (some ⟨g, 0, none⟩)] ?_; (with_reducible refine (tree_parser_mark.calls g s0_0 s0_1 s0_2 t101 t102 t103 w0 _ ?side1 ?side2 A3.out).mono ?_); (case side1 => repeat (first | (with_reducible first | exact HI0.out | apply IsS72.alloc | apply IsS72.drewN | apply IsS72.drew | apply IsS72.set_1 | apply IsS72.set_2) | exact HI0.out)); (case side2 => repeat (first | (with_reducible first | exact HB.out | apply below_alloc | apply pw_below_drewN | apply below_drew1 | refine below_set ?_ (IsS72.ge HI0.out)) | exact HB.out)); rintro e w7 ⟨rfl, hi, hb, hk⟩; refine ⟨_, rfl, ?_⟩; replace HK := Aside0.mk (KeepBut.trans (by repeat (first | (with_reducible first | exact HK.out | apply KeepBut.set_ | apply keep_drewN | apply keep_drew | apply keep_alloc) | exact HK.out)) hk (.inl rfl)); replace HB := Aside0.mk (hb); replace HI0 := Aside0.mk (hi); (try clear hb); (try clear hb2); (try clear hk); (try clear hi)))
  go_ret
  exact ⟨eR, by repeat (first | (with_reducible first | exact HI0.out | apply IsS72.alloc | apply IsS72.drewN | apply IsS72.drew | apply IsS72.set_1 | apply IsS72.set_2) | exact HI0.out), by repeat (first | (with_reducible first | exact HB.out | apply below_alloc | apply pw_below_drewN | apply below_drew1 | refine below_set ?_ (IsS72.ge HI0.out)) | exact HB.out), by repeat (first | (with_reducible first | exact HK.out | apply KeepBut.set_ | apply keep_drewN | apply keep_drew | apply keep_alloc) | exact HK.out)⟩
end
end Go.Proofs.YtejbbceidnaloaaGreatDoor.P
