import Derived.Test.YtejbbceidnaloaaGreatDoorL14
namespace Go.Proofs.YtejbbceidnaloaaGreatDoor.P
open Go.RowKit Go.Proofs.YtejbbceidnaloaaGreatDoorW.PrintWords Go.Proofs.YtejbbceidnaloaaGreatDoorW.PrintLast Go.Proofs.YtejbbceidnaloaaGreatDoorW.PrintMore
set_option linter.unusedVariables false
set_option linter.unusedSimpArgs false
def partsF (k : Int) (v0 : Int) (v1 : Int) (v2 : Int) (v3 : ByteArray) (v4 : Bool) (v5 : Int) (o : Int) (m : ByteArray) (ag : Int) (a0 : ByteArray) (a1 : Int) (a2 : Int) (a3 : Bool) (a4 : Bool) (b0 : ByteArray) (b1 : Int) (b2 : Int) (b3 : Bool) (b4 : Bool) : Int :=
 if k = 1 then partsV1 v0 v1 v2 v3 v4 v5 o m ag a0 a1 a2 a3 a4 b0 b1 b2 b3 b4 (valB v0 v1 v2 v3 v4 v5)
 else if k = 2 then partsV2 v0 v1 v2 v3 v4 v5 o m ag a0 a1 a2 a3 a4 b0 b1 b2 b3 b4 (refB a0 a1 a2) (refB b0 b1 b2)
 else if k = 3 then partsV3 v0 v1 v2 v3 v4 v5 o m ag a0 a1 a2 a3 a4 b0 b1 b2 b3 b4 (refB a0 a1 a2) (refB b0 b1 b2)
 else if k = 4 then partsV4 v0 v1 v2 v3 v4 v5 o m ag a0 a1 a2 a3 a4 b0 b1 b2 b3 b4
 else if k = 5 then partsV5 v0 v1 v2 v3 v4 v5 o m ag a0 a1 a2 a3 a4 b0 b1 b2 b3 b4
 else if k = 6 then partsV6 v0 v1 v2 v3 v4 v5 o m ag a0 a1 a2 a3 a4 b0 b1 b2 b3 b4 (fnB m)
 else -1
theorem valB_den {v0 v1 v2 : Int} {v3 : ByteArray} {v4 : Bool} {v5 : Int} (h : valB v0 v1 v2 v3 v4 v5 = true) (h1 : v0 = 1) : 1 ≤ v2 ∧ v2 ≤ 1000000 := by
 subst h1
 unfold valB at h
 simp [numB] at h
 omega
theorem parts_any (k : Int) (v0 : Int) (v1 : Int) (v2 : Int) (v3 : ByteArray) (v4 : Bool) (v5 : Int) (o : Int) (m : ByteArray) (ag : Int) (a0 : ByteArray) (a1 : Int) (a2 : Int) (a3 : Bool) (a4 : Bool) (b0 : ByteArray) (b1 : Int) (b2 : Int) (b3 : Bool) (b4 : Bool) (w : World) : Calls Tryz.prog 56 #[.agg #[.int .i64 k, .int .i64 v0, .int .i64 v1, .int .i64 v2, .string v3, .bool v4, .int .i64 v5, .int .i64 o, .string m, .int .i64 ag, .string a0, .int .i64 a1, .int .i64 a2, .bool a3, .bool a4, .string b0, .int .i64 b1, .int .i64 b2, .bool b3, .bool b4]] w fun e w' => e = .returned (.int .i64 (partsF k v0 v1 v2 v3 v4 v5 o m ag a0 a1 a2 a3 a4 b0 b1 b2 b3 b4)) ∧ Below w.heap.size w w' := by
 unfold partsF
 by_cases h1 : k = 1
 ·subst h1
  rw [if_pos rfl]
  exact parts_1 1000002 _ v0 v1 v2 v3 v4 v5 o m ag a0 a1 a2 a3 a4 b0 b1 b2 b3 b4 w (value_Right_f _ _ _ _ _ _ _ (Nat.le_refl _)) (fun h e => valB_den h e) _ rfl
 rw [if_neg h1]
 by_cases h2 : k = 2
 ·subst h2
  rw [if_pos rfl]
  exact parts_2 18 _ _ v0 v1 v2 v3 v4 v5 o m ag a0 a1 a2 a3 a4 b0 b1 b2 b3 b4 w (tree_ref_f _ _ _ _ _ _ (Nat.le_refl _)) (tree_ref_f _ _ _ _ _ _ (Nat.le_refl _)) _ rfl
 rw [if_neg h2]
 by_cases h3 : k = 3
 ·subst h3
  rw [if_pos rfl]
  exact parts_3 18 _ _ v0 v1 v2 v3 v4 v5 o m ag a0 a1 a2 a3 a4 b0 b1 b2 b3 b4 w (tree_ref_f _ _ _ _ _ _ (Nat.le_refl _)) (tree_ref_f _ _ _ _ _ _ (Nat.le_refl _)) _ rfl
 rw [if_neg h3]
 by_cases h4 : k = 4
 ·subst h4
  rw [if_pos rfl]
  exact parts_4 v0 v1 v2 v3 v4 v5 o m ag a0 a1 a2 a3 a4 b0 b1 b2 b3 b4 w _ rfl
 rw [if_neg h4]
 by_cases h5 : k = 5
 ·subst h5
  rw [if_pos rfl]
  exact parts_5 v0 v1 v2 v3 v4 v5 o m ag a0 a1 a2 a3 a4 b0 b1 b2 b3 b4 w _ rfl
 rw [if_neg h5]
 by_cases h6 : k = 6
 ·subst h6
  rw [if_pos rfl]
  exact parts_6 _ v0 v1 v2 v3 v4 v5 o m ag a0 a1 a2 a3 a4 b0 b1 b2 b3 b4 w rfl _ rfl
 rw [if_neg h6]
 exact parts_0 k v0 v1 v2 v3 v4 v5 o m ag a0 a1 a2 a3 a4 b0 b1 b2 b3 b4 w (beq_eq_false_iff_ne.2 h1) (beq_eq_false_iff_ne.2 h2) (beq_eq_false_iff_ne.2 h3) (beq_eq_false_iff_ne.2 h4) (beq_eq_false_iff_ne.2 h5) (beq_eq_false_iff_ne.2 h6)
theorem add_add (ad : Addr) (m j : Nat) : (ad.add m).add j = ad.add (m + j) := by
 unfold Addr.add
 by_cases hj : j = 0
 ·subst hj; simp
 ·by_cases hm : m = 0
  ·subst hm; simp [hj]
  ·have : ¬ m + j = 0 := by omega
   simp [hj, hm, Nat.add_assoc]
theorem run_load_elem {P : Program} (w : World) (ad : Addr) (ty : TypeId) (cs : List Value) (d : TypeDesc) (hc : ∀ j v, cs[j]? = some v → w.cell? (ad.add j) = some v)
 (hu : P.underlying ty = some d) (hd : d.isRow = true) (hi : (P.info? ty).map (·.size) = some cs.length) :
 (loadVar ty ad).run P w = .ok (.agg cs.toArray) w := by
 have hl : (loadCells ad cs.length).run P w = .ok cs.toArray w := run_loadCells_list (P := P) w ad cs hc
 cases hq : P.info? ty with
 | none => simp [hq] at hi
 | some i =>
  have hs : i.size = cs.length := by simpa [hq] using hi
  have hagg : (isAgg ty).run P w = .ok true w := by
   unfold isAgg
   rw [Sem.run_bind, run_underlying hu w]
   cases d <;> simp_all
  simp [loadVar, Sem.run_bind, hagg, sizeOf, typeInfo, hq, hs, hl]
theorem elem_event {P : Program} {ops : Array Oper} {rest : List Oper} {o : Oper} {a : Act} {Q : Exit → Act → World → Prop} {W : World} (hgd : o.guard = none) {t : TypeId} {p : Operand} (ho : o.op = .load t p)
 {α : Type} {d : Kd α} {A : Option Addr} {n : Nat} {xs : List α} (hC : d.C W A n xs) (z : α) (i : Int) (h0 : 0 ≤ i) (h1 : i < n) {ad : Addr} (hA : A = some ad)
 (haddr : a.eval p = .pointer (some (ad.add (i.toNat * d.sz)))) {td : TypeDesc} (hu : P.underlying t = some td) (hd : td.isRow = true) (hi : (P.info? t).map (·.size) = some d.sz)
 (h : ∀ c, d.K W (xs.getD i.toNat z) c → wpList P ops Q rest (a.put o.dst (.agg c.toArray)) W) : wpList P ops Q (o :: rest) a W := by
 obtain ⟨ad', c, e, hl, hK, hc⟩ := Kd.C_get hC z i h0 h1
 obtain rfl : ad' = ad := by rw [hA] at e; exact (Option.some.inj e).symm
 refine wpList_plain hgd fun K hKK => ?_
 have hrun := run_load_elem (P := P) W (ad'.add (i.toNat * d.sz)) t c td (fun j v hv => by rw [add_add]; exact hc j v hv) hu hd (by rw [hl]; exact hi)
 unfold Oper.wp execOp
 simp only [ho, haddr, Instr.loadAt, Instr.sureAddr, Sem.run_bind, Sem.run_pure, Result.andThen_ok, hrun]
 exact hKK _ _ (h c hK)
def cs50 (x : S50) : List Value := [.int .i64 x.f0, .int .i64 x.f1.f0, .int .i64 x.f1.f1.f0, .int .i64 x.f1.f1.f1, .string x.f1.f2, .bool x.f1.f3, .int .i64 x.f1.f4, .int .i64 x.f2, .string x.f3, .int .i64 x.f4, .string x.f5.f0, .int .i64 x.f5.f1, .int .i64 x.f5.f2, .bool x.f5.f3, .bool x.f5.f4, .string x.f6.f0, .int .i64 x.f6.f1, .int .i64 x.f6.f2, .bool x.f6.f3, .bool x.f6.f4]
def v50 (x : S50) : Value := .agg (cs50 x).toArray
theorem node_event {ops : Array Oper} {rest : List Oper} {o : Oper} {a : Act} {Q : Exit → Act → World → Prop} {W : World} (hgd : o.guard = none) {p : Operand} (ho : o.op = .load 50 p)
 {A : Option Addr} {n : Nat} {xs : List S50} (hC : Kd.C k50 W A n xs) (i : Int) (h0 : 0 ≤ i) (h1 : i < n) {ad : Addr} (hA : A = some ad)
 (haddr : a.eval p = .pointer (some (ad.add (i.toNat * 20))))
 (h : wpList Tryz.prog ops Q rest (a.put o.dst (v50 (rd_T50 xs i))) W) : wpList Tryz.prog ops Q (o :: rest) a W :=
 elem_event hgd ho hC z50 i h0 h1 hA haddr Tryz.underlying50 rfl (by kernel_rfl) (fun c hc => by
  obtain rfl := k50_open hc
  exact h)
def partsS (x : S50) : Int := partsF x.f0 x.f1.f0 x.f1.f1.f0 x.f1.f1.f1 x.f1.f2 x.f1.f3 x.f1.f4 x.f2 x.f3 x.f4 x.f5.f0 x.f5.f1 x.f5.f2 x.f5.f3 x.f5.f4 x.f6.f0 x.f6.f1 x.f6.f2 x.f6.f3 x.f6.f4
theorem parts_v (x : S50) (w : World) : Calls Tryz.prog 56 #[v50 x] w fun e w' => e = .returned (.int .i64 (partsS x)) ∧ Below w.heap.size w w' :=
 parts_any _ _ _ _ _ _ _ _ _ _ _ _ _ _ _ _ _ _ _ _ w
def tree_partsV.f (x : S50) : Option Int := some (partsS x)
theorem tree_partsV.calls (x : S50) (r : Int) (w : World) (h : tree_partsV.f x = some r) : Calls Tryz.prog 56 #[v50 x] w fun e w' => e = .returned (.int .i64 r) ∧ Below w.heap.size w w' := by
 obtain rfl := Option.some.inj h
 exact parts_v x w
theorem at_N50 {w : World} {A : Option Addr} {n : Nat} {xs : List S50} (h : Kd.C k50 w A n xs) (i : Int) (h0 : 0 ≤ i) (h1 : i < n) : ∃ ad, A = some ad := by
 obtain ⟨ad, c, e, _⟩ := Kd.C_get h z50 i h0 h1
 exact ⟨ad, e⟩
section
attribute [local go_sem] max2_int min2_int max_two min_two max_three min_three max_four min_four
mutual
def tree_over.l0 : Nat → List (S50) → Int → Int → Int → Int → Option (Int × Int)
 | 0, _, _, _, _, _ => none
 | k + 1, x0, x4, x5, x22, x23 => if x23 < x22 then ((tree_over.f k x0 x4).bind fun bt103 => (if bt103.1 < 0 then (some ((-1), 0)) else (tree_over.l0 k x0 bt103.1 (mx x5 bt103.2) x22 (wrap64 (x23 + 1))))) else (some (x4, wrap64 (x5 + 1)))
def tree_over.f : Nat → List (S50) → Int → Option (Int × Int)
 | 0, _, _ => none
 | k + 1, l0, a1 => if a1 ≥ (l0.length : Int) then (some ((-1), 0)) else (if 0 ≤ a1 then (if a1 < (l0.length : Int) then ((tree_partsV.f (rd_T50 l0 a1)).bind fun t102 => (if t102 < 0 then (some ((-1), 0)) else (tree_over.l0 k l0 (wrap64 (a1 + 1)) 0 t102 0))) else (none)) else (none))
end
set_option maxHeartbeats 8000000 in
set_option maxRecDepth 100000 in
theorem tree_over.calls (k : Nat) : ∀ (A0 : Option Addr) (c0 : Nat) (l0 : List (S50)) (a1 : Int) (r1 : Int) (r2 : Int) (w : World) (hr0 : Kd.C k50 w A0 l0.length l0) (hc0 : l0.length ≤ c0) (h : tree_over.f k l0 a1 = some (r1, r2)),
 Calls Tryz.prog 53 #[.slice A0 l0.length c0, .int .i64 a1] w fun e w' => e = .returned (.tuple #[.int .i64 r1, .int .i64 r2]) ∧ Below w.heap.size w w' := by
 induction k using Nat.strongRecOn with
 | _ k ih =>
 intro A0 c0 l0 a1 r1 r2 w hr0 hc0 h
 cases k with
 | zero => exact absurd h (by simp [tree_over.f])
 | succ k =>
 simp only [tree_over.f] at h
 have hu50 := Tryz.underlying50
 have HR0 := Aside0.mk hr0
 have HC0 := Aside0.mk hc0
 clear hr0 hc0
 have HB := Aside0.mk (Below.refl w.heap.size w)
 have H : (if a1 ≥ (l0.length : Int) then (some ((-1), 0)) else (if 0 ≤ a1 then (if a1 < (l0.length : Int) then ((tree_partsV.f (rd_T50 l0 a1)).bind fun t102 => (if t102 < 0 then (some ((-1), 0)) else (tree_over.l0 k l0 (wrap64 (a1 + 1)) 0 t102 0))) else (none)) else (none))) = some (r1, r2) := h
 clear h
 by_cases c3 : a1 ≥ (l0.length : Int)
 ·rw [if_pos c3] at H
  have c3b0 : decide ((l0.length : Int) ≤ a1) = true := decide_eq_true c3
  clear c3
  simp only [Option.some.injEq, Prod.mk.injEq] at H
  obtain ⟨rfl, rfl⟩ := H
  go_enter Tryz.func53, Tryz.ntmps53
  go_wp2
  go_ret2
  exact ⟨eR, bE⟩
 ·rw [if_neg c3] at H
  have c3b0 : decide ((l0.length : Int) ≤ a1) = false := decide_eq_false c3
  clear c3
  by_cases c4 : 0 ≤ a1
  ·rw [if_pos c4] at H
   have c4b0 : decide (0 ≤ a1) = true := decide_eq_true c4
   clear c4
   by_cases c5 : a1 < (l0.length : Int)
   ·rw [if_pos c5] at H
    have c5b0 : decide (a1 < (l0.length : Int)) = true := decide_eq_true c5
    clear c5
    replace H := Option.bind_eq_some_iff.mp H
    obtain ⟨t102, A60, H⟩ := H
    try dsimp only at H
    have A6 := Aside0.mk A60
    clear A60
    by_cases c7 : t102 < 0
    ·rw [if_pos c7] at H
     have c7b0 : decide (t102 < 0) = true := decide_eq_true c7
     clear c7
     simp only [Option.some.injEq, Prod.mk.injEq] at H
     obtain ⟨rfl, rfl⟩ := H
     have p101 : 0 ≤ (a1 : Int) := of_decide_eq_true (by first | (with_reducible assumption) | assumption)
     have q101 : a1 < (l0.length : Int) := of_decide_eq_true (by first | (with_reducible assumption) | assumption)
     obtain ⟨ad101, e101⟩ := at_N50 HR0.out a1 p101 q101
     cases e101
     replace p101 := eq_true p101
     replace q101 := eq_true q101
     go_enter Tryz.func53, Tryz.ntmps53
     go_wp2_with (first | ((with_reducible refine gate_dst (N := 16) rfl ?_); refine node_event rfl rfl (xs := l0) (n := l0.length) (A := some ad101) ?hc a1 (of_eq_true p101) (of_eq_true q101) rfl ?ha ?_; (case hc => first | exact HR0.out | exact Kd.C_below HR0.out HB.out); (case ha => rfl)) | ((with_reducible refine gate_callee (f := 56) rfl ?_); refine gL 17 Tryz.func56 #[v50 (rd_T50 l0 a1)] ?_; (with_reducible refine (tree_partsV.calls (rd_T50 l0 a1) t102 _ A6.out).mono ?_); rintro e w8 ⟨rfl, hb⟩; refine ⟨_, rfl, ?_⟩; replace HB := Aside0.mk (below_step bE hb); (try clear hb); (try clear hb2); (try clear hk); (try clear hi)))
     go_ret2
     exact ⟨eR, bE⟩
    ·rw [if_neg c7] at H
     have c7b0 : decide (t102 < 0) = false := decide_eq_false c7
     clear c7
     have H' := Aside0.mk H
     clear H
     have p101 : 0 ≤ (a1 : Int) := of_decide_eq_true (by first | (with_reducible assumption) | assumption)
     have q101 : a1 < (l0.length : Int) := of_decide_eq_true (by first | (with_reducible assumption) | assumption)
     obtain ⟨ad101, e101⟩ := at_N50 HR0.out a1 p101 q101
     cases e101
     replace p101 := eq_true p101
     replace q101 := eq_true q101
     go_enter Tryz.func53, Tryz.ntmps53
     go_wp2_with (first | ((with_reducible refine gate_dst (N := 16) rfl ?_); refine node_event rfl rfl (xs := l0) (n := l0.length) (A := some ad101) ?hc a1 (of_eq_true p101) (of_eq_true q101) rfl ?ha ?_; (case hc => first | exact HR0.out | exact Kd.C_below HR0.out HB.out); (case ha => rfl)) | ((with_reducible refine gate_callee (f := 56) rfl ?_); refine gL 17 Tryz.func56 #[v50 (rd_T50 l0 a1)] ?_; (with_reducible refine (tree_partsV.calls (rd_T50 l0 a1) t102 _ A6.out).mono ?_); rintro e w9 ⟨rfl, hb⟩; refine ⟨_, rfl, ?_⟩; replace HB := Aside0.mk (below_step bE hb); (try clear hb); (try clear hb2); (try clear hk); (try clear hi)))
     go_loopg [4, 5, 23] k (fun kq v4 v5 v23 w' => ∃ (x4_1 : Int) (x5_1 : Int) (x23_1 : Int), v4 = .int .i64 x4_1 ∧ v5 = .int .i64 x5_1 ∧ v23 = .int .i64 x23_1 ∧ Aside0 (tree_over.l0 kq l0 x4_1 x5_1 t102 x23_1 = some (r1, r2)) ∧ Aside0 (kq ≤ k) ∧ Aside0 (Below w.heap.size w w'))
     case atStart => exact ⟨(wrap64 (a1 + 1)), (0), (0), (by first | rfl | (simp; done) | (simp [*]; done)), (by first | rfl | (simp; done) | (simp [*]; done)), (by first | rfl | (simp; done) | (simp [*]; done)), H', ⟨Nat.le_refl _⟩, ⟨bE⟩⟩
     case round =>
      clear H'
      try clear p1
      try clear q1
      try clear hx1
      try clear p2
      try clear c3
      try clear c3b0
      try clear c4
      try clear c4b0
      try clear c5
      try clear c5b0
      try clear p6
      try clear c7
      try clear c7b0
      try clear hx101_0
      try clear hx101_1
      try clear hx101_10
      try clear hx101_11
      try clear hx101_12
      try clear hx101_13
      try clear hx101_14
      try clear hx101_15
      try clear hx101_16
      try clear hx101_17
      try clear hx101_18
      try clear hx101_19
      try clear hx101_2
      try clear hx101_3
      try clear hx101_4
      try clear hx101_5
      try clear hx101_6
      try clear hx101_7
      try clear hx101_8
      try clear hx101_9
      try clear p101
      try clear q101
      obtain ⟨x4_1, x5_1, x23_1, rfl, rfl, rfl, HA, HK1, HB⟩ := hrel
      cases gk with
      | zero => exact absurd HA.out (by simp [tree_over.l0])
      | succ k1 =>
       have H := HA.out
       clear HA
       simp only [tree_over.l0] at H
       by_cases c10 : x23_1 < t102
       ·rw [if_pos c10] at H
        have c10b0 : decide (x23_1 < t102) = true := decide_eq_true c10
        clear c10
        replace H := Option.bind_eq_some_iff.mp H
        obtain ⟨⟨t103, t104⟩, A110, H⟩ := H
        try dsimp only at H
        have A11 := Aside0.mk A110
        clear A110
        by_cases c12 : t103 < 0
        ·rw [if_pos c12] at H
         have c12b0 : decide (t103 < 0) = true := decide_eq_true c12
         clear c12
         simp only [Option.some.injEq, Prod.mk.injEq] at H
         obtain ⟨rfl, rfl⟩ := H
         go_wp2_with (first | ((with_reducible refine gate_dst (N := 16) rfl ?_); refine node_event rfl rfl (xs := l0) (n := l0.length) (A := some ad101) ?hc a1 (of_eq_true p101) (of_eq_true q101) rfl ?ha ?_; (case hc => first | exact HR0.out | exact Kd.C_below HR0.out HB.out); (case ha => rfl)) | ((with_reducible refine gate_callee (f := 53) rfl ?_); refine gL 28 Tryz.func53 #[.slice (some ad101) l0.length c0, .int .i64 x4_1] ?_; (with_reducible refine (ih k1 (by have := HK1.out; omega) _ _ l0 x4_1 t103 t104 _ ?side1 ?side2 A11.out).mono ?_); (case side1 => repeat (first | exact (Kd.C_below HR0.out HB.out) | (with_reducible refine Kd.C_alloc ?_ _) | (with_reducible refine Kd.C_drewN ?_ _) | (with_reducible refine Kd.C_drew ?_))); (case side2 => exact HC0.out); rintro e w13 ⟨rfl, hb⟩; refine ⟨_, rfl, ?_⟩; replace HB := Aside0.mk (below_step bE hb); (try clear hb); (try clear hb2); (try clear hk); (try clear hi)))
         go_ret2
         exact ⟨eR, bE⟩
        ·rw [if_neg c12] at H
         have c12b0 : decide (t103 < 0) = false := decide_eq_false c12
         clear c12
         obtain ⟨ji14, hji14⟩ : ∃ j_ : Int, (mx x5_1 t104) = j_ := ⟨_, rfl⟩
         replace H : (tree_over.l0 k1 l0 t103 ji14 t102 (wrap64 (x23_1 + 1))) = some (r1, r2) := by first | (rw [hji14] at H; exact H) | (simp only [hji14] at H ⊢; exact H)
         (try rw [hji14] at A11)
         have hji14_ : (if x5_1 < t104 then t104 else x5_1) = ji14 := hji14
         have H' := Aside0.mk H
         clear H
         go_wp2_with (first | ((with_reducible refine gate_dst (N := 16) rfl ?_); refine node_event rfl rfl (xs := l0) (n := l0.length) (A := some ad101) ?hc a1 (of_eq_true p101) (of_eq_true q101) rfl ?ha ?_; (case hc => first | exact HR0.out | exact Kd.C_below HR0.out HB.out); (case ha => rfl)) | ((with_reducible refine gate_callee (f := 53) rfl ?_); refine gL 28 Tryz.func53 #[.slice (some ad101) l0.length c0, .int .i64 x4_1] ?_; (with_reducible refine (ih k1 (by have := HK1.out; omega) _ _ l0 x4_1 t103 t104 _ ?side1 ?side2 A11.out).mono ?_); (case side1 => repeat (first | exact (Kd.C_below HR0.out HB.out) | (with_reducible refine Kd.C_alloc ?_ _) | (with_reducible refine Kd.C_drewN ?_ _) | (with_reducible refine Kd.C_drew ?_))); (case side2 => exact HC0.out); rintro e w15 ⟨rfl, hb⟩; refine ⟨_, rfl, ?_⟩; replace HB := Aside0.mk (below_step bE hb); (try clear hb); (try clear hb2); (try clear hk); (try clear hi)))
         go_roundg k1
         case measure => have := HK1.out; omega
         case rel => exact ⟨(t103), (ji14), (wrap64 (x23_1 + 1)), (by first | rfl | (simp; done) | (simp [*]; done)), (by first | rfl | (simp; done) | (simp only [← hji14] <;> (first | rfl | simp)) | (simp [*]; done)), (by first | rfl | (simp; done) | (simp [*]; done)), H', ⟨by have := HK1.out; omega⟩, ⟨bE⟩⟩
       ·rw [if_neg c10] at H
        have c10b0 : decide (x23_1 < t102) = false := decide_eq_false c10
        clear c10
        simp only [Option.some.injEq, Prod.mk.injEq] at H
        obtain ⟨rfl, rfl⟩ := H
        go_wp2
        go_ret2
        exact ⟨eR, bE⟩
   ·rw [if_neg c5] at H
    exact absurd H (by simp)
  ·rw [if_neg c4] at H
   exact absurd H (by simp)
end
section
attribute [local go_sem] max2_int min2_int max_two min_two max_three min_three max_four min_four
def tree_Check.f (k : Nat) (l0 : List (S50)) : Option (Int) := if (l0.length : Int) > 256 then (some 52) else ((tree_over.f k l0 0).bind fun bt101 => (if bt101.1 = (l0.length : Int) then (if bt101.2 > 32 then (some 51) else (some 0)) else (some 53)))
set_option maxHeartbeats 8000000 in
set_option maxRecDepth 100000 in
theorem tree_Check.calls (k : Nat) (A0 : Option Addr) (c0 : Nat) (l0 : List (S50)) (r : Int) (w : World) (hr0 : Kd.C k50 w A0 l0.length l0) (hc0 : l0.length ≤ c0) (h : tree_Check.f k l0 = some r) :
 Calls Tryz.prog 28 #[.slice A0 l0.length c0] w fun e w' => e = .returned (.int .i64 r) ∧ Below w.heap.size w w' := by
 have HR0 := Aside0.mk hr0
 have HC0 := Aside0.mk hc0
 clear hr0 hc0
 have HB := Aside0.mk (Below.refl w.heap.size w)
 have H := h
 unfold tree_Check.f at H
 clear h
 by_cases c2 : (l0.length : Int) > 256
 ·rw [if_pos c2] at H
  have c2b0 : decide (256 < (l0.length : Int)) = true := decide_eq_true c2
  have c2b1 : decide (256 < l0.length) = true := decide_eq_true (by omega)
  clear c2
  obtain rfl := Option.some.inj H
  go_enter Tryz.func28, Tryz.ntmps28
  go_wp2
  go_ret
  exact ⟨eR, bE⟩
 ·rw [if_neg c2] at H
  have c2b0 : decide (256 < (l0.length : Int)) = false := decide_eq_false c2
  have c2b1 : decide (256 < l0.length) = false := decide_eq_false (by omega)
  clear c2
  replace H := Option.bind_eq_some_iff.mp H
  obtain ⟨⟨t101, t102⟩, A30, H⟩ := H
  try dsimp only at H
  have A3 := Aside0.mk A30
  clear A30
  by_cases c4 : t101 = (l0.length : Int)
  ·rw [if_pos c4] at H
   obtain ⟨c4b0, c4b1⟩ := bqT c4
   clear c4
   by_cases c5 : t102 > 32
   ·rw [if_pos c5] at H
    have c5b0 : decide (32 < t102) = true := decide_eq_true c5
    clear c5
    obtain rfl := Option.some.inj H
    go_enter Tryz.func28, Tryz.ntmps28
    go_wp2_with (first | ((with_reducible refine gate_callee (f := 53) rfl ?_); refine gL 10 Tryz.func53 #[.slice A0 l0.length c0, .int .i64 0] ?_; (with_reducible refine (tree_over.calls k _ _ l0 0 t101 t102 _ ?side1 ?side2 A3.out).mono ?_); (case side1 => repeat (first | exact HR0.out | (with_reducible refine Kd.C_alloc ?_ _) | (with_reducible refine Kd.C_drewN ?_ _) | (with_reducible refine Kd.C_drew ?_))); (case side2 => exact HC0.out); rintro e w6 ⟨rfl, hb⟩; refine ⟨_, rfl, ?_⟩; replace HB := Aside0.mk (below_step bE hb); (try clear hb); (try clear hb2); (try clear hk); (try clear hi)))
    go_ret
    exact ⟨eR, bE⟩
   ·rw [if_neg c5] at H
    have c5b0 : decide (32 < t102) = false := decide_eq_false c5
    clear c5
    obtain rfl := Option.some.inj H
    go_enter Tryz.func28, Tryz.ntmps28
    go_wp2_with (first | ((with_reducible refine gate_callee (f := 53) rfl ?_); refine gL 10 Tryz.func53 #[.slice A0 l0.length c0, .int .i64 0] ?_; (with_reducible refine (tree_over.calls k _ _ l0 0 t101 t102 _ ?side1 ?side2 A3.out).mono ?_); (case side1 => repeat (first | exact HR0.out | (with_reducible refine Kd.C_alloc ?_ _) | (with_reducible refine Kd.C_drewN ?_ _) | (with_reducible refine Kd.C_drew ?_))); (case side2 => exact HC0.out); rintro e w7 ⟨rfl, hb⟩; refine ⟨_, rfl, ?_⟩; replace HB := Aside0.mk (below_step bE hb); (try clear hb); (try clear hb2); (try clear hk); (try clear hi)))
    go_ret
    exact ⟨eR, bE⟩
  ·rw [if_neg c4] at H
   obtain ⟨c4b0, c4b1⟩ := bqF c4
   obtain rfl := Option.some.inj H
   go_enter Tryz.func28, Tryz.ntmps28
   go_wp2_with (first | ((with_reducible refine gate_callee (f := 53) rfl ?_); refine gL 10 Tryz.func53 #[.slice A0 l0.length c0, .int .i64 0] ?_; (with_reducible refine (tree_over.calls k _ _ l0 0 t101 t102 _ ?side1 ?side2 A3.out).mono ?_); (case side1 => repeat (first | exact HR0.out | (with_reducible refine Kd.C_alloc ?_ _) | (with_reducible refine Kd.C_drewN ?_ _) | (with_reducible refine Kd.C_drew ?_))); (case side2 => exact HC0.out); rintro e w8 ⟨rfl, hb⟩; refine ⟨_, rfl, ?_⟩; replace HB := Aside0.mk (below_step bE hb); (try clear hb); (try clear hb2); (try clear hk); (try clear hi)))
   go_ret
   exact ⟨eR, bE⟩
end
section
attribute [local go_sem] max2_int min2_int max_two min_two max_three min_three max_four min_four
mutual
def tree_Kids.j0 : Nat → List (S50) → Int → Bool → Option (List Int)
 | 0, _, _, _ => none
 | k + 1, x0, x1, x19 => if x19 = true then (some ([] : List Int)) else (if 0 ≤ x1 then (if x1 < (x0.length : Int) then ((tree_partsV.f (rd_T50 x0 x1)).bind fun t103 => (tree_Kids.l0 k x0 ([] : List Int) (wrap64 (x1 + 1)) t103 0)) else (none)) else (none))
def tree_Kids.l0 : Nat → List (S50) → List Int → Int → Int → Int → Option (List Int)
 | 0, _, _, _, _, _ => none
 | k + 1, x0, x5, x6, x26, x27 => if x27 < x26 then (if x5.length < 17592186044416 then ((tree_over.f k x0 x6).bind fun bt107 => (tree_Kids.l0 k x0 (x5 ++ [x6]) bt107.1 x26 (wrap64 (x27 + 1)))) else (none)) else (some x5)
end
def tree_Kids.f (k : Nat) (l0 : List (S50)) (a1 : Int) : Option (List Int) := (tree_Check.f k l0).bind fun t101 => (if t101 = 0 then (if a1 < 0 then (tree_Kids.j0 k l0 a1 true) else (tree_Kids.j0 k l0 a1 (decide (a1 ≥ (l0.length : Int))))) else (tree_Kids.j0 k l0 a1 true))
set_option maxHeartbeats 8000000 in
set_option maxRecDepth 100000 in
theorem tree_Kids.calls (k : Nat) (A0 : Option Addr) (c0 : Nat) (l0 : List (S50)) (a1 : Int) (r : List Int) (w : World) (hr0 : Kd.C k50 w A0 l0.length l0) (hc0 : l0.length ≤ c0) (h : tree_Kids.f k l0 a1 = some r) :
 Calls Tryz.prog 32 #[.slice A0 l0.length c0, .int .i64 a1] w fun e w' => ∃ v0_ : Value, e = .returned (v0_) ∧ Kd.R (Kd.int .i64) 3 w' w.heap.size (fun _ => True) v0_ r ∧ Below w.heap.size w w' := by
 have hu50 := Tryz.underlying50
 have HR0 := Aside0.mk hr0
 have HC0 := Aside0.mk hc0
 clear hr0 hc0
 have HB := Aside0.mk (Below.refl w.heap.size w)
 have H := h
 unfold tree_Kids.f at H
 clear h
 have HC3 := Aside0.mk H
 clear H
 go_enter Tryz.func32, Tryz.ntmps32
 go_upto_region 1 with (fail)
 go_cut [19] (fun v19 wc => ∃ (kq : Nat) (x19_2 : Bool), v19 = .bool x19_2 ∧ Aside0 (tree_Kids.j0 kq l0 a1 x19_2 = some r) ∧ Aside0 (kq ≤ k) ∧ Aside0 (Below w.heap.size w wc))
 case first =>
  have H := HC3.out
  clear HC3
  replace H := Option.bind_eq_some_iff.mp H
  obtain ⟨t101, A40, H⟩ := H
  try dsimp only at H
  have A4 := Aside0.mk A40
  clear A40
  by_cases c5 : t101 = 0
  ·rw [if_pos c5] at H
   obtain ⟨c5b0, c5b1⟩ := bqT c5
   clear c5
   (first | rw [c5b0] | (simp only [i64_w, i32_w]; rw [c5b0]) | skip)
   by_cases c6 : a1 < 0
   ·rw [if_pos c6] at H
    have c6b0 : decide (a1 < 0) = true := decide_eq_true c6
    clear c6
    have H' := Aside0.mk H
    clear H
    go_wp2_with (first | ((with_reducible refine gate_callee (f := 28) rfl ?_); refine gL 8 Tryz.func28 #[.slice A0 l0.length c0] ?_; (with_reducible refine (tree_Check.calls k _ _ l0 t101 _ ?side1 ?side2 A4.out).mono ?_); (case side1 => repeat (first | exact (Kd.C_below HR0.out HB.out) | (with_reducible refine Kd.C_alloc ?_ _) | (with_reducible refine Kd.C_drewN ?_ _) | (with_reducible refine Kd.C_drew ?_))); (case side2 => exact HC0.out); rintro e w7 ⟨rfl, hb⟩; refine ⟨_, rfl, ?_⟩; replace HB := Aside0.mk (below_step bE hb); (try clear hb); (try clear hb2); (try clear hk); (try clear hi)))
    go_meet
    case rel => exact ⟨_, (true), (by first | rfl | (simp; done) | (simp [*]; done)), H', ⟨by first | omega | exact Nat.le_refl _⟩, ⟨bE⟩⟩
   ·rw [if_neg c6] at H
    have c6b0 : decide (a1 < 0) = false := decide_eq_false c6
    clear c6
    have H' := Aside0.mk H
    clear H
    go_wp2_with (first | ((with_reducible refine gate_callee (f := 28) rfl ?_); refine gL 8 Tryz.func28 #[.slice A0 l0.length c0] ?_; (with_reducible refine (tree_Check.calls k _ _ l0 t101 _ ?side1 ?side2 A4.out).mono ?_); (case side1 => repeat (first | exact (Kd.C_below HR0.out HB.out) | (with_reducible refine Kd.C_alloc ?_ _) | (with_reducible refine Kd.C_drewN ?_ _) | (with_reducible refine Kd.C_drew ?_))); (case side2 => exact HC0.out); rintro e w8 ⟨rfl, hb⟩; refine ⟨_, rfl, ?_⟩; replace HB := Aside0.mk (below_step bE hb); (try clear hb); (try clear hb2); (try clear hk); (try clear hi)))
    go_meet
    case rel => exact ⟨_, (decide (a1 ≥ (l0.length : Int))), (by first | rfl | (simp; done) | (simp [*]; done)), H', ⟨by first | omega | exact Nat.le_refl _⟩, ⟨bE⟩⟩
  ·rw [if_neg c5] at H
   obtain ⟨c5b0, c5b1⟩ := bqF c5
   (first | rw [c5b0] | (simp only [i64_w, i32_w]; rw [c5b0]) | skip)
   have H' := Aside0.mk H
   clear H
   go_wp2_with (first | ((with_reducible refine gate_callee (f := 28) rfl ?_); refine gL 8 Tryz.func28 #[.slice A0 l0.length c0] ?_; (with_reducible refine (tree_Check.calls k _ _ l0 t101 _ ?side1 ?side2 A4.out).mono ?_); (case side1 => repeat (first | exact (Kd.C_below HR0.out HB.out) | (with_reducible refine Kd.C_alloc ?_ _) | (with_reducible refine Kd.C_drewN ?_ _) | (with_reducible refine Kd.C_drew ?_))); (case side2 => exact HC0.out); rintro e w9 ⟨rfl, hb⟩; refine ⟨_, rfl, ?_⟩; replace HB := Aside0.mk (below_step bE hb); (try clear hb); (try clear hb2); (try clear hk); (try clear hi)))
   go_meet
   case rel => exact ⟨_, (true), (by first | rfl | (simp; done) | (simp [*]; done)), H', ⟨by first | omega | exact Nat.le_refl _⟩, ⟨bE⟩⟩
 case rest =>
  clear HC3
  try clear c2
  try clear p2
  try clear c3
  try clear c5
  try clear c5b0
  try clear c5b1
  try clear c6
  try clear c6b0
  obtain ⟨kq, x19_2, rfl, HA, HJ2, HB⟩ := hcut
  cases kq with
  | zero => exact absurd HA.out (by simp [tree_Kids.j0])
  | succ kj2 =>
   have H := HA.out
   clear HA
   simp only [tree_Kids.j0] at H
   by_cases c10 : x19_2 = true
   ·subst c10
    rw [if_pos rfl] at H
    obtain rfl := Option.some.inj H
    go_wp2
    go_ret
    exact ⟨_, eR, by first | exact Kd.R_nil _ _ _ _ _ | exact Kd.N_nil _ _ _ _ _ | exact Kd.V_nil _ _ _ _ _ | exact Kd.Q_nil _ _ _ _ _ | exact Kd.S_nil _ _ _ _ _, bE⟩
   ·replace c10 := Bool.eq_false_iff.mpr c10
    subst c10
    rw [if_neg Bool.false_ne_true] at H
    by_cases c11 : 0 ≤ a1
    ·rw [if_pos c11] at H
     have c11b0 : decide (0 ≤ a1) = true := decide_eq_true c11
     clear c11
     by_cases c12 : a1 < (l0.length : Int)
     ·rw [if_pos c12] at H
      have c12b0 : decide (a1 < (l0.length : Int)) = true := decide_eq_true c12
      clear c12
      replace H := Option.bind_eq_some_iff.mp H
      obtain ⟨t103, A130, H⟩ := H
      try dsimp only at H
      have A13 := Aside0.mk A130
      clear A130
      have H' := Aside0.mk H
      clear H
      have p102 : 0 ≤ (a1 : Int) := of_decide_eq_true (by first | (with_reducible assumption) | assumption)
      have q102 : a1 < (l0.length : Int) := of_decide_eq_true (by first | (with_reducible assumption) | assumption)
      obtain ⟨ad102, e102⟩ := at_N50 HR0.out a1 p102 q102
      cases e102
      replace p102 := eq_true p102
      replace q102 := eq_true q102
      go_wp2_with (first | ((with_reducible refine gate_dst (N := 25) rfl ?_); refine node_event rfl rfl (xs := l0) (n := l0.length) (A := some ad102) ?hc a1 (of_eq_true p102) (of_eq_true q102) rfl ?ha ?_; (case hc => first | exact HR0.out | exact Kd.C_below HR0.out HB.out); (case ha => rfl)) | ((with_reducible refine gate_callee (f := 56) rfl ?_); refine gL 26 Tryz.func56 #[v50 (rd_T50 l0 a1)] ?_; (with_reducible refine (tree_partsV.calls (rd_T50 l0 a1) t103 _ A13.out).mono ?_); rintro e w14 ⟨rfl, hb⟩; refine ⟨_, rfl, ?_⟩; replace HB := Aside0.mk (below_step bE hb); (try clear hb); (try clear hb2); (try clear hk); (try clear hi)))
      go_loopg [5, 6, 27] kj2 (fun kq v5 v6 v27 w' => ∃ (x5_2 : List Int) (x6_2 : Int) (x27_2 : Int), v6 = .int .i64 x6_2 ∧ v27 = .int .i64 x27_2 ∧ Aside0 (tree_Kids.l0 kq l0 x5_2 x6_2 t103 x27_2 = some r) ∧ Aside0 (kq ≤ kj2) ∧ Aside0 (Kd.R (Kd.int .i64) 3 w' w.heap.size (fun _ => True) v5 x5_2) ∧ Aside0 (Below w.heap.size w w'))
      case atStart => exact ⟨(([] : List Int)), (wrap64 (a1 + 1)), (0), (by first | rfl | (simp; done) | (simp [*]; done)), (by first | rfl | (simp; done) | (simp [*]; done)), H', ⟨Nat.le_refl _⟩, ⟨by first | exact Kd.R_nil _ _ _ _ _ | exact Kd.N_nil _ _ _ _ _ | exact Kd.V_nil _ _ _ _ _ | exact Kd.Q_nil _ _ _ _ _ | exact Kd.S_nil _ _ _ _ _⟩, ⟨bE⟩⟩
      case round =>
       clear H'
       try clear c1
       try clear p1
       try clear q1
       try clear hx1
       try clear c2
       try clear p2
       try clear c3
       try clear c5
       try clear c5b0
       try clear c5b1
       try clear c6
       try clear c6b0
       try clear p6
       try clear c10
       try clear p10
       try clear q10
       try clear hx10
       try clear c11
       try clear c11b0
       try clear c12
       try clear c12b0
       try clear hx102_0
       try clear hx102_1
       try clear hx102_10
       try clear hx102_11
       try clear hx102_12
       try clear hx102_13
       try clear hx102_14
       try clear hx102_15
       try clear hx102_16
       try clear hx102_17
       try clear hx102_18
       try clear hx102_19
       try clear hx102_2
       try clear hx102_3
       try clear hx102_4
       try clear hx102_5
       try clear hx102_6
       try clear hx102_7
       try clear hx102_8
       try clear hx102_9
       try clear p102
       try clear p2
       try clear q102
       obtain ⟨x5_2, x6_2, x27_2, rfl, rfl, HA, HK2, HO_5, HB⟩ := hrel
       cases gk with
       | zero => exact absurd HA.out (by simp [tree_Kids.l0])
       | succ k2 =>
        have H := HA.out
        clear HA
        simp only [tree_Kids.l0] at H
        by_cases c15 : x27_2 < t103
        ·rw [if_pos c15] at H
         have c15b0 : decide (x27_2 < t103) = true := decide_eq_true c15
         clear c15
         by_cases c16 : x5_2.length < 17592186044416
         ·rw [if_pos c16] at H
          have LMc16 := Aside0.mk c16
          clear c16
          obtain ⟨y104, hy104⟩ : ∃ y_ : List Int, y_ = (x5_2 ++ [x6_2]) := ⟨_, rfl⟩
          replace H : ((tree_over.f k2 l0 x6_2).bind fun bt107 => (tree_Kids.l0 k2 l0 y104 bt107.1 t103 (wrap64 (x27_2 + 1)))) = some r := by first | (rw [hy104]; with_reducible exact H) | (have H2_ := (Option.bind_some _ _).symm.trans H; rw [hy104]; with_reducible exact H2_) | (have H2_ := (Option.bind_some _ _).symm.trans H; with_reducible exact H2_) | with_reducible exact H | (rw [hy104]; exact H) | exact H
          have Ny104 := Aside0.mk hy104
          clear hy104
          replace H := Option.bind_eq_some_iff.mp H
          obtain ⟨⟨t107, t108⟩, A170, H⟩ := H
          try dsimp only at H
          have A17 := Aside0.mk A170
          clear A170
          have H' := Aside0.mk H
          clear H
          go_wp2_with (first | ((with_reducible refine gate_dst (N := 25) rfl ?_); refine node_event rfl rfl (xs := l0) (n := l0.length) (A := some ad102) ?hc a1 (of_eq_true p102) (of_eq_true q102) rfl ?ha ?_; (case hc => first | exact HR0.out | exact Kd.C_below HR0.out HB.out); (case ha => rfl)) | ((with_reducible refine gate_builtin (b := .append) (xs := #[.tmp 29, .tmp 31]) rfl ?_); (try (refine gate_guard (by rfl) ?_; dsimp only)); at_builtin; refine Kd.R_append (Kd.int .i64) (w0 := w) w.heap.size rfl (.tmp 29) (.tmp 31) 37 3 (.int .i64 0) 8 rfl Tryz.underlying37 info3 rfl (by decide) (by omega) u5 x5_2 x6_2 [.int .i64 x6_2] (fun _ => True) (fun _ => False) rfl rfl ?aP (fun _ hk => hk.elim) ?aF ?aO ?aB ?aS ?aL ?_; (case aP => exact rfl); (case aB => exact bE); (case aF => exact (fun _ _ => trivial)); (case aO => exact (by (with_reducible repeat (first | apply Kd.R_alloc | apply Kd.R_drewN | apply Kd.R_drew)); exact HO_5.out)); (case aS => exact (below_size bE)); (case aL => have := LMc16.out; omega); intro v105 w18 ho hb hg hat; rw [← Ny104.out] at ho; have n0_ := Aside0.mk (hb); have n1_ := Aside0.mk (ho); clear HB; clear HO_5; have HB := n0_; have HO106 := n1_; clear n0_ n1_; clear ho hb hg hat) | ((with_reducible refine gate_callee (f := 53) rfl ?_); refine gL 36 Tryz.func53 #[.slice (some ad102) l0.length c0, .int .i64 x6_2] ?_; (with_reducible refine (tree_over.calls k2 _ _ l0 x6_2 t107 t108 _ ?side1 ?side2 A17.out).mono ?_); (case side1 => repeat (first | exact (Kd.C_below HR0.out HB.out) | (with_reducible refine Kd.C_alloc ?_ _) | (with_reducible refine Kd.C_drewN ?_ _) | (with_reducible refine Kd.C_drew ?_))); (case side2 => exact HC0.out); rintro e w19 ⟨rfl, hb⟩; refine ⟨_, rfl, ?_⟩; replace HO106 := Aside0.mk (Kd.R_below (by (with_reducible repeat (first | apply Kd.R_alloc | apply Kd.R_drewN | apply Kd.R_drew)); exact HO106.out) hb); replace HB := Aside0.mk (below_step bE hb); (try clear hb); (try clear hb2); (try clear hk); (try clear hi)))
          go_roundg k2
          case measure => have := HJ2.out; have := HK2.out; omega
          case rel => exact ⟨(y104), (t107), (wrap64 (x27_2 + 1)), (by first | rfl | (simp; done) | (simp [*]; done)), (by first | rfl | (simp; done) | (simp [*]; done)), H', ⟨by have := HJ2.out; have := HK2.out; omega⟩, ⟨by (with_reducible repeat (first | apply Kd.R_alloc | apply Kd.R_drewN | apply Kd.R_drew)); exact HO106.out⟩, ⟨bE⟩⟩
         ·rw [if_neg c16] at H
          exact absurd H (by simp)
        ·rw [if_neg c15] at H
         have c15b0 : decide (x27_2 < t103) = false := decide_eq_false c15
         clear c15
         obtain rfl := Option.some.inj H
         go_wp2
         go_ret
         exact ⟨_, eR, by (with_reducible repeat (first | apply Kd.R_alloc | apply Kd.R_drewN | apply Kd.R_drew)); exact HO_5.out, bE⟩
     ·rw [if_neg c12] at H
      exact absurd H (by simp)
    ·rw [if_neg c11] at H
     exact absurd H (by simp)
end
end Go.Proofs.YtejbbceidnaloaaGreatDoor.P
