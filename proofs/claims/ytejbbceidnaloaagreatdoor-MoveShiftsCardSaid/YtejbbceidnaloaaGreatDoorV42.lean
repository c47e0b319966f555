import Derived.Test.YtejbbceidnaloaaGreatDoorV41
set_option linter.unusedVariables false
set_option linter.unusedSimpArgs false
set_option maxRecDepth 100000
set_option maxHeartbeats 8000000
namespace Go.Proofs.YtejbbceidnaloaaGreatDoor.P
open Go.RowKit AW AL AM
theorem eqG {o : Oper} {a : Act} (x y : S50) (w : World) {p q : Operand} (ho : o.op = .binOp .eql 50 p q 50) (hx : a.eval p = .agg (cs50 x).toArray) (hy : a.eval q = .agg (cs50 y).toArray) :
 (execOp a.eval o).run Tryz.prog w = .ok (.value (.bool (eqS x y))) w := by
 unfold execOp
 simp only [ho, hx, hy, Sem.run_bind, Sem.run_pure]
 rw [run_eqGuard_agg (hm := Tryz.eqGuardType50)]
 simp only [Result.andThen]
 rw [run_eql_struct, eq50V 9996 w x y]
 rfl
theorem eqE {ops : Array Oper} {rest : List Oper} {o : Oper} {a : Act} {Q : Exit → Act → World → Prop} {W : World} (x y : S50) (p q : Operand) (hw : wpList Tryz.prog ops Q rest (a.put o.dst (.bool (eqS x y))) W)
 (hgd : o.guard = none := by exact rfl) (ho : o.op = .binOp .eql 50 p q 50 := by exact rfl) (hx : a.eval p = .agg (cs50 x).toArray := by exact rfl) (hy : a.eval q = .agg (cs50 y).toArray := by exact rfl) : wpList Tryz.prog ops Q (o :: rest) a W := Kd.event_run hgd (eqG x y W ho hx hy) hw
theorem Ncl {a : Act} {o : Oper} {t : TypeId} {p : Operand} (ho : o.op = .load t p) {g k : Nat} {e : TypeId} {cur cs : Array Value} {d : TypeDesc} {w : World} (haddr : a.eval p = .pointer (some ⟨g, k, none⟩)) (hh : w.heap[g]? = some (.cells cur e (0, 0)))
 (hc : (cur.toList.drop k).take cs.toList.length = cs.toList) (hu : Tryz.prog.underlying t = some d) (hd : d.isRow = true) (hi : (Tryz.prog.info? t).map (·.size) = some cs.toList.length) : (execOp a.eval o).run Tryz.prog w = .ok (.value (.agg cs)) w := by
 have := Ned (P := Tryz.prog) (a := a) (o := o) (t := t) (p := p) (ad := ⟨g, k, none⟩) (cs := cs.toList) (d := d) (w := w) ho haddr (fun j v hv => by
  rw [← hc, List.getElem?_take] at hv
  split at hv
  ·rw [List.getElem?_drop] at hv
   have h1 : w.cell? ⟨g, k + j, none⟩ = some v := by rw [Naa hh, ← Array.getElem?_toList]; exact hv
   unfold Addr.add
   by_cases hj : j = 0
   ·subst hj; rw [if_pos rfl]; exact h1
   ·rw [if_neg hj]; exact h1
  ·cases hv) hu hd hi
 rwa [Array.toArray_toList] at this
def ND (x : S50) (w : World) (r : Int) (b : Bool) : Prop := Calls Tryz.prog 84 #[v50 x] w fun e w' => e = .returned (.tuple #[.int .i64 r, .bool b]) ∧ Below w.heap.size w w'
theorem nd1a (x : S50) (w : World) (hk : x.f0 = 1) (he : eqS x (nVal x.f1) = false) : ND x w 0 false := by
 unfold ND
 have hu50 := Tryz.underlying50
 have hu48 := Tryz.underlying48
 have hu46 := Tryz.underlying46
 go_enter Tryz.func84, Tryz.ntmps84
 go_upto_region 1 with ((with_reducible refine gD 1 rfl ?_); refine bX 1 (cs50 x).toArray 50 ?_; intro g hg_ w1 hb_ hl_; have B := lh hl_; have J := lh hb_; clear hb_ hl_ hg_)
 have f0 : w1.cell? ⟨g, 0, none⟩ = some (.int .i64 1) := by rw [← hk]; exact (Naa J.out 0).trans rfl
 go_wp2_with (first
  | ((with_reducible refine gD 8 rfl ?_); refine lA J.out 50 (.tmp 1) hu50 ?_)
  | ((with_reducible refine gD 12 rfl ?_); refine Nbg rfl (t := 46) (p := .tmp 11) rfl (g := g) (o' := 1) (e := 50) (cs := [.int .i64 x.f1.f0, .int .i64 x.f1.f1.f0, .int .i64 x.f1.f1.f1, .string x.f1.f2, .bool x.f1.f3, .int .i64 x.f1.f4]) ?ha J.out ?hc hu46 rfl ?hi ?_; (case ha => rfl); (case hc => rfl); (case hi => kernel_rfl))
  | ((with_reducible refine gD 14 rfl ?_); refine eqE x (nVal x.f1) (.tmp 8) (.tmp 13) ?_; rw [he]))
 go_ret2
 exact ⟨rfl, B.out⟩
theorem nd1b (x : S50) (w : World) (hk : x.f0 = 1) (he : eqS x (nVal x.f1) = true) (k : Nat) (b : Bool) (h5 : Nbv.f k x.f1.f0 x.f1.f1.f0 x.f1.f1.f1 x.f1.f2 x.f1.f3 x.f1.f4 = some b) : ND x w 0 b := by
 unfold ND
 have hu50 := Tryz.underlying50
 have hu48 := Tryz.underlying48
 have hu46 := Tryz.underlying46
 go_enter Tryz.func84, Tryz.ntmps84
 go_upto_region 1 with ((with_reducible refine gD 1 rfl ?_); refine bX 1 (cs50 x).toArray 50 ?_; intro g hg_ w1 hb_ hl_; have B := lh hl_; have J := lh hb_; clear hb_ hl_ hg_)
 have f0 : w1.cell? ⟨g, 0, none⟩ = some (.int .i64 1) := by rw [← hk]; exact (Naa J.out 0).trans rfl
 go_wp2_with (first
  | ((with_reducible refine gD 8 rfl ?_); refine lA J.out 50 (.tmp 1) hu50 ?_)
  | ((with_reducible refine gD 12 rfl ?_); refine Nbg rfl (t := 46) (p := .tmp 11) rfl (g := g) (o' := 1) (e := 50) (cs := [.int .i64 x.f1.f0, .int .i64 x.f1.f1.f0, .int .i64 x.f1.f1.f1, .string x.f1.f2, .bool x.f1.f3, .int .i64 x.f1.f4]) ?ha J.out ?hc hu46 rfl ?hi ?_; (case ha => rfl); (case hc => rfl); (case hi => kernel_rfl))
  | ((with_reducible refine gD 14 rfl ?_); refine eqE x (nVal x.f1) (.tmp 8) (.tmp 13) ?_; rw [he])
  | ((with_reducible refine gD 17 rfl ?_); (try (refine Nbm (by rfl) ?_; dsimp only)); refine Nbg rfl (t := 46) (p := .tmp 16) rfl (g := g) (o' := 1) (e := 50) (cs := [.int .i64 x.f1.f0, .int .i64 x.f1.f1.f0, .int .i64 x.f1.f1.f1, .string x.f1.f2, .bool x.f1.f3, .int .i64 x.f1.f4]) ?ha J.out ?hc hu46 rfl ?hi ?_; (case ha => rfl); (case hc => rfl); (case hi => kernel_rfl))
  | (go_at_call 127; (with_reducible refine (Nbv.calls k _ _ _ _ _ _ b _ h5).mono ?_); rintro en w2 ⟨rfl, hb⟩; have B2 := lh (Nab B.out hb); clear hb))
 go_ret2
 exact ⟨rfl, B2.out⟩
theorem nd2a (x : S50) (w : World) (hk : x.f0 = 2) (he : eqS x (nCell x.f5) = false) : ND x w 0 false := by
 unfold ND
 have hu50 := Tryz.underlying50
 have hu48 := Tryz.underlying48
 have hu46 := Tryz.underlying46
 go_enter Tryz.func84, Tryz.ntmps84
 go_upto_region 1 with ((with_reducible refine gD 1 rfl ?_); refine bX 1 (cs50 x).toArray 50 ?_; intro g hg_ w1 hb_ hl_; have B := lh hl_; have J := lh hb_; clear hb_ hl_ hg_)
 have f0 : w1.cell? ⟨g, 0, none⟩ = some (.int .i64 2) := by rw [← hk]; exact (Naa J.out 0).trans rfl
 go_wp2_with (first
  | ((with_reducible refine gD 22 rfl ?_); refine lA J.out 50 (.tmp 1) hu50 ?_)
  | ((with_reducible refine gD 26 rfl ?_); refine Nbg rfl (t := 48) (p := .tmp 25) rfl (g := g) (o' := 10) (e := 50) (cs := [.string x.f5.f0, .int .i64 x.f5.f1, .int .i64 x.f5.f2, .bool x.f5.f3, .bool x.f5.f4]) ?ha J.out ?hc hu48 rfl ?hi ?_; (case ha => rfl); (case hc => rfl); (case hi => kernel_rfl))
  | ((with_reducible refine gD 28 rfl ?_); refine eqE x (nCell x.f5) (.tmp 22) (.tmp 27) ?_; rw [he]))
 go_ret2
 exact ⟨rfl, B.out⟩
theorem nd2b (x : S50) (w : World) (hk : x.f0 = 2) (he : eqS x (nCell x.f5) = true) (b : Bool) (h5 : Nay.f 20 x.f5.f0 x.f5.f1 x.f5.f2 x.f5.f3 x.f5.f4 = some b) : ND x w 0 b := by
 unfold ND
 have hu50 := Tryz.underlying50
 have hu48 := Tryz.underlying48
 have hu46 := Tryz.underlying46
 go_enter Tryz.func84, Tryz.ntmps84
 go_upto_region 1 with ((with_reducible refine gD 1 rfl ?_); refine bX 1 (cs50 x).toArray 50 ?_; intro g hg_ w1 hb_ hl_; have B := lh hl_; have J := lh hb_; clear hb_ hl_ hg_)
 have f0 : w1.cell? ⟨g, 0, none⟩ = some (.int .i64 2) := by rw [← hk]; exact (Naa J.out 0).trans rfl
 go_wp2_with (first
  | ((with_reducible refine gD 22 rfl ?_); refine lA J.out 50 (.tmp 1) hu50 ?_)
  | ((with_reducible refine gD 26 rfl ?_); refine Nbg rfl (t := 48) (p := .tmp 25) rfl (g := g) (o' := 10) (e := 50) (cs := [.string x.f5.f0, .int .i64 x.f5.f1, .int .i64 x.f5.f2, .bool x.f5.f3, .bool x.f5.f4]) ?ha J.out ?hc hu48 rfl ?hi ?_; (case ha => rfl); (case hc => rfl); (case hi => kernel_rfl))
  | ((with_reducible refine gD 28 rfl ?_); refine eqE x (nCell x.f5) (.tmp 22) (.tmp 27) ?_; rw [he])
  | ((with_reducible refine gD 31 rfl ?_); (try (refine Nbm (by rfl) ?_; dsimp only)); refine Nbg rfl (t := 48) (p := .tmp 30) rfl (g := g) (o' := 10) (e := 50) (cs := [.string x.f5.f0, .int .i64 x.f5.f1, .int .i64 x.f5.f2, .bool x.f5.f3, .bool x.f5.f4]) ?ha J.out ?hc hu48 rfl ?hi ?_; (case ha => rfl); (case hc => rfl); (case hi => kernel_rfl))
  | (go_at_call 128; (with_reducible refine (Nay.calls 20 x.f5.f0 x.f5.f1 x.f5.f2 x.f5.f3 x.f5.f4 b _ h5).mono ?_); rintro en w2 ⟨rfl, hb⟩; have B2 := lh (Nab B.out hb); clear hb))
 go_ret2
 exact ⟨rfl, B2.out⟩
theorem nd5a (x : S50) (w : World) (hk : x.f0 = 5) (he : eqS x (nBin x.f2) = false) : ND x w 2 false := by
 unfold ND
 have hu50 := Tryz.underlying50
 have hu48 := Tryz.underlying48
 have hu46 := Tryz.underlying46
 go_enter Tryz.func84, Tryz.ntmps84
 go_upto_region 1 with ((with_reducible refine gD 1 rfl ?_); refine bX 1 (cs50 x).toArray 50 ?_; intro g hg_ w1 hb_ hl_; have B := lh hl_; have J := lh hb_; clear hb_ hl_ hg_)
 have f0 : w1.cell? ⟨g, 0, none⟩ = some (.int .i64 5) := by rw [← hk]; exact (Naa J.out 0).trans rfl
 have f7 : w1.cell? ⟨g, 7, none⟩ = some (.int .i64 x.f2) := (Naa J.out 7).trans rfl
 go_wp2_with (first
  | ((with_reducible refine gD 87 rfl ?_); refine lA J.out 50 (.tmp 1) hu50 ?_)
  | ((with_reducible refine gD 93 rfl ?_); refine eqE x (nBin x.f2) (.tmp 87) (.tmp 92) ?_; rw [he]))
 go_ret2
 exact ⟨rfl, B.out⟩
theorem nd5b (x : S50) (w : World) (hk : x.f0 = 5) (he : eqS x (nBin x.f2) = true) (b : Bool) (h5 : Nb9.f x.f2 = some b) : ND x w 2 b := by
 unfold ND
 have hu50 := Tryz.underlying50
 have hu48 := Tryz.underlying48
 have hu46 := Tryz.underlying46
 go_enter Tryz.func84, Tryz.ntmps84
 go_upto_region 1 with ((with_reducible refine gD 1 rfl ?_); refine bX 1 (cs50 x).toArray 50 ?_; intro g hg_ w1 hb_ hl_; have B := lh hl_; have J := lh hb_; clear hb_ hl_ hg_)
 have f0 : w1.cell? ⟨g, 0, none⟩ = some (.int .i64 5) := by rw [← hk]; exact (Naa J.out 0).trans rfl
 have f7 : w1.cell? ⟨g, 7, none⟩ = some (.int .i64 x.f2) := (Naa J.out 7).trans rfl
 go_wp2_with (first
  | ((with_reducible refine gD 87 rfl ?_); refine lA J.out 50 (.tmp 1) hu50 ?_)
  | ((with_reducible refine gD 93 rfl ?_); refine eqE x (nBin x.f2) (.tmp 87) (.tmp 92) ?_; rw [he])
  | (go_at_call 129; (with_reducible refine (Nb9.calls _ b _ h5).mono ?_); rintro en w2 ⟨rfl, hb⟩; have B2 := lh (Nab B.out hb.below); clear hb))
 go_ret2
 exact ⟨rfl, B2.out⟩
theorem nd0 (x : S50) (w : World) (h1 : ¬ x.f0 = 1) (h2 : ¬ x.f0 = 2) (h3 : ¬ x.f0 = 3) (h4 : ¬ x.f0 = 4) (h5 : ¬ x.f0 = 5) (h6 : ¬ x.f0 = 6) : ND x w 0 false := by
 unfold ND
 have hu50 := Tryz.underlying50
 have hu48 := Tryz.underlying48
 have hu46 := Tryz.underlying46
 go_enter Tryz.func84, Tryz.ntmps84
 go_upto_region 1 with ((with_reducible refine gD 1 rfl ?_); refine bX 1 (cs50 x).toArray 50 ?_; intro g hg_ w1 hb_ hl_; have B := lh hl_; have J := lh hb_; clear hb_ hl_ hg_)
 have f0 : w1.cell? ⟨g, 0, none⟩ = some (.int .i64 x.f0) := (Naa J.out 0).trans rfl
 have k1 : (x.f0 == 1) = false := beq_eq_false_iff_ne.mpr h1
 have k2 : (x.f0 == 2) = false := beq_eq_false_iff_ne.mpr h2
 have k3 : (x.f0 == 3) = false := beq_eq_false_iff_ne.mpr h3
 have k4 : (x.f0 == 4) = false := beq_eq_false_iff_ne.mpr h4
 have k5 : (x.f0 == 5) = false := beq_eq_false_iff_ne.mpr h5
 have k6 : (x.f0 == 6) = false := beq_eq_false_iff_ne.mpr h6
 go_wp2_with (fail)
 go_ret2
 exact ⟨rfl, B.out⟩
theorem nd3a (x : S50) (w : World) (hk : x.f0 = 3) (he : eqS x (nArea x.f5 x.f6) = false) : ND x w 0 false := by
 unfold ND
 have hu50 := Tryz.underlying50
 have hu48 := Tryz.underlying48
 have hu46 := Tryz.underlying46
 go_enter Tryz.func84, Tryz.ntmps84
 go_upto_region 1 with ((with_reducible refine gD 1 rfl ?_); refine bX 1 (cs50 x).toArray 50 ?_; intro g hg_ w1 hb_ hl_; have B := lh hl_; have J := lh hb_; clear hb_ hl_ hg_)
 have f0 : w1.cell? ⟨g, 0, none⟩ = some (.int .i64 3) := by rw [← hk]; exact (Naa J.out 0).trans rfl
 go_upto_region 7 with (fail)
 refine sP (n := 27) (S := fun w' => w'.heap[g]? = some (.cells (cs50 x).toArray 50 (0, 0)) ∧ Below w.heap.size w w' ∧ w'.cell? ⟨g, 0, none⟩ = some (.int .i64 3) ∧ w'.cell? ⟨g, 15, none⟩ = some (.string x.f6.f0)) (ds := []) ⟨Nag J.out, B.out.drew, (by rw [← hk]; exact (Naa (Nag J.out) 0).trans rfl), (Naa (Nag J.out) 15).trans rfl⟩ (fun hH => ?_)
 refine pP 1 37 ?_
 refine pP 3 39 ?_
 refine pP 5 41 ?_
 refine tP 0 36 hH ?_ (hy := Or.inl ⟨by rfl, fun w' s => Nb4 (t := 50) (p := .tmp 1) (by rfl) (g := g) (e := 50) (cs := (cs50 x).toArray) (by rfl) s.1 hu50 rfl (by kernel_rfl)⟩)
 refine tP 2 38 hH ?_
 refine tP 4 40 hH ?_ (hy := Or.inl ⟨by rfl, fun w' s => Ncl (t := 48) (p := .tmp 39) (by rfl) (g := g) (k := 10) (e := 50) (cs := #[.string x.f5.f0, .int .i64 x.f5.f1, .int .i64 x.f5.f2, .bool x.f5.f3, .bool x.f5.f4]) (by rfl) s.1 rfl hu48 rfl (by kernel_rfl)⟩)
 refine tP 6 42 hH ?_ (hy := Or.inl ⟨by rfl, fun w' s => Ncl (t := 48) (p := .tmp 41) (by rfl) (g := g) (k := 15) (e := 50) (cs := #[.string x.f6.f0, .int .i64 x.f6.f1, .int .i64 x.f6.f2, .bool x.f6.f3, .bool x.f6.f4]) (by rfl) s.1 rfl hu48 rfl (by kernel_rfl)⟩)
 refine pP 7 43 ?_
 refine pP 8 44 ?_ (hy := Or.inl ⟨by rfl, fun w' => eqG x (nArea x.f5 x.f6) w' (p := .tmp 36) (q := .tmp 43) (by rfl) (by rfl) (by rfl)⟩)
 rw [he]
 refine pP 9 45 ?_
 refine uP 10 46 ?_
 refine uP 11 47 ?_
 refine uP 12 48 ?_
 refine pP 13 49 ?_
 refine pP 14 50 ?_
 refine uP 15 51 ?_
 refine uP 16 52 ?_
 refine uP 17 53 ?_
 refine pP 18 54 ?_
 refine pP 19 55 ?_
 refine uP 20 56 ?_
 refine uP 21 57 ?_
 refine uP 22 58 ?_
 refine uP 23 59 ?_
 refine pP 24 60 ?_
 refine pP 25 2 ?_
 refine pP 26 3 ?_
 refine done_ (by kernel_rfl) ?_
 have B9 := lh hH.2.1
 clear hH
 go_wp2_with (fail)
 go_ret2
 exact ⟨rfl, B9.out⟩
theorem nd3b (x : S50) (w : World) (hk : x.f0 = 3) (he : eqS x (nArea x.f5 x.f6) = true) (h5 : Nay.f 20 x.f5.f0 x.f5.f1 x.f5.f2 x.f5.f3 x.f5.f4 = some false) : ND x w 0 false := by
 unfold ND
 have hu50 := Tryz.underlying50
 have hu48 := Tryz.underlying48
 have hu46 := Tryz.underlying46
 go_enter Tryz.func84, Tryz.ntmps84
 go_upto_region 1 with ((with_reducible refine gD 1 rfl ?_); refine bX 1 (cs50 x).toArray 50 ?_; intro g hg_ w1 hb_ hl_; have B := lh hl_; have J := lh hb_; clear hb_ hl_ hg_)
 have f0 : w1.cell? ⟨g, 0, none⟩ = some (.int .i64 3) := by rw [← hk]; exact (Naa J.out 0).trans rfl
 go_upto_region 7 with (fail)
 refine sP (n := 27) (S := fun w' => w'.heap[g]? = some (.cells (cs50 x).toArray 50 (0, 0)) ∧ Below w.heap.size w w' ∧ w'.cell? ⟨g, 0, none⟩ = some (.int .i64 3) ∧ w'.cell? ⟨g, 15, none⟩ = some (.string x.f6.f0)) (ds := []) ⟨Nag J.out, B.out.drew, (by rw [← hk]; exact (Naa (Nag J.out) 0).trans rfl), (Naa (Nag J.out) 15).trans rfl⟩ (fun hH => ?_)
 refine pP 1 37 ?_
 refine pP 3 39 ?_
 refine pP 5 41 ?_
 refine tP 0 36 hH ?_ (hy := Or.inl ⟨by rfl, fun w' s => Nb4 (t := 50) (p := .tmp 1) (by rfl) (g := g) (e := 50) (cs := (cs50 x).toArray) (by rfl) s.1 hu50 rfl (by kernel_rfl)⟩)
 refine tP 2 38 hH ?_
 refine tP 4 40 hH ?_ (hy := Or.inl ⟨by rfl, fun w' s => Ncl (t := 48) (p := .tmp 39) (by rfl) (g := g) (k := 10) (e := 50) (cs := #[.string x.f5.f0, .int .i64 x.f5.f1, .int .i64 x.f5.f2, .bool x.f5.f3, .bool x.f5.f4]) (by rfl) s.1 rfl hu48 rfl (by kernel_rfl)⟩)
 refine tP 6 42 hH ?_ (hy := Or.inl ⟨by rfl, fun w' s => Ncl (t := 48) (p := .tmp 41) (by rfl) (g := g) (k := 15) (e := 50) (cs := #[.string x.f6.f0, .int .i64 x.f6.f1, .int .i64 x.f6.f2, .bool x.f6.f3, .bool x.f6.f4]) (by rfl) s.1 rfl hu48 rfl (by kernel_rfl)⟩)
 refine pP 7 43 ?_
 refine pP 8 44 ?_ (hy := Or.inl ⟨by rfl, fun w' => eqG x (nArea x.f5 x.f6) w' (p := .tmp 36) (q := .tmp 43) (by rfl) (by rfl) (by rfl)⟩)
 rw [he]
 refine pP 9 45 ?_
 refine pP 10 46 ?_
 refine tP 11 47 hH ?_ (hy := Or.inl ⟨by rfl, fun w' s => Ncl (t := 48) (p := .tmp 46) (by rfl) (g := g) (k := 10) (e := 50) (cs := #[.string x.f5.f0, .int .i64 x.f5.f1, .int .i64 x.f5.f2, .bool x.f5.f3, .bool x.f5.f4]) (by rfl) s.1 rfl hu48 rfl (by kernel_rfl)⟩)
 refine oP 12 (some 48) fun K hK => ?_
 refine gP 128 Tryz.func128 #[.agg #[.string x.f5.f0, .int .i64 x.f5.f1, .int .i64 x.f5.f2, .bool x.f5.f3, .bool x.f5.f4]] ?_
 with_reducible refine (Nay.calls 20 x.f5.f0 x.f5.f1 x.f5.f2 x.f5.f3 x.f5.f4 false _ h5).mono ?_
 rintro e wz ⟨rfl, hb⟩
 refine ⟨_, rfl, ?_⟩
 have hh := Nac hH.1 hb
 refine hK.out _ _ ⟨hh, Nab hH.2.1 hb, (by rw [← hk]; exact (Naa (hh) 0).trans rfl), (Naa (hh) 15).trans rfl⟩ (fun hH => ?_)
 clear hK K hb
 refine nP 48 ?_
 refine pP 13 49 ?_
 refine pP 14 50 ?_
 refine uP 15 51 ?_
 refine uP 16 52 ?_
 refine uP 17 53 ?_
 refine pP 18 54 ?_
 refine pP 19 55 ?_
 refine uP 20 56 ?_
 refine uP 21 57 ?_
 refine uP 22 58 ?_
 refine uP 23 59 ?_
 refine pP 24 60 ?_
 refine pP 25 2 ?_
 refine pP 26 3 ?_
 refine done_ (by kernel_rfl) ?_
 have B9 := lh hH.2.1
 clear hH
 go_wp2_with (fail)
 go_ret2
 exact ⟨rfl, B9.out⟩
theorem nd3c (x : S50) (w : World) (hk : x.f0 = 3) (he : eqS x (nArea x.f5 x.f6) = true) (h5 : Nay.f 20 x.f5.f0 x.f5.f1 x.f5.f2 x.f5.f3 x.f5.f4 = some true) (h6 : Nay.f 20 x.f6.f0 x.f6.f1 x.f6.f2 x.f6.f3 x.f6.f4 = some false) : ND x w 0 false := by
 unfold ND
 have hu50 := Tryz.underlying50
 have hu48 := Tryz.underlying48
 have hu46 := Tryz.underlying46
 go_enter Tryz.func84, Tryz.ntmps84
 go_upto_region 1 with ((with_reducible refine gD 1 rfl ?_); refine bX 1 (cs50 x).toArray 50 ?_; intro g hg_ w1 hb_ hl_; have B := lh hl_; have J := lh hb_; clear hb_ hl_ hg_)
 have f0 : w1.cell? ⟨g, 0, none⟩ = some (.int .i64 3) := by rw [← hk]; exact (Naa J.out 0).trans rfl
 go_upto_region 7 with (fail)
 refine sP (n := 27) (S := fun w' => w'.heap[g]? = some (.cells (cs50 x).toArray 50 (0, 0)) ∧ Below w.heap.size w w' ∧ w'.cell? ⟨g, 0, none⟩ = some (.int .i64 3) ∧ w'.cell? ⟨g, 15, none⟩ = some (.string x.f6.f0)) (ds := []) ⟨Nag J.out, B.out.drew, (by rw [← hk]; exact (Naa (Nag J.out) 0).trans rfl), (Naa (Nag J.out) 15).trans rfl⟩ (fun hH => ?_)
 refine pP 1 37 ?_
 refine pP 3 39 ?_
 refine pP 5 41 ?_
 refine tP 0 36 hH ?_ (hy := Or.inl ⟨by rfl, fun w' s => Nb4 (t := 50) (p := .tmp 1) (by rfl) (g := g) (e := 50) (cs := (cs50 x).toArray) (by rfl) s.1 hu50 rfl (by kernel_rfl)⟩)
 refine tP 2 38 hH ?_
 refine tP 4 40 hH ?_ (hy := Or.inl ⟨by rfl, fun w' s => Ncl (t := 48) (p := .tmp 39) (by rfl) (g := g) (k := 10) (e := 50) (cs := #[.string x.f5.f0, .int .i64 x.f5.f1, .int .i64 x.f5.f2, .bool x.f5.f3, .bool x.f5.f4]) (by rfl) s.1 rfl hu48 rfl (by kernel_rfl)⟩)
 refine tP 6 42 hH ?_ (hy := Or.inl ⟨by rfl, fun w' s => Ncl (t := 48) (p := .tmp 41) (by rfl) (g := g) (k := 15) (e := 50) (cs := #[.string x.f6.f0, .int .i64 x.f6.f1, .int .i64 x.f6.f2, .bool x.f6.f3, .bool x.f6.f4]) (by rfl) s.1 rfl hu48 rfl (by kernel_rfl)⟩)
 refine pP 7 43 ?_
 refine pP 8 44 ?_ (hy := Or.inl ⟨by rfl, fun w' => eqG x (nArea x.f5 x.f6) w' (p := .tmp 36) (q := .tmp 43) (by rfl) (by rfl) (by rfl)⟩)
 rw [he]
 refine pP 9 45 ?_
 refine pP 10 46 ?_
 refine tP 11 47 hH ?_ (hy := Or.inl ⟨by rfl, fun w' s => Ncl (t := 48) (p := .tmp 46) (by rfl) (g := g) (k := 10) (e := 50) (cs := #[.string x.f5.f0, .int .i64 x.f5.f1, .int .i64 x.f5.f2, .bool x.f5.f3, .bool x.f5.f4]) (by rfl) s.1 rfl hu48 rfl (by kernel_rfl)⟩)
 refine oP 12 (some 48) fun K hK => ?_
 refine gP 128 Tryz.func128 #[.agg #[.string x.f5.f0, .int .i64 x.f5.f1, .int .i64 x.f5.f2, .bool x.f5.f3, .bool x.f5.f4]] ?_
 with_reducible refine (Nay.calls 20 x.f5.f0 x.f5.f1 x.f5.f2 x.f5.f3 x.f5.f4 true _ h5).mono ?_
 rintro e wz ⟨rfl, hb⟩
 refine ⟨_, rfl, ?_⟩
 have hh := Nac hH.1 hb
 refine hK.out _ _ ⟨hh, Nab hH.2.1 hb, (by rw [← hk]; exact (Naa (hh) 0).trans rfl), (Naa (hh) 15).trans rfl⟩ (fun hH => ?_)
 clear hK K hb
 refine nP 48 ?_
 refine pP 13 49 ?_
 refine pP 14 50 ?_
 refine pP 15 51 ?_
 refine tP 16 52 hH ?_ (hy := Or.inl ⟨by rfl, fun w' s => Ncl (t := 48) (p := .tmp 51) (by rfl) (g := g) (k := 15) (e := 50) (cs := #[.string x.f6.f0, .int .i64 x.f6.f1, .int .i64 x.f6.f2, .bool x.f6.f3, .bool x.f6.f4]) (by rfl) s.1 rfl hu48 rfl (by kernel_rfl)⟩)
 refine oP 17 (some 53) fun K hK => ?_
 refine gP 128 Tryz.func128 #[.agg #[.string x.f6.f0, .int .i64 x.f6.f1, .int .i64 x.f6.f2, .bool x.f6.f3, .bool x.f6.f4]] ?_
 with_reducible refine (Nay.calls 20 x.f6.f0 x.f6.f1 x.f6.f2 x.f6.f3 x.f6.f4 false _ h6).mono ?_
 rintro e wz ⟨rfl, hb⟩
 refine ⟨_, rfl, ?_⟩
 have hh := Nac hH.1 hb
 refine hK.out _ _ ⟨hh, Nab hH.2.1 hb, (by rw [← hk]; exact (Naa (hh) 0).trans rfl), (Naa (hh) 15).trans rfl⟩ (fun hH => ?_)
 clear hK K hb
 refine nP 53 ?_
 refine pP 18 54 ?_
 refine pP 19 55 ?_
 refine uP 20 56 ?_
 refine uP 21 57 ?_
 refine uP 22 58 ?_
 refine uP 23 59 ?_
 refine pP 24 60 ?_
 refine pP 25 2 ?_
 refine pP 26 3 ?_
 refine done_ (by kernel_rfl) ?_
 have B9 := lh hH.2.1
 clear hH
 go_wp2_with (fail)
 go_ret2
 exact ⟨rfl, B9.out⟩
theorem nd3d (x : S50) (w : World) (hk : x.f0 = 3) (he : eqS x (nArea x.f5 x.f6) = true) (h5 : Nay.f 20 x.f5.f0 x.f5.f1 x.f5.f2 x.f5.f3 x.f5.f4 = some true) (h6 : Nay.f 20 x.f6.f0 x.f6.f1 x.f6.f2 x.f6.f3 x.f6.f4 = some true) : ND x w 0 x.f6.f0.toList.isEmpty := by
 unfold ND
 have hu50 := Tryz.underlying50
 have hu48 := Tryz.underlying48
 have hu46 := Tryz.underlying46
 go_enter Tryz.func84, Tryz.ntmps84
 go_upto_region 1 with ((with_reducible refine gD 1 rfl ?_); refine bX 1 (cs50 x).toArray 50 ?_; intro g hg_ w1 hb_ hl_; have B := lh hl_; have J := lh hb_; clear hb_ hl_ hg_)
 have f0 : w1.cell? ⟨g, 0, none⟩ = some (.int .i64 3) := by rw [← hk]; exact (Naa J.out 0).trans rfl
 go_upto_region 7 with (fail)
 refine sP (n := 27) (S := fun w' => w'.heap[g]? = some (.cells (cs50 x).toArray 50 (0, 0)) ∧ Below w.heap.size w w' ∧ w'.cell? ⟨g, 0, none⟩ = some (.int .i64 3) ∧ w'.cell? ⟨g, 15, none⟩ = some (.string x.f6.f0)) (ds := []) ⟨Nag J.out, B.out.drew, (by rw [← hk]; exact (Naa (Nag J.out) 0).trans rfl), (Naa (Nag J.out) 15).trans rfl⟩ (fun hH => ?_)
 refine pP 1 37 ?_
 refine pP 3 39 ?_
 refine pP 5 41 ?_
 refine tP 0 36 hH ?_ (hy := Or.inl ⟨by rfl, fun w' s => Nb4 (t := 50) (p := .tmp 1) (by rfl) (g := g) (e := 50) (cs := (cs50 x).toArray) (by rfl) s.1 hu50 rfl (by kernel_rfl)⟩)
 refine tP 2 38 hH ?_
 refine tP 4 40 hH ?_ (hy := Or.inl ⟨by rfl, fun w' s => Ncl (t := 48) (p := .tmp 39) (by rfl) (g := g) (k := 10) (e := 50) (cs := #[.string x.f5.f0, .int .i64 x.f5.f1, .int .i64 x.f5.f2, .bool x.f5.f3, .bool x.f5.f4]) (by rfl) s.1 rfl hu48 rfl (by kernel_rfl)⟩)
 refine tP 6 42 hH ?_ (hy := Or.inl ⟨by rfl, fun w' s => Ncl (t := 48) (p := .tmp 41) (by rfl) (g := g) (k := 15) (e := 50) (cs := #[.string x.f6.f0, .int .i64 x.f6.f1, .int .i64 x.f6.f2, .bool x.f6.f3, .bool x.f6.f4]) (by rfl) s.1 rfl hu48 rfl (by kernel_rfl)⟩)
 refine pP 7 43 ?_
 refine pP 8 44 ?_ (hy := Or.inl ⟨by rfl, fun w' => eqG x (nArea x.f5 x.f6) w' (p := .tmp 36) (q := .tmp 43) (by rfl) (by rfl) (by rfl)⟩)
 rw [he]
 refine pP 9 45 ?_
 refine pP 10 46 ?_
 refine tP 11 47 hH ?_ (hy := Or.inl ⟨by rfl, fun w' s => Ncl (t := 48) (p := .tmp 46) (by rfl) (g := g) (k := 10) (e := 50) (cs := #[.string x.f5.f0, .int .i64 x.f5.f1, .int .i64 x.f5.f2, .bool x.f5.f3, .bool x.f5.f4]) (by rfl) s.1 rfl hu48 rfl (by kernel_rfl)⟩)
 refine oP 12 (some 48) fun K hK => ?_
 refine gP 128 Tryz.func128 #[.agg #[.string x.f5.f0, .int .i64 x.f5.f1, .int .i64 x.f5.f2, .bool x.f5.f3, .bool x.f5.f4]] ?_
 with_reducible refine (Nay.calls 20 x.f5.f0 x.f5.f1 x.f5.f2 x.f5.f3 x.f5.f4 true _ h5).mono ?_
 rintro e wz ⟨rfl, hb⟩
 refine ⟨_, rfl, ?_⟩
 have hh := Nac hH.1 hb
 refine hK.out _ _ ⟨hh, Nab hH.2.1 hb, (by rw [← hk]; exact (Naa (hh) 0).trans rfl), (Naa (hh) 15).trans rfl⟩ (fun hH => ?_)
 clear hK K hb
 refine nP 48 ?_
 refine pP 13 49 ?_
 refine pP 14 50 ?_
 refine pP 15 51 ?_
 refine tP 16 52 hH ?_ (hy := Or.inl ⟨by rfl, fun w' s => Ncl (t := 48) (p := .tmp 51) (by rfl) (g := g) (k := 15) (e := 50) (cs := #[.string x.f6.f0, .int .i64 x.f6.f1, .int .i64 x.f6.f2, .bool x.f6.f3, .bool x.f6.f4]) (by rfl) s.1 rfl hu48 rfl (by kernel_rfl)⟩)
 refine oP 17 (some 53) fun K hK => ?_
 refine gP 128 Tryz.func128 #[.agg #[.string x.f6.f0, .int .i64 x.f6.f1, .int .i64 x.f6.f2, .bool x.f6.f3, .bool x.f6.f4]] ?_
 with_reducible refine (Nay.calls 20 x.f6.f0 x.f6.f1 x.f6.f2 x.f6.f3 x.f6.f4 true _ h6).mono ?_
 rintro e wz ⟨rfl, hb⟩
 refine ⟨_, rfl, ?_⟩
 have hh := Nac hH.1 hb
 refine hK.out _ _ ⟨hh, Nab hH.2.1 hb, (by rw [← hk]; exact (Naa (hh) 0).trans rfl), (Naa (hh) 15).trans rfl⟩ (fun hH => ?_)
 clear hK K hb
 refine nP 53 ?_
 refine pP 18 54 ?_
 refine pP 19 55 ?_
 refine pP 20 56 ?_
 refine pP 21 57 ?_
 refine tP 22 58 hH ?_
 refine pP 23 59 ?_
 refine pP 24 60 ?_
 refine pP 25 2 ?_
 refine pP 26 3 ?_
 refine done_ (by kernel_rfl) ?_
 have B9 := lh hH.2.1
 clear hH
 go_wp2_with (fail)
 go_ret2
 exact ⟨rfl, B9.out⟩
theorem nd4a (x : S50) (w : World) (hk : x.f0 = 4) (he : eqS x (nUn x.f2) = false) : ND x w 1 false := by
 unfold ND
 have hu50 := Tryz.underlying50
 have hu48 := Tryz.underlying48
 have hu46 := Tryz.underlying46
 go_enter Tryz.func84, Tryz.ntmps84
 go_upto_region 1 with ((with_reducible refine gD 1 rfl ?_); refine bX 1 (cs50 x).toArray 50 ?_; intro g hg_ w1 hb_ hl_; have B := lh hl_; have J := lh hb_; clear hb_ hl_ hg_)
 have f0 : w1.cell? ⟨g, 0, none⟩ = some (.int .i64 4) := by rw [← hk]; exact (Naa J.out 0).trans rfl
 go_upto_region 9 with (fail)
 refine sP (n := 24) (S := fun w' => w'.heap[g]? = some (.cells (cs50 x).toArray 50 (0, 0)) ∧ Below w.heap.size w w' ∧ w'.cell? ⟨g, 0, none⟩ = some (.int .i64 4) ∧ w'.cell? ⟨g, 7, none⟩ = some (.int .i64 x.f2)) (ds := []) ⟨Nag J.out, B.out.drew, (by rw [← hk]; exact (Naa (Nag J.out) 0).trans rfl), (Naa (Nag J.out) 7).trans rfl⟩ (fun hH => ?_)
 refine pP 1 64 ?_
 refine pP 3 66 ?_
 refine tP 0 63 hH ?_ (hy := Or.inl ⟨by rfl, fun w' s => Nb4 (t := 50) (p := .tmp 1) (by rfl) (g := g) (e := 50) (cs := (cs50 x).toArray) (by rfl) s.1 hu50 rfl (by kernel_rfl)⟩)
 refine tP 2 65 hH ?_
 refine tP 4 67 hH ?_
 refine pP 5 68 ?_
 refine pP 6 69 ?_ (hy := Or.inl ⟨by rfl, fun w' => eqG x (nUn x.f2) w' (p := .tmp 63) (q := .tmp 68) (by rfl) (by rfl) (by rfl)⟩)
 rw [he]
 refine pP 7 70 ?_
 refine uP 8 71 ?_
 refine uP 9 72 ?_
 refine uP 10 73 ?_
 refine uP 11 74 ?_
 refine uP 12 75 ?_
 refine uP 13 76 ?_
 refine uP 14 77 ?_
 refine uP 15 78 ?_
 refine uP 16 79 ?_
 refine uP 17 80 ?_
 refine uP 18 81 ?_
 refine uP 19 82 ?_
 refine uP 20 83 ?_
 refine pP 21 84 ?_
 refine pP 22 2 ?_
 refine pP 23 3 ?_
 refine done_ (by kernel_rfl) ?_
 have B9 := lh hH.2.1
 clear hH
 go_wp2_with (fail)
 go_ret2
 exact ⟨rfl, B9.out⟩
theorem nd41 (x : S50) (w : World) (hk : x.f0 = 4) (he : eqS x (nUn x.f2) = true) (o1 : (x.f2 == 1) = true) : ND x w 1 true := by
 unfold ND
 have hu50 := Tryz.underlying50
 have hu48 := Tryz.underlying48
 have hu46 := Tryz.underlying46
 go_enter Tryz.func84, Tryz.ntmps84
 go_upto_region 1 with ((with_reducible refine gD 1 rfl ?_); refine bX 1 (cs50 x).toArray 50 ?_; intro g hg_ w1 hb_ hl_; have B := lh hl_; have J := lh hb_; clear hb_ hl_ hg_)
 have f0 : w1.cell? ⟨g, 0, none⟩ = some (.int .i64 4) := by rw [← hk]; exact (Naa J.out 0).trans rfl
 go_upto_region 9 with (fail)
 refine sP (n := 24) (S := fun w' => w'.heap[g]? = some (.cells (cs50 x).toArray 50 (0, 0)) ∧ Below w.heap.size w w' ∧ w'.cell? ⟨g, 0, none⟩ = some (.int .i64 4) ∧ w'.cell? ⟨g, 7, none⟩ = some (.int .i64 x.f2)) (ds := []) ⟨Nag J.out, B.out.drew, (by rw [← hk]; exact (Naa (Nag J.out) 0).trans rfl), (Naa (Nag J.out) 7).trans rfl⟩ (fun hH => ?_)
 refine pP 1 64 ?_
 refine pP 3 66 ?_
 refine tP 0 63 hH ?_ (hy := Or.inl ⟨by rfl, fun w' s => Nb4 (t := 50) (p := .tmp 1) (by rfl) (g := g) (e := 50) (cs := (cs50 x).toArray) (by rfl) s.1 hu50 rfl (by kernel_rfl)⟩)
 refine tP 2 65 hH ?_
 refine tP 4 67 hH ?_
 refine pP 5 68 ?_
 refine pP 6 69 ?_ (hy := Or.inl ⟨by rfl, fun w' => eqG x (nUn x.f2) w' (p := .tmp 63) (q := .tmp 68) (by rfl) (by rfl) (by rfl)⟩)
 rw [he]
 refine pP 7 70 ?_
 refine pP 8 71 ?_
 refine tP 9 72 hH ?_
 refine pP 10 73 ?_
 (try rw [o1])
 refine pP 11 74 ?_
 refine uP 12 75 ?_
 refine uP 13 76 ?_
 refine uP 14 77 ?_
 refine pP 15 78 ?_
 refine pP 16 79 ?_
 refine uP 17 80 ?_
 refine uP 18 81 ?_
 refine uP 19 82 ?_
 refine pP 20 83 ?_
 refine pP 21 84 ?_
 refine pP 22 2 ?_
 refine pP 23 3 ?_
 refine done_ (by kernel_rfl) ?_
 have B9 := lh hH.2.1
 clear hH
 go_wp2_with (fail)
 go_ret2
 exact ⟨rfl, B9.out⟩
theorem nd42 (x : S50) (w : World) (hk : x.f0 = 4) (he : eqS x (nUn x.f2) = true) (o1 : (x.f2 == 1) = false) (o2 : (x.f2 == 2) = true) : ND x w 1 true := by
 unfold ND
 have hu50 := Tryz.underlying50
 have hu48 := Tryz.underlying48
 have hu46 := Tryz.underlying46
 go_enter Tryz.func84, Tryz.ntmps84
 go_upto_region 1 with ((with_reducible refine gD 1 rfl ?_); refine bX 1 (cs50 x).toArray 50 ?_; intro g hg_ w1 hb_ hl_; have B := lh hl_; have J := lh hb_; clear hb_ hl_ hg_)
 have f0 : w1.cell? ⟨g, 0, none⟩ = some (.int .i64 4) := by rw [← hk]; exact (Naa J.out 0).trans rfl
 go_upto_region 9 with (fail)
 refine sP (n := 24) (S := fun w' => w'.heap[g]? = some (.cells (cs50 x).toArray 50 (0, 0)) ∧ Below w.heap.size w w' ∧ w'.cell? ⟨g, 0, none⟩ = some (.int .i64 4) ∧ w'.cell? ⟨g, 7, none⟩ = some (.int .i64 x.f2)) (ds := []) ⟨Nag J.out, B.out.drew, (by rw [← hk]; exact (Naa (Nag J.out) 0).trans rfl), (Naa (Nag J.out) 7).trans rfl⟩ (fun hH => ?_)
 refine pP 1 64 ?_
 refine pP 3 66 ?_
 refine tP 0 63 hH ?_ (hy := Or.inl ⟨by rfl, fun w' s => Nb4 (t := 50) (p := .tmp 1) (by rfl) (g := g) (e := 50) (cs := (cs50 x).toArray) (by rfl) s.1 hu50 rfl (by kernel_rfl)⟩)
 refine tP 2 65 hH ?_
 refine tP 4 67 hH ?_
 refine pP 5 68 ?_
 refine pP 6 69 ?_ (hy := Or.inl ⟨by rfl, fun w' => eqG x (nUn x.f2) w' (p := .tmp 63) (q := .tmp 68) (by rfl) (by rfl) (by rfl)⟩)
 rw [he]
 refine pP 7 70 ?_
 refine pP 8 71 ?_
 refine tP 9 72 hH ?_
 refine pP 10 73 ?_
 (try rw [o1])
 refine pP 11 74 ?_
 refine pP 12 75 ?_
 refine tP 13 76 hH ?_
 refine pP 14 77 ?_
 (try rw [o2])
 refine pP 15 78 ?_
 refine pP 16 79 ?_
 refine uP 17 80 ?_
 refine uP 18 81 ?_
 refine uP 19 82 ?_
 refine pP 20 83 ?_
 refine pP 21 84 ?_
 refine pP 22 2 ?_
 refine pP 23 3 ?_
 refine done_ (by kernel_rfl) ?_
 have B9 := lh hH.2.1
 clear hH
 go_wp2_with (fail)
 go_ret2
 exact ⟨rfl, B9.out⟩
theorem nd4o (x : S50) (w : World) (hk : x.f0 = 4) (he : eqS x (nUn x.f2) = true) (o1 : (x.f2 == 1) = false) (o2 : (x.f2 == 2) = false) : ND x w 1 (x.f2 == 3) := by
 unfold ND
 have hu50 := Tryz.underlying50
 have hu48 := Tryz.underlying48
 have hu46 := Tryz.underlying46
 go_enter Tryz.func84, Tryz.ntmps84
 go_upto_region 1 with ((with_reducible refine gD 1 rfl ?_); refine bX 1 (cs50 x).toArray 50 ?_; intro g hg_ w1 hb_ hl_; have B := lh hl_; have J := lh hb_; clear hb_ hl_ hg_)
 have f0 : w1.cell? ⟨g, 0, none⟩ = some (.int .i64 4) := by rw [← hk]; exact (Naa J.out 0).trans rfl
 go_upto_region 9 with (fail)
 refine sP (n := 24) (S := fun w' => w'.heap[g]? = some (.cells (cs50 x).toArray 50 (0, 0)) ∧ Below w.heap.size w w' ∧ w'.cell? ⟨g, 0, none⟩ = some (.int .i64 4) ∧ w'.cell? ⟨g, 7, none⟩ = some (.int .i64 x.f2)) (ds := []) ⟨Nag J.out, B.out.drew, (by rw [← hk]; exact (Naa (Nag J.out) 0).trans rfl), (Naa (Nag J.out) 7).trans rfl⟩ (fun hH => ?_)
 refine pP 1 64 ?_
 refine pP 3 66 ?_
 refine tP 0 63 hH ?_ (hy := Or.inl ⟨by rfl, fun w' s => Nb4 (t := 50) (p := .tmp 1) (by rfl) (g := g) (e := 50) (cs := (cs50 x).toArray) (by rfl) s.1 hu50 rfl (by kernel_rfl)⟩)
 refine tP 2 65 hH ?_
 refine tP 4 67 hH ?_
 refine pP 5 68 ?_
 refine pP 6 69 ?_ (hy := Or.inl ⟨by rfl, fun w' => eqG x (nUn x.f2) w' (p := .tmp 63) (q := .tmp 68) (by rfl) (by rfl) (by rfl)⟩)
 rw [he]
 refine pP 7 70 ?_
 refine pP 8 71 ?_
 refine tP 9 72 hH ?_
 refine pP 10 73 ?_
 (try rw [o1])
 refine pP 11 74 ?_
 refine pP 12 75 ?_
 refine tP 13 76 hH ?_
 refine pP 14 77 ?_
 (try rw [o2])
 refine pP 15 78 ?_
 refine pP 16 79 ?_
 refine pP 17 80 ?_
 refine tP 18 81 hH ?_
 refine pP 19 82 ?_
 refine pP 20 83 ?_
 refine pP 21 84 ?_
 refine pP 22 2 ?_
 refine pP 23 3 ?_
 refine done_ (by kernel_rfl) ?_
 have B9 := lh hH.2.1
 clear hH
 go_wp2_with (fail)
 go_ret2
 exact ⟨rfl, B9.out⟩
theorem nd6a (x : S50) (w : World) (hk : x.f0 = 6) (he : eqS x (nCall x.f3 x.f4) = false) : ND x w x.f4 false := by
 unfold ND
 have hu50 := Tryz.underlying50
 have hu48 := Tryz.underlying48
 have hu46 := Tryz.underlying46
 go_enter Tryz.func84, Tryz.ntmps84
 go_upto_region 1 with ((with_reducible refine gD 1 rfl ?_); refine bX 1 (cs50 x).toArray 50 ?_; intro g hg_ w1 hb_ hl_; have B := lh hl_; have J := lh hb_; clear hb_ hl_ hg_)
 have f0 : w1.cell? ⟨g, 0, none⟩ = some (.int .i64 6) := by rw [← hk]; exact (Naa J.out 0).trans rfl
 go_upto_region 13 with (fail)
 refine sP (n := 28) (S := fun w' => w'.heap[g]? = some (.cells (cs50 x).toArray 50 (0, 0)) ∧ Below w.heap.size w w' ∧ w'.cell? ⟨g, 0, none⟩ = some (.int .i64 6) ∧ w'.cell? ⟨g, 8, none⟩ = some (.string x.f3) ∧ w'.cell? ⟨g, 9, none⟩ = some (.int .i64 x.f4)) (ds := []) ⟨Nag J.out, B.out.drew, (by rw [← hk]; exact (Naa (Nag J.out) 0).trans rfl), (Naa (Nag J.out) 8).trans rfl, (Naa (Nag J.out) 9).trans rfl⟩ (fun hH => ?_)
 refine pP 0 101 ?_
 refine pP 3 104 ?_
 refine pP 5 106 ?_
 refine pP 7 108 ?_
 refine tP 1 102 hH ?_
 refine tP 2 103 hH ?_ (hy := Or.inl ⟨by rfl, fun w' s => Nb4 (t := 50) (p := .tmp 1) (by rfl) (g := g) (e := 50) (cs := (cs50 x).toArray) (by rfl) s.1 hu50 rfl (by kernel_rfl)⟩)
 refine tP 4 105 hH ?_
 refine tP 6 107 hH ?_
 refine tP 8 109 hH ?_
 refine pP 9 110 ?_
 refine pP 10 111 ?_ (hy := Or.inl ⟨by rfl, fun w' => eqG x (nCall x.f3 x.f4) w' (p := .tmp 103) (q := .tmp 110) (by rfl) (by rfl) (by rfl)⟩)
 rw [he]
 refine pP 11 112 ?_
 refine uP 12 113 ?_
 refine uP 13 114 ?_
 refine uP 14 115 ?_
 refine pP 15 116 ?_
 refine pP 16 117 ?_
 refine uP 17 118 ?_
 refine uP 18 119 ?_
 refine uP 19 120 ?_
 refine pP 20 121 ?_
 refine pP 21 122 ?_
 refine uP 22 123 ?_
 refine uP 23 124 ?_
 refine uP 24 125 ?_
 refine pP 25 126 ?_
 refine pP 26 2 ?_
 refine pP 27 3 ?_
 refine done_ (by kernel_rfl) ?_
 have B9 := lh hH.2.1
 clear hH
 go_wp2_with (fail)
 go_ret2
 exact ⟨rfl, B9.out⟩
theorem nd6b (x : S50) (w : World) (hk : x.f0 = 6) (he : eqS x (nCall x.f3 x.f4) = true) (h5 : Nbd.f 20 x.f3 false = some false) : ND x w x.f4 false := by
 unfold ND
 have hu50 := Tryz.underlying50
 have hu48 := Tryz.underlying48
 have hu46 := Tryz.underlying46
 go_enter Tryz.func84, Tryz.ntmps84
 go_upto_region 1 with ((with_reducible refine gD 1 rfl ?_); refine bX 1 (cs50 x).toArray 50 ?_; intro g hg_ w1 hb_ hl_; have B := lh hl_; have J := lh hb_; clear hb_ hl_ hg_)
 have f0 : w1.cell? ⟨g, 0, none⟩ = some (.int .i64 6) := by rw [← hk]; exact (Naa J.out 0).trans rfl
 go_upto_region 13 with (fail)
 refine sP (n := 28) (S := fun w' => w'.heap[g]? = some (.cells (cs50 x).toArray 50 (0, 0)) ∧ Below w.heap.size w w' ∧ w'.cell? ⟨g, 0, none⟩ = some (.int .i64 6) ∧ w'.cell? ⟨g, 8, none⟩ = some (.string x.f3) ∧ w'.cell? ⟨g, 9, none⟩ = some (.int .i64 x.f4)) (ds := []) ⟨Nag J.out, B.out.drew, (by rw [← hk]; exact (Naa (Nag J.out) 0).trans rfl), (Naa (Nag J.out) 8).trans rfl, (Naa (Nag J.out) 9).trans rfl⟩ (fun hH => ?_)
 refine pP 0 101 ?_
 refine pP 3 104 ?_
 refine pP 5 106 ?_
 refine pP 7 108 ?_
 refine tP 1 102 hH ?_
 refine tP 2 103 hH ?_ (hy := Or.inl ⟨by rfl, fun w' s => Nb4 (t := 50) (p := .tmp 1) (by rfl) (g := g) (e := 50) (cs := (cs50 x).toArray) (by rfl) s.1 hu50 rfl (by kernel_rfl)⟩)
 refine tP 4 105 hH ?_
 refine tP 6 107 hH ?_
 refine tP 8 109 hH ?_
 refine pP 9 110 ?_
 refine pP 10 111 ?_ (hy := Or.inl ⟨by rfl, fun w' => eqG x (nCall x.f3 x.f4) w' (p := .tmp 103) (q := .tmp 110) (by rfl) (by rfl) (by rfl)⟩)
 rw [he]
 refine pP 11 112 ?_
 refine pP 12 113 ?_
 refine tP 13 114 hH ?_
 refine oP 14 (some 115) fun K hK => ?_
 refine gP 130 Tryz.func130 #[.string x.f3, .bool false] ?_
 with_reducible refine (Nbd.calls 20 x.f3 false false _ h5).mono ?_
 rintro e wz ⟨rfl, hb⟩
 refine ⟨_, rfl, ?_⟩
 replace hb := hb.below
 have hh := Nac hH.1 hb
 refine hK.out _ _ ⟨hh, Nab hH.2.1 hb, (by rw [← hk]; exact (Naa (hh) 0).trans rfl), (Naa (hh) 8).trans rfl, (Naa (hh) 9).trans rfl⟩ (fun hH => ?_)
 clear hK K hb
 refine nP 115 ?_
 refine pP 15 116 ?_
 refine pP 16 117 ?_
 refine uP 17 118 ?_
 refine uP 18 119 ?_
 refine uP 19 120 ?_
 refine pP 20 121 ?_
 refine pP 21 122 ?_
 refine uP 22 123 ?_
 refine uP 23 124 ?_
 refine uP 24 125 ?_
 refine pP 25 126 ?_
 refine pP 26 2 ?_
 refine pP 27 3 ?_
 refine done_ (by kernel_rfl) ?_
 have B9 := lh hH.2.1
 clear hH
 go_wp2_with (fail)
 go_ret2
 exact ⟨rfl, B9.out⟩
theorem nd6c (x : S50) (w : World) (hk : x.f0 = 6) (he : eqS x (nCall x.f3 x.f4) = true) (h5 : Nbd.f 20 x.f3 false = some true) (a0 : decide (x.f4 ≥ 0) = false) : ND x w x.f4 false := by
 unfold ND
 have hu50 := Tryz.underlying50
 have hu48 := Tryz.underlying48
 have hu46 := Tryz.underlying46
 go_enter Tryz.func84, Tryz.ntmps84
 go_upto_region 1 with ((with_reducible refine gD 1 rfl ?_); refine bX 1 (cs50 x).toArray 50 ?_; intro g hg_ w1 hb_ hl_; have B := lh hl_; have J := lh hb_; clear hb_ hl_ hg_)
 have f0 : w1.cell? ⟨g, 0, none⟩ = some (.int .i64 6) := by rw [← hk]; exact (Naa J.out 0).trans rfl
 go_upto_region 13 with (fail)
 refine sP (n := 28) (S := fun w' => w'.heap[g]? = some (.cells (cs50 x).toArray 50 (0, 0)) ∧ Below w.heap.size w w' ∧ w'.cell? ⟨g, 0, none⟩ = some (.int .i64 6) ∧ w'.cell? ⟨g, 8, none⟩ = some (.string x.f3) ∧ w'.cell? ⟨g, 9, none⟩ = some (.int .i64 x.f4)) (ds := []) ⟨Nag J.out, B.out.drew, (by rw [← hk]; exact (Naa (Nag J.out) 0).trans rfl), (Naa (Nag J.out) 8).trans rfl, (Naa (Nag J.out) 9).trans rfl⟩ (fun hH => ?_)
 refine pP 0 101 ?_
 refine pP 3 104 ?_
 refine pP 5 106 ?_
 refine pP 7 108 ?_
 refine tP 1 102 hH ?_
 refine tP 2 103 hH ?_ (hy := Or.inl ⟨by rfl, fun w' s => Nb4 (t := 50) (p := .tmp 1) (by rfl) (g := g) (e := 50) (cs := (cs50 x).toArray) (by rfl) s.1 hu50 rfl (by kernel_rfl)⟩)
 refine tP 4 105 hH ?_
 refine tP 6 107 hH ?_
 refine tP 8 109 hH ?_
 refine pP 9 110 ?_
 refine pP 10 111 ?_ (hy := Or.inl ⟨by rfl, fun w' => eqG x (nCall x.f3 x.f4) w' (p := .tmp 103) (q := .tmp 110) (by rfl) (by rfl) (by rfl)⟩)
 rw [he]
 refine pP 11 112 ?_
 refine pP 12 113 ?_
 refine tP 13 114 hH ?_
 refine oP 14 (some 115) fun K hK => ?_
 refine gP 130 Tryz.func130 #[.string x.f3, .bool false] ?_
 with_reducible refine (Nbd.calls 20 x.f3 false true _ h5).mono ?_
 rintro e wz ⟨rfl, hb⟩
 refine ⟨_, rfl, ?_⟩
 replace hb := hb.below
 have hh := Nac hH.1 hb
 refine hK.out _ _ ⟨hh, Nab hH.2.1 hb, (by rw [← hk]; exact (Naa (hh) 0).trans rfl), (Naa (hh) 8).trans rfl, (Naa (hh) 9).trans rfl⟩ (fun hH => ?_)
 clear hK K hb
 refine nP 115 ?_
 refine pP 15 116 ?_
 refine pP 16 117 ?_
 refine pP 17 118 ?_
 refine tP 18 119 hH ?_
 refine pP 19 120 ?_
 (try rw [a0])
 refine pP 20 121 ?_
 refine pP 21 122 ?_
 refine uP 22 123 ?_
 refine uP 23 124 ?_
 refine uP 24 125 ?_
 refine pP 25 126 ?_
 refine pP 26 2 ?_
 refine pP 27 3 ?_
 refine done_ (by kernel_rfl) ?_
 have B9 := lh hH.2.1
 clear hH
 go_wp2_with (fail)
 go_ret2
 exact ⟨rfl, B9.out⟩
theorem nd6d (x : S50) (w : World) (hk : x.f0 = 6) (he : eqS x (nCall x.f3 x.f4) = true) (h5 : Nbd.f 20 x.f3 false = some true) (a0 : decide (x.f4 ≥ 0) = true) : ND x w x.f4 (decide (x.f4 ≤ 30)) := by
 unfold ND
 have hu50 := Tryz.underlying50
 have hu48 := Tryz.underlying48
 have hu46 := Tryz.underlying46
 go_enter Tryz.func84, Tryz.ntmps84
 go_upto_region 1 with ((with_reducible refine gD 1 rfl ?_); refine bX 1 (cs50 x).toArray 50 ?_; intro g hg_ w1 hb_ hl_; have B := lh hl_; have J := lh hb_; clear hb_ hl_ hg_)
 have f0 : w1.cell? ⟨g, 0, none⟩ = some (.int .i64 6) := by rw [← hk]; exact (Naa J.out 0).trans rfl
 go_upto_region 13 with (fail)
 refine sP (n := 28) (S := fun w' => w'.heap[g]? = some (.cells (cs50 x).toArray 50 (0, 0)) ∧ Below w.heap.size w w' ∧ w'.cell? ⟨g, 0, none⟩ = some (.int .i64 6) ∧ w'.cell? ⟨g, 8, none⟩ = some (.string x.f3) ∧ w'.cell? ⟨g, 9, none⟩ = some (.int .i64 x.f4)) (ds := []) ⟨Nag J.out, B.out.drew, (by rw [← hk]; exact (Naa (Nag J.out) 0).trans rfl), (Naa (Nag J.out) 8).trans rfl, (Naa (Nag J.out) 9).trans rfl⟩ (fun hH => ?_)
 refine pP 0 101 ?_
 refine pP 3 104 ?_
 refine pP 5 106 ?_
 refine pP 7 108 ?_
 refine tP 1 102 hH ?_
 refine tP 2 103 hH ?_ (hy := Or.inl ⟨by rfl, fun w' s => Nb4 (t := 50) (p := .tmp 1) (by rfl) (g := g) (e := 50) (cs := (cs50 x).toArray) (by rfl) s.1 hu50 rfl (by kernel_rfl)⟩)
 refine tP 4 105 hH ?_
 refine tP 6 107 hH ?_
 refine tP 8 109 hH ?_
 refine pP 9 110 ?_
 refine pP 10 111 ?_ (hy := Or.inl ⟨by rfl, fun w' => eqG x (nCall x.f3 x.f4) w' (p := .tmp 103) (q := .tmp 110) (by rfl) (by rfl) (by rfl)⟩)
 rw [he]
 refine pP 11 112 ?_
 refine pP 12 113 ?_
 refine tP 13 114 hH ?_
 refine oP 14 (some 115) fun K hK => ?_
 refine gP 130 Tryz.func130 #[.string x.f3, .bool false] ?_
 with_reducible refine (Nbd.calls 20 x.f3 false true _ h5).mono ?_
 rintro e wz ⟨rfl, hb⟩
 refine ⟨_, rfl, ?_⟩
 replace hb := hb.below
 have hh := Nac hH.1 hb
 refine hK.out _ _ ⟨hh, Nab hH.2.1 hb, (by rw [← hk]; exact (Naa (hh) 0).trans rfl), (Naa (hh) 8).trans rfl, (Naa (hh) 9).trans rfl⟩ (fun hH => ?_)
 clear hK K hb
 refine nP 115 ?_
 refine pP 15 116 ?_
 refine pP 16 117 ?_
 refine pP 17 118 ?_
 refine tP 18 119 hH ?_
 refine pP 19 120 ?_
 (try rw [a0])
 refine pP 20 121 ?_
 refine pP 21 122 ?_
 refine pP 22 123 ?_
 refine tP 23 124 hH ?_
 refine pP 24 125 ?_
 refine pP 25 126 ?_
 refine pP 26 2 ?_
 refine pP 27 3 ?_
 refine done_ (by kernel_rfl) ?_
 have B9 := lh hH.2.1
 clear hH
 go_wp2_with (fail)
 go_ret2
 exact ⟨rfl, B9.out⟩
end Go.Proofs.YtejbbceidnaloaaGreatDoor.P
