import Derived.Test.YtejbbceidnaloaaGreatDoorV43
set_option linter.unusedVariables false
set_option linter.unusedSimpArgs false
set_option maxRecDepth 100000
set_option maxHeartbeats 8000000
namespace Go.Proofs.YtejbbceidnaloaaGreatDoor.P
open Go.RowKit AW AL AM
abbrev mk77 : S50 := (⟨0, (⟨0, (⟨0, 0⟩ : S44), (⟨#[]⟩ : ByteArray), false, 0⟩ : S46), 0, (⟨#[]⟩ : ByteArray), 77, (⟨(⟨#[]⟩ : ByteArray), 0, 0, false, false⟩ : S48), (⟨(⟨#[]⟩ : ByteArray), 0, 0, false, false⟩ : S48)⟩ : S50)
abbrev mk78 : S50 := (⟨0, (⟨0, (⟨0, 0⟩ : S44), (⟨#[]⟩ : ByteArray), false, 0⟩ : S46), 0, (⟨#[]⟩ : ByteArray), 78, (⟨(⟨#[]⟩ : ByteArray), 0, 0, false, false⟩ : S48), (⟨(⟨#[]⟩ : ByteArray), 0, 0, false, false⟩ : S48)⟩ : S50)
theorem cut_cap (t e : TypeId) (kh : IntKind) {i : TypeInfo} (ht : Tryz.prog.underlying t = some (.slice e)) (hi : Tryz.prog.info? e = some i) (A : Option Addr) (n c : Nat) (j : Int) (h0 : 0 ≤ j) (hm : j ≤ c) :
 ∀ W : World, (Instr.slice t (.slice A n c) none (some (.int kh j)) none).run Tryz.prog W = .ok (.slice A j.toNat c) W := by
 intro W
 have hel : Tryz.prog.elem t = e := by simp [Program.elem, ht]
 have hu : Tryz.prog.underlying t = some (.slice (Tryz.prog.elem t)) := by rw [hel]; exact ht
 have ha : (A.map fun x => x.add 0) = A := by cases A <;> simp [Addr.add]
 rw [run_slice_h W t A n c hu kh j h0 (by omega), hel]
 simp [sizeOf, typeInfo, hi, sliced, Result.andThen, ha]
theorem appN {ops : Array Oper} {rest : List Oper} {o : Oper} {a : Act} {Q : Exit → Act → World → Prop} {W0 W : World} (s x : Operand) {v : Value} {l r : List S50} {A : Option Addr} {n c : Nat}
 (HO : Kd.R k50 50 W W0.heap.size (fun _ => True) v l) (HB : Below W0.heap.size W0 W) (HR : Kd.C k50 W A n r) (hn : (l.length + n) * 176 ≤ 140737488355328)
 (h : ∀ v1 w1, Kd.R k50 50 w1 W0.heap.size (fun _ => True) v1 (l ++ r) → Below W0.heap.size W0 w1 → wpList Tryz.prog ops Q rest (a.put o.dst v1) w1) (hs : a.eval s = v := by exact rfl) (hx : a.eval x = .slice A n c := by exact rfl)
 (ho : o.op = .call { callee := .builtin .append, args := #[s, x], argTypes := #[22, 22] } := by exact rfl) (hgd : o.guard = none := by exact rfl) : wpList Tryz.prog ops Q (o :: rest) a W :=
 Kd.R_append_rows k50 (w0 := W0) W0.heap.size hgd s x 22 50 (.agg #[(.int .i64 0), (.int .i64 0), (.int .i64 0), (.int .i64 0), (.string ⟨#[]⟩), (.bool false), (.int .i64 0), (.int .i64 0), (.string ⟨#[]⟩), (.int .i64 0), (.string ⟨#[]⟩), (.int .i64 0), (.int .i64 0), (.bool false), (.bool false), (.string ⟨#[]⟩), (.int .i64 0), (.int .i64 0), (.bool false), (.bool false)]) 176 ho Tryz.underlying22 info50 rfl (by decide) (by omega) v l r A n c (fun _ => True) (fun _ => False) hs hx HO HR (fun _ _ h => h) (fun _ h => h.elim) (fun _ _ => trivial) HB HB.size hn (fun v1 w1 h1 h2 _ _ => h v1 w1 h1 h2)
theorem C_pre {w : World} {A : Option Addr} {n m : Nat} {l r : List S50} (h : Kd.C k50 w A n (l ++ r)) (hn : n = l.length + m) (hm : r.length = m) : Kd.C k50 w A l.length l := by
 subst hn
 have hl : (l ++ r).length = l.length + m := by rw [List.length_append, hm]
 have h2 : Kd.C k50 w A (l ++ r).length (l ++ r) := by rw [hl]; exact h
 have h1 := Kd.C_take (m := l.length) h2 (by omega)
 rw [List.take_left' rfl] at h1
 exact h1
def Nbl.f (a0 a1 : Int) (a2 : Bool) (a3 : Int) : Option (Int × Bool) := if a2 = true then (some (a0, true)) else (if a1 < (wrap64 (-a0)) then (some (0, false)) else (if a1 ≥ (wrap64 (a3 - a0)) then (some (0, false)) else (some (wrap64 (a0 + a1), true))))
theorem Nbl.calls (a0 a1 : Int) (a2 : Bool) (a3 r1 : Int) (r2 : Bool) (w : World) (h : Nbl.f a0 a1 a2 a3 = some (r1, r2)) :
 Calls Tryz.prog 100 #[.int .i64 a0, .int .i64 a1, .bool a2, .int .i64 a3] w fun e w' => e = .returned (.tuple #[.int .i64 r1, .bool r2]) ∧ Na3 w w' := by
 have H := h
 unfold Nbl.f at H
 clear h
 by_cases c5 : a2 = true
 ·subst c5
  rw [if_pos rfl] at H
  simp only [sJ, pJ] at H
  obtain ⟨rfl, rfl⟩ := H
  go_enter Tryz.func100, Tryz.ntmps100
  go_wp2
  go_ret2
  exact ⟨eR, dE⟩
 ·replace c5 := Bool.eq_false_iff.mpr c5
  subst c5
  rw [if_neg fT] at H
  by_cases c6 : a1 < (wrap64 (-a0))
  ·rw [if_pos c6] at H
   have c6b0 : decide (a1 < (wrap64 (-a0))) = true := decide_eq_true c6
   clear c6
   simp only [sJ, pJ] at H
   obtain ⟨rfl, rfl⟩ := H
   go_enter Tryz.func100, Tryz.ntmps100
   go_wp2
   go_ret2
   exact ⟨eR, dE⟩
  ·rw [if_neg c6] at H
   have c6b0 : decide (a1 < (wrap64 (-a0))) = false := decide_eq_false c6
   clear c6
   by_cases c7 : a1 ≥ (wrap64 (a3 - a0))
   ·rw [if_pos c7] at H
    have c7b0 : decide ((wrap64 (a3 - a0)) ≤ a1) = true := decide_eq_true c7
    clear c7
    simp only [sJ, pJ] at H
    obtain ⟨rfl, rfl⟩ := H
    go_enter Tryz.func100, Tryz.ntmps100
    go_wp2
    go_ret2
    exact ⟨eR, dE⟩
   ·rw [if_neg c7] at H
    have c7b0 : decide ((wrap64 (a3 - a0)) ≤ a1) = false := decide_eq_false c7
    clear c7
    simp only [sJ, pJ] at H
    obtain ⟨rfl, rfl⟩ := H
    go_enter Tryz.func100, Tryz.ntmps100
    go_wp2
    go_ret2
    exact ⟨eR, dE⟩
theorem rf_go (s : ByteArray) (a b rows cols a2 b2 : Int) (p q f1 f2 : Bool) (w : World) (h1 : Nbl.f a rows p 65536 = some (a2, f1)) (h2 : Nbl.f b cols q 256 = some (b2, f2)) :
 Calls Tryz.prog 63 #[.agg #[.string s, .int .i64 a, .int .i64 b, .bool p, .bool q], .int .i64 rows, .int .i64 cols] w fun e w' => e = .returned (.tuple #[.agg #[.string s, .int .i64 a2, .int .i64 b2, .bool p, .bool q], .bool (f1 && f2)]) ∧ Below w.heap.size w w' := by
 have H1 := lh (fun w => Nbl.calls a rows p 65536 a2 f1 w h1)
 have H2 := lh (fun w => Nbl.calls b cols q 256 b2 f2 w h2)
 have hu48 := Tryz.underlying48
 clear h1 h2
 go_enter Tryz.func63, Tryz.ntmps63
 go_upto_region 1 with (first
  | ((with_reducible refine gD 3 rfl ?_); refine bX 3 #[.string s, .int .i64 a, .int .i64 b, .bool p, .bool q] 48 ?_; intro g3 hg_ w1 hb_ hl_; have B1 := lh hl_; have G3 := lh (show w.heap.size ≤ g3 from hg_ ▸ Nat.le_refl _); have J1 := lh hb_; clear hb_ hl_ hg_)
  | ((with_reducible refine gD 6 rfl ?_); refine bX 6 #[.string ⟨#[]⟩, .int .i64 0, .int .i64 0, .bool false, .bool false] 48 ?_; intro g6 hg_ w2 hb_ hl_; have B2 := lh (Nab B1.out hl_); have G6 := lh (show w.heap.size ≤ g6 from hg_ ▸ B1.out.size); have J2 := lh (Nac J1.out hl_); have NE := lh (show g6 ≠ g3 by have := Nbh J1.out; omega); have K2 := lh hb_; clear hb_ hl_ hg_ B1 J1))
 have f1' : w2.cell? ⟨g3, 1, none⟩ = some (.int .i64 a) := (Naa J2.out 1).trans rfl
 have f3' : w2.cell? ⟨g3, 3, none⟩ = some (.bool p) := (Naa J2.out 3).trans rfl
 go_upto_region 2 with ((go_at_call 100; (with_reducible refine (H1.out _).mono ?_); rintro en w3 ⟨rfl, hd⟩; have hb := hd.below; have B3 := lh (Nab B2.out hb); have J3 := lh (Nac J2.out hb); have K3 := lh (Nac K2.out hb); clear hd hb B2 J2 K2))
 have f2' : w3.cell? ⟨g3, 2, none⟩ = some (.int .i64 b) := (Naa J3.out 2).trans rfl
 have f4' : w3.cell? ⟨g3, 4, none⟩ = some (.bool q) := (Naa J3.out 4).trans rfl
 go_upto_region 3 with ((go_at_call 100; (with_reducible refine (H2.out _).mono ?_); rintro en w4 ⟨rfl, hd⟩; have hb := hd.below; have B4 := lh (Nab B3.out hb); have J4 := lh (Nac J3.out hb); have K4 := lh (Nac K3.out hb); clear hd hb B3 J3 K3))
 go_upto_region 5 with (first
  | ((with_reducible refine gate_ (.store 3 (.tmp 31) (.tmp 30)) rfl ?_); refine sE J4.out 3 (.tmp 31) (.tmp 30) 1 (.int .i64 a2) #[.string s, .int .i64 a2, .int .i64 b, .bool p, .bool q] ?_; intro w5 hb_ hp_; have B5 := lh (hp_.below w G3.out B4.out); have K5 := lh (hp_.blk K4.out NE.out); have J5 := lh hb_; clear hb_ hp_ B4 J4 K4)
  | ((with_reducible refine gate_ (.store 3 (.tmp 33) (.tmp 32)) rfl ?_); refine sE J5.out 3 (.tmp 33) (.tmp 32) 2 (.int .i64 b2) #[.string s, .int .i64 a2, .int .i64 b2, .bool p, .bool q] ?_; intro w6 hb_ hp_; have B6 := lh (hp_.below w G3.out B5.out); have K6 := lh (hp_.blk K5.out NE.out); have J6 := lh hb_; clear hb_ hp_ B5 J5 K5))
 cases f1
 all_goals
  go_wp2_with (first
   | ((with_reducible refine gD 34 rfl ?_); refine lA J6.out 48 (.tmp 3) hu48 ?_)
   | ((with_reducible refine gate_ (.store 48 (.tmp 6) (.tmp 34)) rfl ?_); refine sE K6.out 48 (.tmp 6) (.tmp 34) 0 (.agg #[.string s, .int .i64 a2, .int .i64 b2, .bool p, .bool q]) #[.string s, .int .i64 a2, .int .i64 b2, .bool p, .bool q] ?_; intro w8 hb_ hp_; have B8 := lh (hp_.below w G6.out B6.out); have K8 := lh hb_; clear hb_ hp_ B6 K6 J6))
  refine bodyPost_ret (Nbt rfl _ _ g6 48 _ (0, 0) _ rfl K8.out Tryz.underlying48 rfl (by kernel_rfl)) rfl ?_
  exact ⟨rfl, B8.out⟩
def furF (n y : Int) (fx : Bool) (most : Int) : Int × Bool := if fx = true then (n, true) else (if y < wrap64 (-n) then (0, false) else (if y ≥ wrap64 (most - n) then (0, false) else (wrap64 (n + y), true)))
theorem fur_f (n y : Int) (fx : Bool) (most : Int) : Nbl.f n y fx most = some ((furF n y fx most).1, (furF n y fx most).2) := by
 unfold Nbl.f furF
 repeat' split
 all_goals rfl
def rfR (rows cols : Int) (r : S48) : S48 × Bool := (⟨r.f0, (furF r.f1 rows r.f3 65536).1, (furF r.f2 cols r.f4 256).1, r.f3, r.f4⟩, (furF r.f1 rows r.f3 65536).2 && (furF r.f2 cols r.f4 256).2)
theorem rf_calls (rows cols : Int) (r : S48) (w : World) : Calls Tryz.prog 63 #[.agg #[.string r.f0, .int .i64 r.f1, .int .i64 r.f2, .bool r.f3, .bool r.f4], .int .i64 rows, .int .i64 cols] w fun e w' => e = .returned (.tuple #[.agg #[.string (rfR rows cols r).1.f0, .int .i64 (rfR rows cols r).1.f1, .int .i64 (rfR rows cols r).1.f2, .bool (rfR rows cols r).1.f3, .bool (rfR rows cols r).1.f4], .bool (rfR rows cols r).2]) ∧ Below w.heap.size w w' :=
 rf_go r.f0 r.f1 r.f2 rows cols _ _ r.f3 r.f4 _ _ w (fur_f ..) (fur_f ..)
def sh6 (rows cols : Int) (n : S50) : S50 :=
 if n.f0 = 2 then (if (rfR rows cols n.f5).2 = true then { n with f5 := (rfR rows cols n.f5).1 } else lostN)
 else if n.f0 = 3 then (if (rfR rows cols n.f5).2 = true ∧ (rfR rows cols n.f6).2 = true then { n with f5 := (rfR rows cols n.f5).1, f6 := (rfR rows cols n.f6).1 } else lostN)
 else n
theorem R_true {W : World} {b : Nat} {ok : Nat → Prop} {v : Value} {xs : List S50} (h : Kd.R k50 50 W b ok v xs) : Kd.R k50 50 W b (fun _ => True) v xs := Kd.R_mono h (fun _ _ => trivial)
theorem lit1 {ops : Array Oper} {rest : List Oper} {o : Oper} {a : Act} {Q : Exit → Act → World → Prop} {W : World} (N : Tmp) (y : S50)
 (h : ∀ v1 w1, Kd.R k50 50 w1 W.heap.size (fun _ => True) v1 [y] → Below W.heap.size W w1 → wpList Tryz.prog ops Q rest (a.put o.dst v1) w1) (hd : o.dst = some N := by exact rfl) (hg : o.guard = none := by exact rfl)
 (hr : (execOp a.eval o).run Tryz.prog W = .ok (.value (.slice (some ⟨W.heap.size, 0, none⟩) [y].length [y].length)) (W.alloc (.cells (cs50 y).toArray 50)) := by go_simp <;> rfl) : wpList Tryz.prog ops Q (o :: rest) a W :=
 Kd.R_lit k50 _ 50 hg hd (xs := [y]) (inner := cs50 y) (ok := fun _ => True) (okp := fun _ => True) hr (Reps.front (show Kd.M k50 _ _ _ y (cs50 y) from Ne5 _ _ _ y) rfl (Reps.none _ _) (by simp)) (fun _ hk => hk) trivial (Below.refl _ _) (Nat.le_refl _) (by simp) fun v1 w1 h1 h2 _ _ => h v1 w1 h1 h2
theorem app1 {ops : Array Oper} {rest : List Oper} {o : Oper} {a : Act} {Q : Exit → Act → World → Prop} {W0 W : World} (s x : Operand) (g9 : Nat) {v : Value} {l r : List S50} {A : Option Addr} {n c : Nat} {lc : Array Value}
 (HO : Kd.R k50 50 W W0.heap.size (fun k => k ≠ g9) v l) (HB : Below W0.heap.size W0 W) (HL : W.heap[g9]? = some (.cells lc 50 (0, 0))) (HR : Kd.C k50 W A n r) (hn : (l.length + n) * 176 ≤ 140737488355328)
 (h : ∀ v1 w1, Kd.R k50 50 w1 W0.heap.size (fun k => k ≠ g9) v1 (l ++ r) → Below W0.heap.size W0 w1 → w1.heap[g9]? = some (.cells lc 50 (0, 0)) → wpList Tryz.prog ops Q rest (a.put o.dst v1) w1) (hs : a.eval s = v := by exact rfl) (hx : a.eval x = .slice A n c := by exact rfl)
 (ho : o.op = .call { callee := .builtin .append, args := #[s, x], argTypes := #[22, 22] } := by exact rfl) (hgd : o.guard = none := by exact rfl) : wpList Tryz.prog ops Q (o :: rest) a W :=
 Kd.R_append_rows k50 (w0 := W0) W0.heap.size hgd s x 22 50 (.agg #[(.int .i64 0), (.int .i64 0), (.int .i64 0), (.int .i64 0), (.string ⟨#[]⟩), (.bool false), (.int .i64 0), (.int .i64 0), (.string ⟨#[]⟩), (.int .i64 0), (.string ⟨#[]⟩), (.int .i64 0), (.int .i64 0), (.bool false), (.bool false), (.string ⟨#[]⟩), (.int .i64 0), (.int .i64 0), (.bool false), (.bool false)]) 176 ho Tryz.underlying22 info50 rfl (by decide) (by omega) v l r A n c (fun k => k ≠ g9) (fun _ => False) hs hx HO HR (fun _ _ h => h) (fun _ h => h.elim) (fun k hk => by have := Nbh HL; omega) HB HB.size hn
  (fun v1 w1 h1 h2 hg _ => h v1 w1 h1 h2 (by rw [hg.block g9 (Nbh HL) (fun e => HO.1 g9 e.symm rfl)]; exact HL))
theorem shift6_ok (A : Option Addr) (c : Nat) (l : List S50) (rows cols : Int) (w : World) (hC : Kd.C k50 w A l.length l) (hle : l.length ≤ c) (hs : Sz l) (hk : chk l = 0) :
 Calls Tryz.prog 38 #[.slice A l.length c, .int .i64 rows, .int .i64 cols] w fun e w' => ∃ v, e = .returned (.tuple #[v, .int .i64 0]) ∧ Kd.R k50 50 w' w.heap.size (fun _ => True) v (l.map (sh6 rows cols)) ∧ Below w.heap.size w w' := by
 obtain ⟨dd, hdd, -, hl⟩ := Nep (l := l) (K := 600) (by rw [chk_f, hk])
 have HCK := lh (Nav.calls 600 A c l 0 w hC hle (by rw [← hk]; exact ref5_check hs 0))
 have HC := lh hC
 have HL := lh hl
 have hu50 := Tryz.underlying50
 have hu48 := Tryz.underlying48
 clear hC hle hs hk hdd hl
 go_enter Tryz.func38, Tryz.ntmps38
 go_upto_region 4 with (go_at_call 29; (with_reducible refine (HCK.out).mono ?_); rintro en w1 ⟨rfl, hb⟩; have B1 := lh hb; clear hb HCK)
 go_upto_region 6 with (first
  | ((with_reducible refine gD 9 rfl ?_); refine bX 9 #[.int .i64 0, .int .i64 0, .int .i64 0, .int .i64 0, .string ⟨#[]⟩, .bool false, .int .i64 0, .int .i64 0, .string ⟨#[]⟩, .int .i64 0, .string ⟨#[]⟩, .int .i64 0, .int .i64 0, .bool false, .bool false, .string ⟨#[]⟩, .int .i64 0, .int .i64 0, .bool false, .bool false] 50 ?_; intro g9 hg_ w2 hb_ hl_; have B2 := lh (Nab B1.out hl_); have G9 := lh (show w.heap.size ≤ g9 from hg_ ▸ B1.out.size); have J2 := lh hb_; clear hb_ hl_ hg_ B1)
  | ((with_reducible refine gate_ (.store 50 (.tmp 9) (.tmp 21)) rfl ?_); refine sE J2.out 50 (.tmp 9) (.tmp 21) 0 (.agg #[.int .i64 1, .int .i64 4, .int .i64 0, .int .i64 0, .string ⟨#[]⟩, .bool false, .int .i64 3, .int .i64 0, .string ⟨#[]⟩, .int .i64 0, .string ⟨#[]⟩, .int .i64 0, .int .i64 0, .bool false, .bool false, .string ⟨#[]⟩, .int .i64 0, .int .i64 0, .bool false, .bool false]) #[.int .i64 1, .int .i64 4, .int .i64 0, .int .i64 0, .string ⟨#[]⟩, .bool false, .int .i64 3, .int .i64 0, .string ⟨#[]⟩, .int .i64 0, .string ⟨#[]⟩, .int .i64 0, .int .i64 0, .bool false, .bool false, .string ⟨#[]⟩, .int .i64 0, .int .i64 0, .bool false, .bool false] ?_; intro w3 hb_ hp_; have B3 := lh (hp_.below w G9.out B2.out); have J3 := lh hb_; clear hb_ hp_ B2 J2))
 go_wp2_with (fail)
 go_loopw [11, 10] (fun v11 v10 w' => ∃ (i : Nat) (v : Value), i ≤ l.length ∧ v11 = .int .i64 i ∧ v10 = v ∧ Hid (Kd.R k50 50 w' w.heap.size (fun k => k ≠ g9) v ((l.take i).map (sh6 rows cols))) ∧ Hid (w'.heap[g9]? = some (.cells #[.int .i64 1, .int .i64 4, .int .i64 0, .int .i64 0, .string ⟨#[]⟩, .bool false, .int .i64 3, .int .i64 0, .string ⟨#[]⟩, .int .i64 0, .string ⟨#[]⟩, .int .i64 0, .int .i64 0, .bool false, .bool false, .string ⟨#[]⟩, .int .i64 0, .int .i64 0, .bool false, .bool false] 50 (0, 0))) ∧ Hid (Below w.heap.size w w')) (fun v11 v10 _ => l.length - (intOf v11).toNat)
 case atStart => exact ⟨0, _, Nat.zero_le _, rfl, rfl, lh (Kd.R_nil _ _ _ _ _), J3, B3⟩
 case round =>
  obtain ⟨i, v, hi, rfl, rfl, HO, HL9, HB⟩ := hrel
  by_cases hlt : i < l.length
  ·obtain ⟨ad, q1, rfl, hq1, hk1, hx0⟩ := Kd.C_get (Kd.C_below HC.out HB.out) z50 (i : Int) (by omega) (by omega)
   obtain rfl := Nek hk1
   obtain ⟨x, hx⟩ : ∃ x_ : S50, x_ = Ncw l (i : Int) := ⟨_, rfl⟩
   have EX := lh (show EL x (ad.add (i * 20)) wr from fun j v hv => by rw [add_add]; exact hx0 j v (by rw [hx] at hv; exact hv))
   have HN := lh (show (l.take (i + 1)).map (sh6 rows cols) = (l.take i).map (sh6 rows cols) ++ [sh6 rows cols x] by
    rw [List.take_succ_eq_append_getElem hlt, List.map_append, hx]
    congr 2
    unfold Ncw
    simp [List.getD, hlt])
   clear hx hk1 hx0 hq1
   have HI := lh (show i < l.length ∧ i ≤ 256 by have := HL.out; omega)
   have hw1 : wrap64 ((i : Int) + 1) = ((i + 1 : Nat) : Int) := by have := HI.out; unfold wrap64; omega
   obtain ⟨k0, ⟨vk, ⟨vn, vd⟩, vt, vb, ve⟩, op, nm, ar, ⟨s5, r5, c5, p5, q5⟩, ⟨s6, r6, c6, p6, q6⟩⟩ := x
   go_upto_region 12 with (first
    | ((with_reducible refine gD 31 rfl ?_); refine elE EX.out (.tmp 30) ?_)
    | ((with_reducible refine gD 12 rfl ?_); refine bX 12 #[.int .i64 0, .int .i64 0, .int .i64 0, .int .i64 0, .string ⟨#[]⟩, .bool false, .int .i64 0, .int .i64 0, .string ⟨#[]⟩, .int .i64 0, .string ⟨#[]⟩, .int .i64 0, .int .i64 0, .bool false, .bool false, .string ⟨#[]⟩, .int .i64 0, .int .i64 0, .bool false, .bool false] 50 ?_; intro g12 hg_ w4 hb_ hl_; have B4 := lh hl_; have G12 := lh (show wr.heap.size ≤ g12 from hg_ ▸ Nat.le_refl _); have J4 := lh hb_; clear hb_ hl_ hg_)
    | ((with_reducible refine gate_ (.store 50 (.tmp 12) (.tmp 31)) rfl ?_); refine sE J4.out 50 (.tmp 12) (.tmp 31) 0 (.agg #[.int .i64 k0, .int .i64 vk, .int .i64 vn, .int .i64 vd, .string vt, .bool vb, .int .i64 ve, .int .i64 op, .string nm, .int .i64 ar, .string s5, .int .i64 r5, .int .i64 c5, .bool p5, .bool q5, .string s6, .int .i64 r6, .int .i64 c6, .bool p6, .bool q6]) #[.int .i64 k0, .int .i64 vk, .int .i64 vn, .int .i64 vd, .string vt, .bool vb, .int .i64 ve, .int .i64 op, .string nm, .int .i64 ar, .string s5, .int .i64 r5, .int .i64 c5, .bool p5, .bool q5, .string s6, .int .i64 r6, .int .i64 c6, .bool p6, .bool q6] ?_; intro w5 hb_ hp_; have B5 := lh (hp_.below wr G12.out B4.out); have J5 := lh hb_; clear hb_ hp_ B4 J4))
   clear EX
   have f0 : w5.cell? ⟨g12, 0, none⟩ = some (.int .i64 k0) := (Naa J5.out 0).trans rfl
   obtain ⟨⟨⟨ms, mr, mc, mp, mq⟩, mo⟩, hm⟩ : ∃ q_, q_ = rfR rows cols ⟨s5, r5, c5, p5, q5⟩ := ⟨_, rfl⟩
   obtain ⟨⟨⟨ns, nr, nc, np, nq⟩, no⟩, hn⟩ : ∃ q_, q_ = rfR rows cols ⟨s6, r6, c6, p6, q6⟩ := ⟨_, rfl⟩
   have HV := lh (rf_calls rows cols ⟨s5, r5, c5, p5, q5⟩)
   have HV6 := lh (rf_calls rows cols ⟨s6, r6, c6, p6, q6⟩)
   rw [← hm] at HV
   rw [← hn] at HV6
   have HM5 := lh hm
   have HM6 := lh hn
   clear hm hn
   by_cases h2 : k0 = 2
   ·subst h2
    have hu : sh6 rows cols ⟨2, ⟨vk, ⟨vn, vd⟩, vt, vb, ve⟩, op, nm, ar, ⟨s5, r5, c5, p5, q5⟩, ⟨s6, r6, c6, p6, q6⟩⟩ = if mo = true then ⟨2, ⟨vk, ⟨vn, vd⟩, vt, vb, ve⟩, op, nm, ar, ⟨ms, mr, mc, mp, mq⟩, ⟨s6, r6, c6, p6, q6⟩⟩ else lostN := by unfold sh6; rw [if_pos rfl, ← HM5.out]
    go_upto_region 14 with (first
     | ((with_reducible refine gD 42 rfl ?_); refine Nbg rfl (t := 48) (p := .tmp 41) rfl (g := g12) (o' := 10) (e := 50) (cs := [.string s5, .int .i64 r5, .int .i64 c5, .bool p5, .bool q5]) ?ha J5.out ?hc hu48 rfl ?hi ?_; (case ha => rfl); (case hc => rfl); (case hi => kernel_rfl))
     | (go_at_call 63; (with_reducible refine (HV.out _).mono ?_); rintro en w6 ⟨rfl, hb⟩; have B6 := lh (Nab B5.out hb); have J6 := lh (Nac J5.out hb); clear hb B5 J5)
     | ((with_reducible refine gate_ (.store 48 (.tmp 48) (.tmp 46)) rfl ?_); refine sE J6.out 48 (.tmp 48) (.tmp 46) 10 (.agg #[.string ms, .int .i64 mr, .int .i64 mc, .bool mp, .bool mq]) #[.int .i64 2, .int .i64 vk, .int .i64 vn, .int .i64 vd, .string vt, .bool vb, .int .i64 ve, .int .i64 op, .string nm, .int .i64 ar, .string ms, .int .i64 mr, .int .i64 mc, .bool mp, .bool mq, .string s6, .int .i64 r6, .int .i64 c6, .bool p6, .bool q6] ?_; intro w7 hb_ hp_; have B7 := lh (hp_.below wr G12.out B6.out); have J7 := lh hb_; clear hb_ hp_ B6 J6))
    have f7 : w7.cell? ⟨g12, 0, none⟩ = some (.int .i64 2) := (Naa J7.out 0).trans rfl
    cases mo with
    | true =>
     have HS := lh hu
     clear hu
     go_wp2_with (first
      | ((with_reducible refine gD 69 rfl ?_); refine lA J7.out 50 (.tmp 12) hu50 ?_)
      | ((with_reducible refine gD 70 rfl ?_); refine lit1 70 ⟨2, ⟨vk, ⟨vn, vd⟩, vt, vb, ve⟩, op, nm, ar, ⟨ms, mr, mc, mp, mq⟩, ⟨s6, r6, c6, p6, q6⟩⟩ ?_; intro v20 w20 ho hb; have O20 := lh ho; have OX := lh (Kd.R_below (Kd.R_below HO.out B7.out) hb); have BL := lh (Nac (Nac HL9.out B7.out) hb); have B20 := lh (Nab (Nab HB.out B7.out) hb); obtain ⟨A20, c20, hv⟩ := Kd.R_slice ho; subst hv; have C20 := lh (Kd.R_reads' ho).2.2; clear ho hb O20)
      | ((with_reducible refine Ncf (b := .append) (xs := #[.tmp 68, .tmp 70]) rfl ?_); at_builtin; refine app1 (.tmp 68) (.tmp 70) g9 OX.out B20.out BL.out C20.out ?_ ?_; (case _ => rw [List.length_map, List.length_take]; have := HI.out; simp only [List.length_cons, List.length_nil]; omega); intro v21 w21 ho hb hbl; have O21 := lh ho; have B21 := lh hb; have L21 := lh hbl; clear ho hb hbl OX BL B20 C20))
     rw [hw1]
     clear hw1 hlt hi
     go_roundw
     case rel => exact ⟨i + 1, _, by have := HI.out; omega, rfl, rfl, lh (by rw [HN.out, HS.out, if_pos rfl]; exact O21.out), L21, B21⟩
     case measure => simp only [intOf]; have := HI.out; omega
    | false =>
     have HS := lh hu
     clear hu
     go_wp2_with (first
      | ((with_reducible refine gD 67 rfl ?_); refine lA (Nac HL9.out B7.out) 50 (.tmp 9) hu50 ?_)
      | ((with_reducible refine gate_ (.store 50 (.tmp 12) (.tmp 67)) rfl ?_); refine sE J7.out 50 (.tmp 12) (.tmp 67) 0 (.agg #[.int .i64 1, .int .i64 4, .int .i64 0, .int .i64 0, .string ⟨#[]⟩, .bool false, .int .i64 3, .int .i64 0, .string ⟨#[]⟩, .int .i64 0, .string ⟨#[]⟩, .int .i64 0, .int .i64 0, .bool false, .bool false, .string ⟨#[]⟩, .int .i64 0, .int .i64 0, .bool false, .bool false]) #[.int .i64 1, .int .i64 4, .int .i64 0, .int .i64 0, .string ⟨#[]⟩, .bool false, .int .i64 3, .int .i64 0, .string ⟨#[]⟩, .int .i64 0, .string ⟨#[]⟩, .int .i64 0, .int .i64 0, .bool false, .bool false, .string ⟨#[]⟩, .int .i64 0, .int .i64 0, .bool false, .bool false] ?_; intro w10 hb_ hp_; have B10 := lh (hp_.below wr G12.out B7.out); have J10 := lh hb_; clear hb_ hp_ B7 J7)
      | ((with_reducible refine gD 69 rfl ?_); refine lA J10.out 50 (.tmp 12) hu50 ?_)
      | ((with_reducible refine gD 70 rfl ?_); refine lit1 70 lostN ?_; intro v20 w20 ho hb; have O20 := lh ho; have OX := lh (Kd.R_below (Kd.R_below HO.out B10.out) hb); have BL := lh (Nac (Nac HL9.out B10.out) hb); have B20 := lh (Nab (Nab HB.out B10.out) hb); obtain ⟨A20, c20, hv⟩ := Kd.R_slice ho; subst hv; have C20 := lh (Kd.R_reads' ho).2.2; clear ho hb O20)
      | ((with_reducible refine Ncf (b := .append) (xs := #[.tmp 68, .tmp 70]) rfl ?_); at_builtin; refine app1 (.tmp 68) (.tmp 70) g9 OX.out B20.out BL.out C20.out ?_ ?_; (case _ => rw [List.length_map, List.length_take]; have := HI.out; simp only [List.length_cons, List.length_nil]; omega); intro v21 w21 ho hb hbl; have O21 := lh ho; have B21 := lh hb; have L21 := lh hbl; clear ho hb hbl OX BL B20 C20))
     rw [hw1]
     clear hw1 hlt hi
     go_roundw
     case rel => exact ⟨i + 1, _, by have := HI.out; omega, rfl, rfl, lh (by rw [HN.out, HS.out, if_neg (by decide)]; exact O21.out), L21, B21⟩
     case measure => simp only [intOf]; have := HI.out; omega
   by_cases h3 : k0 = 3
   ·subst h3
    have hu : sh6 rows cols ⟨3, ⟨vk, ⟨vn, vd⟩, vt, vb, ve⟩, op, nm, ar, ⟨s5, r5, c5, p5, q5⟩, ⟨s6, r6, c6, p6, q6⟩⟩ = if mo = true ∧ no = true then ⟨3, ⟨vk, ⟨vn, vd⟩, vt, vb, ve⟩, op, nm, ar, ⟨ms, mr, mc, mp, mq⟩, ⟨ns, nr, nc, np, nq⟩⟩ else lostN := by unfold sh6; rw [if_neg (by show ¬ (3 : Int) = 2; decide), if_pos rfl, ← HM5.out, ← HM6.out]
    clear h2
    go_upto_region 14 with (first
     | ((with_reducible refine gD 42 rfl ?_); refine Nbg rfl (t := 48) (p := .tmp 41) rfl (g := g12) (o' := 10) (e := 50) (cs := [.string s5, .int .i64 r5, .int .i64 c5, .bool p5, .bool q5]) ?ha J5.out ?hc hu48 rfl ?hi ?_; (case ha => rfl); (case hc => rfl); (case hi => kernel_rfl))
     | (go_at_call 63; (with_reducible refine (HV.out _).mono ?_); rintro en w6 ⟨rfl, hb⟩; have B6 := lh (Nab B5.out hb); have J6 := lh (Nac J5.out hb); clear hb B5 J5)
     | ((with_reducible refine gate_ (.store 48 (.tmp 48) (.tmp 46)) rfl ?_); refine sE J6.out 48 (.tmp 48) (.tmp 46) 10 (.agg #[.string ms, .int .i64 mr, .int .i64 mc, .bool mp, .bool mq]) #[.int .i64 3, .int .i64 vk, .int .i64 vn, .int .i64 vd, .string vt, .bool vb, .int .i64 ve, .int .i64 op, .string nm, .int .i64 ar, .string ms, .int .i64 mr, .int .i64 mc, .bool mp, .bool mq, .string s6, .int .i64 r6, .int .i64 c6, .bool p6, .bool q6] ?_; intro w7 hb_ hp_; have B7 := lh (hp_.below wr G12.out B6.out); have J7 := lh hb_; clear hb_ hp_ B6 J6))
    have f7 : w7.cell? ⟨g12, 0, none⟩ = some (.int .i64 3) := (Naa J7.out 0).trans rfl
    go_upto_region 16 with (first
     | ((with_reducible refine gD 54 rfl ?_); refine Nbg rfl (t := 48) (p := .tmp 53) rfl (g := g12) (o' := 15) (e := 50) (cs := [.string s6, .int .i64 r6, .int .i64 c6, .bool p6, .bool q6]) ?ha J7.out ?hc hu48 rfl ?hi ?_; (case ha => rfl); (case hc => rfl); (case hi => kernel_rfl))
     | (go_at_call 63; (with_reducible refine (HV6.out _).mono ?_); rintro en w8 ⟨rfl, hb⟩; have B8 := lh (Nab B7.out hb); have J8 := lh (Nac J7.out hb); clear hb B7 J7)
     | ((with_reducible refine gate_ (.store 48 (.tmp 60) (.tmp 58)) rfl ?_); refine sE J8.out 48 (.tmp 60) (.tmp 58) 15 (.agg #[.string ns, .int .i64 nr, .int .i64 nc, .bool np, .bool nq]) #[.int .i64 3, .int .i64 vk, .int .i64 vn, .int .i64 vd, .string vt, .bool vb, .int .i64 ve, .int .i64 op, .string nm, .int .i64 ar, .string ms, .int .i64 mr, .int .i64 mc, .bool mp, .bool mq, .string ns, .int .i64 nr, .int .i64 nc, .bool np, .bool nq] ?_; intro w9 hb_ hp_; have B9 := lh (hp_.below wr G12.out B8.out); have J9 := lh hb_; clear hb_ hp_ B8 J8))
    cases mo with
    | true =>
     cases no with
     | true =>
      have HS := lh hu
      clear hu
      go_wp2_with (first
       | ((with_reducible refine gD 69 rfl ?_); refine lA J9.out 50 (.tmp 12) hu50 ?_)
       | ((with_reducible refine gD 70 rfl ?_); refine lit1 70 ⟨3, ⟨vk, ⟨vn, vd⟩, vt, vb, ve⟩, op, nm, ar, ⟨ms, mr, mc, mp, mq⟩, ⟨ns, nr, nc, np, nq⟩⟩ ?_; intro v20 w20 ho hb; have O20 := lh ho; have OX := lh (Kd.R_below (Kd.R_below HO.out B9.out) hb); have BL := lh (Nac (Nac HL9.out B9.out) hb); have B20 := lh (Nab (Nab HB.out B9.out) hb); obtain ⟨A20, c20, hv⟩ := Kd.R_slice ho; subst hv; have C20 := lh (Kd.R_reads' ho).2.2; clear ho hb O20)
       | ((with_reducible refine Ncf (b := .append) (xs := #[.tmp 68, .tmp 70]) rfl ?_); at_builtin; refine app1 (.tmp 68) (.tmp 70) g9 OX.out B20.out BL.out C20.out ?_ ?_; (case _ => rw [List.length_map, List.length_take]; have := HI.out; simp only [List.length_cons, List.length_nil]; omega); intro v21 w21 ho hb hbl; have O21 := lh ho; have B21 := lh hb; have L21 := lh hbl; clear ho hb hbl OX BL B20 C20))
      rw [hw1]
      clear hw1 hlt hi
      go_roundw
      case rel => exact ⟨i + 1, _, by have := HI.out; omega, rfl, rfl, lh (by rw [HN.out, HS.out, if_pos ⟨rfl, rfl⟩]; exact O21.out), L21, B21⟩
      case measure => simp only [intOf]; have := HI.out; omega
     | false =>
      have HS := lh hu
      clear hu
      go_wp2_with (first
       | ((with_reducible refine gD 67 rfl ?_); refine lA (Nac HL9.out B9.out) 50 (.tmp 9) hu50 ?_)
       | ((with_reducible refine gate_ (.store 50 (.tmp 12) (.tmp 67)) rfl ?_); refine sE J9.out 50 (.tmp 12) (.tmp 67) 0 (.agg #[.int .i64 1, .int .i64 4, .int .i64 0, .int .i64 0, .string ⟨#[]⟩, .bool false, .int .i64 3, .int .i64 0, .string ⟨#[]⟩, .int .i64 0, .string ⟨#[]⟩, .int .i64 0, .int .i64 0, .bool false, .bool false, .string ⟨#[]⟩, .int .i64 0, .int .i64 0, .bool false, .bool false]) #[.int .i64 1, .int .i64 4, .int .i64 0, .int .i64 0, .string ⟨#[]⟩, .bool false, .int .i64 3, .int .i64 0, .string ⟨#[]⟩, .int .i64 0, .string ⟨#[]⟩, .int .i64 0, .int .i64 0, .bool false, .bool false, .string ⟨#[]⟩, .int .i64 0, .int .i64 0, .bool false, .bool false] ?_; intro w10 hb_ hp_; have B10 := lh (hp_.below wr G12.out B9.out); have J10 := lh hb_; clear hb_ hp_ B9 J9)
       | ((with_reducible refine gD 69 rfl ?_); refine lA J10.out 50 (.tmp 12) hu50 ?_)
       | ((with_reducible refine gD 70 rfl ?_); refine lit1 70 lostN ?_; intro v20 w20 ho hb; have O20 := lh ho; have OX := lh (Kd.R_below (Kd.R_below HO.out B10.out) hb); have BL := lh (Nac (Nac HL9.out B10.out) hb); have B20 := lh (Nab (Nab HB.out B10.out) hb); obtain ⟨A20, c20, hv⟩ := Kd.R_slice ho; subst hv; have C20 := lh (Kd.R_reads' ho).2.2; clear ho hb O20)
       | ((with_reducible refine Ncf (b := .append) (xs := #[.tmp 68, .tmp 70]) rfl ?_); at_builtin; refine app1 (.tmp 68) (.tmp 70) g9 OX.out B20.out BL.out C20.out ?_ ?_; (case _ => rw [List.length_map, List.length_take]; have := HI.out; simp only [List.length_cons, List.length_nil]; omega); intro v21 w21 ho hb hbl; have O21 := lh ho; have B21 := lh hb; have L21 := lh hbl; clear ho hb hbl OX BL B20 C20))
      rw [hw1]
      clear hw1 hlt hi
      go_roundw
      case rel => exact ⟨i + 1, _, by have := HI.out; omega, rfl, rfl, lh (by rw [HN.out, HS.out, if_neg (fun h => by cases h.2)]; exact O21.out), L21, B21⟩
      case measure => simp only [intOf]; have := HI.out; omega
    | false =>
     have HS := lh (hu.trans (if_neg (fun h => by cases h.1)))
     clear hu
     go_wp2_with (first
      | ((with_reducible refine gD 67 rfl ?_); refine lA (Nac HL9.out B9.out) 50 (.tmp 9) hu50 ?_)
      | ((with_reducible refine gate_ (.store 50 (.tmp 12) (.tmp 67)) rfl ?_); refine sE J9.out 50 (.tmp 12) (.tmp 67) 0 (.agg #[.int .i64 1, .int .i64 4, .int .i64 0, .int .i64 0, .string ⟨#[]⟩, .bool false, .int .i64 3, .int .i64 0, .string ⟨#[]⟩, .int .i64 0, .string ⟨#[]⟩, .int .i64 0, .int .i64 0, .bool false, .bool false, .string ⟨#[]⟩, .int .i64 0, .int .i64 0, .bool false, .bool false]) #[.int .i64 1, .int .i64 4, .int .i64 0, .int .i64 0, .string ⟨#[]⟩, .bool false, .int .i64 3, .int .i64 0, .string ⟨#[]⟩, .int .i64 0, .string ⟨#[]⟩, .int .i64 0, .int .i64 0, .bool false, .bool false, .string ⟨#[]⟩, .int .i64 0, .int .i64 0, .bool false, .bool false] ?_; intro w10 hb_ hp_; have B10 := lh (hp_.below wr G12.out B9.out); have J10 := lh hb_; clear hb_ hp_ B9 J9)
      | ((with_reducible refine gD 69 rfl ?_); refine lA J10.out 50 (.tmp 12) hu50 ?_)
      | ((with_reducible refine gD 70 rfl ?_); refine lit1 70 lostN ?_; intro v20 w20 ho hb; have O20 := lh ho; have OX := lh (Kd.R_below (Kd.R_below HO.out B10.out) hb); have BL := lh (Nac (Nac HL9.out B10.out) hb); have B20 := lh (Nab (Nab HB.out B10.out) hb); obtain ⟨A20, c20, hv⟩ := Kd.R_slice ho; subst hv; have C20 := lh (Kd.R_reads' ho).2.2; clear ho hb O20)
      | ((with_reducible refine Ncf (b := .append) (xs := #[.tmp 68, .tmp 70]) rfl ?_); at_builtin; refine app1 (.tmp 68) (.tmp 70) g9 OX.out B20.out BL.out C20.out ?_ ?_; (case _ => rw [List.length_map, List.length_take]; have := HI.out; simp only [List.length_cons, List.length_nil]; omega); intro v21 w21 ho hb hbl; have O21 := lh ho; have B21 := lh hb; have L21 := lh hbl; clear ho hb hbl OX BL B20 C20))
     rw [hw1]
     clear hw1 hlt hi
     go_roundw
     case rel => exact ⟨i + 1, _, by have := HI.out; omega, rfl, rfl, lh (by rw [HN.out, HS.out]; exact O21.out), L21, B21⟩
     case measure => simp only [intOf]; have := HI.out; omega
   have b2 : (k0 == 2) = false := beq_eq_false_iff_ne.mpr h2
   have b3 : (k0 == 3) = false := beq_eq_false_iff_ne.mpr h3
   have HS := lh (show sh6 rows cols ⟨k0, ⟨vk, ⟨vn, vd⟩, vt, vb, ve⟩, op, nm, ar, ⟨s5, r5, c5, p5, q5⟩, ⟨s6, r6, c6, p6, q6⟩⟩ = ⟨k0, ⟨vk, ⟨vn, vd⟩, vt, vb, ve⟩, op, nm, ar, ⟨s5, r5, c5, p5, q5⟩, ⟨s6, r6, c6, p6, q6⟩⟩ by unfold sh6; rw [if_neg h2, if_neg h3])
   clear h2 h3 HV HV6 HM5 HM6
   go_wp2_with (first
    | ((with_reducible refine gD 69 rfl ?_); refine lA J5.out 50 (.tmp 12) hu50 ?_)
    | ((with_reducible refine gD 70 rfl ?_); refine lit1 70 ⟨k0, ⟨vk, ⟨vn, vd⟩, vt, vb, ve⟩, op, nm, ar, ⟨s5, r5, c5, p5, q5⟩, ⟨s6, r6, c6, p6, q6⟩⟩ ?_; intro v20 w20 ho hb; have O20 := lh ho; have OX := lh (Kd.R_below (Kd.R_below HO.out B5.out) hb); have BL := lh (Nac (Nac HL9.out B5.out) hb); have B20 := lh (Nab (Nab HB.out B5.out) hb); obtain ⟨A20, c20, hv⟩ := Kd.R_slice ho; subst hv; have C20 := lh (Kd.R_reads' ho).2.2; clear ho hb O20)
    | ((with_reducible refine Ncf (b := .append) (xs := #[.tmp 68, .tmp 70]) rfl ?_); at_builtin; refine app1 (.tmp 68) (.tmp 70) g9 OX.out B20.out BL.out C20.out ?_ ?_; (case _ => rw [List.length_map, List.length_take]; have := HI.out; simp only [List.length_cons, List.length_nil]; omega); intro v21 w21 ho hb hbl; have O21 := lh ho; have B21 := lh hb; have L21 := lh hbl; clear ho hb hbl OX BL B20 C20))
   rw [hw1]
   clear hw1 hlt hi
   go_roundw
   case rel => exact ⟨i + 1, _, by have := HI.out; omega, rfl, rfl, lh (by rw [HN.out, HS.out]; exact O21.out), L21, B21⟩
   case measure => simp only [intOf]; have := HI.out; omega
  ·obtain rfl : i = l.length := by omega
   have HR := lh (R_true HO.out)
   rw [List.take_length] at HR
   clear hlt hi
   go_wp2_with (fail)
   go_ret2
   exact ⟨_, rfl, HR.out, HB.out⟩
theorem fur_in {n y most : Int} (h0 : 0 ≤ n) (h1 : n < most) (hm : most ≤ 65536) (hy : -9223372036854775808 ≤ y ∧ y ≤ 9223372036854775807) (fx : Bool) : furF n y fx most = if 0 ≤ n + (if fx = true then 0 else y) ∧ n + (if fx = true then 0 else y) < most then (n + (if fx = true then 0 else y), true) else (0, false) := by
 unfold furF
 cases fx with
 | true => rw [if_pos rfl, if_pos rfl, if_pos (by omega), Int.add_zero]
 | false =>
  simp only [Bool.false_eq_true, if_false]
  rw [show wrap64 (-n) = -n by unfold wrap64; omega, show wrap64 (most - n) = most - n by unfold wrap64; omega]
  by_cases h2 : y < -n
  ·rw [if_pos h2, if_neg (by omega)]
  rw [if_neg h2]
  by_cases h3 : y ≥ most - n
  ·rw [if_pos h3, if_neg (by omega)]
  rw [if_neg h3, if_pos (by omega), show wrap64 (n + y) = n + y by unfold wrap64; omega]
theorem rf_mv {r : S48} (h : refR r = true) {x y : Int} (hx : -9223372036854775808 ≤ x ∧ x ≤ 9223372036854775807) (hy : -9223372036854775808 ≤ y ∧ y ≤ 9223372036854775807) : (rfR x y r).2 = (mvR x y r).2 ∧ ((rfR x y r).2 = true → (rfR x y r).1 = (mvR x y r).1) := by
 have hr : inR r.f1 r.f2 := by
  unfold refR refB at h
  simp only [Bool.and_eq_true, decide_eq_true_eq] at h
  exact h.2
 rw [mv_any h]
 unfold rfR
 rw [fur_in hr.1 hr.2.1 (by omega) hx, fur_in hr.2.2.1 hr.2.2.2 (by omega) hy]
 generalize r.f1 + (if r.f3 = true then 0 else x) = P
 generalize r.f2 + (if r.f4 = true then 0 else y) = Q
 by_cases h1 : 0 ≤ P ∧ P < 65536 <;> by_cases h2 : 0 ≤ Q ∧ Q < 256
 ·rw [if_pos h1, if_pos h2, if_pos (show inR P Q from ⟨h1.1, h1.2, h2.1, h2.2⟩)]
  exact ⟨rfl, fun _ => rfl⟩
 ·rw [if_pos h1, if_neg h2, if_neg (fun h : inR P Q => h2 ⟨h.2.2.1, h.2.2.2⟩)]
  exact ⟨rfl, fun h => by cases h⟩
 ·rw [if_neg h1, if_pos h2, if_neg (fun h : inR P Q => h1 ⟨h.1, h.2.1⟩)]
  exact ⟨rfl, fun h => by cases h⟩
 ·rw [if_neg h1, if_neg h2, if_neg (fun h : inR P Q => h1 ⟨h.1, h.2.1⟩)]
  exact ⟨rfl, fun h => by cases h⟩
theorem sh6_shN {n : S50} (h : 0 ≤ Naq n) {x y : Int} (hx : -9223372036854775808 ≤ x ∧ x ≤ 9223372036854775807) (hy : -9223372036854775808 ≤ y ∧ y ≤ 9223372036854775807) : sh6 x y n = shN x y n := by
 unfold sh6 shN
 by_cases h2 : n.f0 = 2
 ·have hr := (shape2 h h2).2.1
  obtain ⟨e1, e2⟩ := rf_mv hr hx hy
  rw [if_pos h2, if_pos h2]
  by_cases hk : (rfR x y n.f5).2 = true
  ·rw [if_pos hk, if_pos (e1 ▸ hk), e2 hk]
  ·rw [if_neg hk, if_neg (e1 ▸ hk)]
 rw [if_neg h2, if_neg h2]
 by_cases h3 : n.f0 = 3
 ·obtain ⟨-, hr, hs, -, -⟩ := shape3 h h3
  obtain ⟨e1, e2⟩ := rf_mv hr hx hy
  obtain ⟨e3, e4⟩ := rf_mv hs hx hy
  rw [if_pos h3, if_pos h3]
  by_cases hk : (rfR x y n.f5).2 = true ∧ (rfR x y n.f6).2 = true
  ·rw [if_pos hk, if_pos ⟨e1 ▸ hk.1, e3 ▸ hk.2⟩, e2 hk.1, e4 hk.2]
  ·rw [if_neg hk, if_neg (fun h => hk ⟨e1 ▸ h.1, e3 ▸ h.2⟩)]
 ·rw [if_neg h3, if_neg h3]
theorem sh6_all {l : List S50} (hk : chk l = 0) {x y : Int} (hx : -9223372036854775808 ≤ x ∧ x ≤ 9223372036854775807) (hy : -9223372036854775808 ≤ y ∧ y ≤ 9223372036854775807) : l.map (sh6 x y) = l.map (shN x y) := by
 obtain ⟨d, hd, -, -⟩ := Nep (l := l) (K := 600) (by rw [chk_f, hk])
 exact List.map_congr_left fun n hn => sh6_shN (hd.good n hn) hx hy
instance (l : List S50) : Decidable (Sz l) := by unfold Sz; infer_instance
theorem shift6_bad (A : Option Addr) (c : Nat) (l : List S50) (rows cols : Int) (w : World) (hC : Kd.C k50 w A l.length l) (hle : l.length ≤ c) (hs : Sz l) (hk : chk l ≠ 0) :
 Calls Tryz.prog 38 #[.slice A l.length c, .int .i64 rows, .int .i64 cols] w fun e w' => e = .returned (.tuple #[.slice none 0 0, .int .i64 (chk l)]) ∧ Below w.heap.size w w' := by
 have HCH := lh (Nav.calls 600 A c l (chk l) w hC hle (ref5_check hs 0))
 have b1 : (chk l != 0) = true := bne_iff_ne.mpr hk
 clear hC hle hk hs
 generalize chk l = e0 at HCH b1 ⊢
 go_enter Tryz.func38, Tryz.ntmps38
 go_wp2_with (go_at_call 29; (with_reducible refine (HCH.out).mono ?_); rintro en w1 ⟨rfl, hb⟩; have HB1 := lh hb; clear hb HCH)
 go_ret2
 exact ⟨rfl, HB1.out⟩
def Nb8.f (l0 : List S50) (a1 a2 : Int) : Option (List S50 × Int) := if Sz l0 then some (if chk l0 = 0 then (l0.map (sh6 a1 a2), 0) else ([], chk l0)) else none
theorem Nb8.calls (A0 : Option Addr) (c0 : Nat) (l0 : List (S50)) (a1 : Int) (a2 : Int) (r1 : List (S50)) (r2 : Int) (w : World) (hr0 : Kd.C k50 w A0 l0.length l0) (hc0 : l0.length ≤ c0) (h : Nb8.f l0 a1 a2 = some (r1, r2)) :
 Calls Tryz.prog 38 #[.slice A0 l0.length c0, .int .i64 a1, .int .i64 a2] w fun e w' => ∃ v0_ : Value, e = .returned (.tuple #[v0_, .int .i64 r2]) ∧ Kd.R k50 50 w' w.heap.size (fun _ => True) v0_ r1 ∧ Below w.heap.size w w' := by
 unfold Nb8.f at h
 by_cases hs : Sz l0
 ·rw [if_pos hs] at h
  have e := sI h
  by_cases hk : chk l0 = 0
  ·rw [if_pos hk] at e
   obtain ⟨rfl, rfl⟩ := Prod.mk.inj e
   exact shift6_ok A0 c0 l0 a1 a2 w hr0 hc0 hs hk
  ·rw [if_neg hk] at e
   obtain ⟨rfl, rfl⟩ := Prod.mk.inj e
   exact (shift6_bad A0 c0 l0 a1 a2 w hr0 hc0 hs hk).mono fun e w' ⟨h1, h2⟩ => ⟨_, h1, Kd.R_nil _ _ _ _ _, h2⟩
 ·rw [if_neg hs] at h
  cases h
end Go.Proofs.YtejbbceidnaloaaGreatDoor.P
