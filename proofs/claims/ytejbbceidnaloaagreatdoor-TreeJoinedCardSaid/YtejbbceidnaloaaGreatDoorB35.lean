import Derived.Test.YtejbbceidnaloaaGreatDoorB34
import Derived.Laws.AppendOwn
import Derived.Laws.CopyRow
set_option linter.unusedVariables false
set_option linter.unusedSimpArgs false
set_option maxRecDepth 100000
set_option maxHeartbeats 8000000
namespace Go.Proofs.YtejbbceidnaloaaGreatDoor.P
open Go.RowKit AW AL AM
def opI (i : Nat) : Int := [11, 12, 13, 14, 15, 16, 21, 22, 23, 24, 25, 26].getD i 0
theorem opI_ok : ∀ i < 12, opOf (signB (opI i)) = opI i ∧ opI i ≠ 0 ∧ ((11 ≤ opI i ∧ opI i ≤ 16) ∨ (21 ≤ opI i ∧ opI i ≤ 26)) := by decide
def wcs : Array Value := #[.string ⟨#[43]⟩, .string ⟨#[45]⟩, .string ⟨#[42]⟩, .string ⟨#[47]⟩, .string ⟨#[94]⟩, .string ⟨#[38]⟩, .string ⟨#[61]⟩, .string ⟨#[60, 62]⟩, .string ⟨#[60]⟩, .string ⟨#[60, 61]⟩, .string ⟨#[62]⟩, .string ⟨#[62, 61]⟩]
def ocs : Array Value := #[.int .i64 11, .int .i64 12, .int .i64 13, .int .i64 14, .int .i64 15, .int .i64 16, .int .i64 21, .int .i64 22, .int .i64 23, .int .i64 24, .int .i64 25, .int .i64 26]
theorem ocs_at {i : Nat} (h : i < 12) : ocs[i]? = some (.int .i64 (opI i)) := by
 obtain rfl | rfl | rfl | rfl | rfl | rfl | rfl | rfl | rfl | rfl | rfl | rfl : i = 0 ∨ i = 1 ∨ i = 2 ∨ i = 3 ∨ i = 4 ∨ i = 5 ∨ i = 6 ∨ i = 7 ∨ i = 8 ∨ i = 9 ∨ i = 10 ∨ i = 11 := by omega
 all_goals rfl
theorem wcs_at {i : Nat} (h : i < 12) : wcs[i]? = some (.string (signB (opI i))) := by
 obtain rfl | rfl | rfl | rfl | rfl | rfl | rfl | rfl | rfl | rfl | rfl | rfl : i = 0 ∨ i = 1 ∨ i = 2 ∨ i = 3 ∨ i = 4 ∨ i = 5 ∨ i = 6 ∨ i = 7 ∨ i = 8 ∨ i = 9 ∨ i = 10 ∨ i = 11 := by omega
 all_goals rfl
theorem sg_size {i : Nat} (h : i < 12) : (signB (opI i)).size ≤ 2 := by
 obtain rfl | rfl | rfl | rfl | rfl | rfl | rfl | rfl | rfl | rfl | rfl | rfl : i = 0 ∨ i = 1 ∨ i = 2 ∨ i = 3 ∨ i = 4 ∨ i = 5 ∨ i = 6 ∨ i = 7 ∨ i = 8 ∨ i = 9 ∨ i = 10 ∨ i = 11 := by omega
 all_goals decide
theorem litS {ops : Array Oper} {rest : List Oper} {o : Oper} {a : Act} {Q : Exit → Act → World → Prop} {W : World} (N : Tmp) (cs : Array Value) (t : TypeId) (n : Nat) (h : ∀ g, g = W.heap.size → ∀ w1, w1.heap[g]? = some (.cells cs t (0, 0)) → Below W.heap.size W w1 → wpList Tryz.prog ops Q rest (a.put o.dst (.slice (some ⟨g, 0, none⟩) n n)) w1) (hd : o.dst = some N := by exact rfl) (hg : o.guard = none := by exact rfl)
 (hr : (execOp a.eval o).run Tryz.prog W = .ok (.value (.slice (some ⟨W.heap.size, 0, none⟩) n n)) (W.alloc (.cells cs t (0, 0))) := by go_simp <;> rfl) : wpList Tryz.prog ops Q (o :: rest) a W := by
 refine wpList_plain hg fun K hK => ?_
 unfold Oper.wp
 rw [hr]
 exact hK _ _ (h _ rfl _ (by simpa using heap_alloc_new W _) (Nae (Below.refl _ _) _))
theorem litN {ops : Array Oper} {rest : List Oper} {o : Oper} {a : Act} {Q : Exit → Act → World → Prop} {W : World} (N : Tmp) (x : S50)
 (h : ∀ v1 w1, Kd.R k50 50 w1 W.heap.size (fun _ => True) v1 [x] → Below W.heap.size W w1 → wpList Tryz.prog ops Q rest (a.put o.dst v1) w1) (hd : o.dst = some N := by exact rfl) (hg : o.guard = none := by exact rfl)
 (hr : (execOp a.eval o).run Tryz.prog W = .ok (.value (.slice (some ⟨W.heap.size, 0, none⟩) [x].length [x].length)) (W.alloc (.cells (cs50 x).toArray 50)) := by go_simp <;> rfl) : wpList Tryz.prog ops Q (o :: rest) a W :=
 Kd.R_lit k50 _ 50 hg hd (xs := [x]) (inner := cs50 x) (ok := fun _ => True) (okp := fun _ => True) hr (Reps.front (show Kd.M k50 _ _ _ x (cs50 x) from k50_mkM _ _ _ x) rfl (Reps.none _ _) rfl) (fun _ hk => hk) trivial (Below.refl _ _) (Nat.le_refl _) (by simp) fun v1 w1 h1 h2 _ _ => h v1 w1 h1 h2
theorem appR {ops : Array Oper} {rest : List Oper} {o : Oper} {a : Act} {Q : Exit → Act → World → Prop} {W0 W : World} (s x : Operand) {v : Value} {l r : List S50} {A : Option Addr} {n c : Nat}
 (HO : Kd.R k50 50 W W0.heap.size (fun _ => True) v l) (HB : Below W0.heap.size W0 W) (HR : Kd.C k50 W A n r) (hn : l.length + n ≤ 2000)
 (h : ∀ v1 w1, Kd.R k50 50 w1 W0.heap.size (fun _ => True) v1 (l ++ r) → Below W0.heap.size W0 w1 → wpList Tryz.prog ops Q rest (a.put o.dst v1) w1) (hs : a.eval s = v := by exact rfl) (hx : a.eval x = .slice A n c := by exact rfl)
 (ho : o.op = .call { callee := .builtin .append, args := #[s, x], argTypes := #[22, 22] } := by exact rfl) (hgd : o.guard = none := by exact rfl) : wpList Tryz.prog ops Q (o :: rest) a W :=
 Kd.R_append_rows k50 (w0 := W0) W0.heap.size hgd s x 22 50 (.agg #[(.int .i64 0), (.int .i64 0), (.int .i64 0), (.int .i64 0), (.string ⟨#[]⟩), (.bool false), (.int .i64 0), (.int .i64 0), (.string ⟨#[]⟩), (.int .i64 0), (.string ⟨#[]⟩), (.int .i64 0), (.int .i64 0), (.bool false), (.bool false), (.string ⟨#[]⟩), (.int .i64 0), (.int .i64 0), (.bool false), (.bool false)]) 176 ho Tryz.underlying22 info50 rfl (by decide) (by omega) v l r A n c (fun _ => True) (fun _ => False) hs hx HO HR (fun _ _ h => h) (fun _ h => h.elim) (fun _ _ => trivial) HB HB.size (by omega) (fun v1 w1 h1 h2 _ _ => h v1 w1 h1 h2)
theorem parts_op : ∀ i < 12, Nbi (nBin (opI i)) = 2 := fun i h => by
 obtain rfl | rfl | rfl | rfl | rfl | rfl | rfl | rfl | rfl | rfl | rfl | rfl : i = 0 ∨ i = 1 ∨ i = 2 ∨ i = 3 ∨ i = 4 ∨ i = 5 ∨ i = 6 ∨ i = 7 ∨ i = 8 ∨ i = 9 ∨ i = 10 ∨ i = 11 := by omega
 all_goals kernel_rfl
theorem parts_fn : Nbi (nCall tFN 2) = 2 := by kernel_rfl
def cJ (n d1 d2 : Nat) : Int := if 256 < n + 1 then 52 else if max d1 d2 ≤ 31 then 0 else 51
theorem joined_f {s t : ByteArray} {l m : List S50} {ts1 ts2 : List S39} {i d1 d2 : Nat} (hi : i < 12) (hz : s.size + t.size ≤ 1000) (s1 : scanL s.data.toList.length 0 s.data.toList = .ok ts1) (x1 : Ncw ts1 (s.data.toList.length : Int) = .ok l) (s2 : scanL t.data.toList.length 0 t.data.toList = .ok ts2) (x2 : Ncw ts2 (t.data.toList.length : Int) = .ok m) (t1 : Tre l d1) (t2 : Tre m d2) :
 Naz.f ((((((⟨#[40]⟩ ++ s) ++ ⟨#[41]⟩) ++ signB (opI i)) ++ ⟨#[40]⟩) ++ t) ++ ⟨#[41]⟩) = some (if cJ (l.length + m.length) d1 d2 = 0 then nBin (opI i) :: (l ++ m) else [], cJ (l.length + m.length) d1 d2, 0) ∧
 Naz.f ((((⟨#[70, 78, 40]⟩ ++ s) ++ ⟨#[44]⟩) ++ t) ++ ⟨#[41]⟩) = some (if cJ (l.length + m.length) d1 d2 = 0 then nCall tFN 2 :: (l ++ m) else [], cJ (l.length + m.length) d1 d2, 0) := by
 have hsz : s.data.toList.length = s.size := Array.length_toList
 have htz : t.data.toList.length = t.size := Array.length_toList
 have hop := sg_size hi
 have hoz : (signB (opI i)).data.toList.length = (signB (opI i)).size := Array.length_toList
 obtain ⟨o1, o2, -⟩ := opI_ok i hi
 have hc1 : ∀ n, Nbi n = 2 → chk (n :: (l ++ m)) = cJ (l.length + m.length) d1 d2 := fun n hn => by
  rw [chk_join hn t1 t2]; unfold cJ; simp only [List.length_cons, List.length_append]
 obtain ⟨T1, a1, b1⟩ := scan_join (o := opI i) s1 s2
 obtain ⟨T2, a2, b2⟩ := scan_call s1 s2
 have r1 := parse_of (s := joinT (opI i) s.data.toList t.data.toList) (by unfold joinT; simp only [List.length_append, List.length_cons, List.length_nil]; omega) a1 (fun e => join_op x1 x2 o1 o2 b1)
 have r2 := parse_of (s := callT s.data.toList t.data.toList) (by unfold callT; simp only [List.length_append, List.length_cons, List.length_nil]; omega) a2 (fun e => join_fn x1 x2 b2)
 rw [hc1 _ (parts_op i hi)] at r1
 rw [hc1 _ parts_fn] at r2
 have q1 : ((((((⟨#[40]⟩ ++ s) ++ ⟨#[41]⟩) ++ signB (opI i)) ++ ⟨#[40]⟩) ++ t) ++ ⟨#[41]⟩ : ByteArray).data.toList = joinT (opI i) s.data.toList t.data.toList := by
  unfold joinT
  simp only [ByteArray.data_append, Array.toList_append, List.append_assoc]
 have q2 : ((((⟨#[70, 78, 40]⟩ ++ s) ++ ⟨#[44]⟩) ++ t) ++ ⟨#[41]⟩ : ByteArray).data.toList = callT s.data.toList t.data.toList := by
  unfold callT
  simp only [ByteArray.data_append, Array.toList_append, List.append_assoc]
  rfl
 unfold Naz.f
 rw [q1, q2, r1, r2]
 by_cases h : cJ (l.length + m.length) d1 d2 = 0
 ·rw [if_pos h, if_pos h, if_pos h, if_pos h, h]; exact ⟨rfl, rfl⟩
 ·rw [if_neg h, if_neg h, if_neg h, if_neg h]; exact ⟨rfl, rfl⟩
theorem joined_calls (W : World) (s t : ByteArray) (a : Int) (ha : -9223372036854775808 ≤ a ∧ a ≤ 9223372036854775807) (hG : GL W) : Calls Tryz.prog 10 #[.string s, .string t, .int .i64 a] W fun e w' => e = .returned (.bool true) ∧ Below W.heap.size W w' := by
 obtain ⟨l, e0, p0, hpf⟩ : ∃ l e p, Naz.f s = some (l, e, p) := ⟨_, _, _, rfl⟩
 obtain ⟨m, f0, q0, hpg⟩ : ∃ l e p, Naz.f t = some (l, e, p) := ⟨_, _, _, rfl⟩
 have HG := lh hG
 have HA := lh ha
 have HP := lh (fun w hg => Naz.calls s l e0 p0 w hg hpf)
 have HQ := lh (fun w hg => Naz.calls t m f0 q0 w hg hpg)
 have HPF := lh hpf
 have HPG := lh hpg
 clear hG ha hpf hpg
 go_enter Tryz.func10, Tryz.ntmps10
 go_upto_region 4 with (first
  | (go_at_call 23; (with_reducible refine (able5_g.calls true _ HG.out rfl).mono ?_); rintro en w1 ⟨rfl, hb⟩; have B1 := lh hb; have G1 := lh (GL.below HG.out hb); clear hb HG)
  | (go_at_call 21; (with_reducible refine (HP.out _ G1.out).mono ?_); rintro en w2 ⟨v2, rfl, ho, hb⟩; obtain ⟨A2, c2, hv⟩ := Kd.R_slice ho; subst hv; have rd := Kd.R_reads' ho; have C2 := lh rd.2.2; have L2 := lh rd.2.1; have B2 := lh (Nac B1.out hb); have G2 := lh (GL.below G1.out hb); clear hb ho rd B1 G1))
 go_upto_region 5 with ((go_at_call 21; (with_reducible refine (HQ.out _ G2.out).mono ?_); rintro en w3 ⟨v3, rfl, ho, hb⟩; obtain ⟨A3, c3, hv⟩ := Kd.R_slice ho; subst hv; have rd := Kd.R_reads' ho; have C3 := lh rd.2.2; have L3 := lh rd.2.1; have D2 := lh (Kd.C_below C2.out hb); have B3 := lh (Nac B2.out hb); have G3 := lh (GL.below G2.out hb); clear hb ho rd B2 G2 HP HQ C2))
 by_cases he : e0 = 0
 case neg =>
  have k1 : (e0 != 0) = true := bne_iff_ne.2 he
  go_wp2_with (fail)
  go_ret
  exact ⟨rfl, B3.out⟩
 by_cases hf : f0 = 0
 case neg =>
  have k1 : (e0 != 0) = false := bne_eq_false_iff_eq.2 he
  have k2 : (f0 != 0) = true := bne_iff_ne.2 hf
  go_wp2_with (fail)
  go_ret
  exact ⟨rfl, B3.out⟩
 subst he
 subst hf
 obtain ⟨ts1, s1, x1, ch1, z1⟩ := parse_inv (s := s.data.toList) (by have := HPF.out; unfold Naz.f at this; rw [sI this])
 obtain ⟨ts2, s2, x2, ch2, z2⟩ := parse_inv (s := t.data.toList) (by have := HPG.out; unfold Naz.f at this; rw [sI this])
 have el : (Nd6 s.data.toList).1 = l := by have := HPF.out; unfold Naz.f at this; rw [sI this]
 have em : (Nd6 t.data.toList).1 = m := by have := HPG.out; unfold Naz.f at this; rw [sI this]
 rw [el] at x1 ch1
 rw [em] at x2 ch2
 have hsz : s.size ≤ 1024 := by have : s.data.toList.length = s.size := Array.length_toList; omega
 have htz : t.size ≤ 1024 := by have : t.data.toList.length = t.size := Array.length_toList; omega
 clear el em HPF HPG z1 z2
 by_cases hz : s.size + t.size ≤ 1000
 case neg =>
  have k3 : decide (1000 < (s.size : Int) + (t.size : Int)) = true := decide_eq_true (by omega)
  have k4 : decide (1000 < s.size + t.size) = true := decide_eq_true (by omega)
  go_wp2_with (fail)
  go_ret
  exact ⟨rfl, B3.out⟩
 have k3 : decide (1000 < (s.size : Int) + (t.size : Int)) = false := decide_eq_false (by omega)
 have k4 : decide (1000 < s.size + t.size) = false := decide_eq_false (by omega)
 have HX := lh (And.intro s1 (And.intro x1 (And.intro s2 x2)))
 have HC := lh (And.intro ch1 ch2)
 clear s1 x1 s2 x2 ch1 ch2
 go_upto_region 9 with (first
  | ((with_reducible refine gD 52 rfl ?_); refine litS 52 ocs 3 12 ?_; intro g1 hg w4 hb hl; have O1 := lh hb; have B4 := lh (Nac B3.out hl); have D4 := lh hl; clear hb hl hg)
  | ((with_reducible refine gD 53 rfl ?_); refine litS 53 wcs 9 12 ?_; intro g2 hg w5 hb hl; have O2 := lh hb; have P1 := lh (Nad O1.out hl); have B5 := lh (Nac B4.out hl); have D5 := lh (Nac D4.out hl); clear hb hl hg O1 B4 D4))
 go_upto_if 57 with (fail)
 go_cut [15] (fun v15 wc => ∃ i : Nat, i < 12 ∧ v15 = .int .i64 (i : Int) ∧ wc = w5)
 case first =>
  have hb : (Int.tmod a 12).natAbs < 12 := by rw [Int.natAbs_tmod]; exact Nat.mod_lt _ (by decide)
  generalize Int.tmod a 12 = z at hb ⊢
  by_cases hn : z < 0
  ·have d1 : decide (z < 0) = true := decide_eq_true hn
   go_wp2_with (fail)
   go_meet
   case rel => exact ⟨(z + 12).toNat, by omega, congrArg (Value.int .i64) (by first | omega | (unfold wrap64; omega)), rfl⟩
  ·have d1 : decide (z < 0) = false := decide_eq_false hn
   go_wp2_with (fail)
   go_meet
   case rel => exact ⟨z.toNat, by omega, congrArg (Value.int .i64) (by omega), rfl⟩
 case rest =>
 obtain ⟨i, hi, rfl, rfl⟩ := hcut
 have e1 : wc.cell? ⟨g1, i, none⟩ = some (.int .i64 (opI i)) := (Naa P1.out i).trans (ocs_at hi)
 have E2 := lh (Kd.C_below D2.out D5.out)
 have E3 := lh (Kd.C_below C3.out D5.out)
 have G5 := lh (GL.below G3.out D5.out)
 clear D2 C3 D5 G3 k3 k4
 obtain ⟨d1, t1, dd1, hl1⟩ := Ney (l := l) (K := 600) (by rw [chk_f, HC.out.1])
 obtain ⟨d2, t2, dd2, hl2⟩ := Ney (l := m) (K := 600) (by rw [chk_f, HC.out.2])
 have HJ := joined_f hi hz HX.out.1 HX.out.2.1 HX.out.2.2.1 HX.out.2.2.2 t1 t2
 have hsg := sg_size hi
 obtain ⟨c, hcj⟩ : ∃ c, c = cJ (l.length + m.length) d1 d2 := ⟨_, rfl⟩
 rw [← hcj] at HJ
 have HJ1 := lh HJ.1
 have HJ2 := lh HJ.2
 have HCJ := lh hcj
 have HT := lh (And.intro t1 (And.intro dd1 (And.intro t2 dd2)))
 obtain ⟨o, ho⟩ : ∃ o, o = opI i := ⟨_, rfl⟩
 obtain ⟨wd, hwd⟩ : ∃ wd, wd = signB (opI i) := ⟨_, rfl⟩
 rw [← ho] at e1
 have EW := lh (show wcs[i]? = some (.string wd) by rw [hwd]; exact wcs_at hi)
 rw [← hwd] at hsg
 rw [← hwd, ← ho] at HJ1
 clear HJ hcj t1 dd1 t2 dd2 ho hwd HX HC
 go_upto_region 14 with (first
  | ((with_reducible refine gD 65 rfl ?_); refine litN 65 (nBin o) ?_; intro v1 w6 ho hb; have OA := lh ho; have DA := lh hb; clear ho hb e1)
  | ((with_reducible refine Nch (b := .append) (xs := #[.tmp 65, .tmp 66]) rfl ?_); at_builtin; refine appR (.tmp 65) (.tmp 66) OA.out DA.out (Kd.C_below E2.out DA.out) (by simp only [List.length_cons, List.length_nil]; omega) ?_; intro v2 w7 ho hb; have OB := lh ho; have DB := lh hb; clear ho hb OA DA)
  | ((with_reducible refine Nch (b := .append) (xs := #[.tmp 67, .tmp 68]) rfl ?_); at_builtin; refine appR (.tmp 67) (.tmp 68) OB.out DB.out (Kd.C_below E3.out DB.out) (by simp only [List.length_append, List.length_cons, List.length_nil]; omega) ?_; intro v3 w8 ho hb; have OC := lh (show Kd.R k50 50 w8 _ _ v3 (nBin o :: (l ++ m)) by simpa using ho); have DC := lh hb; clear ho hb OB DB)
  | ((with_reducible refine gD 71 rfl ?_); refine litN 71 (nCall tFN 2) ?_; intro v4 w9 ho hb; have OD := lh ho; have DD := lh hb; clear ho hb)
  | ((with_reducible refine Nch (b := .append) (xs := #[.tmp 71, .tmp 72]) rfl ?_); at_builtin; refine appR (.tmp 71) (.tmp 72) OD.out DD.out (Kd.C_below E2.out (Nac DC.out DD.out)) (by simp only [List.length_cons, List.length_nil]; omega) ?_; intro v5 w10 ho hb; have OE := lh ho; have DE := lh hb; clear ho hb OD DD)
  | ((with_reducible refine Nch (b := .append) (xs := #[.tmp 73, .tmp 74]) rfl ?_); at_builtin; refine appR (.tmp 73) (.tmp 74) OE.out DE.out (Kd.C_below E3.out (Nac DC.out DE.out)) (by simp only [List.length_append, List.length_cons, List.length_nil]; omega) ?_; intro v6 w11 ho hb; have OF := lh (show Kd.R k50 50 w11 _ _ v6 (nCall tFN 2 :: (l ++ m)) by simpa using ho); have OG := lh (Kd.R_below OC.out hb); have DF := lh (Nac DC.out hb); clear ho hb OE DE OC DC))
 obtain ⟨xs, hxs⟩ : ∃ xs, xs = if c = 0 then nBin o :: (l ++ m) else [] := ⟨_, rfl⟩
 obtain ⟨ys, hys⟩ : ∃ ys, ys = if c = 0 then nCall tFN 2 :: (l ++ m) else [] := ⟨_, rfl⟩
 have HK1 := lh (show Naz.f ((((((⟨#[40]⟩ ++ s) ++ ⟨#[41]⟩) ++ wd) ++ ⟨#[40]⟩) ++ t) ++ ⟨#[41]⟩) = some (xs, c, 0) by rw [hxs]; exact HJ1.out)
 have HK2 := lh (show Naz.f ((((⟨#[70, 78, 40]⟩ ++ s) ++ ⟨#[44]⟩) ++ t) ++ ⟨#[41]⟩) = some (ys, c, 0) by rw [hys]; exact HJ2.out)
 have HXS := lh (And.intro hxs hys)
 have e2 : w11.cell? ⟨g2, i, none⟩ = some (.string wd) := (Naa (Nad O2.out DF.out) i).trans EW.out
 have G11 := lh (GL.below G5.out DF.out)
 have B11 := lh (Nac B5.out DF.out)
 have M2 := lh (Kd.C_below E2.out DF.out)
 have M3 := lh (Kd.C_below E3.out DF.out)
 obtain ⟨A8, c8, hv8⟩ := Kd.R_slice OG.out
 obtain ⟨n8, hn8⟩ : ∃ n, n = (nBin o :: (l ++ m)).length := ⟨_, rfl⟩
 rw [← hn8] at hv8
 subst hv8
 obtain ⟨A9, c9, hv9⟩ := Kd.R_slice OF.out
 obtain ⟨n9, hn9⟩ : ∃ n, n = (nCall tFN 2 :: (l ++ m)).length := ⟨_, rfl⟩
 rw [← hn9] at hv9
 subst hv9
 have rd8 := Kd.R_reads' OG.out
 have rd9 := Kd.R_reads' OF.out
 have C8 := lh rd8.2.2
 have C9 := lh rd9.2.2
 have L8 := lh (And.intro hn8 rd8.2.1)
 have L9 := lh (And.intro hn9 rd9.2.1)
 have zz : ∀ a b : ByteArray, (a ++ b).size = a.size + b.size := fun a b => ByteArray.size_append
 have a40 : (⟨#[40]⟩ : ByteArray).size = 1 := rfl
 have a41 : (⟨#[41]⟩ : ByteArray).size = 1 := rfl
 have a44 : (⟨#[44]⟩ : ByteArray).size = 1 := rfl
 have a70 : (⟨#[70, 78, 40]⟩ : ByteArray).size = 3 := rfl
 have f1 : (9223372036854775807 < 1 + s.size) = False := eq_false (by omega)
 have f2 : (9223372036854775807 < ((⟨#[40]⟩ : ByteArray) ++ s).size + 1) = False := eq_false (by simp only [zz]; omega)
 have f3 : (9223372036854775807 < (((⟨#[40]⟩ : ByteArray) ++ s) ++ (⟨#[41]⟩ : ByteArray)).size + wd.size) = False := eq_false (by simp only [zz]; omega)
 have f4 : (9223372036854775807 < ((((⟨#[40]⟩ : ByteArray) ++ s) ++ (⟨#[41]⟩ : ByteArray)) ++ wd).size + 1) = False := eq_false (by simp only [zz]; omega)
 have f5 : (9223372036854775807 < (((((⟨#[40]⟩ : ByteArray) ++ s) ++ (⟨#[41]⟩ : ByteArray)) ++ wd) ++ (⟨#[40]⟩ : ByteArray)).size + t.size) = False := eq_false (by simp only [zz]; omega)
 have f6 : (9223372036854775807 < ((((((⟨#[40]⟩ : ByteArray) ++ s) ++ (⟨#[41]⟩ : ByteArray)) ++ wd) ++ (⟨#[40]⟩ : ByteArray)) ++ t).size + 1) = False := eq_false (by simp only [zz]; omega)
 have f7 : (9223372036854775807 < 3 + s.size) = False := eq_false (by omega)
 have f8 : (9223372036854775807 < ((⟨#[70, 78, 40]⟩ : ByteArray) ++ s).size + 1) = False := eq_false (by simp only [zz]; omega)
 have f9 : (9223372036854775807 < (((⟨#[70, 78, 40]⟩ : ByteArray) ++ s) ++ (⟨#[44]⟩ : ByteArray)).size + t.size) = False := eq_false (by simp only [zz]; omega)
 have f10 : (9223372036854775807 < ((((⟨#[70, 78, 40]⟩ : ByteArray) ++ s) ++ (⟨#[44]⟩ : ByteArray)) ++ t).size + 1) = False := eq_false (by simp only [zz]; omega)
 clear zz a40 a41 a44 a70 hn8 hn9 rd8 rd9 OG OF hxs hys HJ1 HJ2 O2 P1 B5 G5 E2 E3 DF EW
 go_upto_region 15 with ((go_at_call 21; (with_reducible refine (Naz.calls _ xs c 0 _ G11.out HK1.out).mono ?_); rintro en w12 ⟨v7, rfl, ho, hb⟩; obtain ⟨A7, c7, hv⟩ := Kd.R_slice ho; subst hv; have rd := Kd.R_reads' ho; have C7 := lh rd.2.2; have L7 := lh rd.2.1; have X8 := lh (Kd.C_below C8.out hb); have X9 := lh (Kd.C_below C9.out hb); have N2 := lh (Kd.C_below M2.out hb); have N3 := lh (Kd.C_below M3.out hb); have B12 := lh (Nac B11.out hb); have G12 := lh (GL.below G11.out hb); clear hb ho rd C8 C9 M2 M3 B11 G11 HK1 e2))
 clear f1 f2 f3 f4 f5 f6
 go_upto_region 16 with ((go_at_call 21; (with_reducible refine (Naz.calls _ ys c 0 _ G12.out HK2.out).mono ?_); rintro en w13 ⟨v8, rfl, ho, hb⟩; obtain ⟨A6, c6, hv⟩ := Kd.R_slice ho; subst hv; have rd := Kd.R_reads' ho; have C6 := lh rd.2.2; have L6 := lh rd.2.1; have Y7 := lh (Kd.C_below C7.out hb); have Y8 := lh (Kd.C_below X8.out hb); have Y9 := lh (Kd.C_below X9.out hb); have P2 := lh (Kd.C_below N2.out hb); have P3 := lh (Kd.C_below N3.out hb); have B13 := lh (Nac B12.out hb); clear hb ho rd C7 X8 X9 N2 N3 B12 G12 HK2))
 clear f7 f8 f9 f10
 have hn := L8.out.1
 simp only [List.length_cons, List.length_append] at hn
 by_cases hbig : 256 < n8
 case pos =>
  obtain rfl : c = 52 := by rw [HCJ.out]; unfold cJ; rw [if_pos (by omega)]
  have k1 : decide (256 < (n8 : Int)) = true := decide_eq_true (by omega)
  have k2 : decide (256 < n8) = true := decide_eq_true hbig
  go_wp2_with (fail)
  go_ret
  exact ⟨rfl, B13.out⟩
 have k1 : decide (256 < (n8 : Int)) = false := decide_eq_false (by omega)
 have k2 : decide (256 < n8) = false := decide_eq_false hbig
 have HD1 := lh (depth_tree HT.out.1 HT.out.2.1 hl1)
 have HD2 := lh (depth_tree HT.out.2.2.1 HT.out.2.2.2 hl2)
 have HT' := lh (And.intro HT.out.2.1 HT.out.2.2.2)
 clear HT
 by_cases hd1 : 31 < d1
 case pos =>
  obtain rfl : c = 51 := by rw [HCJ.out]; unfold cJ; rw [if_neg (by omega), if_neg (by omega)]
  have k3 : decide (31 < (d1 : Int)) = true := decide_eq_true (by omega)
  have k4 : decide (31 < d1) = true := decide_eq_true hd1
  go_wp2_with ((go_at_call 35; (with_reducible refine (Nah.calls 12000 A2 c2 l 0 _ _ P2.out L2.out HD1.out).mono ?_); rintro en w14 ⟨rfl, hb⟩; have B14 := lh (Nac B13.out hb); clear hb B13))
  go_ret
  exact ⟨rfl, B14.out⟩
 have k3 : decide (31 < (d1 : Int)) = false := decide_eq_false (by omega)
 have k4 : decide (31 < d1) = false := decide_eq_false hd1
 by_cases hd2 : 31 < d2
 case pos =>
  obtain rfl : c = 51 := by rw [HCJ.out]; unfold cJ; rw [if_neg (by omega), if_neg (by omega)]
  have k5 : decide (31 < (d2 : Int)) = true := decide_eq_true (by omega)
  have k6 : decide (31 < d2) = true := decide_eq_true hd2
  go_upto_region 19 with (first
   | (go_at_call 35; (with_reducible refine (Nah.calls 12000 A2 c2 l 0 _ _ P2.out L2.out HD1.out).mono ?_); rintro en w14 ⟨rfl, hb⟩; have B14 := lh (Nac B13.out hb); have R3 := lh (Kd.C_below P3.out hb); clear hb B13 P2 P3)
   | (go_at_call 35; (with_reducible refine (Nah.calls 12000 A3 c3 m 0 _ _ R3.out L3.out HD2.out).mono ?_); rintro en w15 ⟨rfl, hb⟩; have B15 := lh (Nac B14.out hb); clear hb B14 R3))
  go_wp2_with (fail)
  go_ret
  exact ⟨rfl, B15.out⟩
 have k5 : decide (31 < (d2 : Int)) = false := decide_eq_false (by omega)
 have k6 : decide (31 < d2) = false := decide_eq_false hd2
 obtain rfl : c = 0 := by rw [HCJ.out]; unfold cJ; rw [if_neg (by omega), if_pos (by omega)]
 obtain ⟨hx, hy⟩ := HXS.out
 rw [if_pos rfl] at hx hy
 rw [← hx] at Y8 L8
 rw [← hy] at Y9 L9
 have HJL := lh (show xs.length ≤ 1000 ∧ ys.length ≤ 1000 by rw [hx, hy]; simp only [List.length_cons, List.length_append]; omega)
 clear hx hy hn
 have HSM := lh (fun A1 c1 A2 c2 w (J : List S50) (hJ : J.length ≤ 1000) (n : Nat) (hn : n = J.length) (h1 : Kd.C k50 w A1 J.length J) (h2 : J.length ≤ c1) (h3 : Kd.C k50 w A2 J.length J) (h4 : n ≤ c2) => (show Calls Tryz.prog 24 #[.slice A1 J.length c1, .slice A2 n c2] w fun e w' => e = .returned (.bool true) ∧ Below w.heap.size w w' from by
  subst hn
  exact Ndy.calls A1 c1 J A2 c2 J true w h1 h2 h3 h4 (by unfold Ndy.f; rw [if_pos (by omega), eqRows_iff.mpr rfl])))
 go_upto_region 20 with (first
  | (go_at_call 35; (with_reducible refine (Nah.calls 12000 A2 c2 l 0 _ _ P2.out L2.out HD1.out).mono ?_); rintro en w14 ⟨rfl, hb⟩; have B14 := lh (Nac B13.out hb); have R3 := lh (Kd.C_below P3.out hb); have R6 := lh (Kd.C_below C6.out hb); have R7 := lh (Kd.C_below Y7.out hb); have R8 := lh (Kd.C_below Y8.out hb); have R9 := lh (Kd.C_below Y9.out hb); clear hb B13 P2 P3 C6 Y7 Y8 Y9)
  | (go_at_call 35; (with_reducible refine (Nah.calls 12000 A3 c3 m 0 _ _ R3.out L3.out HD2.out).mono ?_); rintro en w15 ⟨rfl, hb⟩; have B15 := lh (Nac B14.out hb); have S6 := lh (Kd.C_below R6.out hb); have S7 := lh (Kd.C_below R7.out hb); have S8 := lh (Kd.C_below R8.out hb); have S9 := lh (Kd.C_below R9.out hb); clear hb B14 R3 R6 R7 R8 R9))
 go_wp2_with (first
  | (go_at_call 24; (with_reducible refine (HSM.out A7 c7 A8 c8 _ _ HJL.out.1 n8 L8.out.1 S7.out L7.out S8.out L8.out.2).mono ?_); rintro en w16 ⟨rfl, hb⟩; have B16 := lh (Nac B15.out hb); have T6 := lh (Kd.C_below S6.out hb); have T9 := lh (Kd.C_below S9.out hb); clear hb B15 S6 S7 S8 S9)
  | (go_at_call 24; (with_reducible refine (HSM.out A6 c6 A9 c9 _ _ HJL.out.2 n9 L9.out.1 T6.out L6.out T9.out L9.out.2).mono ?_); rintro en w17 ⟨rfl, hb⟩; have B17 := lh (Nac B16.out hb); clear hb B16 T6 T9))
 go_ret
 exact ⟨rfl, B17.out⟩
end Go.Proofs.YtejbbceidnaloaaGreatDoor.P
