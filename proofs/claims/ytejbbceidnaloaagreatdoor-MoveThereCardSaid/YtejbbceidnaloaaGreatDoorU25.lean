import Derived.Test.YtejbbceidnaloaaGreatDoorU24
namespace Go.Proofs.YtejbbceidnaloaaGreatDoor.P
open Go.RowKit Go.Proofs.YtejbbceidnaloaaGreatDoorW.PrintWords Go.Proofs.YtejbbceidnaloaaGreatDoorW.PrintLast Go.Proofs.YtejbbceidnaloaaGreatDoorW.PrintMore
set_option linter.unusedVariables false
set_option linter.unusedSimpArgs false
def EL (x : S50) (A : Addr) (w : World) : Prop := ∀ (j : Nat) v, (cs50 x)[j]? = some v → w.cell? (A.add j) = some v
theorem el_below {x : S50} {A : Addr} {w w' : World} (h : EL x A w) (hb : Below w.heap.size w w') : EL x A w' := fun j v hv => (hb.cell (World.block_lt_of_cell? _ _ (h j v hv))).trans (h j v hv)
theorem el_0 {x : S50} {A : Addr} {w : World} (h : EL x A w) : w.cell? A = some (.int .i64 x.f0) := h 0 _ rfl
theorem el_f {x : S50} {A : Addr} {w : World} (h : EL x A w) (k : Nat) (hk : 0 < k) {v : Value} (hv : (cs50 x)[k]? = some v) : w.cell? ⟨A.block, A.off + k, none⟩ = some v := by
 have := h k v hv
 unfold Addr.add at this
 rwa [if_neg (by omega)] at this
theorem el_s {x : S50} {A : Addr} {w : World} (h : EL x A w) (k : Nat) (hk : 0 < k) {cs : List Value} (hc : ∀ (j : Nat) v, cs[j]? = some v → (cs50 x)[k + j]? = some v) : ∀ (j : Nat) v, cs[j]? = some v → w.cell? ((⟨A.block, A.off + k, none⟩ : Addr).add j) = some v := by
 intro j v hv
 have := el_f h (k + j) (by omega) (hc j v hv)
 unfold Addr.add
 by_cases hj : j = 0
 ·subst hj; rw [if_pos rfl]; exact this
 ·rw [if_neg hj, Nat.add_assoc]; exact this
def c48 (r : S48) : List Value := [.string r.f0, .int .i64 r.f1, .int .i64 r.f2, .bool r.f3, .bool r.f4]
theorem el_5 {x : S50} {A : Addr} {w : World} (h : EL x A w) : ∀ (j : Nat) v, (c48 x.f5)[j]? = some v → w.cell? ((⟨A.block, A.off + 10, none⟩ : Addr).add j) = some v :=
 el_s h 10 (by omega) fun j v hv => by
  match j, hv with
  | 0, hv | 1, hv | 2, hv | 3, hv | 4, hv => exact hv
  | j + 5, hv => cases hv
theorem el_6 {x : S50} {A : Addr} {w : World} (h : EL x A w) : ∀ (j : Nat) v, (c48 x.f6)[j]? = some v → w.cell? ((⟨A.block, A.off + 15, none⟩ : Addr).add j) = some v :=
 el_s h 15 (by omega) fun j v hv => by
  match j, hv with
  | 0, hv | 1, hv | 2, hv | 3, hv | 4, hv => exact hv
  | j + 5, hv => cases hv
theorem mvd_calls {rows cols : Int} {r q : S48} (h : MV rows cols r q) (w : World) : Calls Tryz.prog 43 #[.agg (c48 r).toArray, .agg (c48 q).toArray, .int .i64 rows, .int .i64 cols] w fun e w' => e = .returned (.bool true) ∧ Below w.heap.size w w' := by
 obtain ⟨s, a, b, p, t⟩ := r
 obtain ⟨s2, a2, b2, p2, t2⟩ := q
 obtain ⟨h0, h3, h4, h1, h2⟩ := h
 obtain rfl : s2 = s := h0
 obtain rfl : p2 = p := h3
 obtain rfl : t2 = t := h4
 exact mvd_go s2 a b a2 b2 rows cols p2 t2 w h1 h2
theorem litE {ops : Array Oper} {rest : List Oper} {o : Oper} {a : Act} {Q : Exit → Act → World → Prop} {W : World} (N : Tmp)
 (h : ∀ v1 w1, Kd.R k50 50 w1 W.heap.size (fun _ => True) v1 [] → Below W.heap.size W w1 → wpList Tryz.prog ops Q rest (a.put o.dst v1) w1) (hd : o.dst = some N := by exact rfl) (hg : o.guard = none := by exact rfl)
 (hr : (execOp a.eval o).run Tryz.prog W = .ok (.value (.slice (some ⟨W.heap.size, 0, none⟩) ([] : List S50).length ([] : List S50).length)) (W.alloc (.cells ([] : List Value).toArray 50)) := by go_simp <;> rfl) : wpList Tryz.prog ops Q (o :: rest) a W :=
 Kd.R_lit k50 _ 50 hg hd (xs := ([] : List S50)) (inner := []) (ok := fun _ => True) (okp := fun _ => True) hr (Reps.none _ _) (fun _ hk => hk) trivial (Below.refl _ _) (Nat.le_refl _) (by simp) fun v1 w1 h1 h2 _ _ => h v1 w1 h1 h2
theorem appE {ops : Array Oper} {rest : List Oper} {o : Oper} {a : Act} {Q : Exit → Act → World → Prop} {W0 W : World} (s x : Operand) {v : Value} {l : List S50} {A : Option Addr} {n c : Nat}
 (HO : Kd.R k50 50 W W0.heap.size (fun _ => True) v []) (HB : Below W0.heap.size W0 W) (HR : Kd.C k50 W A n l) (hn : n ≤ 256)
 (h : ∀ v1 w1, Kd.R k50 50 w1 W0.heap.size (fun _ => True) v1 l → Below W0.heap.size W0 w1 → wpList Tryz.prog ops Q rest (a.put o.dst v1) w1) (hs : a.eval s = v := by exact rfl) (hx : a.eval x = .slice A n c := by exact rfl)
 (ho : o.op = .call { callee := .builtin .append, args := #[s, x], argTypes := #[22, 22] } := by exact rfl) (hgd : o.guard = none := by exact rfl) : wpList Tryz.prog ops Q (o :: rest) a W :=
 Kd.R_append_rows k50 (w0 := W0) W0.heap.size hgd s x 22 50 (.agg #[(.int .i64 0), (.int .i64 0), (.int .i64 0), (.int .i64 0), (.string ⟨#[]⟩), (.bool false), (.int .i64 0), (.int .i64 0), (.string ⟨#[]⟩), (.int .i64 0), (.string ⟨#[]⟩), (.int .i64 0), (.int .i64 0), (.bool false), (.bool false), (.string ⟨#[]⟩), (.int .i64 0), (.int .i64 0), (.bool false), (.bool false)]) 176 ho Tryz.underlying22 info50 rfl (by decide) (by omega) v [] l A n c (fun _ => True) (fun _ => False) hs hx HO HR (fun _ _ h => h) (fun _ h => h.elim) (fun _ _ => trivial) HB HB.size (by simp only [List.length_nil]; omega) (fun v1 w1 h1 h2 _ _ => h v1 w1 h1 h2)
theorem neqG {o : Oper} {a : Act} (x y : S50) (w : World) {p q : Operand} (ho : o.op = .binOp .neq 50 p q 50) (hx : a.eval p = .agg (cs50 x).toArray) (hy : a.eval q = .agg (cs50 y).toArray) :
 (execOp a.eval o).run Tryz.prog w = .ok (.value (.bool (!eqS x y))) w := by
 unfold execOp
 simp only [ho, hx, hy, Sem.run_bind, Sem.run_pure]
 rw [run_eqGuard_agg (hm := Tryz.eqGuardType50)]
 simp only [Result.andThen]
 rw [run_neq_struct, eq50V 9996 w x y]
 rfl
theorem elE {ops : Array Oper} {rest : List Oper} {o : Oper} {a : Act} {Q : Exit → Act → World → Prop} {W : World} {x : S50} {A : Addr} (h : EL x A W) (p : Operand) (hw : wpList Tryz.prog ops Q rest (a.put o.dst (.agg (cs50 x).toArray)) W)
 (hgd : o.guard = none := by exact rfl) (ho : o.op = .load 50 p := by exact rfl) (ha : a.eval p = .pointer (some A) := by exact rfl) : wpList Tryz.prog ops Q (o :: rest) a W := Kd.event_run hgd (Nbw ho ha h Tryz.underlying50 rfl (by kernel_rfl)) hw
theorem nqE {ops : Array Oper} {rest : List Oper} {o : Oper} {a : Act} {Q : Exit → Act → World → Prop} {W : World} (x y : S50) (p q : Operand) (hw : wpList Tryz.prog ops Q rest (a.put o.dst (.bool (!eqS x y))) W)
 (hgd : o.guard = none := by exact rfl) (ho : o.op = .binOp .neq 50 p q 50 := by exact rfl) (hx : a.eval p = .agg (cs50 x).toArray := by exact rfl) (hy : a.eval q = .agg (cs50 y).toArray := by exact rfl) : wpList Tryz.prog ops Q (o :: rest) a W := Kd.event_run hgd (neqG x y W ho hx hy) hw
set_option maxRecDepth 100000 in
set_option maxHeartbeats 4000000 in
theorem refs_calls (W : World) (s : ByteArray) (rows : Int) (hr : -9223372036854775808 ≤ rows ∧ rows ≤ 9223372036854775807) (cols : Int) (hc : -9223372036854775808 ≤ cols ∧ cols ≤ 9223372036854775807) (hG : GL W) :
 Calls Tryz.prog 17 #[.string s, .int .i64 rows, .int .i64 cols] W fun e w' => e = .returned (.bool true) ∧ Below W.heap.size W w' := by
 obtain ⟨l, e0, p0, hpf⟩ : ∃ l e p, Nbg.f s = some (l, e, p) := ⟨_, _, _, rfl⟩
 have hcs : (e0 = 0 ∧ chk l = 0) ∨ e0 ≠ 0 := by
  have := parse_cases s.data.toList
  unfold Nbg.f at hpf
  rw [Option.some.inj hpf] at this
  rcases this with h | h
  ·exact Or.inl ⟨h.1, h.2.2⟩
  ·exact Or.inr h.1
 have HG := lh hG
 have HP := lh (fun w hg => Nbg.calls s l e0 p0 w hg hpf)
 clear hG hpf
 rcases hcs with ⟨rfl, hk⟩ | hne
 ·obtain ⟨dd, hdd, -, hl⟩ := Ncn (l := l) (K := 600) (by rw [chk_f, hk])
  obtain ⟨m, hm⟩ : ∃ m, m = l.map (shN rows cols) := ⟨_, rfl⟩
  have hml : m.length = l.length := by rw [hm, List.length_map]
  have HS := lh (show msh.f l rows cols = some (m, 0) by unfold msh.f; rw [if_pos hk, hm])
  have HK := lh (show Nas.f 600 m = some 0 by rw [chk_f, hm, chk_shiftA hk])
  have HM := lh hml
  have HL := lh hl
  have HX := lh (fun i (hi : i < l.length) => (⟨by rw [hm]; exact rd_map hi, sh_what (hdd.good _ (rd_mem hi)) hr hc⟩ : rd_T50 m (i : Int) = shN rows cols (rd_T50 l (i : Int)) ∧ _))
  have HCK := lh (fun A c w (hC : Kd.C k50 w A l.length m) (hle : l.length ≤ c) => (show Calls Tryz.prog 28 #[.slice A l.length c] w fun e w' => e = .returned (.int .i64 0) ∧ Below w.heap.size w w' from by rw [← hml] at hC hle ⊢; exact Nas.calls 600 A c m 0 w hC hle HK.out))
  clear hm hml hk hdd hl HK
  go_enter Tryz.func17, Tryz.ntmps17
  go_upto_region 6 with (first
   | (go_at_call 39; (with_reducible refine (able6_g.calls true _ HG.out rfl).mono ?_); rintro en w1 ⟨rfl, hb⟩; have B1 := lh hb; clear hb)
   | (go_at_call 21; (with_reducible refine (HP.out _ (GL.below HG.out B1.out)).mono ?_); rintro en w2 ⟨v2, rfl, ho, hb⟩; have B2 := lh (below_step B1.out hb); obtain ⟨A2, c2, hv⟩ := Kd.R_slice ho; subst hv; have rd := Kd.R_reads' ho; have C2 := lh rd.2.2; have L2 := lh rd.2.1; clear hb ho rd HP B1))
  go_upto_region 7 with (first
   | ((with_reducible refine gate_dst (N := 26) rfl ?_); refine litE 26 ?_; intro v3 w3 ho hb; have O3 := lh ho; have D3 := lh hb; clear ho hb)
   | ((with_reducible refine gate_builtin (b := .append) (xs := #[.tmp 26, .tmp 27]) rfl ?_); at_builtin; refine appE (.tmp 26) (.tmp 27) O3.out D3.out (Kd.C_below C2.out D3.out) HL.out ?_; intro v4 w4 ho hb; obtain ⟨A4, c4, hv⟩ := Kd.R_slice ho; subst hv; have rd := Kd.R_reads' ho; have C4 := lh rd.2.2; have L4 := lh rd.2.1; have D4 := lh hb; clear ho hb rd O3 D3)
   | (go_at_call 37; (with_reducible refine (msh.calls A4 c4 l rows cols m 0 _ C4.out L4.out HS.out).mono ?_); rintro en w5 ⟨v5, rfl, ho, hb⟩; obtain ⟨A5, c5, hv⟩ := Kd.R_slice ho; rw [HM.out] at hv; subst hv; have rd := Kd.R_reads' ho; have C5 := lh (show Kd.C k50 w5 A5 l.length m by have := rd.2.2; rw [HM.out] at this; exact this); have L5 := lh rd.2.1; have D5 := lh (below_step D4.out hb); clear ho hb rd C4 L4 D4 HS))
  go_upto_region 9 with (first
   | ((with_reducible refine gate_dst (N := 44) rfl ?_); (try (refine gate_guard (by rfl) ?_; dsimp only)); refine litE 44 ?_; intro v6 w6 ho hb; have O6 := lh ho; have D6 := lh hb; clear ho hb)
   | ((with_reducible refine gate_builtin (b := .append) (xs := #[.tmp 44, .tmp 45]) rfl ?_); (try (refine gate_guard (by rfl) ?_; dsimp only)); at_builtin; refine appE (.tmp 44) (.tmp 45) O6.out D6.out (Kd.C_below C5.out D6.out) HL.out ?_; intro v7 w7 ho hb; obtain ⟨A7, c7, hv⟩ := Kd.R_slice ho; rw [HM.out] at hv; subst hv; have rd := Kd.R_reads' ho; have C7 := lh (show Kd.C k50 w7 A7 l.length m by have := rd.2.2; rw [HM.out] at this; exact this); have L7 := lh rd.2.1; have D7 := lh hb; clear ho hb rd O6 D6)
   | (go_at_call 28; (with_reducible refine (HCK.out A7 c7 _ C7.out L7.out).mono ?_); rintro en w8 ⟨rfl, hb⟩; have D8 := lh (below_step D7.out hb); clear hb C7 L7 D7 HCK))
  have CL := lh (Kd.C_below (Kd.C_below C2.out D5.out) D8.out)
  have CM := lh (Kd.C_below C5.out D8.out)
  have BW := lh (below_step (below_step B2.out D5.out) D8.out)
  clear C2 C5 B2 D5 D8 L2 L5 HM HG
  go_wp2_with (fail)
  go_loopw [12] (fun v12 w' => ∃ i : Nat, i ≤ l.length ∧ v12 = .int .i64 i ∧ Hid (Below w8.heap.size w8 w')) (fun v12 _ => l.length - (intOf v12).toNat)
  case atStart => exact ⟨0, Nat.zero_le _, rfl, lh (Below.refl _ _)⟩
  case round =>
   obtain ⟨i, hi, rfl, HB⟩ := hrel
   by_cases hlt : i < l.length
   ·obtain ⟨ad1, q1, rfl, hq1, hk1, hx0⟩ := Kd.C_get (Kd.C_below CL.out HB.out) z50 (i : Int) (by omega) (by omega)
    obtain ⟨ad2, q2, rfl, hq2, hk2, hy0⟩ := Kd.C_get (Kd.C_below CM.out HB.out) z50 (i : Int) (by omega) (by omega)
    obtain rfl := k50_open hk1
    obtain rfl := k50_open hk2
    have hxi := HX.out i hlt
    change rd_T50 m (i : Int) = _ ∧ _ at hxi
    obtain ⟨x, hx⟩ : ∃ x_ : S50, x_ = rd_T50 l (i : Int) := ⟨_, rfl⟩
    obtain ⟨y, hy⟩ : ∃ x_ : S50, x_ = rd_T50 m (i : Int) := ⟨_, rfl⟩
    have EX := lh (show EL x (ad1.add (i * 20)) wr from fun j v hv => by rw [add_add]; exact hx0 j v (by rw [hx] at hv; exact hv))
    have EY := lh (show EL y (ad2.add (i * 20)) wr from fun j v hv => by rw [add_add]; exact hy0 j v (by rw [hy] at hv; exact hv))
    rw [← hx, ← hy] at hxi
    have HW := lh (show (x.f0 ≠ y.f0 ∧ y = lostN) ∨ (y.f0 = x.f0 ∧ ((x.f0 = 2 ∧ MV rows cols x.f5 y.f5) ∨ (x.f0 = 3 ∧ MV rows cols x.f5 y.f5 ∧ MV rows cols x.f6 y.f6) ∨ (x.f0 ≠ 2 ∧ x.f0 ≠ 3))) by
     obtain ⟨h1, h2⟩ := hxi
     rcases h2 with ⟨h2, h3⟩ | ⟨h2, q, h4, h3⟩ | ⟨h2, q, p, h4, h5, h3⟩ | ⟨h2, h4, h3⟩
     ·refine Or.inl ⟨?_, h1.trans h3⟩
      rw [h1, h3]
      show x.f0 ≠ 1
      omega
     ·rw [h3] at h1; subst h1; exact Or.inr ⟨rfl, Or.inl ⟨h2, h4⟩⟩
     ·rw [h3] at h1; subst h1; exact Or.inr ⟨rfl, Or.inr (Or.inl ⟨h2, h4, h5⟩)⟩
     ·rw [h3] at h1; subst h1; exact Or.inr ⟨rfl, Or.inr (Or.inr ⟨h2, h4⟩)⟩)
    clear hxi hx hy hk1 hk2 hx0 hy0 hq1 hq2 CL CM HX
    have HI := lh (show i < l.length ∧ i ≤ 256 by have := HL.out; omega)
    have hw1 : wrap64 ((i : Int) + 1) = ((i + 1 : Nat) : Int) := by have := HI.out; unfold wrap64; omega
    have hu50 := Tryz.underlying50
    have hu48 := Tryz.underlying48
    go_upto_region 12 with (fail)
    refine start_ (n := 11) (S := fun w' => w'.cell? (ad1.add (i * 20)) = some (.int .i64 x.f0) ∧ w'.cell? (ad2.add (i * 20)) = some (.int .i64 y.f0)) (ds := []) #[false, false, false, false, false, false, false, false, false, false, false] (by kernel_rfl) rfl rfl ⟨el_0 EX.out, el_0 EY.out⟩ (fun hHeld => ?_)
    refine pP 0 56 ?_
    refine pP 1 57 ?_
    refine pP 2 58 ?_
    refine pP 3 59 ?_
    refine pP 5 61 ?_
    refine pP 6 62 ?_
    refine pP 7 63 ?_
    refine pP 8 64 ?_
    refine tP 4 60 hHeld ?_
    refine tP 9 65 hHeld ?_
    refine pP 10 66 ?_
    refine done_ (by kernel_rfl) ?_
    clear hHeld
    have B0 := lh (show Below wr.heap.size wr wr.drew from (Below.refl _ _).drew)
    generalize wr.drew = w9 at B0 ⊢
    rcases HW.out with ⟨hne, rfl⟩ | ⟨he, hw⟩
    ·have b1 : (x.f0 != lostN.f0) = true := bne_iff_ne.mpr hne
     have bl : eqS lostN lostN = true := eqS_iff.2 rfl
     have EY2 := lh (el_below EY.out B0.out)
     go_wp2_with (first
      | ((with_reducible refine gate_dst (N := 70) rfl ?_); refine elE EY2.out (.tmp 69) ?_)
      | ((with_reducible refine gate_dst (N := 73) rfl ?_); refine nqE lostN lostN (.tmp 70) (.tmp 72) ?_; rw [bl]))
     rw [hw1]
     clear hw1 hlt hi
     go_roundw
     case rel => exact ⟨i + 1, by have := HI.out; omega, rfl, lh (below_step HB.out B0.out)⟩
     case measure => simp only [intOf]; have := HI.out; omega
    ·have b1 : (x.f0 != y.f0) = false := by rw [he]; simp
     go_upto_region 15 with (fail)
     refine start_ (n := 14) (S := fun w' => Below wr.heap.size wr w') (ds := []) #[false, false, false, false, false, false, false, false, false, false, false, false, false, false] (by kernel_rfl) rfl rfl B0.out.drew (fun hHeld => ?_)
     clear B0
     refine pP 0 74 ?_
     refine pP 1 75 ?_
     refine pP 2 76 ?_
     refine pP 3 77 ?_
     refine pP 5 79 ?_
     refine pP 6 80 ?_
     refine pP 7 81 ?_
     refine pP 8 82 ?_
     refine take_ (i := 4) (N := some 78) (v := ?_) (a' := ?_) #[true, true, true, true, true, true, true, true, true, false, false, false, false, false] rfl rfl (by kernel_rfl) (fun _ _ _ h => h) (Or.inl ⟨by rfl, ?_⟩) hHeld ?_ ?_
     rotate_left
     ·rintro w' s0
      refine Nbw (t := 48) (p := .tmp 77) (ad := ⟨(ad1.add (i * 20)).block, (ad1.add (i * 20)).off + 10, none⟩) (cs := c48 x.f5) ?_ ?_ (el_5 (el_below EX.out s0)) hu48 rfl ?_
      ·rfl
      ·rfl
      ·kernel_rfl
     rotate_left
     ·simp only [Act.put, List.setIfInBounds_toArray, List.set_cons_zero, List.set_cons_succ, i64_w, i32_w]
      rfl
     refine take_ (i := 9) (N := some 83) (v := ?_) (a' := ?_) #[true, true, true, true, true, true, true, true, true, true, false, false, false, false] rfl rfl (by kernel_rfl) (fun _ _ _ h => h) (Or.inl ⟨by rfl, ?_⟩) hHeld ?_ ?_
     rotate_left
     ·rintro w' s0
      refine Nbw (t := 48) (p := .tmp 82) (ad := ⟨(ad2.add (i * 20)).block, (ad2.add (i * 20)).off + 10, none⟩) (cs := c48 y.f5) ?_ ?_ (el_5 (el_below EY.out s0)) hu48 rfl ?_
      ·rfl
      ·rfl
      ·kernel_rfl
     rotate_left
     ·simp only [Act.put, List.setIfInBounds_toArray, List.set_cons_zero, List.set_cons_succ, i64_w, i32_w]
      rfl
     refine join_ (σ := Nat × Nat) 2 #[true, true, true, true, true, true, true, true, true, true, true, true, false, false] (fun s_ => [(13, .pointer (some ⟨s_.1, 0, none⟩)), (14, .pointer (some ⟨s_.2, 0, none⟩))]) (fun s_ w' => Below wr.heap.size wr w' ∧ w'.heap[s_.1]? = some (.cells #[.string ⟨#[]⟩, .int .i64 0, .int .i64 0, .bool false, .bool false] 48 (0, 0)) ∧ w'.heap[s_.2]? = some (.cells #[.string ⟨#[]⟩, .int .i64 0, .int .i64 0, .bool false, .bool false] 48 (0, 0)) ∧ wr.heap.size ≤ s_.1 ∧ wr.heap.size ≤ s_.2 ∧ s_.1 ≠ s_.2) ?_ ?_
     rotate_left
     ·intro hCont
      refine two_ (i := 10) (j := 11) (Ni := some 13) (Nj := some 14) #[true, true, true, true, true, true, true, true, true, true, true, false, false, false] #[true, true, true, true, true, true, true, true, true, true, false, true, false, false] rfl rfl rfl rfl (by kernel_rfl) (by decide) (by decide) (fun K hK => ?_) (fun K hK => ?_)
      ·skip
       refine box_step ?hg (N := 13) ?hd (cs := #[.string ⟨#[]⟩, .int .i64 0, .int .i64 0, .bool false, .bool false]) (t := 48) ?hr ?_; (case hd => rfl); (case hg => rfl); (case hr => go_simp <;> rfl)
       intro ga hga w10 hbox hb
       have hb1 := below_step hHeld hb
       have hza : wr.heap.size ≤ ga := hga ▸ hHeld.size
       refine hK.out _ _ hb1 (fun _ => ?_)
       clear hK K
       refine norm_ (a' := ?_) ?_ ?_
       rotate_left
       ·show Act.put _ (some 13) _ = _
        simp only [Act.put, List.setIfInBounds_toArray, List.set_cons_zero, List.set_cons_succ, i64_w, i32_w]
        rfl
       refine one_ (i := 11) (N := some 14) #[true, true, true, true, true, true, true, true, true, true, true, true, false, false] rfl rfl (by kernel_rfl) (by decide) (fun K hK => ?_)
       refine box_step ?hg (N := 14) ?hd (cs := #[.string ⟨#[]⟩, .int .i64 0, .int .i64 0, .bool false, .bool false]) (t := 48) ?hr ?_; (case hd => rfl); (case hg => rfl); (case hr => go_simp <;> rfl)
       intro gb hgb w11 hbox2 hb2
       have hb3 := below_step hb1 hb2
       have hzb : wr.heap.size ≤ gb := hgb ▸ hb1.size
       have hn : ga ≠ gb := by have := blk_lt hbox; omega
       refine hK.out _ _ hb3 (fun _ => ?_)
       clear hK K
       refine norm_ (a' := ?_) ?_ ?_
       rotate_left
       ·show Act.put _ (some 14) _ = _
        simp only [Act.put, List.setIfInBounds_toArray, List.set_cons_zero, List.set_cons_succ, i64_w, i32_w]
        rfl
       exact norm_ (by simp only [putAll, Act.put, List.setIfInBounds_toArray, List.set_cons_zero, List.set_cons_succ]) (hCont (ga, gb) _ ⟨hb3, blk_below hbox hb2, hbox2, hza, hzb, hn⟩)
      ·skip
       refine box_step ?hg (N := 14) ?hd (cs := #[.string ⟨#[]⟩, .int .i64 0, .int .i64 0, .bool false, .bool false]) (t := 48) ?hr ?_; (case hd => rfl); (case hg => rfl); (case hr => go_simp <;> rfl)
       intro ga hga w10 hbox hb
       have hb1 := below_step hHeld hb
       have hza : wr.heap.size ≤ ga := hga ▸ hHeld.size
       refine hK.out _ _ hb1 (fun _ => ?_)
       clear hK K
       refine norm_ (a' := ?_) ?_ ?_
       rotate_left
       ·show Act.put _ (some 14) _ = _
        simp only [Act.put, List.setIfInBounds_toArray, List.set_cons_zero, List.set_cons_succ, i64_w, i32_w]
        rfl
       refine one_ (i := 10) (N := some 13) #[true, true, true, true, true, true, true, true, true, true, true, true, false, false] rfl rfl (by kernel_rfl) (by decide) (fun K hK => ?_)
       refine box_step ?hg (N := 13) ?hd (cs := #[.string ⟨#[]⟩, .int .i64 0, .int .i64 0, .bool false, .bool false]) (t := 48) ?hr ?_; (case hd => rfl); (case hg => rfl); (case hr => go_simp <;> rfl)
       intro gb hgb w11 hbox2 hb2
       have hb3 := below_step hb1 hb2
       have hzb : wr.heap.size ≤ gb := hgb ▸ hb1.size
       have hn : ga ≠ gb := by have := blk_lt hbox; omega
       refine hK.out _ _ hb3 (fun _ => ?_)
       clear hK K
       refine norm_ (a' := ?_) ?_ ?_
       rotate_left
       ·show Act.put _ (some 13) _ = _
        simp only [Act.put, List.setIfInBounds_toArray, List.set_cons_zero, List.set_cons_succ, i64_w, i32_w]
        rfl
       exact norm_ (by simp only [putAll, Act.put, List.setIfInBounds_toArray, List.set_cons_zero, List.set_cons_succ]) (hCont (gb, ga) _ ⟨hb3, hbox2, blk_below hbox hb2, hzb, hza, hn.symm⟩)
     rintro ⟨g13, g14⟩ w12 ⟨hB, h13, h14, hz13, hz14, hgn⟩
     clear hHeld
     refine norm_ (a' := ?_) ?_ ?_
     rotate_left
     ·simp only [putAll, Act.put, List.setIfInBounds_toArray, List.set_cons_zero, List.set_cons_succ]
      rfl
     refine one_ (i := 12) (N := none) #[true, true, true, true, true, true, true, true, true, true, true, true, true, false] rfl rfl (by kernel_rfl) (by decide) (fun K hK => ?_)
     refine store_skip (g := g13) (o' := 0) (e := 48) (t := 48) (p := .tmp 13) (x := .tmp 78) (u := .agg (c48 x.f5).toArray) (seg := c48 x.f5) (new := (c48 x.f5).toArray) (by rfl) rfl rfl rfl rfl rfl (by kernel_rfl) h13 (by simp [c48]) (by rfl) (by kernel_rfl) (fun wv hb_ hp_ => ?_)
     replace hB := hp_.below wr hz13 hB
     replace h14 := hp_.blk h14 hgn.symm
     replace h13 := hb_
     refine hK.out _ _ hB (fun _ => ?_)
     clear hK K hb_ hp_
     refine one_ (i := 13) (N := none) #[true, true, true, true, true, true, true, true, true, true, true, true, true, true] rfl rfl (by kernel_rfl) (by decide) (fun K hK => ?_)
     refine store_skip (g := g14) (o' := 0) (e := 48) (t := 48) (p := .tmp 14) (x := .tmp 83) (u := .agg (c48 y.f5).toArray) (seg := c48 y.f5) (new := (c48 y.f5).toArray) (by rfl) rfl rfl rfl rfl rfl (by kernel_rfl) h14 (by simp [c48]) (by rfl) (by kernel_rfl) (fun wv hb_ hp_ => ?_)
     replace hB := hp_.below wr hz14 hB
     replace h13 := hp_.blk h13 hgn
     replace h14 := hb_
     refine hK.out _ _ hB (fun _ => ?_)
     clear hK K hb_ hp_
     refine done_ (by kernel_rfl) ?_
     have f0 := el_0 (el_below EX.out hB)
     have HRW := lh (below_step HB.out hB)
     rcases hw with ⟨hk, hm5⟩ | ⟨hk, hm5, hm6⟩ | ⟨hk2, hk3⟩
     ·have HM5 := lh hm5
      have k2 : (x.f0 == 2) = true := by rw [hk]; rfl
      clear hm5
      go_upto_region 17 with (fail)
      refine start_ (n := 30) (S := fun w' => Below wr.heap.size wr w' ∧ w'.heap[g13]? = some (.cells (c48 x.f5).toArray 48 (0, 0)) ∧ w'.heap[g14]? = some (.cells (c48 y.f5).toArray 48 (0, 0))) (ds := []) #[false, false, false, false, false, false, false, false, false, false, false, false, false, false, false, false, false, false, false, false, false, false, false, false, false, false, false, false, false, false] (by kernel_rfl) rfl rfl ⟨hB.drew, blk_drew h13, blk_drew h14⟩ (fun hHeld => ?_)
      refine take_ (i := 0) (N := some 98) (v := ?_) (a' := ?_) #[true, false, false, false, false, false, false, false, false, false, false, false, false, false, false, false, false, false, false, false, false, false, false, false, false, false, false, false, false, false] rfl rfl (by kernel_rfl) (fun _ _ _ h => h) (Or.inl ⟨by rfl, ?_⟩) hHeld ?_ ?_
      rotate_left
      ·rintro w' ⟨s0, s1, s2⟩
       refine load_yields (t := 48) (p := .tmp 13) ?_ (g := g13) (e := 48) (cs := (c48 x.f5).toArray) ?_ s1 hu48 rfl ?_
       ·rfl
       ·rfl
       ·kernel_rfl
      rotate_left
      ·simp only [Act.put, List.setIfInBounds_toArray, List.set_cons_zero, List.set_cons_succ, i64_w, i32_w]
       rfl
      refine take_ (i := 1) (N := some 99) (v := ?_) (a' := ?_) #[true, true, false, false, false, false, false, false, false, false, false, false, false, false, false, false, false, false, false, false, false, false, false, false, false, false, false, false, false, false] rfl rfl (by kernel_rfl) (fun _ _ _ h => h) (Or.inl ⟨by rfl, ?_⟩) hHeld ?_ ?_
      rotate_left
      ·rintro w' ⟨s0, s1, s2⟩
       refine load_yields (t := 48) (p := .tmp 14) ?_ (g := g14) (e := 48) (cs := (c48 y.f5).toArray) ?_ s2 hu48 rfl ?_
       ·rfl
       ·rfl
       ·kernel_rfl
      rotate_left
      ·simp only [Act.put, List.setIfInBounds_toArray, List.set_cons_zero, List.set_cons_succ, i64_w, i32_w]
       rfl
      refine pP 2 100 ?_
      refine pP 3 101 ?_
      refine one_ (i := 4) (N := some 102) #[true, true, true, true, true, false, false, false, false, false, false, false, false, false, false, false, false, false, false, false, false, false, false, false, false, false, false, false, false, false] rfl rfl (by kernel_rfl) (by decide) (fun K hK => ?_)
      refine goes_ Tryz.func43 (by kernel_rfl) rfl #[.agg (c48 x.f5).toArray, .agg (c48 y.f5).toArray, .int .i64 rows, .int .i64 cols] (by rfl) rfl rfl (by (try simp only [List.map_toArray, List.map_cons, List.map_nil]); first | done | rfl) ?_
      with_reducible refine (mvd_calls HM5.out _).mono ?_
      rintro e wz ⟨rfl, hb⟩
      refine ⟨_, rfl, ?_⟩
      refine hK.out _ _ ⟨below_step hHeld.1 hb, blk_below hHeld.2.1 hb, blk_below hHeld.2.2 hb⟩ (fun hHeld => ?_)
      clear hK K hb
      refine norm_ (a' := ?_) ?_ ?_
      rotate_left
      ·show Act.put _ (some 102) _ = _
       simp only [Act.put, List.setIfInBounds_toArray, List.set_cons_zero, List.set_cons_succ, i64_w, i32_w]
       rfl
      refine pP 5 103 ?_
      refine pP 6 104 ?_
      refine pP 7 105 ?_
      refine pP 8 106 ?_
      refine pP 9 107 ?_
      refine pP 10 108 ?_
      refine take_ (i := 11) (N := some 109) (v := ?_) (a' := ?_) #[true, true, true, true, true, true, true, true, true, true, true, true, false, false, false, false, false, false, false, false, false, false, false, false, false, false, false, false, false, false] rfl rfl (by kernel_rfl) (fun _ _ _ h => h) (Or.inl ⟨by rfl, ?_⟩) hHeld ?_ ?_
      rotate_left
      ·rintro w' ⟨s0, s1, s2⟩
       have f0 : w'.cell? (ad1.add (i * 20)) = some (.int .i64 2) := by rw [← hk]; exact el_0 (el_below EX.out s0)
       go_simp
       with_reducible rfl
      rotate_left
      ·simp only [Act.put, List.setIfInBounds_toArray, List.set_cons_zero, List.set_cons_succ, i64_w, i32_w]
       rfl
      refine pP 12 110 ?_
      refine pP 13 111 ?_
      refine uP 14 112 ?_
      refine uP 15 113 ?_
      refine uP 16 114 ?_
      refine uP 17 115 ?_
      refine uP 18 116 ?_
      refine uP 19 117 ?_
      refine uP 20 118 ?_
      refine uP 21 119 ?_
      refine uP 22 120 ?_
      refine uP 23 121 ?_
      refine uP 24 122 ?_
      refine uP 25 123 ?_
      refine uP 26 124 ?_
      refine uP 27 125 ?_
      refine pP 28 126 ?_
      refine pP 29 127 ?_
      refine done_ (by kernel_rfl) ?_
      have hB9 := hHeld.1
      clear hHeld hB h13 h14
      have HR2 := lh (below_step HB.out hB9)
      go_wp2_with (fail)
      rw [hw1]
      clear hw1 hlt hi
      go_roundw
      case rel => exact ⟨i + 1, by have := HI.out; omega, rfl, HR2⟩
      case measure => simp only [intOf]; have := HI.out; omega
     ·have HM5 := lh hm5
      have HM6 := lh hm6
      have k2 : (x.f0 == 2) = false := by rw [hk]; rfl
      have k3 : (x.f0 == 3) = true := by rw [hk]; rfl
      clear hm5 hm6
      go_upto_region 17 with (fail)
      refine start_ (n := 30) (S := fun w' => Below wr.heap.size wr w' ∧ w'.heap[g13]? = some (.cells (c48 x.f5).toArray 48 (0, 0)) ∧ w'.heap[g14]? = some (.cells (c48 y.f5).toArray 48 (0, 0))) (ds := []) #[false, false, false, false, false, false, false, false, false, false, false, false, false, false, false, false, false, false, false, false, false, false, false, false, false, false, false, false, false, false] (by kernel_rfl) rfl rfl ⟨hB.drew, blk_drew h13, blk_drew h14⟩ (fun hHeld => ?_)
      refine take_ (i := 0) (N := some 98) (v := ?_) (a' := ?_) #[true, false, false, false, false, false, false, false, false, false, false, false, false, false, false, false, false, false, false, false, false, false, false, false, false, false, false, false, false, false] rfl rfl (by kernel_rfl) (fun _ _ _ h => h) (Or.inl ⟨by rfl, ?_⟩) hHeld ?_ ?_
      rotate_left
      ·rintro w' ⟨s0, s1, s2⟩
       refine load_yields (t := 48) (p := .tmp 13) ?_ (g := g13) (e := 48) (cs := (c48 x.f5).toArray) ?_ s1 hu48 rfl ?_
       ·rfl
       ·rfl
       ·kernel_rfl
      rotate_left
      ·simp only [Act.put, List.setIfInBounds_toArray, List.set_cons_zero, List.set_cons_succ, i64_w, i32_w]
       rfl
      refine take_ (i := 1) (N := some 99) (v := ?_) (a' := ?_) #[true, true, false, false, false, false, false, false, false, false, false, false, false, false, false, false, false, false, false, false, false, false, false, false, false, false, false, false, false, false] rfl rfl (by kernel_rfl) (fun _ _ _ h => h) (Or.inl ⟨by rfl, ?_⟩) hHeld ?_ ?_
      rotate_left
      ·rintro w' ⟨s0, s1, s2⟩
       refine load_yields (t := 48) (p := .tmp 14) ?_ (g := g14) (e := 48) (cs := (c48 y.f5).toArray) ?_ s2 hu48 rfl ?_
       ·rfl
       ·rfl
       ·kernel_rfl
      rotate_left
      ·simp only [Act.put, List.setIfInBounds_toArray, List.set_cons_zero, List.set_cons_succ, i64_w, i32_w]
       rfl
      refine pP 2 100 ?_
      refine pP 3 101 ?_
      refine one_ (i := 4) (N := some 102) #[true, true, true, true, true, false, false, false, false, false, false, false, false, false, false, false, false, false, false, false, false, false, false, false, false, false, false, false, false, false] rfl rfl (by kernel_rfl) (by decide) (fun K hK => ?_)
      refine goes_ Tryz.func43 (by kernel_rfl) rfl #[.agg (c48 x.f5).toArray, .agg (c48 y.f5).toArray, .int .i64 rows, .int .i64 cols] (by rfl) rfl rfl (by (try simp only [List.map_toArray, List.map_cons, List.map_nil]); first | done | rfl) ?_
      with_reducible refine (mvd_calls HM5.out _).mono ?_
      rintro e wz ⟨rfl, hb⟩
      refine ⟨_, rfl, ?_⟩
      refine hK.out _ _ ⟨below_step hHeld.1 hb, blk_below hHeld.2.1 hb, blk_below hHeld.2.2 hb⟩ (fun hHeld => ?_)
      clear hK K hb
      refine norm_ (a' := ?_) ?_ ?_
      rotate_left
      ·show Act.put _ (some 102) _ = _
       simp only [Act.put, List.setIfInBounds_toArray, List.set_cons_zero, List.set_cons_succ, i64_w, i32_w]
       rfl
      refine pP 5 103 ?_
      refine pP 6 104 ?_
      refine pP 7 105 ?_
      refine pP 8 106 ?_
      refine pP 9 107 ?_
      refine pP 10 108 ?_
      refine take_ (i := 11) (N := some 109) (v := ?_) (a' := ?_) #[true, true, true, true, true, true, true, true, true, true, true, true, false, false, false, false, false, false, false, false, false, false, false, false, false, false, false, false, false, false] rfl rfl (by kernel_rfl) (fun _ _ _ h => h) (Or.inl ⟨by rfl, ?_⟩) hHeld ?_ ?_
      rotate_left
      ·rintro w' ⟨s0, s1, s2⟩
       have f0 : w'.cell? (ad1.add (i * 20)) = some (.int .i64 3) := by rw [← hk]; exact el_0 (el_below EX.out s0)
       go_simp
       with_reducible rfl
      rotate_left
      ·simp only [Act.put, List.setIfInBounds_toArray, List.set_cons_zero, List.set_cons_succ, i64_w, i32_w]
       rfl
      refine pP 12 110 ?_
      refine pP 13 111 ?_
      refine pP 14 112 ?_
      refine pP 15 113 ?_
      refine pP 16 114 ?_
      refine pP 17 115 ?_
      refine pP 19 117 ?_
      refine pP 20 118 ?_
      refine pP 21 119 ?_
      refine pP 22 120 ?_
      refine take_ (i := 18) (N := some 116) (v := ?_) (a' := ?_) #[true, true, true, true, true, true, true, true, true, true, true, true, true, true, true, true, true, true, true, true, true, true, true, false, false, false, false, false, false, false] rfl rfl (by kernel_rfl) (fun _ _ _ h => h) (Or.inl ⟨by rfl, ?_⟩) hHeld ?_ ?_
      rotate_left
      ·rintro w' ⟨s0, s1, s2⟩
       refine Nbw (t := 48) (p := .tmp 115) (ad := ⟨(ad1.add (i * 20)).block, (ad1.add (i * 20)).off + 15, none⟩) (cs := c48 x.f6) ?_ ?_ (el_6 (el_below EX.out s0)) hu48 rfl ?_
       ·rfl
       ·rfl
       ·kernel_rfl
      rotate_left
      ·simp only [Act.put, List.setIfInBounds_toArray, List.set_cons_zero, List.set_cons_succ, i64_w, i32_w]
       rfl
      refine take_ (i := 23) (N := some 121) (v := ?_) (a' := ?_) #[true, true, true, true, true, true, true, true, true, true, true, true, true, true, true, true, true, true, true, true, true, true, true, true, false, false, false, false, false, false] rfl rfl (by kernel_rfl) (fun _ _ _ h => h) (Or.inl ⟨by rfl, ?_⟩) hHeld ?_ ?_
      rotate_left
      ·rintro w' ⟨s0, s1, s2⟩
       refine Nbw (t := 48) (p := .tmp 120) (ad := ⟨(ad2.add (i * 20)).block, (ad2.add (i * 20)).off + 15, none⟩) (cs := c48 y.f6) ?_ ?_ (el_6 (el_below EY.out s0)) hu48 rfl ?_
       ·rfl
       ·rfl
       ·kernel_rfl
      rotate_left
      ·simp only [Act.put, List.setIfInBounds_toArray, List.set_cons_zero, List.set_cons_succ, i64_w, i32_w]
       rfl
      refine pP 24 122 ?_
      refine pP 25 123 ?_
      refine one_ (i := 26) (N := some 124) #[true, true, true, true, true, true, true, true, true, true, true, true, true, true, true, true, true, true, true, true, true, true, true, true, true, true, true, false, false, false] rfl rfl (by kernel_rfl) (by decide) (fun K hK => ?_)
      refine goes_ Tryz.func43 (by kernel_rfl) rfl #[.agg (c48 x.f6).toArray, .agg (c48 y.f6).toArray, .int .i64 rows, .int .i64 cols] (by rfl) rfl rfl (by (try simp only [List.map_toArray, List.map_cons, List.map_nil]); first | done | rfl) ?_
      with_reducible refine (mvd_calls HM6.out _).mono ?_
      rintro e wz ⟨rfl, hb⟩
      refine ⟨_, rfl, ?_⟩
      refine hK.out _ _ ⟨below_step hHeld.1 hb, blk_below hHeld.2.1 hb, blk_below hHeld.2.2 hb⟩ (fun hHeld => ?_)
      clear hK K hb
      refine norm_ (a' := ?_) ?_ ?_
      rotate_left
      ·show Act.put _ (some 124) _ = _
       simp only [Act.put, List.setIfInBounds_toArray, List.set_cons_zero, List.set_cons_succ, i64_w, i32_w]
       rfl
      refine pP 27 125 ?_
      refine pP 28 126 ?_
      refine pP 29 127 ?_
      refine done_ (by kernel_rfl) ?_
      have hB9 := hHeld.1
      clear hHeld hB h13 h14
      have HR2 := lh (below_step HB.out hB9)
      go_wp2_with (fail)
      rw [hw1]
      clear hw1 hlt hi
      go_roundw
      case rel => exact ⟨i + 1, by have := HI.out; omega, rfl, HR2⟩
      case measure => simp only [intOf]; have := HI.out; omega
     ·have k2 : (x.f0 == 2) = false := beq_eq_false_iff_ne.mpr hk2
      have k3 : (x.f0 == 3) = false := beq_eq_false_iff_ne.mpr hk3
      clear hk2 hk3 h13 h14
      go_wp2_with (fail)
      rw [hw1]
      clear hw1 hlt hi
      go_roundw
      case rel => exact ⟨i + 1, by have := HI.out; omega, rfl, HRW⟩
      case measure => simp only [intOf]; have := HI.out; omega
   ·obtain rfl : i = l.length := by omega
    clear hi hlt
    go_wp2_with (fail)
    go_ret
    exact ⟨rfl, below_step BW.out HB.out⟩
 ·have b1 : (e0 != 0) = true := bne_iff_ne.mpr hne
  clear hne
  go_enter Tryz.func17, Tryz.ntmps17
  go_wp2_with (first
   | (go_at_call 39; (with_reducible refine (able6_g.calls true _ HG.out rfl).mono ?_); rintro en w1 ⟨rfl, hb⟩; have B1 := lh hb; clear hb)
   | (go_at_call 21; (with_reducible refine (HP.out _ (GL.below HG.out B1.out)).mono ?_); rintro en w2 ⟨v2, rfl, ho, hb⟩; have B2 := lh (below_step B1.out hb); obtain ⟨A2, c2, hv⟩ := Kd.R_slice ho; subst hv; clear hb ho HP B1))
  go_ret
  exact ⟨rfl, B2.out⟩
end Go.Proofs.YtejbbceidnaloaaGreatDoor.P
