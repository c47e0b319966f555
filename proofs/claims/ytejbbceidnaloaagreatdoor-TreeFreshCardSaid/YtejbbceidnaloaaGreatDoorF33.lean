import Derived.Laws.CopyRow
import Derived.Test.YtejbbceidnaloaaGreatDoorF32
set_option linter.unusedVariables false
set_option linter.unusedSimpArgs false
set_option maxRecDepth 100000
set_option maxHeartbeats 8000000
namespace Go.Proofs.YtejbbceidnaloaaGreatDoor.P
open Go.RowKit AW AL AM
theorem litE {ops : Array Oper} {rest : List Oper} {o : Oper} {a : Act} {Q : Exit → Act → World → Prop} {W : World} (N : Tmp)
 (h : ∀ v1 w1, Kd.R k50 50 w1 W.heap.size (fun _ => True) v1 [] → Below W.heap.size W w1 → wpList Tryz.prog ops Q rest (a.put o.dst v1) w1) (hd : o.dst = some N := by exact rfl) (hg : o.guard = none := by exact rfl)
 (hr : (execOp a.eval o).run Tryz.prog W = .ok (.value (.slice (some ⟨W.heap.size, 0, none⟩) ([] : List S50).length ([] : List S50).length)) (W.alloc (.cells ([] : List Value).toArray 50)) := by go_simp <;> rfl) : wpList Tryz.prog ops Q (o :: rest) a W :=
 Kd.R_lit k50 _ 50 hg hd (xs := ([] : List S50)) (inner := []) (ok := fun _ => True) (okp := fun _ => True) hr (Reps.none _ _) (fun _ hk => hk) trivial (Below.refl _ _) (Nat.le_refl _) (by simp) fun v1 w1 h1 h2 _ _ => h v1 w1 h1 h2
theorem appE {ops : Array Oper} {rest : List Oper} {o : Oper} {a : Act} {Q : Exit → Act → World → Prop} {W0 W : World} (s x : Operand) {v : Value} {l : List S50} {A : Option Addr} {n c : Nat}
 (HO : Kd.R k50 50 W W0.heap.size (fun _ => True) v []) (HB : Below W0.heap.size W0 W) (HR : Kd.C k50 W A n l) (hn : n ≤ 256)
 (h : ∀ v1 w1, Kd.R k50 50 w1 W0.heap.size (fun _ => True) v1 l → Below W0.heap.size W0 w1 → wpList Tryz.prog ops Q rest (a.put o.dst v1) w1) (hs : a.eval s = v := by exact rfl) (hx : a.eval x = .slice A n c := by exact rfl)
 (ho : o.op = .call { callee := .builtin .append, args := #[s, x], argTypes := #[22, 22] } := by exact rfl) (hgd : o.guard = none := by exact rfl) : wpList Tryz.prog ops Q (o :: rest) a W :=
 Kd.R_append_rows k50 (w0 := W0) W0.heap.size hgd s x 22 50 (.agg #[(.int .i64 0), (.int .i64 0), (.int .i64 0), (.int .i64 0), (.string ⟨#[]⟩), (.bool false), (.int .i64 0), (.int .i64 0), (.string ⟨#[]⟩), (.int .i64 0), (.string ⟨#[]⟩), (.int .i64 0), (.int .i64 0), (.bool false), (.bool false), (.string ⟨#[]⟩), (.int .i64 0), (.int .i64 0), (.bool false), (.bool false)]) 176 ho Tryz.underlying22 info50 rfl (by decide) (by omega) v [] l A n c (fun _ => True) (fun _ => False) hs hx HO HR (fun _ _ h => h) (fun _ h => h.elim) (fun _ _ => trivial) HB HB.size (by simp only [List.length_nil]; omega) (fun v1 w1 h1 h2 _ _ => h v1 w1 h1 h2)
mutual
def Na0.j0 : Nat → List (S50) → Int → Bool → Option (List Int)
 | 0, _, _, _ => none
 | k + 1, x0, x1, x19 => if x19 = true then (some ([] : List Int)) else (if 0 ≤ x1 then (if x1 < (x0.length : Int) then ((Ncl.f (Nc2 x0 x1)).bind fun t103 => (Na0.l0 k x0 ([] : List Int) (wrap64 (x1 + 1)) t103 0)) else (none)) else (none))
def Na0.l0 : Nat → List (S50) → List Int → Int → Int → Int → Option (List Int)
 | 0, _, _, _, _, _ => none
 | k + 1, x0, x5, x6, x26, x27 => if x27 < x26 then (if x5.length < 17592186044416 then ((Nan.f k x0 x6).bind fun bt107 => (Na0.l0 k x0 (x5 ++ [x6]) bt107.1 x26 (wrap64 (x27 + 1)))) else (none)) else (some x5)
end
def Na0.f (k : Nat) (l0 : List (S50)) (a1 : Int) : Option (List Int) := (Na7.f k l0).bind fun t101 => (if t101 = 0 then (if a1 < 0 then (Na0.j0 k l0 a1 true) else (Na0.j0 k l0 a1 (decide (a1 ≥ (l0.length : Int))))) else (Na0.j0 k l0 a1 true))
theorem Na0.calls (k : Nat) (A0 : Option Addr) (c0 : Nat) (l0 : List (S50)) (a1 : Int) (r : List Int) (w : World) (hr0 : Kd.C k50 w A0 l0.length l0) (hc0 : l0.length ≤ c0) (h : Na0.f k l0 a1 = some r) :
 Calls Tryz.prog 32 #[.slice A0 l0.length c0, .int .i64 a1] w fun e w' => ∃ v0_ : Value, e = .returned (v0_) ∧ Kd.R (Kd.int .i64) 3 w' w.heap.size (fun _ => True) v0_ r ∧ Below w.heap.size w w' := by
 have hu50 := Tryz.underlying50
 have HR0 := aM hr0
 have HC0 := aM hc0
 clear hr0 hc0
 have HB := aM (Below.refl w.heap.size w)
 have H := h
 unfold Na0.f at H
 clear h
 have HC3 := aM H
 clear H
 go_enter Tryz.func32, Tryz.ntmps32
 go_upto_region 1 with (fail)
 go_cut [19] (fun v19 wc => ∃ (kq : Nat) (x19_2 : Bool), v19 = .bool x19_2 ∧ Nah (Na0.j0 kq l0 a1 x19_2 = some r) ∧ Nah (kq ≤ k) ∧ Nah (Below w.heap.size w wc))
 case first =>
  have H := HC3.out
  clear HC3
  replace H := bS H
  obtain ⟨t101, A40, H⟩ := H
  try dsimp only at H
  have A4 := aM A40
  clear A40
  by_cases c5 : t101 = 0
  ·rw [if_pos c5] at H
   obtain ⟨c5b0, c5b1⟩ := bqT c5
   clear c5
   (first | rw [c5b0] | (simp only [i64_w, i32_w]; rw [c5b0]) | skip)
   by_cases c6 : a1 < 0
   ·rw [if_pos c6] at H
    have c6b0 : decide (a1 < 0) = true := decide_eq_true c6
    clear c6
    have H' := aM H
    clear H
    go_wp2_with (first | ((with_reducible refine gC 28 rfl ?_); refine gL 8 Tryz.func28 #[.slice A0 l0.length c0] ?_; (with_reducible refine (Na7.calls k _ _ l0 t101 _ ?side1 ?side2 A4.out).mono ?_); (case side1 => repeat (first | exact (Kd.C_below HR0.out HB.out) | (with_reducible refine Kd.C_alloc ?_ _) | (with_reducible refine Kd.C_drewN ?_ _) | (with_reducible refine Kd.C_drew ?_))); (case side2 => exact HC0.out); rintro e w7 ⟨rfl, hb⟩; refine ⟨_, rfl, ?_⟩; replace HB := aM (Nac bE hb); (try clear hb)))
    go_meet
    case rel => exact ⟨_, (true), (by first | rfl | (simp; done) | (simp [*]; done)), H', ⟨by first | omega | exact Nat.le_refl _⟩, ⟨bE⟩⟩
   ·rw [if_neg c6] at H
    have c6b0 : decide (a1 < 0) = false := decide_eq_false c6
    clear c6
    have H' := aM H
    clear H
    go_wp2_with (first | ((with_reducible refine gC 28 rfl ?_); refine gL 8 Tryz.func28 #[.slice A0 l0.length c0] ?_; (with_reducible refine (Na7.calls k _ _ l0 t101 _ ?side1 ?side2 A4.out).mono ?_); (case side1 => repeat (first | exact (Kd.C_below HR0.out HB.out) | (with_reducible refine Kd.C_alloc ?_ _) | (with_reducible refine Kd.C_drewN ?_ _) | (with_reducible refine Kd.C_drew ?_))); (case side2 => exact HC0.out); rintro e w8 ⟨rfl, hb⟩; refine ⟨_, rfl, ?_⟩; replace HB := aM (Nac bE hb); (try clear hb)))
    go_meet
    case rel => exact ⟨_, (decide (a1 ≥ (l0.length : Int))), (by first | rfl | (simp; done) | (simp [*]; done)), H', ⟨by first | omega | exact Nat.le_refl _⟩, ⟨bE⟩⟩
  ·rw [if_neg c5] at H
   obtain ⟨c5b0, c5b1⟩ := bqF c5
   (first | rw [c5b0] | (simp only [i64_w, i32_w]; rw [c5b0]) | skip)
   have H' := aM H
   clear H
   go_wp2_with (first | ((with_reducible refine gC 28 rfl ?_); refine gL 8 Tryz.func28 #[.slice A0 l0.length c0] ?_; (with_reducible refine (Na7.calls k _ _ l0 t101 _ ?side1 ?side2 A4.out).mono ?_); (case side1 => repeat (first | exact (Kd.C_below HR0.out HB.out) | (with_reducible refine Kd.C_alloc ?_ _) | (with_reducible refine Kd.C_drewN ?_ _) | (with_reducible refine Kd.C_drew ?_))); (case side2 => exact HC0.out); rintro e w9 ⟨rfl, hb⟩; refine ⟨_, rfl, ?_⟩; replace HB := aM (Nac bE hb); (try clear hb)))
   go_meet
   case rel => exact ⟨_, (true), (by first | rfl | (simp; done) | (simp [*]; done)), H', ⟨by first | omega | exact Nat.le_refl _⟩, ⟨bE⟩⟩
 case rest =>
  clear HC3
  try clear c2
  try clear p2
  try clear c3
  try clear c5
  try clear c5b0
  try clear c5b1
  try clear c6
  try clear c6b0
  obtain ⟨kq, x19_2, rfl, HA, HJ2, HB⟩ := hcut
  cases kq with
  | zero => exact absurd HA.out (by simp [Na0.j0])
  | succ kj2 =>
   have H := HA.out
   clear HA
   simp only [Na0.j0] at H
   by_cases c10 : x19_2 = true
   ·subst c10
    rw [if_pos rfl] at H
    obtain rfl := sI H
    go_wp2
    go_ret
    exact ⟨_, eR, by first | exact Kd.R_nil _ _ _ _ _ | exact Kd.N_nil _ _ _ _ _ | exact Kd.V_nil _ _ _ _ _ | exact Kd.Q_nil _ _ _ _ _ | exact Kd.S_nil _ _ _ _ _, bE⟩
   ·replace c10 := Bool.eq_false_iff.mpr c10
    subst c10
    rw [if_neg fT] at H
    by_cases c11 : 0 ≤ a1
    ·rw [if_pos c11] at H
     have c11b0 : decide (0 ≤ a1) = true := decide_eq_true c11
     clear c11
     by_cases c12 : a1 < (l0.length : Int)
     ·rw [if_pos c12] at H
      have c12b0 : decide (a1 < (l0.length : Int)) = true := decide_eq_true c12
      clear c12
      replace H := bS H
      obtain ⟨t103, A130, H⟩ := H
      try dsimp only at H
      have A13 := aM A130
      clear A130
      have H' := aM H
      clear H
      have p102 : 0 ≤ (a1 : Int) := of_decide_eq_true (by first | (with_reducible assumption) | assumption)
      have q102 : a1 < (l0.length : Int) := of_decide_eq_true (by first | (with_reducible assumption) | assumption)
      obtain ⟨ad102, e102⟩ := at_N50 HR0.out a1 p102 q102
      cases e102
      replace p102 := eq_true p102
      replace q102 := eq_true q102
      go_wp2_with (first | ((with_reducible refine gD 25 rfl ?_); refine Ndj rfl rfl (xs := l0) (n := l0.length) (A := some ad102) ?hc a1 (of_eq_true p102) (of_eq_true q102) rfl ?ha ?_; (case hc => first | exact HR0.out | exact Kd.C_below HR0.out HB.out); (case ha => rfl)) | ((with_reducible refine gC 56 rfl ?_); refine gL 26 Tryz.func56 #[v50 (Nc2 l0 a1)] ?_; (with_reducible refine (Ncl.calls (Nc2 l0 a1) t103 _ A13.out).mono ?_); rintro e w14 ⟨rfl, hb⟩; refine ⟨_, rfl, ?_⟩; replace HB := aM (Nac bE hb); (try clear hb)))
      go_loopg [5, 6, 27] kj2 (fun kq v5 v6 v27 w' => ∃ (x5_2 : List Int) (x6_2 : Int) (x27_2 : Int), v6 = .int .i64 x6_2 ∧ v27 = .int .i64 x27_2 ∧ Nah (Na0.l0 kq l0 x5_2 x6_2 t103 x27_2 = some r) ∧ Nah (kq ≤ kj2) ∧ Nah (Kd.R (Kd.int .i64) 3 w' w.heap.size (fun _ => True) v5 x5_2) ∧ Nah (Below w.heap.size w w'))
      case atStart => exact ⟨(([] : List Int)), (wrap64 (a1 + 1)), (0), (by first | rfl | (simp; done) | (simp [*]; done)), (by first | rfl | (simp; done) | (simp [*]; done)), H', ⟨Nat.le_refl _⟩, ⟨by first | exact Kd.R_nil _ _ _ _ _ | exact Kd.N_nil _ _ _ _ _ | exact Kd.V_nil _ _ _ _ _ | exact Kd.Q_nil _ _ _ _ _ | exact Kd.S_nil _ _ _ _ _⟩, ⟨bE⟩⟩
      case round =>
       clear H'
       try clear c1
       try clear p1
       try clear q1
       try clear hx1
       try clear c2
       try clear p2
       try clear c3
       try clear c5
       try clear c5b0
       try clear c5b1
       try clear c6
       try clear c6b0
       try clear p6
       try clear c10
       try clear p10
       try clear q10
       try clear hx10
       try clear c11
       try clear c11b0
       try clear c12
       try clear c12b0
       try clear hx102_0
       try clear hx102_1
       try clear hx102_10
       try clear hx102_11
       try clear hx102_12
       try clear hx102_13
       try clear hx102_14
       try clear hx102_15
       try clear hx102_16
       try clear hx102_17
       try clear hx102_18
       try clear hx102_19
       try clear hx102_2
       try clear hx102_3
       try clear hx102_4
       try clear hx102_5
       try clear hx102_6
       try clear hx102_7
       try clear hx102_8
       try clear hx102_9
       try clear p102
       try clear p2
       try clear q102
       obtain ⟨x5_2, x6_2, x27_2, rfl, rfl, HA, HK2, HO_5, HB⟩ := hrel
       cases gk with
       | zero => exact absurd HA.out (by simp [Na0.l0])
       | succ k2 =>
        have H := HA.out
        clear HA
        simp only [Na0.l0] at H
        by_cases c15 : x27_2 < t103
        ·rw [if_pos c15] at H
         have c15b0 : decide (x27_2 < t103) = true := decide_eq_true c15
         clear c15
         by_cases c16 : x5_2.length < 17592186044416
         ·rw [if_pos c16] at H
          have LMc16 := aM c16
          clear c16
          obtain ⟨y104, hy104⟩ : ∃ y_ : List Int, y_ = (x5_2 ++ [x6_2]) := ⟨_, rfl⟩
          replace H : ((Nan.f k2 l0 x6_2).bind fun bt107 => (Na0.l0 k2 l0 y104 bt107.1 t103 (wrap64 (x27_2 + 1)))) = some r := by first | (rw [hy104]; with_reducible exact H) | (have H2_ := (Option.bind_some _ _).symm.trans H; rw [hy104]; with_reducible exact H2_) | (have H2_ := (Option.bind_some _ _).symm.trans H; with_reducible exact H2_) | with_reducible exact H | (rw [hy104]; exact H) | exact H
          have Ny104 := aM hy104
          clear hy104
          replace H := bS H
          obtain ⟨⟨t107, t108⟩, A170, H⟩ := H
          try dsimp only at H
          have A17 := aM A170
          clear A170
          have H' := aM H
          clear H
          go_wp2_with (first | ((with_reducible refine gD 25 rfl ?_); refine Ndj rfl rfl (xs := l0) (n := l0.length) (A := some ad102) ?hc a1 (of_eq_true p102) (of_eq_true q102) rfl ?ha ?_; (case hc => first | exact HR0.out | exact Kd.C_below HR0.out HB.out); (case ha => rfl)) | ((with_reducible refine Nbz (b := .append) (xs := #[.tmp 29, .tmp 31]) rfl ?_); (try (refine Nch (by rfl) ?_; dsimp only)); at_builtin; refine Kd.R_append (Kd.int .i64) (w0 := w) w.heap.size rfl (.tmp 29) (.tmp 31) 37 3 (.int .i64 0) 8 rfl Tryz.underlying37 info3 rfl (by decide) (by omega) u5 x5_2 x6_2 [.int .i64 x6_2] (fun _ => True) (fun _ => False) rfl rfl ?aP (fun _ hk => hk.elim) ?aF ?aO ?aB ?aS ?aL ?_; (case aP => exact rfl); (case aB => exact bE); (case aF => exact (fun _ _ => trivial)); (case aO => exact (by (with_reducible repeat (first | apply Kd.R_alloc | apply Kd.R_drewN | apply Kd.R_drew)); exact HO_5.out)); (case aS => exact (Nbb bE)); (case aL => have := LMc16.out; omega); intro v105 w18 ho hb hg hat; rw [← Ny104.out] at ho; have n0_ := aM (hb); have n1_ := aM (ho); clear HB; clear HO_5; have HB := n0_; have HO106 := n1_; clear n0_ n1_; clear ho hb hg hat) | ((with_reducible refine gC 53 rfl ?_); refine gL 36 Tryz.func53 #[.slice (some ad102) l0.length c0, .int .i64 x6_2] ?_; (with_reducible refine (Nan.calls k2 _ _ l0 x6_2 t107 t108 _ ?side1 ?side2 A17.out).mono ?_); (case side1 => repeat (first | exact (Kd.C_below HR0.out HB.out) | (with_reducible refine Kd.C_alloc ?_ _) | (with_reducible refine Kd.C_drewN ?_ _) | (with_reducible refine Kd.C_drew ?_))); (case side2 => exact HC0.out); rintro e w19 ⟨rfl, hb⟩; refine ⟨_, rfl, ?_⟩; replace HO106 := aM (Kd.R_below (by (with_reducible repeat (first | apply Kd.R_alloc | apply Kd.R_drewN | apply Kd.R_drew)); exact HO106.out) hb); replace HB := aM (Nac bE hb); (try clear hb)))
          go_roundg k2
          case measure => have := HJ2.out; have := HK2.out; omega
          case rel => exact ⟨(y104), (t107), (wrap64 (x27_2 + 1)), (by first | rfl | (simp; done) | (simp [*]; done)), (by first | rfl | (simp; done) | (simp [*]; done)), H', ⟨by have := HJ2.out; have := HK2.out; omega⟩, ⟨by (with_reducible repeat (first | apply Kd.R_alloc | apply Kd.R_drewN | apply Kd.R_drew)); exact HO106.out⟩, ⟨bE⟩⟩
         ·rw [if_neg c16] at H
          exact absurd H (by simp)
        ·rw [if_neg c15] at H
         have c15b0 : decide (x27_2 < t103) = false := decide_eq_false c15
         clear c15
         obtain rfl := sI H
         go_wp2
         go_ret
         exact ⟨_, eR, by (with_reducible repeat (first | apply Kd.R_alloc | apply Kd.R_drewN | apply Kd.R_drew)); exact HO_5.out, bE⟩
     ·rw [if_neg c12] at H
      exact absurd H (by simp)
    ·rw [if_neg c11] at H
     exact absurd H (by simp)
theorem Tre.sub {p : List S50} {d : Nat} (h : Tre p d) : ∀ i, i < p.length → ∃ (n : S50) (c : Nat) (ps q : List S50) (e : Nat), p.drop i = n :: (ps ++ q) ∧ Nbk n = (c : Int) ∧ Frs c ps e ∧ e + 1 ≤ d := by
 induction h using Tre.rec (motive_2 := fun c p d _ => ∀ i, i < p.length → ∃ (n : S50) (c' : Nat) (ps q : List S50) (e : Nat), p.drop i = n :: (ps ++ q) ∧ Nbk n = (c' : Int) ∧ Frs c' ps e ∧ e + 1 ≤ d) with
 | node n c p d h1 h2 ih =>
  intro i hi
  cases i with
  | zero => exact ⟨n, c, p, [], d, by simp, h1, h2, Nat.le_refl _⟩
  | succ i =>
   obtain ⟨n', c', ps, q, e, h3, h4, h5, h6⟩ := ih i (by simp only [List.length_cons] at hi; omega)
   exact ⟨n', c', ps, q, e, by rw [List.drop_succ_cons, h3], h4, h5, by omega⟩
 | nil => rename_i hi; simp at hi
 | cons p q c d e h1 h2 i1 i2 =>
  rename_i i hi
  by_cases hp : i < p.length
  ·obtain ⟨n', c', ps, r, e', h3, h4, h5, h6⟩ := i1 i hp
   refine ⟨n', c', ps, r ++ q, e', ?_, h4, h5, by omega⟩
   rw [List.drop_append_of_le_length (by omega), h3, List.cons_append, List.append_assoc]
  ·obtain ⟨n', c', ps, r, e', h3, h4, h5, h6⟩ := i2 (i - p.length) (by simp only [List.length_append] at hi; omega)
   refine ⟨n', c', ps, r, e', ?_, h4, h5, by omega⟩
   rw [show i = p.length + (i - p.length) by omega, ← List.drop_drop, List.drop_left]
   exact h3
inductive Ksl (l : List S50) (e : Nat) : Nat → List Int → Prop
 | nil (i : Nat) : Ksl l e i []
 | cons (i : Nat) (p : List S50) (d : Nat) (ks : List Int) : Tre p d → d ≤ e → (l.drop i).take p.length = p → i + p.length ≤ l.length → Ksl l e (i + p.length) ks → Ksl l e i ((i : Int) :: ks)
theorem kids_all (l : List S50) (hl : l.length ≤ 256) : ∀ (c : Nat) (p q : List S50) (e i K dn : Nat) (acc : List Int) (z : Int), Frs c p e → l.drop i = p ++ q → i ≤ l.length → 2 * p.length + 2 * c + 2 ≤ K → z = ((dn + c : Nat) : Int) → z ≤ 100 → acc.length = dn →
 ∃ ks, Na0.l0 K l acc (i : Int) z (dn : Int) = some (acc ++ ks) ∧ Ksl l e i ks ∧ ks.length = c := by
 intro c
 induction c with
 | zero =>
  intro p q e i K dn acc z h hd hi hK hz hz1 ha
  obtain ⟨K, rfl⟩ : ∃ K', K = K' + 1 := ⟨K - 1, by omega⟩
  refine ⟨[], ?_, .nil i, rfl⟩
  rw [Na0.l0, if_neg (by omega), List.append_nil]
 | succ c ih =>
  intro p q e i K dn acc z h hd hi hK hz hz1 ha
  obtain ⟨K, rfl⟩ : ∃ K', K = K' + 1 := ⟨K - 1, by omega⟩
  cases h with
  | cons p q2 c d e h1 h2 =>
   simp only [List.length_append] at hK
   have hlen := congrArg List.length hd
   simp only [List.length_drop, List.length_append] at hlen
   have hpos := h1.pos
   have ho := (over_all l (by omega) p.length).1 p (q2 ++ q) d i K h1 (Nat.le_refl _) (by rw [hd, List.append_assoc]) (by omega)
   have hd2 : l.drop (i + p.length) = q2 ++ q := by rw [← List.drop_drop, hd, List.append_assoc, List.drop_left]
   obtain ⟨ks, hk1, hk2, hk3⟩ := ih q2 q e (i + p.length) K (dn + 1) (acc ++ [(i : Int)]) z h2 hd2 (by omega) (by omega) (by omega) hz1 (by simp [ha])
   refine ⟨(i : Int) :: ks, ?_, .cons i p d ks h1 (Nat.le_max_left _ _) (by rw [hd, List.append_assoc, List.take_left]) (by omega) ?_, by simp [hk3]⟩
   ·rw [Na0.l0, if_pos (by omega), if_pos (by omega), ho]
    show Na0.l0 K l (acc ++ [(i : Int)]) ((i + p.length : Nat) : Int) z (wrap64 ((dn : Int) + 1)) = _
    rw [wr1 (by omega) (by omega), show ((dn : Int) + 1) = ((dn + 1 : Nat) : Int) by omega, hk1, List.append_assoc]
    rfl
   ·clear hk1
    have : ∀ {i ks}, Ksl l e i ks → Ksl l (max d e) i ks := by
     intro i ks h
     induction h with
     | nil i => exact .nil i
     | cons i p d' ks a b c dd _ ih => exact .cons i p d' ks a (Nat.le_trans b (Nat.le_max_right _ _)) c dd ih
    exact this hk2
theorem kids_f {l : List S50} {d : Nat} (h : Tre l d) (hd : d ≤ 32) (hl : l.length ≤ 256) {i : Nat} (hi : i < l.length) {K : Nat} (hK : 1000 ≤ K) :
 ∃ ks e, Na0.f K l (i : Int) = some ks ∧ Ksl l e (i + 1) ks ∧ e ≤ 32 ∧ ks.length ≤ 30 := by
 obtain ⟨n, c, ps, q, e, h1, h2, h3, h4⟩ := h.sub i hi
 obtain ⟨-, hn, hd2⟩ := getD_drop (q := []) h1
 have hp := parts_le n
 obtain ⟨K, rfl⟩ : ∃ K', K = K' + 1 := ⟨K - 1, by omega⟩
 have hlen := congrArg List.length h1
 simp only [List.length_drop, List.length_cons, List.length_append] at hlen
 obtain ⟨ks, k1, k2, k3⟩ := kids_all l hl c ps q e (i + 1) K 0 [] (Nbk n) h3 hd2 (by omega) (by omega) (by omega) (by omega) rfl
 refine ⟨ks, e, ?_, k2, by omega, by omega⟩
 unfold Na0.f
 rw [check_tre h hl (by omega), if_pos hd]
 simp only [Option.bind_some, if_true]
 rw [if_neg (by omega), show decide ((i : Int) ≥ (l.length : Int)) = false from decide_eq_false (by omega), Na0.j0, if_neg (by decide), if_pos (by omega), if_pos (by omega), hn]
 show Na0.l0 K l [] (wrap64 ((i : Int) + 1)) (Nbk n) 0 = _
 rw [wr1 (by omega) (by omega), show (i : Int) + 1 = ((i + 1 : Nat) : Int) by omega]
 exact k1
end Go.Proofs.YtejbbceidnaloaaGreatDoor.P
