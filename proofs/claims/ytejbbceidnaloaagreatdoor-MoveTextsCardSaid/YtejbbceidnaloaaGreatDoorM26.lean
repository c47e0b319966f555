import Derived.Test.YtejbbceidnaloaaGreatDoorM25
namespace Go.Proofs.YtejbbceidnaloaaGreatDoor.P
open Go.RowKit Go.Proofs.YtejbbceidnaloaaGreatDoorW.PrintWords Go.Proofs.YtejbbceidnaloaaGreatDoorW.PrintLast Go.Proofs.YtejbbceidnaloaaGreatDoorW.PrintMore
set_option linter.unusedVariables false
set_option linter.unusedSimpArgs false
section
attribute [local go_sem] max2_int min2_int max_two min_two max_three min_three max_four min_four
def mtx.j0 : Nat → ByteArray → ByteArray → Int → Bool → Option (Bool)
 | 0, _, _, _, _ => none
 | k + 1, x0, x3, x4, x28 => if x28 = true then ((move_Copy_g.f x0 7 (-3)).bind fun bt104 => (if x4 = 0 then (if bt104.2 = 0 then (if x3.toList = x0.toList then (some (bt104.1.toList == x0.toList)) else (some false)) else (some false)) else (some false))) else (if 1 ≤ (x0.size : Int) then ((tree_Parse_g.f (x0.extract 1 x0.size)).bind fun bt106 => (if bt106.2.1 = 0 then ((tree_Print_g.f bt106.1).bind fun bt111 => (if (bt111.1.size : Int) > 1023 then (if x4 = 2 then (some (x3.toList == ([] : List UInt8))) else (some false)) else ((move_Copy_g.f x3 0 0).bind fun bt113 => (if x4 = 0 then (if 1 + bt111.1.size ≤ 9223372036854775807 then (if x3.toList = ((⟨#[61]⟩ : ByteArray) ++ bt111.1).toList then (if bt113.2 = 0 then (some (bt113.1.toList == x3.toList)) else (some false)) else (some false)) else (none)) else (some false))))) else (if x4 = bt106.2.1 then (some (x3.toList == ([] : List UInt8))) else (some false)))) else (none))
def mtx.f (k : Nat) (a0 : ByteArray) : Option (Bool) := (ab6.f).bind fun t101 => (if t101 = true then ((move_Copy_g.f a0 0 0).bind fun bt102 => (if (a0.size : Int) = 0 then (mtx.j0 k a0 bt102.1 bt102.2 true) else (if 0 < (a0.size : Int) then (mtx.j0 k a0 bt102.1 bt102.2 ((bt a0 0) != 61)) else (none)))) else (some false))
set_option maxHeartbeats 8000000 in
set_option maxRecDepth 100000 in
theorem mtx.calls (k : Nat) (a0 : ByteArray) (r : Bool) (w : World) (hG : GL w) (hr_ : Aside0 (r = true)) (h : mtx.f k a0 = some r) :
 Calls Tryz.prog 18 #[.string a0] w fun e w' => e = .returned (.bool r) ∧ Below w.heap.size w w' := by
 have HB := aM (Below.refl w.heap.size w)
 have H := h
 unfold mtx.f at H
 clear h
 replace H := Option.bind_eq_some_iff.mp H
 obtain ⟨t101, A20, H⟩ := H
 try dsimp only at H
 have A2 := aM A20
 clear A20
 by_cases c3 : t101 = true
 ·subst c3
  rw [if_pos rfl] at H
  replace H := Option.bind_eq_some_iff.mp H
  obtain ⟨⟨t102, t103⟩, A40, H⟩ := H
  try dsimp only at H
  have A4 := aM A40
  clear A40
  have HC5 := aM H
  clear H
  go_enter Tryz.func18, Tryz.ntmps18
  go_upto_region 4 with (first | ((with_reducible refine gate_callee (f := 39) rfl ?_); refine gL 14 Tryz.func39 #[] ?_; (with_reducible refine (ab6.calls  true _ ?side1 A2.out).mono ?_); (case side1 => exact GL.below hG bE); rintro e w6 ⟨rfl, hb⟩; refine ⟨_, rfl, ?_⟩; replace HB := aM (below_step bE hb); (try clear hb)) | ((with_reducible refine gate_callee (f := 41) rfl ?_); refine gL 18 Tryz.func41 #[.string a0, .int .i64 0, .int .i64 0] ?_; (with_reducible refine (move_Copy_g.calls a0 0 0 t102 t103 _ ?side1 A4.out).mono ?_); (case side1 => exact GL.below hG bE); rintro e w7 ⟨rfl, hb⟩; refine ⟨_, rfl, ?_⟩; replace HB := aM (below_step bE hb); (try clear hb)))
  (try simp only [Act.put, List.setIfInBounds_toArray, List.set_cons_zero, List.set_cons_succ])
  go_cut [28] (fun v28 wc => ∃ (kq : Nat) (x28_4 : Bool), v28 = .bool x28_4 ∧ Aside0 (mtx.j0 kq a0 t102 t103 x28_4 = some r) ∧ Aside0 (kq ≤ k) ∧ Aside0 (Below w.heap.size w wc))
  case first =>
   have H := HC5.out
   clear HC5
   by_cases c8 : (a0.size : Int) = 0
   ·rw [if_pos c8] at H
    obtain ⟨c8b0, c8b1⟩ := bqT c8
    clear c8
    (first | rw [c8b0] | (simp only [i64_w, i32_w]; rw [c8b0]) | skip)
    have H' := aM H
    clear H
    go_wp2
    go_meet
    case rel => exact ⟨_, (true), (by first | rfl | (simp; done) | (simp [*]; done)), H', ⟨by first | omega | exact Nat.le_refl _⟩, ⟨bE⟩⟩
   ·rw [if_neg c8] at H
    obtain ⟨c8b0, c8b1⟩ := bqF c8
    (first | rw [c8b0] | (simp only [i64_w, i32_w]; rw [c8b0]) | skip)
    by_cases c9 : 0 < (a0.size : Int)
    ·rw [if_pos c9] at H
     have c9b0 : decide (0 < (a0.size : Int)) = true := decide_eq_true c9
     have c9b1 : decide (0 < a0.size) = true := decide_eq_true (by omega)
     clear c9
     have H' := aM H
     clear H
     have p10 : 0 ≤ (0 : Int) := (by omega)
     have q10 : 0 < a0.size := (by have : (0 : Int) < (a0.size : Int) := of_decide_eq_true (by first | (with_reducible assumption) | assumption); omega)
     have hx10 : ∀ h : 0 < a0.size, ((a0[0]'h).toNat : Int) = bt a0 0 := bt_at a0 0
     clear p10
     have qi10 : (0 < (a0.size : Int)) = True := eq_true (of_decide_eq_true (by first | (with_reducible assumption) | assumption))
     replace q10 := eq_true q10
     go_wp2
     go_meet
     case rel => exact ⟨_, (((bt a0 0) != 61)), (by first | rfl | (simp; done) | (simp [*]; done)), H', ⟨by first | omega | exact Nat.le_refl _⟩, ⟨bE⟩⟩
    ·rw [if_neg c9] at H
     exact absurd H (by simp)
  case rest =>
   clear HC5
   try clear c1
   try clear p1
   try clear q1
   try clear hx1
   try clear qi1
   try clear p2
   try clear c3
   try clear c4
   try clear c8
   try clear c8b0
   try clear c8b1
   try clear c9
   try clear c9b0
   try clear c9b1
   try clear p10
   try clear q10
   try clear hx10
   try clear qi10
   try clear p10
   try clear q10
   obtain ⟨kq, x28_4, rfl, HA, HJ4, HB⟩ := hcut
   cases kq with
   | zero => exact absurd HA.out (by simp [mtx.j0])
   | succ kj4 =>
    have H := HA.out
    clear HA
    simp only [mtx.j0] at H
    by_cases c11 : x28_4 = true
    ·subst c11
     rw [if_pos rfl] at H
     replace H := Option.bind_eq_some_iff.mp H
     obtain ⟨⟨t104, t105⟩, A120, H⟩ := H
     try dsimp only at H
     have A12 := aM A120
     clear A120
     by_cases c13 : t103 = 0
     ·rw [if_pos c13] at H
      obtain ⟨c13b0, c13b1⟩ := bqT c13
      clear c13
      by_cases c14 : t105 = 0
      ·rw [if_pos c14] at H
       obtain ⟨c14b0, c14b1⟩ := bqT c14
       clear c14
       by_cases c15 : t102.toList = a0.toList
       ·rw [if_pos c15] at H
        obtain ⟨c15b0, c15b1⟩ := bqT c15
        clear c15
        obtain rfl := Option.some.inj H
        go_wp2_with (first | ((with_reducible refine gate_callee (f := 41) rfl ?_); refine gL 31 Tryz.func41 #[.string a0, .int .i64 7, .int .i64 (-3)] ?_; (with_reducible refine (move_Copy_g.calls a0 7 (-3) t104 t105 _ ?side1 A12.out).mono ?_); (case side1 => exact GL.below hG bE); rintro e w16 ⟨rfl, hb⟩; refine ⟨_, rfl, ?_⟩; replace HB := aM (below_step bE hb); (try clear hb)))
        go_ret
        exact ⟨eR, bE⟩
       ·rw [if_neg c15] at H
        obtain ⟨c15b0, c15b1⟩ := bqF c15
        exact Bool.noConfusion ((Option.some.inj H).trans hr_.out)
      ·rw [if_neg c14] at H
       obtain ⟨c14b0, c14b1⟩ := bqF c14
       exact Bool.noConfusion ((Option.some.inj H).trans hr_.out)
     ·rw [if_neg c13] at H
      obtain ⟨c13b0, c13b1⟩ := bqF c13
      exact Bool.noConfusion ((Option.some.inj H).trans hr_.out)
    ·replace c11 := Bool.eq_false_iff.mpr c11
     subst c11
     rw [if_neg Bool.false_ne_true] at H
     by_cases c17 : 1 ≤ (a0.size : Int)
     ·rw [if_pos c17] at H
      have c17b0 := eq_true c17
      have c17b1 : decide (1 ≤ (a0.size : Int)) = true := decide_eq_true c17
      clear c17
      replace H := Option.bind_eq_some_iff.mp H
      obtain ⟨⟨t106, t107, t108⟩, A180, H⟩ := H
      try dsimp only at H
      have A18 := aM A180
      clear A180
      by_cases c19 : t107 = 0
      ·rw [if_pos c19] at H
       obtain ⟨c19b0, c19b1⟩ := bqT c19
       clear c19
       replace H := Option.bind_eq_some_iff.mp H
       obtain ⟨⟨t111, t112⟩, A200, H⟩ := H
       try dsimp only at H
       have A20 := aM A200
       clear A200
       by_cases c21 : (t111.size : Int) > 1023
       ·rw [if_pos c21] at H
        have c21b0 : decide (1023 < (t111.size : Int)) = true := decide_eq_true c21
        have c21b1 : decide (1023 < t111.size) = true := decide_eq_true (by omega)
        clear c21
        by_cases c22 : t103 = 2
        ·rw [if_pos c22] at H
         obtain ⟨c22b0, c22b1⟩ := bqT c22
         clear c22
         obtain rfl := Option.some.inj H
         go_wp2_with (first | ((with_reducible refine gate_callee (f := 21) rfl ?_); refine gL 53 Tryz.func21 #[.string (a0.extract 1 a0.size)] ?_; (with_reducible refine (tree_Parse_g.calls (a0.extract 1 a0.size) t106 t107 t108 _ ?side1 A18.out).mono ?_); (case side1 => exact GL.below hG bE); rintro e w23 ⟨v109, rfl, ho0, hb⟩; refine ⟨_, rfl, ?_⟩; have HO110 := aM (Kd.R_lower ho0 (below_size bE)); replace HB := aM (below_step bE hb); (try clear hb); (try clear ho0); obtain ⟨Ao24, co24, eo24⟩ := Kd.R_slice HO110.out; subst eo24) | ((with_reducible refine gate_callee (f := 26) rfl ?_); refine gL 68 Tryz.func26 #[.slice Ao24 t106.length co24] ?_; (with_reducible refine (tree_Print_g.calls _ _ t106 t111 t112 _ ?side3 ?side1 ?side2 A20.out).mono ?_); (case side1 => repeat (first | exact (Kd.R_reads' HO110.out).2.2 | (with_reducible refine Kd.C_alloc ?_ _) | (with_reducible refine Kd.C_drewN ?_ _) | (with_reducible refine Kd.C_drew ?_))); (case side2 => exact (Kd.R_reads' HO110.out).2.1); (case side3 => exact GL.below hG bE); rintro e w25 ⟨rfl, hb⟩; refine ⟨_, rfl, ?_⟩; replace HO110 := aM (Kd.R_below (by (with_reducible repeat (first | apply Kd.R_alloc | apply Kd.R_drewN | apply Kd.R_drew)); exact HO110.out) hb); replace HB := aM (below_step bE hb); (try clear hb)))
         go_ret
         exact ⟨eR, bE⟩
        ·rw [if_neg c22] at H
         obtain ⟨c22b0, c22b1⟩ := bqF c22
         exact Bool.noConfusion ((Option.some.inj H).trans hr_.out)
       ·rw [if_neg c21] at H
        have c21b0 : decide (1023 < (t111.size : Int)) = false := decide_eq_false c21
        have c21b1 : decide (1023 < t111.size) = false := decide_eq_false (by omega)
        clear c21
        replace H := Option.bind_eq_some_iff.mp H
        obtain ⟨⟨t113, t114⟩, A260, H⟩ := H
        try dsimp only at H
        have A26 := aM A260
        clear A260
        by_cases c27 : t103 = 0
        ·rw [if_pos c27] at H
         obtain ⟨c27b0, c27b1⟩ := bqT c27
         clear c27
         by_cases c28 : 1 + t111.size ≤ 9223372036854775807
         ·rw [if_pos c28] at H
          have c28b0 := eq_true c28
          have c28b1 : decide (1 + t111.size ≤ 9223372036854775807) = true := decide_eq_true c28
          try have c28b2 : (9223372036854775807 < 1 + t111.size) = False := eq_false (Nat.not_lt.2 c28)
          by_cases c29 : t102.toList = ((⟨#[61]⟩ : ByteArray) ++ t111).toList
          ·rw [if_pos c29] at H
           obtain ⟨c29b0, c29b1⟩ := bqT c29
           clear c29
           by_cases c30 : t114 = 0
           ·rw [if_pos c30] at H
            obtain ⟨c30b0, c30b1⟩ := bqT c30
            clear c30
            obtain rfl := Option.some.inj H
            go_wp2_with (first | ((with_reducible refine gate_callee (f := 21) rfl ?_); refine gL 53 Tryz.func21 #[.string (a0.extract 1 a0.size)] ?_; (with_reducible refine (tree_Parse_g.calls (a0.extract 1 a0.size) t106 t107 t108 _ ?side1 A18.out).mono ?_); (case side1 => exact GL.below hG bE); rintro e w31 ⟨v109, rfl, ho0, hb⟩; refine ⟨_, rfl, ?_⟩; have HO110 := aM (Kd.R_lower ho0 (below_size bE)); replace HB := aM (below_step bE hb); (try clear hb); (try clear ho0); obtain ⟨Ao32, co32, eo32⟩ := Kd.R_slice HO110.out; subst eo32) | ((with_reducible refine gate_callee (f := 26) rfl ?_); refine gL 68 Tryz.func26 #[.slice Ao32 t106.length co32] ?_; (with_reducible refine (tree_Print_g.calls _ _ t106 t111 t112 _ ?side3 ?side1 ?side2 A20.out).mono ?_); (case side1 => repeat (first | exact (Kd.R_reads' HO110.out).2.2 | (with_reducible refine Kd.C_alloc ?_ _) | (with_reducible refine Kd.C_drewN ?_ _) | (with_reducible refine Kd.C_drew ?_))); (case side2 => exact (Kd.R_reads' HO110.out).2.1); (case side3 => exact GL.below hG bE); rintro e w33 ⟨rfl, hb⟩; refine ⟨_, rfl, ?_⟩; replace HO110 := aM (Kd.R_below (by (with_reducible repeat (first | apply Kd.R_alloc | apply Kd.R_drewN | apply Kd.R_drew)); exact HO110.out) hb); replace HB := aM (below_step bE hb); (try clear hb)) | ((with_reducible refine gate_callee (f := 41) rfl ?_); refine gL 82 Tryz.func41 #[.string t102, .int .i64 0, .int .i64 0] ?_; (with_reducible refine (move_Copy_g.calls t102 0 0 t113 t114 _ ?side1 A26.out).mono ?_); (case side1 => exact GL.below hG bE); rintro e w34 ⟨rfl, hb⟩; refine ⟨_, rfl, ?_⟩; replace HO110 := aM (Kd.R_below (by (with_reducible repeat (first | apply Kd.R_alloc | apply Kd.R_drewN | apply Kd.R_drew)); exact HO110.out) hb); replace HB := aM (below_step bE hb); (try clear hb)))
            go_ret
            exact ⟨eR, bE⟩
           ·rw [if_neg c30] at H
            obtain ⟨c30b0, c30b1⟩ := bqF c30
            exact Bool.noConfusion ((Option.some.inj H).trans hr_.out)
          ·rw [if_neg c29] at H
           obtain ⟨c29b0, c29b1⟩ := bqF c29
           exact Bool.noConfusion ((Option.some.inj H).trans hr_.out)
         ·rw [if_neg c28] at H
          exact absurd H (by simp)
        ·rw [if_neg c27] at H
         obtain ⟨c27b0, c27b1⟩ := bqF c27
         exact Bool.noConfusion ((Option.some.inj H).trans hr_.out)
      ·rw [if_neg c19] at H
       obtain ⟨c19b0, c19b1⟩ := bqF c19
       by_cases c35 : t103 = t107
       ·rw [if_pos c35] at H
        obtain ⟨c35b0, c35b1⟩ := bqT c35
        clear c35
        obtain rfl := Option.some.inj H
        go_wp2_with (first | ((with_reducible refine gate_callee (f := 21) rfl ?_); refine gL 53 Tryz.func21 #[.string (a0.extract 1 a0.size)] ?_; (with_reducible refine (tree_Parse_g.calls (a0.extract 1 a0.size) t106 t107 t108 _ ?side1 A18.out).mono ?_); (case side1 => exact GL.below hG bE); rintro e w36 ⟨v109, rfl, ho0, hb⟩; refine ⟨_, rfl, ?_⟩; have HO110 := aM (Kd.R_lower ho0 (below_size bE)); replace HB := aM (below_step bE hb); (try clear hb); (try clear ho0)))
        go_ret
        exact ⟨eR, bE⟩
       ·rw [if_neg c35] at H
        obtain ⟨c35b0, c35b1⟩ := bqF c35
        exact Bool.noConfusion ((Option.some.inj H).trans hr_.out)
     ·rw [if_neg c17] at H
      exact absurd H (by simp)
 ·replace c3 := Bool.eq_false_iff.mpr c3
  subst c3
  rw [if_neg Bool.false_ne_true] at H
  exact Bool.noConfusion ((Option.some.inj H).trans hr_.out)
end
def toks : Nat → List Tk → List S39
 | _, [] => []
 | p, t :: T => ⟨t.1, t.2, (p : Int)⟩ :: toks (p + (tkText t).length) T
def Stop : List UInt8 → Prop
 | [] => True
 | c :: _ => c ∈ singles
def H61 : List UInt8 → Prop
 | [] => True
 | c :: _ => c ≠ 61 ∧ c ≠ 62
def appT (ts : List S39) : Except (Int × Int) (List S39) → Except (Int × Int) (List S39)
 | .ok us => .ok (ts ++ us)
 | .error e => .error e
def LexTo (T : List Tk) (r : List UInt8) : Prop := ∀ p k, (txt T ++ r).length ≤ k → scanL k p (txt T ++ r) = appT (toks p T) (scanL k (p + (txt T).length) r)
theorem appT_nil (x : Except (Int × Int) (List S39)) : appT [] x = x := by cases x <;> rfl
theorem appT_app (a b : List S39) (x : Except (Int × Int) (List S39)) : appT a (appT b x) = appT (a ++ b) x := by
 cases x with
 | error e => rfl
 | ok us => show Except.ok (a ++ (b ++ us)) = Except.ok (a ++ b ++ us); rw [List.append_assoc]
theorem toks_app : ∀ (T U : List Tk) (p : Nat), toks p (T ++ U) = toks p T ++ toks (p + (txt T).length) U
 | [], U, p => by rw [txt_nil]; rfl
 | t :: T, U, p => by
  rw [List.cons_append, toks, toks_app T U, toks, txt_cons, List.length_append, Nat.add_assoc, List.cons_append]
theorem LexTo.nil (r : List UInt8) : LexTo [] r := by
 intro p k h
 rw [txt_nil, List.nil_append]
 show _ = appT [] _
 rw [appT_nil]; rfl
theorem LexTo.app {T U : List Tk} {r : List UInt8} (h1 : LexTo T (txt U ++ r)) (h2 : LexTo U r) : LexTo (T ++ U) r := by
 intro p k h
 rw [txt_append, List.append_assoc] at h ⊢
 have hl : (txt U ++ r).length ≤ k := by rw [List.length_append] at h; omega
 rw [h1 p k h, h2 _ k hl, appT_app, toks_app, List.length_append, Nat.add_assoc]
theorem LexTo.one {t : Tk} {r : List UInt8} (h : nextL (tkText t ++ r) = (t.1, t.2.data.toList, (tkText t).length, 0)) (h0 : ∃ c q, tkText t = c :: q ∧ c ≠ 32) : LexTo [t] r := by
 intro p k hk
 rw [txt_one] at hk ⊢
 obtain ⟨c, q, he, hc⟩ := h0
 obtain ⟨k, rfl⟩ : ∃ y, k = y + 1 := ⟨k - 1, by rw [he] at hk; simp at hk; omega⟩
 have hlen : ((tkText t ++ r).drop (tkText t).length) = r := List.drop_left
 rw [List.length_append] at hk
 have hpos : 1 ≤ (tkText t).length := by rw [he]; simp
 have hx : tkText t ++ r = c :: (q ++ r) := by rw [he]; rfl
 rw [hx, scanL, if_neg hc, ← hx, h]
 show (if (0 : Int) = 0 then _ else _) = _
 rw [if_pos rfl, hlen, scanL_up k r k (k + 1) _ (by omega) (by omega) (by omega)]
 show (match scanL (k + 1) (p + (tkText t).length) r with | .ok ts => (Except.ok (⟨t.1, ⟨t.2.data.toList.toArray⟩, (p : Int)⟩ :: ts) : Except (Int × Int) (List S39)) | .error e => Except.error e) = _
 rw [← list_text]
 cases scanL (k + 1) (p + (tkText t).length) r with
 | ok us => rfl
 | error e => rfl
theorem stop_facts {c : UInt8} (h : c ∈ singles) : digB c.toNat = false ∧ wordB c.toNat = false ∧ letB c.toNat = false ∧ c ≠ 34 ∧ c ≠ 46 ∧ c ≠ 32 ∧ c ≠ 35 ∧ c ≠ 36 := by
 unfold singles at h
 simp only [List.mem_cons, List.not_mem_nil, or_false] at h
 rcases h with rfl | rfl | rfl | rfl | rfl | rfl | rfl | rfl | rfl | rfl | rfl | rfl | rfl | rfl | rfl <;> decide
theorem stop_run (p : Int → Bool) (hp : ∀ c ∈ singles, p c.toNat = false) : ∀ r : List UInt8, Stop r → (match r with | [] => True | c :: _ => p c.toNat = false)
 | [], _ => trivial
 | c :: r, h => hp c h
theorem next_word {c : UInt8} {w r : List UInt8} (hc : letB c.toNat = true ∨ c = 36) (hw : ∀ x ∈ c :: w, wordB x.toNat = true) (hr : Stop r) : nextL ((c :: w) ++ r) = (3, c :: w, (c :: w).length, 0) := by
 have hd : digB c.toNat = false := by
  unfold digB
  rcases hc with hc | rfl
  ·unfold letB at hc
   cases hh : (decide (48 ≤ ((c.toNat : Nat) : Int)) && decide (((c.toNat : Nat) : Int) ≤ 57)) with
   | false => rfl
   | true =>
    simp only [Bool.and_eq_true, Bool.or_eq_true, decide_eq_true_eq] at hh hc
    omega
  ·decide
 have h34 : c ≠ 34 := by
  rintro rfl
  rcases hc with hc | hc
  ·revert hc; decide
  ·revert hc; decide
 have hrun := runL_app wordB (c :: w) r hw (stop_run wordB (fun x hx => (stop_facts hx).2.1) r hr)
 show nextL (c :: (w ++ r)) = _
 rw [nextL, if_neg (by rw [hd]; decide), if_neg h34, if_pos hc]
 rw [← List.cons_append, hrun, List.take_left]
theorem next_num {l r : List UInt8} (h : NumTx l) (hr : Stop r) : nextL (l ++ r) = (1, l, l.length, 0) := by
 obtain ⟨a, h0, hd, h⟩ := h
 have hda : ∀ x ∈ a, digB x.toNat = true := fun x hx => (digB_iff x).2 (hd x hx)
 cases a with
 | nil => exact absurd rfl h0
 | cons c a =>
  have hc := hda c (List.mem_cons_self ..)
  rcases h with rfl | ⟨b, hb0, hdb, rfl⟩
  ·have hrun := runL_app digB (c :: a) r hda (stop_run digB (fun x hx => (stop_facts hx).1) r hr)
   have hn : numLx ((c :: a) ++ r) = (c :: a).length := by
    unfold numLx
    rw [hrun, List.drop_left]
    cases r with
    | nil => rfl
    | cons d r =>
     simp only
     rw [if_neg (fun hh => (stop_facts hr).2.2.2.2.1 hh.1)]; rfl
   show nextL (c :: (a ++ r)) = _
   rw [nextL, if_pos hc, ← List.cons_append, hn, List.take_left]
  ·have hdb' : ∀ x ∈ b, digB x.toNat = true := fun x hx => (digB_iff x).2 (hdb x hx)
   have hrun := runL_app digB (c :: a) (46 :: (b ++ r)) hda (show digB (((46 : UInt8).toNat : Nat) : Int) = false by decide)
   have hrunb := runL_app digB b r hdb' (stop_run digB (fun x hx => (stop_facts hx).1) r hr)
   have hbl : 0 < b.length := List.length_pos_iff.2 hb0
   have e : (c :: a ++ 46 :: b) ++ r = (c :: a) ++ (46 :: (b ++ r)) := by simp
   have hn : numLx ((c :: a ++ 46 :: b) ++ r) = (c :: a ++ 46 :: b).length := by
    rw [e]
    unfold numLx
    rw [hrun, List.drop_left]
    simp only
    rw [hrunb, if_pos ⟨trivial, hbl⟩]
    simp only [List.length_append, List.length_cons]; omega
   rw [List.cons_append, List.cons_append, nextL, if_pos hc, ← List.cons_append, ← List.cons_append, hn, List.take_left]
theorem begins_fault {f : List UInt8} (h : f ∈ faultsLL) (r : List UInt8) : beginsL (f ++ r) faultsLL = f ∧ ∃ q, f = 35 :: q := by
 unfold faultsLL faultsL at h ⊢
 simp only [List.map_cons, List.map_nil, List.mem_cons, List.not_mem_nil, or_false] at h
 rcases h with rfl | rfl | rfl | rfl | rfl | rfl | rfl | rfl <;> (refine ⟨?_, ?_⟩; (· simp [beginsL, List.isPrefixOf]); (· exact ⟨_, rfl⟩))
theorem next_flt {f r : List UInt8} (h : f ∈ faultsLL) : nextL (f ++ r) = (4, f, f.length, 0) := by
 obtain ⟨hb, q, rfl⟩ := begins_fault h r
 rw [List.cons_append] at hb ⊢
 rw [nextL, if_neg (by decide), if_neg (by decide), if_neg (by decide), if_pos rfl, hb, if_neg (by simp)]
theorem qend_dbl : ∀ (l r : List UInt8), (match r with | [] => True | c :: _ => c ≠ 34) → qend (dblL l ++ 34 :: r) = some (dblL l).length
 | [], r, h => by
  show qend (34 :: r) = some 0
  rw [qend.eq_def]
  simp only [if_true]
  cases r with
  | nil => rfl
  | cons c r => simp only at h ⊢; rw [if_neg h]
 | b :: l, r, h => by
  have ih := qend_dbl l r h
  by_cases hb : b = 34
  ·subst hb
   have e : dblL (34 :: l) = 34 :: 34 :: dblL l := rfl
   rw [e, List.cons_append, List.cons_append, qend.eq_def]
   simp only [if_true]
   rw [ih]; rfl
  ·have e : dblL (b :: l) = b :: dblL l := by unfold dblL; rw [List.flatMap_cons, if_neg hb]; rfl
   rw [e, List.cons_append, qend_ne hb, ih]; rfl
theorem badAt_none {l : List UInt8} (h : ∀ c ∈ l, 32 ≤ c.toNat ∧ c.toNat ≤ 126) : badAt l = none := by
 induction l with
 | nil => rfl
 | cons c l ih =>
  have hc := h c (List.mem_cons_self ..)
  rw [badAt, if_neg (by omega), ih (fun x hx => h x (List.mem_cons_of_mem _ hx))]; rfl
theorem ix2_cons (b : UInt8) (l : List UInt8) : Lib.index (b :: l) [34, 34] = if ([34, 34] : List UInt8).isPrefixOf (b :: l) then 0 else if Lib.index l [34, 34] == -1 then -1 else Lib.index l [34, 34] + 1 := by rw [Lib.index]
theorem undbl_dbl : ∀ (l : List UInt8) (k : Nat), Lib.count (dblL l) [34, 34] ≤ k → Lib.replaceK [34, 34] [34] k (dblL l) = l
 | [], k, _ => by cases k <;> rfl
 | b :: l, k, h => by
  by_cases hb : b = 34
  ·subst hb
   have e : dblL (34 :: l) = 34 :: 34 :: dblL l := rfl
   have hi : Lib.index (dblL (34 :: l)) [34, 34] = ((0 : Nat) : Int) := by rw [e, ix2_cons, if_pos (by simp [List.isPrefixOf])]; rfl
   have hd : (dblL (34 :: l)).drop (0 + ([34, 34] : List UInt8).length) = dblL l := by rw [e]; rfl
   rw [Lib.count_hit (by simp) hi, hd] at h
   obtain ⟨k, rfl⟩ : ∃ y, k = y + 1 := ⟨k - 1, by omega⟩
   rw [Lib.replaceK_hit _ _ _ _ 0 hi, hd, undbl_dbl l k (by omega)]
   rfl
  ·have e : dblL (b :: l) = b :: dblL l := by unfold dblL; rw [List.flatMap_cons, if_neg hb]; rfl
   have hp : ([34, 34] : List UInt8).isPrefixOf (b :: dblL l) = false := by simp [List.isPrefixOf, Ne.symm hb]
   rw [e] at h ⊢
   rcases Lib.index_spec (dblL l) [34, 34] with ⟨h1, _⟩ | ⟨i, h1, _⟩
   ·have h2 : Lib.index (b :: dblL l) [34, 34] = -1 := by rw [ix2_cons, hp, if_neg (by decide), h1]; rfl
    have ih := undbl_dbl l k (by rw [Lib.count_miss h1]; omega)
    cases k with
    | zero => show b :: dblL l = b :: l; rw [show dblL l = l from ih]
    | succ k =>
     rw [Lib.replaceK, if_pos (by rw [h1]; rfl)] at ih
     rw [Lib.replaceK, if_pos (by rw [h2]; rfl), ih]
   ·have h2 : Lib.index (b :: dblL l) [34, 34] = ((i + 1 : Nat) : Int) := by
     rw [ix2_cons, hp, if_neg (by decide), h1, if_neg (by rw [beq_iff_eq]; omega)]; rfl
    have hd : (b :: dblL l).drop (i + 1 + ([34, 34] : List UInt8).length) = (dblL l).drop (i + ([34, 34] : List UInt8).length) := by
     rw [show i + 1 + ([34, 34] : List UInt8).length = (i + ([34, 34] : List UInt8).length) + 1 by omega, List.drop_succ_cons]
    rw [Lib.count_hit (by simp) h2, hd, ← Lib.count_hit (by simp) h1] at h
    have ih := undbl_dbl l k h
    have hk : 1 ≤ k := by rw [Lib.count_hit (by simp) h1] at h; omega
    obtain ⟨k, rfl⟩ : ∃ y, k = y + 1 := ⟨k - 1, by omega⟩
    rw [Lib.replaceK_hit _ _ _ _ _ h1] at ih
    rw [Lib.replaceK_hit _ _ _ _ _ h2, hd, List.take_succ_cons, List.cons_append, List.cons_append, ih]
theorem undblL_dbl (l : List UInt8) : undblL (dblL l) = l := by
 unfold undblL Lib.replaceAll Lib.replace
 rw [if_neg (by decide), show Lib.replaceNum (dblL l) [34, 34] (-1) = Lib.count (dblL l) [34, 34] by unfold Lib.replaceNum; rw [if_pos (by omega)]]
 exact undbl_dbl l _ (Nat.le_refl _)
theorem next_text {l r : List UInt8} (h : ∀ c ∈ l, 32 ≤ c.toNat ∧ c.toNat ≤ 126) (hr : match r with | [] => True | c :: _ => c ≠ 34) : nextL ((34 :: (dblL l ++ [34])) ++ r) = (2, l, (34 :: (dblL l ++ [34])).length, 0) := by
 have e : (34 :: (dblL l ++ [34])) ++ r = 34 :: (dblL l ++ 34 :: r) := by simp
 have hq : quotL (34 :: (dblL l ++ 34 :: r)) = (l, (34 :: (dblL l ++ [34])).length, 0) := by
  unfold quotL
  rw [List.drop_succ_cons, List.drop_zero, qend_dbl l r hr]
  simp only
  have ht : (34 :: (dblL l ++ 34 :: r)).take ((dblL l).length + 2) = 34 :: (dblL l ++ [34]) := by
   rw [← e, show (dblL l).length + 2 = (34 :: (dblL l ++ [34])).length by simp, List.take_left]
  have hb : badAt (34 :: (dblL l ++ [34])) = none := by
   refine badAt_none fun c hc => ?_
   rcases List.mem_cons.1 hc with rfl | hc
   ·decide
   ·rcases List.mem_append.1 hc with hc | hc
    ·unfold dblL at hc
     obtain ⟨x, hx, hc⟩ := List.mem_flatMap.1 hc
     have := h x hx
     split at hc
     ·simp only [List.mem_cons, List.not_mem_nil, or_false, or_self] at hc
      rw [hc]; decide
     ·rw [List.mem_singleton] at hc
      rw [hc]; exact this
    ·rw [List.mem_singleton] at hc
     rw [hc]; decide
  rw [ht, hb]
  simp only
  rw [List.take_left, undblL_dbl]
  simp
 rw [e, nextL, if_neg (by decide), if_pos rfl, hq]
theorem next_single {c : UInt8} {r : List UInt8} (h : c ∈ singles) (h60 : c = 60 ∨ c = 62 → H61 r) : nextL (c :: r) = (5, [c], 1, 0) := by
 obtain ⟨hd, hw, hl, h34, h46, h32, h35, h36⟩ := stop_facts h
 have hb : beginsL (c :: r) pairsLL = [] := by
  unfold pairsLL pairsL
  simp only [List.map_cons, List.map_nil, beginsL]
  by_cases h1 : c = 60 ∨ c = 62
  ·have hr := h60 h1
   cases r with
   | nil => simp [List.isPrefixOf]
   | cons d r =>
    unfold H61 at hr
    simp [List.isPrefixOf, Ne.symm hr.1, Ne.symm hr.2]
  ·have a1 : c ≠ 60 := fun hh => h1 (.inl hh)
   have a2 : c ≠ 62 := fun hh => h1 (.inr hh)
   simp [List.isPrefixOf, Ne.symm a1, Ne.symm a2]
 rw [nextL, if_neg (by rw [hd]; decide), if_neg h34, if_neg (show ¬ (letB c.toNat = true ∨ c = 36) from fun hh => hh.elim (fun h => by rw [hl] at h; cases h) h36), if_neg h35, if_neg (fun hh => hh hb), if_pos (List.contains_iff_mem.2 h)]
theorem decVal_split : ∀ (l : List UInt8) (a : Nat), decVal a l = a * 10 ^ l.length + decVal 0 l
 | [], a => by rw [decVal_nil, decVal_nil]; simp
 | c :: l, a => by
  rw [decVal_cons, decVal_cons, decVal_split l (a * 10 + (c.toNat - 48)), decVal_split l (0 * 10 + (c.toNat - 48)), List.length_cons, Nat.pow_succ]
  rw [Nat.add_mul, Nat.add_mul, Nat.zero_mul, Nat.zero_add, Nat.mul_assoc a 10, Nat.mul_comm 10, Nat.add_assoc]
theorem decVal_app (l m : List UInt8) (a : Nat) : decVal a (l ++ m) = decVal (decVal a l) m := by unfold decVal; rw [List.foldl_append]
theorem decVal_zeros (m a : Nat) : decVal a (List.replicate m 48) = a * 10 ^ m := by
 induction m generalizing a with
 | zero => rw [List.replicate_zero, decVal_nil]; simp
 | succ m ih =>
  rw [List.replicate_succ, decVal_cons, ih, show (48 : UInt8).toNat - 48 = 0 from rfl, Nat.add_zero, Nat.pow_succ, Nat.mul_assoc, Nat.mul_comm 10]
theorem drop_rep (c : UInt8) : ∀ l : List UInt8, ∃ m, l = List.replicate m c ++ l.dropWhile (· == c)
 | [] => ⟨0, rfl⟩
 | b :: l => by
  by_cases hb : (b == c) = true
  ·obtain ⟨m, hm⟩ := drop_rep c l
   refine ⟨m + 1, ?_⟩
   rw [List.dropWhile_cons, if_pos hb, List.replicate_succ, List.cons_append, ← hm]
   rw [beq_iff_eq.1 hb]
  ·exact ⟨0, by rw [List.dropWhile_cons, if_neg hb]; rfl⟩
theorem trim_rep (l : List UInt8) (c : UInt8) : ∃ m, l = Lib.trimRightB l c ++ List.replicate m c := by
 obtain ⟨m, hm⟩ := drop_rep c l.reverse
 refine ⟨m, ?_⟩
 have := congrArg List.reverse hm
 rw [List.reverse_reverse, List.reverse_append, List.reverse_replicate] at this
 exact this
theorem frac_facts {X : Nat} (h0 : 0 < X) (h1 : X < 1000000) : let b := Lib.trimRightB ((Lib.decDigits (1000000 + X)).drop 1) 48
 b ≠ [] ∧ (∀ c ∈ b, isDig c) ∧ b.length ≤ 6 ∧ decVal 0 b * 10 ^ (6 - b.length) = X := by
 obtain ⟨hd, hv, hc⟩ := dec_canon (1000000 + X)
 have hlen1 := dec_le 6 (1000000 + X) (by omega)
 have hlt := decVal_lt (Lib.decDigits (1000000 + X)) 0 hd
 rw [hv, Nat.zero_add, Nat.one_mul] at hlt
 have hlen2 : 7 ≤ (Lib.decDigits (1000000 + X)).length := by
  refine Nat.le_of_not_lt fun h => ?_
  have : 10 ^ (Lib.decDigits (1000000 + X)).length ≤ 10 ^ 6 := Nat.pow_le_pow_right (by decide) (by omega)
  have e6 : (10 : Nat) ^ 6 = 1000000 := by decide
  omega
 generalize Lib.decDigits (1000000 + X) = D at *
 cases D with
 | nil => simp at hlen2
 | cons c ds =>
  simp only [List.length_cons] at hlen1 hlen2
  have hds : ds.length = 6 := by omega
  have hdd : ∀ x ∈ ds, isDig x := fun x hx => hd x (List.mem_cons_of_mem _ hx)
  have hvd := decVal_lt ds 0 hdd
  rw [Nat.zero_add, Nat.one_mul, hds] at hvd
  have e6 : (10 : Nat) ^ 6 = 1000000 := by decide
  rw [e6] at hvd
  have hX : decVal 0 ds = X := by
   rw [decVal_cons, decVal_split, hds, e6] at hv
   omega
  rw [List.drop_succ_cons, List.drop_zero]
  obtain ⟨m, hm⟩ := trim_rep ds 48
  generalize Lib.trimRightB ds 48 = b at *
  have hl := congrArg List.length hm
  rw [List.length_append, List.length_replicate, hds] at hl
  have hval : decVal 0 b * 10 ^ m = X := by rw [← hX, hm, decVal_app, decVal_zeros]
  refine ⟨?_, fun x hx => hdd x (by rw [hm]; exact List.mem_append_left _ hx), by omega, ?_⟩
  ·intro hb
   rw [hb, decVal_nil, Nat.zero_mul] at hval
   omega
  ·rw [show 6 - b.length = m by omega]; exact hval
theorem mkN_of {N D n d : Nat} (hd : 1 ≤ d) (hD : 1 ≤ D) (hg : Nat.gcd n d = 1) (h : N * d = n * D) (hn : n ≤ 1000000000000) (hd6 : d ≤ 1000000) : mkN N D = some (n, d) := by
 have hdv : d ∣ D := by
  have h1 : d ∣ n * D := ⟨N, by rw [← h, Nat.mul_comm]⟩
  exact (Nat.Coprime.symm hg).dvd_of_dvd_mul_left h1
 obtain ⟨q, hq⟩ := hdv
 have hq0 : 0 < q := by
  rcases Nat.eq_zero_or_pos q with h0 | h0
  ·rw [h0, Nat.mul_zero] at hq; omega
  ·exact h0
 have hN : N = n * q := by
  have : N * d = n * q * d := by rw [h, hq, Nat.mul_comm d q, Nat.mul_assoc]
  exact Nat.eq_of_mul_eq_mul_right (by omega) this
 have hgc : Nat.gcd N D = q := by rw [hN, hq, Nat.gcd_mul_right, hg, Nat.one_mul]
 unfold mkN
 rw [hgc, hN, hq, Nat.mul_div_cancel _ hq0, Nat.mul_div_cancel _ hq0, if_pos ⟨hn, hd6⟩]
theorem numOf_shape {a : List UInt8} (ha : ∀ c ∈ a, isDig c) : numOf a = (if decVal 0 a ≤ 1000000000000000000 then mkN (decVal 0 a) 1 else none) := by
 have hda : ∀ c ∈ a, digB ((c.toNat : Nat) : Int) = true := fun c hc => (digB_iff c).2 (ha c hc)
 have hr := runL_app digB a [] hda trivial
 rw [List.append_nil] at hr
 unfold numOf
 rw [hr, List.drop_length, List.take_length]
theorem numOf_frac {a b : List UInt8} (ha : ∀ c ∈ a, isDig c) : numOf (a ++ 46 :: b) = (if decVal 0 a ≤ 1000000000000 ∧ b.length ≤ 6 then mkN (decVal 0 a * 10 ^ b.length + decVal 0 b) (10 ^ b.length) else none) := by
 have hda : ∀ c ∈ a, digB ((c.toNat : Nat) : Int) = true := fun c hc => (digB_iff c).2 (ha c hc)
 have hr := runL_app digB a (46 :: b) hda (show digB (((46 : UInt8).toNat : Nat) : Int) = false by decide)
 unfold numOf
 rw [hr, List.drop_left, List.take_left]
theorem num_nat {n d : Int} (hR : numB n d = true) (h0 : 0 ≤ n) : ∃ N D : Nat, n = (N : Int) ∧ d = (D : Int) ∧ 1 ≤ D ∧ D ≤ 1000000 ∧ N ≤ 1000000000000 ∧ Nat.gcd N D = 1 := by
 have hb := hR
 unfold numB at hb
 obtain ⟨-, h1, h2, h3, h4⟩ := of_decide_eq_true hb
 refine ⟨n.toNat, d.toNat, by omega, by omega, by omega, by omega, by omega, ?_⟩
 have e1 : n.natAbs = n.toNat := by omega
 have e2 : d.natAbs = d.toNat := by omega
 rw [← e1, ← e2]; exact h4
theorem numL_nat (N D : Nat) : numL (N : Int) (D : Int) = Lib.decDigits (N / D) ++ (if D = 1 then [] else 46 :: Lib.trimRightB ((Lib.decDigits (1000000 + N % D * (1000000 / D))).drop 1) 48) := by
 unfold numL
 have e1 : (((N : Int) / (D : Int))).toNat = N / D := by rw [← Int.natCast_ediv]; rfl
 have e2 : ((1000000 : Int) + (N : Int) % (D : Int) * (1000000 / (D : Int))).toNat = 1000000 + N % D * (1000000 / D) := by
  have : ((1000000 : Int) + (N : Int) % (D : Int) * (1000000 / (D : Int))) = ((1000000 + N % D * (1000000 / D) : Nat) : Int) := by
   rw [Int.natCast_add, Int.natCast_mul, Int.natCast_emod, Int.natCast_ediv]; rfl
  rw [this]; rfl
 rw [e1, e2]
 by_cases h : D = 1
 ·rw [if_pos h, if_pos (by omega)]
 ·rw [if_neg h, if_neg (by omega)]
theorem num_back {n d : Int} (hR : numB n d = true) (h0 : 0 ≤ n) (hd : (1000000 : Int) % d = 0) : NumTx (numL n d) ∧ ∃ N D : Nat, n = (N : Int) ∧ d = (D : Int) ∧ numOf (numL n d) = some (N, D) := by
 obtain ⟨N, D, rfl, rfl, h1, h2, h3, h4⟩ := num_nat hR h0
 have hdv : 1000000 % D = 0 := by
  have e : ((1000000 : Int) % (D : Int)) = ((1000000 % D : Nat) : Int) := rfl
  rw [e] at hd
  exact Int.ofNat.inj hd
 rw [numL_nat]
 obtain ⟨ha, hva, -⟩ := dec_canon (N / D)
 have hne : Lib.decDigits (N / D) ≠ [] := by
  intro h
  have := dec_pos (N / D)
  rw [h] at this
  simp at this
 have hq : N / D ≤ N := Nat.div_le_self _ _
 by_cases h : D = 1
 ·subst h
  rw [if_pos rfl, List.append_nil]
  rw [Nat.div_one] at *
  refine ⟨⟨_, hne, ha, .inl rfl⟩, N, 1, rfl, rfl, ?_⟩
  rw [numOf_shape ha, hva, if_pos (by omega)]
  exact mkN_of (Nat.le_refl _) (Nat.le_refl _) (Nat.gcd_one_right _) rfl h3 h2
 ·rw [if_neg h]
  have hr0 : 0 < N % D := by
   refine Nat.pos_of_ne_zero fun hz => ?_
   have : D ∣ N := Nat.dvd_of_mod_eq_zero hz
   have hg := Nat.gcd_eq_right this
   rw [h4] at hg
   exact h hg.symm
  have hrD : N % D < D := Nat.mod_lt _ (by omega)
  obtain ⟨Q, hQ⟩ : ∃ Q, 1000000 = D * Q := ⟨1000000 / D, by have := Nat.div_add_mod 1000000 D; omega⟩
  have hQd : 1000000 / D = Q := by rw [hQ, Nat.mul_div_cancel_left _ (by omega)]
  have hQ0 : 0 < Q := by
   rcases Nat.eq_zero_or_pos Q with hz | hz
   ·rw [hz, Nat.mul_zero] at hQ; omega
   ·exact hz
  have hX0 : 0 < N % D * Q := Nat.mul_pos hr0 hQ0
  have hX1 : N % D * Q < 1000000 := by rw [hQ]; exact Nat.mul_lt_mul_of_pos_right hrD hQ0
  rw [hQd]
  obtain ⟨hb0, hbd, hbl, hbv⟩ := frac_facts hX0 hX1
  generalize Lib.trimRightB ((Lib.decDigits (1000000 + N % D * Q)).drop 1) 48 = b at *
  refine ⟨⟨_, hne, ha, .inr ⟨b, hb0, hbd, rfl⟩⟩, N, D, rfl, rfl, ?_⟩
  rw [numOf_frac ha, hva, if_pos ⟨by omega, hbl⟩]
  refine mkN_of h1 (Nat.pos_of_ne_zero (by simp)) h4 ?_ h3 h2
  have hP : 10 ^ b.length * 10 ^ (6 - b.length) = 1000000 := by
   rw [← Nat.pow_add, show b.length + (6 - b.length) = 6 by omega]
  have hS : 0 < 10 ^ (6 - b.length) := Nat.pos_of_ne_zero (by simp)
  generalize 10 ^ b.length = P at *
  generalize 10 ^ (6 - b.length) = S at *
  generalize decVal 0 b = B at *
  refine Nat.eq_of_mul_eq_mul_right hS ?_
  have hN := Nat.div_add_mod N D
  generalize hA : N / D = A at *
  generalize hRr : N % D = R at *
  have e1 : (A * P + B) * D * S = A * D * (P * S) + D * (B * S) := by
   rw [Nat.add_mul, Nat.add_mul]
   congr 1
   ·rw [Nat.mul_assoc A P D, Nat.mul_comm P D, ← Nat.mul_assoc A D P, Nat.mul_assoc (A * D) P S]
   ·rw [Nat.mul_comm B D, Nat.mul_assoc]
  have e2 : N * P * S = A * D * (P * S) + R * (P * S) := by
   rw [Nat.mul_assoc, ← Nat.add_mul, Nat.mul_comm A D, hN]
  rw [e1, e2, hP, hbv]
  congr 1
  rw [← Nat.mul_assoc, Nat.mul_comm D R, Nat.mul_assoc, ← hQ]
def Hd (T : List Tk) : Prop := ∃ c q, txt T = c :: q ∧ c ≠ 61 ∧ c ≠ 62
theorem Hd.h61 {T : List Tk} (h : Hd T) (r : List UInt8) : H61 (txt T ++ r) := by
 obtain ⟨c, q, e, h1, h2⟩ := h
 rw [e]
 exact ⟨h1, h2⟩
theorem Hd.app {T : List Tk} (h : Hd T) (U : List Tk) : Hd (T ++ U) := by
 obtain ⟨c, q, e, h1, h2⟩ := h
 exact ⟨c, q ++ txt U, by rw [txt_append, e]; rfl, h1, h2⟩
theorem list_data (l : List UInt8) : (⟨l.toArray⟩ : ByteArray).data.toList = l := by simp
theorem isDig_ne {c : UInt8} (h : isDig c) : c ≠ 32 ∧ c ≠ 61 ∧ c ≠ 62 := by
 unfold isDig at h
 refine ⟨?_, ?_, ?_⟩ <;> (rintro rfl; revert h; decide)
theorem word_ne {c : UInt8} (h : letB c.toNat = true ∨ c = 36) : c ≠ 32 ∧ c ≠ 61 ∧ c ≠ 62 := by
 rcases h with h | rfl
 ·refine ⟨?_, ?_, ?_⟩ <;> (rintro rfl; revert h; decide)
 ·decide
theorem stop34 : ∀ r : List UInt8, Stop r → (match r with | [] => True | c :: _ => c ≠ 34)
 | [], _ => trivial
 | c :: r, h => (stop_facts h).2.2.2.1
theorem num_head {l : List UInt8} (h : NumTx l) : ∃ c q, l = c :: q ∧ c ≠ 32 ∧ c ≠ 61 ∧ c ≠ 62 := by
 obtain ⟨a, h0, hd, h⟩ := h
 cases a with
 | nil => exact absurd rfl h0
 | cons c a =>
  have := isDig_ne (hd c (List.mem_cons_self ..))
  rcases h with rfl | ⟨b, _, _, rfl⟩
  ·exact ⟨c, a, rfl, this⟩
  ·exact ⟨c, a ++ 46 :: b, rfl, this⟩
theorem fault_in {e : Int} (h1 : 1 ≤ e) (h8 : e ≤ 8) : (faultsL.getD (e - 1).toNat ByteArray.empty).data.toList ∈ faultsLL := by
 have : e = 1 ∨ e = 2 ∨ e = 3 ∨ e = 4 ∨ e = 5 ∨ e = 6 ∨ e = 7 ∨ e = 8 := by omega
 rcases this with rfl | rfl | rfl | rfl | rfl | rfl | rfl | rfl <;> decide
theorem plain_bytes {s : ByteArray} (h : plainB s = true) : ∀ c ∈ s.data.toList, 32 ≤ c.toNat ∧ c.toNat ≤ 126 := by
 intro c hc
 unfold plainB at h
 have := List.all_eq_true.1 h c hc
 unfold plainC at this
 exact of_decide_eq_true this
theorem val_num {v : S46} (h0 : v.f0 = 1) : valTk v = (1, ⟨(numL v.f1.f0 v.f1.f1).toArray⟩) := by unfold valTk; rw [if_neg (by omega), if_neg (by omega), if_neg (by omega)]
theorem val_txt {v : S46} (h0 : v.f0 = 2) : valTk v = (2, v.f2) := by unfold valTk; rw [if_pos h0]
theorem val_tru {v : S46} (h0 : v.f0 = 3) : valTk v = (3, if v.f3 then tTRUE else tFALSE) := by unfold valTk; rw [if_neg (by omega), if_neg (by omega), if_pos h0]
theorem val_flt {v : S46} (h0 : v.f0 = 4) : valTk v = (4, faultsL.getD (v.f4 - 1).toNat ByteArray.empty) := by unfold valTk; rw [if_neg (by omega), if_pos h0]
theorem tk2 (s : ByteArray) : tkText (2, s) = 34 :: (dblL s.data.toList ++ [34]) := by
 have e2 : tkText (2, s) = ((⟨#[34]⟩ : ByteArray) ++ ⟨(dblL s.data.toList).toArray⟩ ++ (⟨#[34]⟩ : ByteArray) : ByteArray).data.toList := by
  rw [← replaceAll_dbl]; rfl
 rw [e2]
 simp
theorem lex_val {v : S46} (h : litB v = true) : Hd [valTk v] ∧ ∀ r, Stop r → LexTo [valTk v] r := by
 rcases lit_cases h with ⟨h0, hN, h2, h3, h4, h5, h6⟩ | ⟨h0, h1, h2, h3, h4, h5, h6⟩ | ⟨h0, h1, h2, h3, h4⟩ | ⟨h0, h1, h2, h3, h4, h5, h6⟩
 ·obtain ⟨hx, -⟩ := num_back hN h5 h6
  have ht : tkText (valTk v) = numL v.f1.f0 v.f1.f1 := by rw [val_num h0]; exact list_data _
  obtain ⟨c, q, e, n1, n2, n3⟩ := num_head hx
  refine ⟨⟨c, q, by rw [txt_one, ht, e], n2, n3⟩, fun r hr => .one ?_ ⟨c, q, by rw [ht, e], n1⟩⟩
  rw [ht, next_num hx hr, val_num h0, list_data]
 ·have ht : tkText (valTk v) = 34 :: (dblL v.f2.data.toList ++ [34]) := by rw [val_txt h0, tk2]
  refine ⟨⟨34, _, by rw [txt_one, ht], by decide, by decide⟩, fun r hr => .one ?_ ⟨34, _, ht, by decide⟩⟩
  rw [ht, next_text (plain_bytes h4) (stop34 r hr), val_txt h0]
 ·have ht : ∃ c q, tkText (valTk v) = c :: q ∧ letB c.toNat = true ∧ (∀ x ∈ c :: q, wordB x.toNat = true) ∧ (valTk v).1 = 3 ∧ (valTk v).2.data.toList = c :: q := by
   rw [val_tru h0]
   cases v.f3 with
   | true => exact ⟨84, [82, 85, 69], rfl, by decide, by decide, rfl, rfl⟩
   | false => exact ⟨70, [65, 76, 83, 69], rfl, by decide, by decide, rfl, rfl⟩
  obtain ⟨c, q, e, hc, hw, k1, k2⟩ := ht
  have hne := word_ne (.inl hc)
  refine ⟨⟨c, q, by rw [txt_one, e], hne.2.1, hne.2.2⟩, fun r hr => .one ?_ ⟨c, q, e, hne.1⟩⟩
  rw [e, next_word (.inl hc) hw hr, k1, k2]
 ·have hm := fault_in h5 h6
  have ht : tkText (valTk v) = (faultsL.getD (v.f4 - 1).toNat ByteArray.empty).data.toList := by rw [val_flt h0]; rfl
  obtain ⟨-, q, e⟩ := begins_fault hm []
  refine ⟨⟨35, q, by rw [txt_one, ht, e], by decide, by decide⟩, fun r hr => .one ?_ ⟨35, q, by rw [ht, e], by decide⟩⟩
  rw [ht, next_flt hm, val_flt h0]
theorem lex_word {s : ByteArray} {c : UInt8} {w : List UInt8} (e : s.data.toList = c :: w) (hc : letB c.toNat = true ∨ c = 36) (hw : ∀ x ∈ c :: w, wordB x.toNat = true) {r : List UInt8} (hr : Stop r) : LexTo [(3, s)] r := by
 refine .one ?_ ⟨c, w, by rw [tk3, e], (word_ne hc).1⟩
 rw [tk3, e, next_word hc hw hr]
theorem lex_mark {c : UInt8} {r : List UInt8} (h : c ∈ singles) (h60 : c = 60 ∨ c = 62 → H61 r) : LexTo [mk [c]] r := by
 refine .one ?_ ⟨c, [], rfl, (stop_facts h).2.2.2.2.2.1⟩
 exact next_single h h60
theorem up_word {c : UInt8} (h : 65 ≤ c.toNat ∧ c.toNat ≤ 90) : letB c.toNat = true := by
 unfold letB
 rw [Bool.or_eq_true, Bool.and_eq_true]
 exact .inl ⟨decide_eq_true (by omega), decide_eq_true (by omega)⟩
theorem let_word {c : UInt8} (h : letB c.toNat = true) : wordB c.toNat = true := by unfold wordB; rw [h]; rfl
theorem dig_word {c : UInt8} (h : isDig c) : wordB c.toNat = true := by unfold wordB; rw [(digB_iff c).2 h]; simp
theorem cel_shape {r : S48} (h : refR r = true) : ∃ c w, celL r = c :: w ∧ (letB c.toNat = true ∨ c = 36) ∧ ∀ x ∈ c :: w, wordB x.toNat = true := by
 obtain ⟨-, h1, h2, h3, h4⟩ := refR_cases h
 have hall : ∀ x ∈ celL r, wordB x.toNat = true := by
  intro x hx
  unfold celL at hx
  simp only [List.mem_append] at hx
  rcases hx with ((hx | hx) | hx) | hx
  ·split at hx
   ·rw [List.mem_singleton] at hx; rw [hx]; decide
   ·cases hx
  ·exact let_word (up_word (colL_up h3 h4 x hx))
  ·split at hx
   ·rw [List.mem_singleton] at hx; rw [hx]; decide
   ·cases hx
  ·exact dig_word ((dec_canon _).1 x hx)
 have hcol := colL_len r.f2
 cases hcl : colL r.f2 with
 | nil => rw [hcl] at hcol; simp at hcol
 | cons d ds =>
  have hd := colL_up h3 h4 d (by rw [hcl]; exact List.mem_cons_self ..)
  cases h5 : r.f4 with
  | true =>
   have e : celL r = 36 :: (d :: ds ++ (if r.f3 then [36] else []) ++ Lib.decDigits (r.f1 + 1).toNat) := by unfold celL; rw [h5, hcl]; simp
   exact ⟨36, _, e, .inr rfl, fun x hx => hall x (by rw [e]; exact hx)⟩
  | false =>
   have e : celL r = d :: (ds ++ (if r.f3 then [36] else []) ++ Lib.decDigits (r.f1 + 1).toNat) := by unfold celL; rw [h5, hcl]; simp
   exact ⟨d, _, e, .inl (up_word hd), fun x hx => hall x (by rw [e]; exact hx)⟩
theorem lex_cel {r : S48} (h : refR r = true) {q : List UInt8} (hq : Stop q) : LexTo [(3, theLf.cel r)] q := by
 obtain ⟨c, w, e, hc, hw⟩ := cel_shape h
 exact lex_word (show (⟨(celL r).toArray⟩ : ByteArray).data.toList = c :: w by rw [list_data, e]) hc hw hq
theorem sheet_shape {s : ByteArray} (h : sheetB s = true) : ∃ c w, s.data.toList = c :: w ∧ letB c.toNat = true ∧ ∀ x ∈ c :: w, wordB x.toNat = true := by
 unfold sheetB at h
 simp only [Bool.and_eq_true, decide_eq_true_eq] at h
 obtain ⟨⟨h1, h2⟩, h3⟩ := h
 have hall : ∀ x ∈ s.data.toList, wordB x.toNat = true := by
  intro x hx
  have := List.all_eq_true.1 h3 x hx
  unfold nameC at this
  unfold wordB
  rw [this]
  rfl
 cases hs : s.data.toList with
 | nil =>
  have := bytes_len s
  rw [hs] at this
  simp at this; omega
 | cons c w =>
  rw [hs] at hall
  refine ⟨c, w, rfl, ?_, hall⟩
  have e : s = ⟨(c :: w).toArray⟩ := by rw [← hs]
  rw [e, bt_cons] at h2
  exact h2
theorem lex_ref {r : S48} (h : refR r = true) : Hd (refT theLf r) ∧ ∀ q, Stop q → LexTo (refT theLf r) q := by
 have ec : theLf.cel r = ⟨(celL r).toArray⟩ := rfl
 unfold refT
 by_cases h0 : r.f0 = eB
 ·rw [if_pos h0]
  obtain ⟨c, w, e, hc, hw⟩ := cel_shape h
  have hne := word_ne hc
  exact ⟨⟨c, w, by rw [txt_one, ec, tk3, list_data, e], hne.2.1, hne.2.2⟩, fun q hq => lex_cel h hq⟩
 ·rw [if_neg h0]
  obtain ⟨c, w, e, hc, hw⟩ := sheet_shape ((refR_cases h).1.resolve_left h0)
  have hne := word_ne (.inl hc)
  refine ⟨⟨c, w ++ txt [mk [33], (3, theLf.cel r)], by rw [txt_cons, tk3, e]; rfl, hne.2.1, hne.2.2⟩, fun q hq => ?_⟩
  refine LexTo.app (T := [(3, r.f0)]) (U := [mk [33], (3, theLf.cel r)]) (lex_word e (.inl hc) hw ?_) (LexTo.app (T := [mk [33]]) (U := [(3, theLf.cel r)]) (lex_mark (by decide) (fun h => by rcases h with h | h <;> exact absurd h (by decide))) (lex_cel h hq))
  show (33 : UInt8) ∈ singles
  decide
theorem next_pair {a b : UInt8} {r : List UInt8} (h : [a, b] ∈ pairsLL) : nextL ([a, b] ++ r) = (5, [a, b], 2, 0) ∧ a ≠ 32 := by
 have hh : (a = 60 ∧ b = 62) ∨ (a = 60 ∧ b = 61) ∨ (a = 62 ∧ b = 61) := by
  unfold pairsLL pairsL at h
  simpa using h
 rcases hh with ⟨rfl, rfl⟩ | ⟨rfl, rfl⟩ | ⟨rfl, rfl⟩
 all_goals
  refine ⟨?_, by decide⟩
  rw [List.cons_append, nextL, if_neg (by decide), if_neg (by decide), if_neg (by decide), if_neg (by decide)]
  simp [beginsL, pairsLL, pairsL, List.isPrefixOf]
def SgOk (m : ByteArray) : Prop := ∀ r, H61 r → LexTo [(5, m)] r ∧ Stop (m.data.toList ++ r)
theorem sg_single (c : UInt8) (h : c ∈ singles) : SgOk (mB [c]) := fun r hr => ⟨lex_mark h (fun _ => hr), h⟩
theorem sg_pair (a b : UInt8) (h : [a, b] ∈ pairsLL) (ha : a ∈ singles) : SgOk (mB [a, b]) := fun r hr => ⟨.one (next_pair h).1 ⟨a, [b], rfl, (next_pair (r := r) h).2⟩, ha⟩
theorem sg_ok (o : Int) : SgOk (signB o) := by
 unfold signB
 refine ite_p (p := SgOk) (sg_single 38 (by decide)) ?_
 refine ite_p (p := SgOk) (sg_single 43 (by decide)) ?_
 refine ite_p (p := SgOk) (sg_single 43 (by decide)) ?_
 refine ite_p (p := SgOk) (sg_single 45 (by decide)) ?_
 refine ite_p (p := SgOk) (sg_single 45 (by decide)) ?_
 refine ite_p (p := SgOk) (sg_single 42 (by decide)) ?_
 refine ite_p (p := SgOk) (sg_single 47 (by decide)) ?_
 refine ite_p (p := SgOk) (sg_single 94 (by decide)) ?_
 refine ite_p (p := SgOk) (sg_single 61 (by decide)) ?_
 refine ite_p (p := SgOk) (sg_pair 60 62 (by decide) (by decide)) ?_
 refine ite_p (p := SgOk) (sg_single 60 (by decide)) ?_
 refine ite_p (p := SgOk) (sg_pair 60 61 (by decide) (by decide)) ?_
 refine ite_p (p := SgOk) (sg_single 62 (by decide)) ?_
 exact sg_pair 62 61 (by decide) (by decide)
theorem no60 {c : UInt8} {r : List UInt8} (h1 : c ≠ 60) (h2 : c ≠ 62) : c = 60 ∨ c = 62 → H61 r := fun h => h.elim (fun h => absurd h h1) (fun h => absurd h h2)
theorem lex_bra {b : Bool} {T : List Tk} (h : Hd T) (hT : ∀ r, Stop r → LexTo T r) : Hd (bra b T) ∧ ∀ r, Stop r → LexTo (bra b T) r := by
 cases b with
 | false => exact ⟨h, hT⟩
 | true =>
  refine ⟨⟨40, txt (T ++ [mk [41]]), rfl, by decide, by decide⟩, fun r hr => ?_⟩
  refine LexTo.app (T := [mk [40]]) (U := T ++ [mk [41]]) (lex_mark (by decide) (no60 (by decide) (by decide))) (LexTo.app (hT _ ?_) (lex_mark (by decide) (no60 (by decide) (by decide))))
  show (41 : UInt8) ∈ singles
  decide
theorem fn_shape {s : ByteArray} (h : fnB s = true) : sheetB s = true := by
 unfold fnB at h
 rw [Bool.and_eq_true] at h
 exact h.1
theorem lex_all : ∀ k : Nat,
 (∀ (least : Int) (l : List S50) (T : List Tk) (q : List S50), (∀ n ∈ l, 0 ≤ partsS n) → tkF theLf k least l = some (T, q) → Hd T ∧ ∀ r, Stop r → LexTo T r) ∧
 (∀ (first : Bool) (m : Int) (l : List S50) (T : List Tk) (q : List S50), (∀ n ∈ l, 0 ≤ partsS n) → atkF theLf k first m l = some (T, q) → (∀ r, Stop r → LexTo T r) ∧ (first = false → ∀ r, Stop r → Stop (txt T ++ r))) := by
 intro k
 induction k with
 | zero =>
  refine ⟨?_, ?_⟩
  ·intro _ _ _ _ _ h; rw [tkF] at h; cases h
  ·intro _ _ _ _ _ _ h; rw [atkF] at h; cases h
 | succ k ih =>
  obtain ⟨ih1, ih2⟩ := ih
  refine ⟨?_, ?_⟩
  ·intro least l T q hg h
   cases l with
   | nil => rw [tkF] at h; cases h
   | cons n r =>
    have hn := good_of n (hg n (List.mem_cons_self ..))
    have hr : ∀ m ∈ r, 0 ≤ partsS m := fun m hm => hg m (List.mem_cons_of_mem _ hm)
    obtain ⟨U, rfl, hU⟩ := nodeT h
    suffices hs : Hd U ∧ ∀ r, Stop r → LexTo U r from lex_bra hs.1 hs.2
    generalize partsS n = cc at hn
    cases hn with
    | val v hv =>
     obtain ⟨rfl, rfl⟩ := Prod.mk.inj (Option.some.inj hU)
     exact lex_val hv
    | cell s hs =>
     obtain ⟨rfl, rfl⟩ := Prod.mk.inj (Option.some.inj hU)
     exact lex_ref hs
    | area s u hs hu h0 =>
     obtain ⟨rfl, rfl⟩ := Prod.mk.inj (Option.some.inj hU)
     obtain ⟨a1, a2⟩ := lex_ref hs
     refine ⟨a1.app _, fun q hq => LexTo.app (a2 _ ?_) (LexTo.app (T := [mk [58]]) (U := [(3, theLf.cel u)]) (lex_mark (by decide) (no60 (by decide) (by decide))) (lex_cel hu hq))⟩
     show (58 : UInt8) ∈ singles
     decide
    | un o h1 h3 =>
     by_cases ho : o = 3
     ·subst ho
      change (tkF theLf k 7 r).map (fun (T, q) => (T ++ [mk [37]], q)) = _ at hU
      obtain ⟨⟨V, q1⟩, hV, he⟩ := Option.map_eq_some_iff.1 hU
      obtain ⟨rfl, rfl⟩ := Prod.mk.inj he
      obtain ⟨a1, a2⟩ := ih1 _ _ _ _ hr hV
      refine ⟨a1.app _, fun q hq => LexTo.app (a2 _ ?_) (lex_mark (by decide) (no60 (by decide) (by decide)))⟩
      show (37 : UInt8) ∈ singles
      decide
     ·change (if o = 3 then (tkF theLf k 7 r).map (fun (T, q) => (T ++ [mk [37]], q)) else (tkF theLf k 6 r).map fun (T, q) => ((5, signB o) :: T, q)) = _ at hU
      rw [if_neg ho] at hU
      obtain ⟨⟨V, q1⟩, hV, he⟩ := Option.map_eq_some_iff.1 hU
      obtain ⟨rfl, rfl⟩ := Prod.mk.inj he
      obtain ⟨a1, a2⟩ := ih1 _ _ _ _ hr hV
      refine ⟨?_, fun q hq => LexTo.app (T := [(5, signB o)]) ((sg_ok o) _ (a1.h61 q)).1 (a2 q hq)⟩
      have : o = 1 ∨ o = 2 := by omega
      rcases this with rfl | rfl
      ·exact ⟨45, txt V, rfl, by decide, by decide⟩
      ·exact ⟨43, txt V, rfl, by decide, by decide⟩
    | bin o ho =>
     change (tkF theLf k (tightO o) r).bind (fun (T, q) => (tkF theLf k (tightO o + 1) q).map fun (U, p) => (T ++ (5, signB o) :: U, p)) = _ at hU
     obtain ⟨⟨V, q1⟩, hV, h2⟩ := Option.bind_eq_some_iff.1 hU
     obtain ⟨⟨V2, q2⟩, hV2, he⟩ := Option.map_eq_some_iff.1 h2
     obtain ⟨rfl, rfl⟩ := Prod.mk.inj he
     obtain ⟨p, -, rfl⟩ := (tk_suf theLf k).1 _ _ _ _ hV
     obtain ⟨a1, a2⟩ := ih1 _ _ _ _ hr hV
     obtain ⟨b1, b2⟩ := ih1 _ _ _ _ (fun m hm => hr m (List.mem_append_right _ hm)) hV2
     refine ⟨a1.app _, fun q hq => LexTo.app (a2 _ ?_) (LexTo.app (T := [(5, signB o)]) ((sg_ok o) _ (b1.h61 q)).1 (b2 q hq))⟩
     rw [txt_cons, tk5, List.append_assoc]
     exact ((sg_ok o) _ (b1.h61 q)).2
    | call m c hm h0 h30 =>
     change (atkF theLf k true _ r).map (fun (T, q) => ((3, m) :: mk [40] :: (T ++ [mk [41]]), q)) = _ at hU
     obtain ⟨⟨V, q1⟩, hV, he⟩ := Option.map_eq_some_iff.1 hU
     obtain ⟨rfl, rfl⟩ := Prod.mk.inj he
     obtain ⟨a1, -⟩ := ih2 _ _ _ _ _ hr hV
     obtain ⟨d, w, e, hd, hw⟩ := sheet_shape (fn_shape hm)
     have hne := word_ne (.inl hd)
     refine ⟨⟨d, w ++ txt (mk [40] :: (V ++ [mk [41]])), by rw [txt_cons, tk3, e]; rfl, hne.2.1, hne.2.2⟩, fun q hq => ?_⟩
     refine LexTo.app (T := [(3, m)]) (U := mk [40] :: (V ++ [mk [41]])) (lex_word e (.inl hd) hw ?_) (LexTo.app (T := [mk [40]]) (U := V ++ [mk [41]]) (lex_mark (by decide) (no60 (by decide) (by decide))) (LexTo.app (a1 _ ?_) (lex_mark (by decide) (no60 (by decide) (by decide)))))
     ·show (40 : UInt8) ∈ singles
      decide
     ·show (41 : UInt8) ∈ singles
      decide
  ·intro first m l T q hg h
   rw [atkF] at h
   split at h
   ·cases h
    exact ⟨fun r _ => .nil r, fun _ r hr => by rw [txt_nil]; exact hr⟩
   ·obtain ⟨⟨V, q1⟩, hV, h2⟩ := Option.bind_eq_some_iff.1 h
    obtain ⟨⟨V2, q2⟩, hV2, he⟩ := Option.map_eq_some_iff.1 h2
    obtain ⟨rfl, rfl⟩ := Prod.mk.inj he
    obtain ⟨p, -, rfl⟩ := (tk_suf theLf k).1 _ _ _ _ hV
    obtain ⟨a1, a2⟩ := ih1 _ _ _ _ hg hV
    obtain ⟨b1, b2⟩ := ih2 _ _ _ _ _ (fun m hm => hg m (List.mem_append_right _ hm)) hV2
    cases first with
    | true =>
     simp only [if_true]
     exact ⟨fun r hr => LexTo.app (a2 _ (b2 rfl r hr)) (b1 r hr), fun hh => by cases hh⟩
    | false =>
     simp only [Bool.false_eq_true, if_false]
     refine ⟨fun r hr => ?_, fun _ r hr => ?_⟩
     ·rw [List.cons_append]
      exact LexTo.app (T := [mk [44]]) (U := V ++ V2) (lex_mark (by decide) (no60 (by decide) (by decide))) (LexTo.app (a2 _ (b2 rfl r hr)) (b1 r hr))
     ·show (44 : UInt8) ∈ singles
      decide
theorem scan_print {k : Nat} {least : Int} {l : List S50} {T : List Tk} {q : List S50} (hg : ∀ n ∈ l, 0 ≤ partsS n) (h : tkF theLf k least l = some (T, q)) : scanL (txt T).length 0 (txt T) = .ok (toks 0 T) := by
 have := ((lex_all k).1 least l T q hg h).2 [] trivial 0 (txt T).length (by rw [List.append_nil]; exact Nat.le_refl _)
 rw [List.append_nil] at this
 rw [this]
 have e : scanL (txt T).length (0 + (txt T).length) [] = .ok [] := by cases (txt T).length <;> rfl
 rw [e]
 show Except.ok (toks 0 T ++ []) = _
 rw [List.append_nil]
theorem toks_len : ∀ (T : List Tk) (p : Nat), (toks p T).length = T.length
 | [], _ => rfl
 | t :: T, p => by rw [toks, List.length_cons, toks_len T, List.length_cons]
theorem tokA_app {a : List S39} {t : S39} {b : List S39} : tokA (a ++ t :: b) (a.length : Int) = t := by
 unfold tokA
 simp [List.getD]
theorem has_toks : ∀ (T : List Tk) (a : List S39) (p : Nat), Has (a ++ toks p T) (a.length : Int) T
 | [], a, p => by
  show ((a.length : Int)) ≤ _
  rw [List.length_append]
  omega
 | t :: T, a, p => by
  rw [toks]
  refine ⟨?_, by rw [tokA_app], by rw [tokA_app], ?_⟩
  ·simp only [List.length_append, List.length_cons]; omega
  ·have := has_toks T (a ++ [⟨t.1, t.2, (p : Int)⟩]) (p + (tkText t).length)
   rw [List.append_assoc, List.length_append] at this
   exact this
end Go.Proofs.YtejbbceidnaloaaGreatDoor.P
