import Derived.Test.YtejbbceidnaloaaGreatDoorV15
import Derived.Test.YtejbbceidnaloaaGreatDoorV13
set_option linter.unusedVariables false
set_option linter.unusedSimpArgs false
set_option maxRecDepth 100000
set_option maxHeartbeats 8000000
namespace Go.Proofs.YtejbbceidnaloaaGreatDoor.P
open Go.RowKit AW AL AM
def Nei (o : Int) : Int := if o = 2 then 3 else if o = 1 then 3 else Nct o
theorem sign_f (k : Nat) (o : Int) : Nbf.f (k + 2) o = some (signB o, Nei o) := by
 unfold Nbf.f signB Nei Nct
 simp only [Nbf.j0, Nbf.j1, beq_iff_eq]
 by_cases h16 : o = 16
 ·subst h16; rfl
 by_cases h11 : o = 11
 ·subst h11; rfl
 by_cases h2 : o = 2
 ·subst h2; rfl
 by_cases h12 : o = 12
 ·subst h12; rfl
 by_cases h1 : o = 1
 ·subst h1; rfl
 by_cases h13 : o = 13
 ·subst h13; rfl
 by_cases h14 : o = 14
 ·subst h14; rfl
 by_cases h15 : o = 15
 ·subst h15; rfl
 simp only [h16, h11, h2, h12, h1, h13, h14, h15, if_false]
 by_cases h21 : o = 21
 ·subst h21; rfl
 by_cases h22 : o = 22
 ·subst h22; rfl
 by_cases h23 : o = 23
 ·subst h23; rfl
 by_cases h24 : o = 24
 ·subst h24; rfl
 by_cases h25 : o = 25
 ·subst h25; rfl
 simp only [h21, h22, h23, h24, h25, if_false]
 rfl
theorem Ncu (k : Nat) (m : ByteArray) (o : Int) (h1 : 11 ≤ o) (h2 : o ≤ 26) : Na9.l0 (k + 3) m o = if (o ≤ 16 ∨ 21 ≤ o) ∧ signB o = m then some o else Na9.l0 (k + 2) m (o + 1) := by
 have hw : wrap64 (o + 1) = o + 1 := by unfold wrap64; omega
 rw [Na9.l0, if_pos h2, sign_f]
 unfold Nb2.f
 simp only [Option.bind_some, tl_eq, hw]
 by_cases a : o ≤ 16
 ·rw [if_pos (by omega), if_pos a]
  simp [a]
 ·by_cases b : 21 ≤ o
  ·rw [if_pos (by omega), if_neg a, if_pos (by omega)]
   simp [a, b, h2]
  ·rw [if_pos (by omega), if_neg a, if_neg (by omega)]
   simp [a, b]
theorem operator_f (k : Nat) (m : ByteArray) : Na9.f (k + 20) m = some (opOf m) := by
 unfold Na9.f
 by_cases h0 : m.toList = []
 ·rw [if_pos h0]
  have : m = eB := by rw [← tl_eq, h0, ByteArray.toList_eq]; rfl
  subst this; decide
 rw [if_neg h0]
 rw [show k + 20 = k + 17 + 3 from rfl, Ncu _ _ _ (by omega) (by omega)]
 unfold opOf
 by_cases h : m = mB [43]
 ·subst h; rfl
 rw [if_neg h, if_neg (fun hh => h (hh.2.symm.trans rfl)), show k + 17 + 2 = k + 16 + 3 from rfl, Ncu _ _ _ (by omega) (by omega)]
 by_cases h : m = mB [45]
 ·subst h; rfl
 rw [if_neg h, if_neg (fun hh => h (hh.2.symm.trans rfl)), show k + 16 + 2 = k + 15 + 3 from rfl, Ncu _ _ _ (by omega) (by omega)]
 by_cases h : m = mB [42]
 ·subst h; rfl
 rw [if_neg h, if_neg (fun hh => h (hh.2.symm.trans rfl)), show k + 15 + 2 = k + 14 + 3 from rfl, Ncu _ _ _ (by omega) (by omega)]
 by_cases h : m = mB [47]
 ·subst h; rfl
 rw [if_neg h, if_neg (fun hh => h (hh.2.symm.trans rfl)), show k + 14 + 2 = k + 13 + 3 from rfl, Ncu _ _ _ (by omega) (by omega)]
 by_cases h : m = mB [94]
 ·subst h; rfl
 rw [if_neg h, if_neg (fun hh => h (hh.2.symm.trans rfl)), show k + 13 + 2 = k + 12 + 3 from rfl, Ncu _ _ _ (by omega) (by omega)]
 by_cases h : m = mB [38]
 ·subst h; rfl
 rw [if_neg h, if_neg (fun hh => h (hh.2.symm.trans rfl)), show k + 12 + 2 = k + 11 + 3 from rfl, Ncu _ _ _ (by omega) (by omega), if_neg (by omega), show k + 11 + 2 = k + 10 + 3 from rfl, Ncu _ _ _ (by omega) (by omega), if_neg (by omega), show k + 10 + 2 = k + 9 + 3 from rfl, Ncu _ _ _ (by omega) (by omega), if_neg (by omega), show k + 9 + 2 = k + 8 + 3 from rfl, Ncu _ _ _ (by omega) (by omega), if_neg (by omega), show k + 8 + 2 = k + 7 + 3 from rfl, Ncu _ _ _ (by omega) (by omega)]
 by_cases h : m = mB [61]
 ·subst h; rfl
 rw [if_neg h, if_neg (fun hh => h (hh.2.symm.trans rfl)), show k + 7 + 2 = k + 6 + 3 from rfl, Ncu _ _ _ (by omega) (by omega)]
 by_cases h : m = mB [60, 62]
 ·subst h; rfl
 rw [if_neg h, if_neg (fun hh => h (hh.2.symm.trans rfl)), show k + 6 + 2 = k + 5 + 3 from rfl, Ncu _ _ _ (by omega) (by omega)]
 by_cases h : m = mB [60]
 ·subst h; rfl
 rw [if_neg h, if_neg (fun hh => h (hh.2.symm.trans rfl)), show k + 5 + 2 = k + 4 + 3 from rfl, Ncu _ _ _ (by omega) (by omega)]
 by_cases h : m = mB [60, 61]
 ·subst h; rfl
 rw [if_neg h, if_neg (fun hh => h (hh.2.symm.trans rfl)), show k + 4 + 2 = k + 3 + 3 from rfl, Ncu _ _ _ (by omega) (by omega)]
 by_cases h : m = mB [62]
 ·subst h; rfl
 rw [if_neg h, if_neg (fun hh => h (hh.2.symm.trans rfl)), show k + 3 + 2 = k + 2 + 3 from rfl, Ncu _ _ _ (by omega) (by omega)]
 by_cases h : m = mB [62, 61]
 ·subst h; rfl
 rw [if_neg h, if_neg (fun hh => h (hh.2.symm.trans rfl)), Na9.l0, if_neg (by omega)]
theorem operator_any (m : ByteArray) (o : Int) (w : World) (h : opOf m = o) : Calls Tryz.prog 106 #[.string m] w fun e w' => e = .returned (.int .i64 o) ∧ Na3 w w' :=
 Na9.calls 20 m o w (by rw [operator_f 0 m, h])
theorem tight_any (o t : Int) (w : World) (h : Nei o = t) : Calls Tryz.prog 73 #[.agg #[.int .i64 5, .int .i64 0, .int .i64 0, .int .i64 0, .string ⟨#[]⟩, .bool false, .int .i64 0, .int .i64 o, .string ⟨#[]⟩, .int .i64 0, .string ⟨#[]⟩, .int .i64 0, .int .i64 0, .bool false, .bool false, .string ⟨#[]⟩, .int .i64 0, .int .i64 0, .bool false, .bool false]] w fun e w' => e = .returned (.int .i64 t) ∧ Below w.heap.size w w' :=
 Ndd.calls 2 5 0 0 0 ⟨#[]⟩ false 0 o ⟨#[]⟩ 0 ⟨#[]⟩ 0 0 false false ⟨#[]⟩ 0 0 false false t w (by unfold Ndd.f; rw [if_pos rfl, sign_f 0 o, h]; rfl)
theorem tightS_op {m : ByteArray} (h : opOf m ≠ 0) : Nei (opOf m) = Nct (opOf m) := by
 rcases opOf_cases m with h' | h' | h' | h' | h' | h' | h' | h' | h' | h' | h' | h' | h'
 ·exact absurd h' h
 all_goals (rw [h']; rfl)
def rdLL (xs : List (List S50)) (i : Int) : (List S50) := xs.getD i.toNat ([] : List S50)
theorem at_LL {w : World} {A : Option Addr} {n : Nat} {xs : List (List S50)} (h : Kd.C (Kd.slice 50 k50) w A n xs) (i : Int) (h0 : 0 ≤ i) (h1 : i < n) : ∃ ad A0 c0, A = some ad ∧ w.cell? (ad.add i.toNat) = some (.slice A0 (rdLL xs i).length c0) ∧ (rdLL xs i).length ≤ c0 ∧ Kd.C k50 w A0 (rdLL xs i).length (rdLL xs i) := by
 obtain ⟨ad, c, e, hl, ⟨A0, c0, rfl, hle, hC⟩, hc⟩ := Kd.C_get h [] i h0 h1
 have := hc 0 (.slice A0 (rdLL xs i).length c0) rfl
 exact ⟨ad, A0, c0, e, by rw [show i.toNat * (Kd.slice 50 k50).sz + 0 = i.toNat from Nat.mul_one _] at this; exact this, hle, hC⟩
theorem flat_snoc (l : List (List S50)) (i : Nat) (h : i < l.length) : (l.take (i + 1)).flatten = (l.take i).flatten ++ rdLL l (i : Int) := by
 rw [List.take_succ_eq_append_getElem h, List.flatten_append]
 have : rdLL l (i : Int) = l[i] := by unfold rdLL; simp [List.getD_eq_getElem?_getD, h]
 rw [this]; simp
theorem flat_le (l : List (List S50)) (i : Nat) : (l.take i).flatten.length ≤ l.flatten.length := by
 conv => rhs; rw [← List.take_append_drop i l, List.flatten_append, List.length_append]
 omega
theorem rd_le (l : List (List S50)) (i : Nat) (h : i < l.length) : ((l.take i).flatten).length + (rdLL l (i : Int)).length ≤ l.flatten.length := by
 have h1 := flat_le l (i + 1)
 rw [flat_snoc l i h, List.length_append] at h1
 exact h1
theorem joined_any (x : S50) (A1 : Option Addr) (c1 : Nat) (l1 : List (List S50)) (w : World) (hr1 : Kd.C (Kd.slice 50 k50) w A1 l1.length l1) (hl1 : l1.length ≤ 1000) (hl : l1.flatten.length ≤ 1000000000) :
 Calls Tryz.prog 108 #[v50 x, .slice A1 l1.length c1] w fun e w' => ∃ v0_ : Value, e = .returned v0_ ∧ Kd.R k50 50 w' w.heap.size (fun _ => True) v0_ (x :: l1.flatten) ∧ Below w.heap.size w w' := by
 have HR1 := lh hr1
 have HL := lh hl
 clear hr1 hl
 show Calls Tryz.prog 108 #[.agg #[.int .i64 x.f0, .int .i64 x.f1.f0, .int .i64 x.f1.f1.f0, .int .i64 x.f1.f1.f1, .string x.f1.f2, .bool x.f1.f3, .int .i64 x.f1.f4, .int .i64 x.f2, .string x.f3, .int .i64 x.f4, .string x.f5.f0, .int .i64 x.f5.f1, .int .i64 x.f5.f2, .bool x.f5.f3, .bool x.f5.f4, .string x.f6.f0, .int .i64 x.f6.f1, .int .i64 x.f6.f2, .bool x.f6.f3, .bool x.f6.f4], .slice A1 l1.length c1] w _
 have hu50 := Tryz.underlying50
 go_enter Tryz.func108, Tryz.ntmps108
 go_wp2_with (first
  | ((with_reducible refine gD 2 rfl ?_); refine bX 2 #[.int .i64 x.f0, .int .i64 x.f1.f0, .int .i64 x.f1.f1.f0, .int .i64 x.f1.f1.f1, .string x.f1.f2, .bool x.f1.f3, .int .i64 x.f1.f4, .int .i64 x.f2, .string x.f3, .int .i64 x.f4, .string x.f5.f0, .int .i64 x.f5.f1, .int .i64 x.f5.f2, .bool x.f5.f3, .bool x.f5.f4, .string x.f6.f0, .int .i64 x.f6.f1, .int .i64 x.f6.f2, .bool x.f6.f3, .bool x.f6.f4] 50 ?_; intro g1 hg_ w1 hb_ hl_; have B1 := lh hl_; have H1 := lh hb_; clear hb_ hl_ hg_)
  | ((with_reducible refine gD 8 rfl ?_); refine lA H1.out 50 (.tmp 2) hu50 ?_)
  | ((with_reducible refine gD 9 rfl ?_); refine Kd.R_lit k50 _ 50 ?hg (N := 9) ?hd (xs := [x]) (inner := [.int .i64 x.f0, .int .i64 x.f1.f0, .int .i64 x.f1.f1.f0, .int .i64 x.f1.f1.f1, .string x.f1.f2, .bool x.f1.f3, .int .i64 x.f1.f4, .int .i64 x.f2, .string x.f3, .int .i64 x.f4, .string x.f5.f0, .int .i64 x.f5.f1, .int .i64 x.f5.f2, .bool x.f5.f3, .bool x.f5.f4, .string x.f6.f0, .int .i64 x.f6.f1, .int .i64 x.f6.f2, .bool x.f6.f3, .bool x.f6.f4]) (ok := fun _ => True) (okp := fun _ => True) ?hr ?hp (fun _ hk => hk) trivial (Below.refl _ _) (Nat.le_refl _) (by simp) ?_; (case hd => rfl); (case hg => rfl); (case hr => go_simp <;> rfl); (case hp => exact (Reps.front (show Kd.M k50 _ _ _ x [.int .i64 x.f0, .int .i64 x.f1.f0, .int .i64 x.f1.f1.f0, .int .i64 x.f1.f1.f1, .string x.f1.f2, .bool x.f1.f3, .int .i64 x.f1.f4, .int .i64 x.f2, .string x.f3, .int .i64 x.f4, .string x.f5.f0, .int .i64 x.f5.f1, .int .i64 x.f5.f2, .bool x.f5.f3, .bool x.f5.f4, .string x.f6.f0, .int .i64 x.f6.f1, .int .i64 x.f6.f2, .bool x.f6.f3, .bool x.f6.f4] from Ne5 _ _ _ x) rfl (Reps.none _ _) rfl)); intro v1 w2 ho_ hb_ hg_ hn_; have HO := lh (Kd.R_lower ho_ B1.out.size); have B2 := lh (Nab B1.out hb_); clear ho_ hb_ hg_ hn_ H1 B1))
 go_loopw [5, 12] (fun v5 v12 w' => ∃ i : Nat, i ≤ l1.length ∧ v12 = .int .i64 i ∧ Hid (Kd.R k50 50 w' w.heap.size (fun _ => True) v5 (x :: (l1.take i).flatten)) ∧ Hid (Below w.heap.size w w')) (fun _ v12 _ => l1.length - (intOf v12).toNat)
 case atStart => exact ⟨0, by omega, rfl, by simpa using HO, B2⟩
 case round =>
  clear HO B2
  obtain ⟨i, hi, rfl, HO, HB⟩ := hrel
  by_cases hlt : i < l1.length
  ·obtain ⟨ad, A0, c0, e0, hx0, hc0, hk0⟩ := at_LL HR1.out (i : Int) (by omega) (by omega)
   cases e0
   replace hx0 := (HB.out.cell (World.block_lt_of_cell? w _ hx0)).trans hx0
   have HK := lh (Kd.C_below hk0 HB.out)
   have HLen := lh (rd_le l1 i hlt)
   have HFl := lh (flat_snoc l1 i hlt)
   clear hk0 hc0
   rw [Int.toNat_natCast] at hx0
   go_wp2_with (first
    | ((with_reducible refine Ncf (b := .append) (xs := #[.tmp 16, .tmp 17]) rfl ?_); at_builtin; refine Kd.R_append_rows k50 (w0 := w) w.heap.size rfl (.tmp 16) (.tmp 17) 22 50 (.agg #[(.int .i64 0), (.int .i64 0), (.int .i64 0), (.int .i64 0), (.string ⟨#[]⟩), (.bool false), (.int .i64 0), (.int .i64 0), (.string ⟨#[]⟩), (.int .i64 0), (.string ⟨#[]⟩), (.int .i64 0), (.int .i64 0), (.bool false), (.bool false), (.string ⟨#[]⟩), (.int .i64 0), (.int .i64 0), (.bool false), (.bool false)]) 176 rfl Tryz.underlying22 info50 rfl (by decide) (by omega) _ (x :: (l1.take i).flatten) (rdLL l1 (i : Int)) _ _ _ (fun _ => True) (fun _ => False) rfl rfl HO.out HK.out (fun _ _ h => h) (fun _ h => h.elim) (fun _ _ => trivial) HB.out HB.out.size ?aL ?_; (case aL => have := HLen.out; have := HL.out; simp only [List.length_cons]; omega); intro v1 w1 ho_ hb_ hg_ hat_; have HO1 := lh ho_; have HB1 := lh hb_; clear ho_ hb_ hg_ hat_))
   go_roundw
   case rel => exact ⟨i + 1, by omega, by go_num, lh (by rw [HFl.out]; exact HO1.out), HB1⟩
   case measure => simp [intOf]; omega
  ·obtain rfl : i = l1.length := by omega
   have HE := lh (show (l1.take l1.length).flatten = l1.flatten by rw [List.take_length])
   clear hi hlt
   go_wp2
   go_ret
   exact ⟨_, rfl, by rw [← HE.out]; exact HO.out, HB.out⟩
section
set_option maxHeartbeats 1000000
def Ans (w0 w : World) (g : Nat) (ts : List S39) (e : Int) (x : Except (Int × Int) (List S50 × Int)) (en : Ending) (w' : World) : Prop :=
 match x with
 | .ok (l, a) => ∃ v, en = .returned v ∧ Kd.R k50 50 w' w.heap.size (fun _ => True) v l ∧ St w0 w w' g ts a e
 | .error (c, p) => Bad en c p ∧ ∃ a, St w0 w w' g ts a e
structure Parts (O : Ops) (ts : List S39) (e : Int) (w0 : World) (k : Nat) : Prop where
 bin : ∀ (w : World) (g : Nat) (least at_ : Int) (x), IsS72 w0 w g ts at_ e → Below w0.heap.size w0 w → 0 ≤ at_ → at_ ≤ ts.length → 1 ≤ least → least ≤ 6 → binF O ts e k least at_ = some x → Calls Tryz.prog 68 #[.pointer (some ⟨g, 0, none⟩), .int .i64 least] w (Ans w0 w g ts e x)
 sgn : ∀ (w : World) (g : Nat) (at_ : Int) (x), IsS72 w0 w g ts at_ e → Below w0.heap.size w0 w → 0 ≤ at_ → at_ ≤ ts.length → sgnF O ts e k at_ = some x → Calls Tryz.prog 105 #[.pointer (some ⟨g, 0, none⟩)] w (Ans w0 w g ts e x)
 par : ∀ (w : World) (g : Nat) (at_ : Int) (x), IsS72 w0 w g ts at_ e → Below w0.heap.size w0 w → 0 ≤ at_ → at_ ≤ ts.length → parF O ts e k at_ = some x → Calls Tryz.prog 144 #[.pointer (some ⟨g, 0, none⟩)] w (Ans w0 w g ts e x)
 wor : ∀ (w : World) (g : Nat) (m : ByteArray) (at_ : Int) (x), IsS72 w0 w g ts at_ e → Below w0.heap.size w0 w → 0 ≤ at_ → at_ < ts.length → m = (tokA ts at_).f1 → worF O ts e k m at_ = some x → Calls Tryz.prog 178 #[.pointer (some ⟨g, 0, none⟩), .string m] w (Ans w0 w g ts e x)
 cal : ∀ (w : World) (g : Nat) (m : ByteArray) (at_ : Int) (x), IsS72 w0 w g ts at_ e → Below w0.heap.size w0 w → 0 ≤ at_ → at_ + 1 < ts.length → m = (tokA ts at_).f1 → calF O ts e k m at_ = some x → Calls Tryz.prog 205 #[.pointer (some ⟨g, 0, none⟩), .string m] w (Ans w0 w g ts e x)
theorem joined_un (o : Int) (A1 : Option Addr) (c1 n : Nat) (l1 : List (List S50)) (w : World) (hr1 : Kd.C (Kd.slice 50 k50) w A1 n l1) (hn : n = l1.length) (hl1 : l1.length ≤ 1000) (hl : l1.flatten.length ≤ 1000000000) :
 Calls Tryz.prog 108 #[.agg #[.int .i64 4, .int .i64 0, .int .i64 0, .int .i64 0, .string ⟨#[]⟩, .bool false, .int .i64 0, .int .i64 o, .string ⟨#[]⟩, .int .i64 0, .string ⟨#[]⟩, .int .i64 0, .int .i64 0, .bool false, .bool false, .string ⟨#[]⟩, .int .i64 0, .int .i64 0, .bool false, .bool false], .slice A1 n c1] w fun e w' => ∃ v0_ : Value, e = .returned v0_ ∧ Kd.R k50 50 w' w.heap.size (fun _ => True) v0_ (nUn o :: l1.flatten) ∧ Below w.heap.size w w' := by
 subst hn
 exact joined_any (nUn o) A1 c1 l1 w hr1 hl1 hl
theorem r_old {w1 w2 : World} {B : Nat} {v : Value} {l : List S50} (h : Kd.R k50 50 w1 B (fun _ => True) v l) (hb : Below w1.heap.size w1 w2) : Kd.R k50 50 w2 B (fun _ => True) v l := Kd.R_below h hb
theorem c_one {W : World} {A : Option Addr} {c : Nat} {r : List S50} (hl : r.length ≤ c) (h : Kd.C k50 W A r.length r) : Kd.C (Kd.slice 50 k50) (W.alloc (.cells #[.slice A r.length c] 22)) (some ⟨W.heap.size, 0, none⟩) 1 [r] := by
 refine ⟨rfl, by omega, fun _ => ⟨_, rfl, fun j p hj => ?_⟩⟩
 cases j with
 | zero =>
  obtain rfl : r = p := by simpa using hj
  refine ⟨[.slice A r.length c], rfl, ⟨A, c, rfl, hl, Kd.C_below h (Naf (Below.refl _ _) _)⟩, fun i u hi => ?_⟩
  cases i with
  | zero =>
   obtain rfl : Value.slice A r.length c = u := by simpa using hi
   rw [add_plain]
   exact (Naa (Ncs W _) 0).trans rfl
  | succ i => simp at hi
 | succ j => simp at hj
theorem c_two {W : World} {A A' : Option Addr} {c c' : Nat} {r r' : List S50} (hl : r.length ≤ c) (h : Kd.C k50 W A r.length r) (hl' : r'.length ≤ c') (h' : Kd.C k50 W A' r'.length r') : Kd.C (Kd.slice 50 k50) (W.alloc (.cells #[.slice A r.length c, .slice A' r'.length c'] 22)) (some ⟨W.heap.size, 0, none⟩) 2 [r, r'] := by
 refine ⟨rfl, by omega, fun _ => ⟨_, rfl, fun j p hj => ?_⟩⟩
 match j, hj with
 | 0, hj =>
  obtain rfl : r = p := by simpa using hj
  refine ⟨[.slice A r.length c], rfl, ⟨A, c, rfl, hl, Kd.C_below h (Naf (Below.refl _ _) _)⟩, fun i u hi => ?_⟩
  cases i with
  | zero =>
   obtain rfl : Value.slice A r.length c = u := by simpa using hi
   rw [add_plain]
   exact (Naa (Ncs W _) 0).trans rfl
  | succ i => simp at hi
 | 1, hj =>
  obtain rfl : r' = p := by simpa using hj
  refine ⟨[.slice A' r'.length c'], rfl, ⟨A', c', rfl, hl', Kd.C_below h' (Naf (Below.refl _ _) _)⟩, fun i u hi => ?_⟩
  cases i with
  | zero =>
   obtain rfl : Value.slice A' r'.length c' = u := by simpa using hi
   rw [add_plain]
   exact (Naa (Ncs W _) 1).trans rfl
  | succ i => simp at hi
 | j + 2, hj => simp at hj
section
variable {O : Ops} {ts : List S39} {e : Int} {w0 : World}
theorem signed_minus {k : Nat} (ih : Parts O ts e w0 k) (hts : ts.length ≤ 100000) {w : World} {g : Nat} {at_ : Int} {x} (hI : IsS72 w0 w g ts at_ e) (hB : Below w0.heap.size w0 w) (h0 : 0 ≤ at_) (h1 : at_ ≤ ts.length) (hm : markA ts at_ = mB [45]) (hx : sgnF O ts e k (at_ + 1) = some x) :
 Calls Tryz.prog 105 #[.pointer (some ⟨g, 0, none⟩)] w (Ans w0 w g ts e (x.map fun (r, a) => (nUn 1 :: r, a))) := by
 have hlt := Nch ts hm (by decide)
 have HT := lh (Ndm (m := ⟨#[45]⟩) hI hB h0 (by omega) hm)
 have HX := lh hx
 have H0 := lh (show 0 ≤ at_ + 1 ∧ at_ + 1 ≤ ts.length by omega)
 clear hI hB hm hx h0 h1 hlt
 go_enter Tryz.func105, Tryz.ntmps105
 go_wp2_with (go_at_call 143; (with_reducible refine (HT.out).mono ?_); rintro en w1 ⟨rfl, hs⟩; have HS := lh hs; clear hs)
 cases x with
 | error p =>
  obtain ⟨c, p⟩ := p
  (with_reducible refine (ih.sgn _ g (at_ + 1) _ HS.out.is HS.out.bel H0.out.1 H0.out.2 HX.out).mono ?_)
  rintro en w2 ⟨rfl, a, hs⟩
  go_wp2
  exact ⟨rfl, rfl, a, HS.out.trans hs⟩
 | ok p =>
  obtain ⟨r, a⟩ := p
  (with_reducible refine (ih.sgn _ g (at_ + 1) _ HS.out.is HS.out.bel H0.out.1 H0.out.2 HX.out).mono ?_)
  rintro en w2 ⟨v, rfl, hr, hs⟩
  obtain ⟨A, c, rfl, hle, hC⟩ := Kd.R_reads hr
  have HS2 := lh (HS.out.trans hs)
  have HC := lh (c_one hle hC)
  have HN := lh ((len_all O ts e k).2.2.1 _ _ _ HX.out)
  have HN2 := lh ((sgnF_range O ts e H0.out.1 H0.out.2 HX.out).2)
  clear hr hs hC hle
  go_wp2_with (fail)
  (with_reducible refine (joined_un 1 _ _ 1 [r] _ HC.out rfl (by simp) (by have := HN.out; have := HN2.out; have := H0.out; simp only [List.flatten_cons, List.flatten_nil, List.append_nil]; omega)).mono ?_)
  rintro en w3 ⟨v, rfl, hr, hb⟩
  have HR := lh (Kd.R_lower hr (Nat.le_trans HS2.out.size (Naf (Below.refl _ _) _).size))
  have HS3 := lh ((HS2.out.below (Naf (Below.refl _ _) _)).below hb)
  clear hr hb HC HS2
  go_wp2
  go_ret
  exact ⟨_, rfl, by have := HR.out; simp only [List.flatten_cons, List.flatten_nil, List.append_nil] at this; exact this, HS3.out⟩
theorem signed_plus {k : Nat} (ih : Parts O ts e w0 k) (hts : ts.length ≤ 100000) {w : World} {g : Nat} {at_ : Int} {x} (hI : IsS72 w0 w g ts at_ e) (hB : Below w0.heap.size w0 w) (h0 : 0 ≤ at_) (h1 : at_ ≤ ts.length) (hm : markA ts at_ = mB [43]) (hx : sgnF O ts e k (at_ + 1) = some x) :
 Calls Tryz.prog 105 #[.pointer (some ⟨g, 0, none⟩)] w (Ans w0 w g ts e (x.map fun (r, a) => (nUn 2 :: r, a))) := by
 have hlt := Nch ts hm (by decide)
 have HT := lh (Nco (m := ⟨#[45]⟩) hI hB h0 (by omega) (by rw [hm]; decide))
 have HM := lh (show markA ts at_ = ⟨#[43]⟩ from hm)
 have H00 := lh (show 0 ≤ at_ ∧ at_ ≤ 1000000 by omega)
 have HX := lh hx
 have H0 := lh (show 0 ≤ at_ + 1 ∧ at_ + 1 ≤ ts.length by omega)
 clear hI hB hm hx h0 h1 hlt
 go_enter Tryz.func105, Tryz.ntmps105
 go_wp2_with (first | (go_at_call 143; (with_reducible refine (HT.out).mono ?_); rintro en w1 ⟨rfl, hs⟩; have HS1 := lh hs; clear hs) | (go_at_call 143; (with_reducible refine (Ndm (m := ⟨#[43]⟩) HS1.out.is HS1.out.bel H00.out.1 H00.out.2 HM.out).mono ?_); rintro en w1 ⟨rfl, hs⟩; have HS := lh (HS1.out.trans hs); clear hs HS1))
 cases x with
 | error p =>
  obtain ⟨c, p⟩ := p
  (with_reducible refine (ih.sgn _ g (at_ + 1) _ HS.out.is HS.out.bel H0.out.1 H0.out.2 HX.out).mono ?_)
  rintro en w2 ⟨rfl, a, hs⟩
  go_wp2
  exact ⟨rfl, rfl, a, HS.out.trans hs⟩
 | ok p =>
  obtain ⟨r, a⟩ := p
  (with_reducible refine (ih.sgn _ g (at_ + 1) _ HS.out.is HS.out.bel H0.out.1 H0.out.2 HX.out).mono ?_)
  rintro en w2 ⟨v, rfl, hr, hs⟩
  obtain ⟨A, c, rfl, hle, hC⟩ := Kd.R_reads hr
  have HS2 := lh (HS.out.trans hs)
  have HC := lh (c_one hle hC)
  have HN := lh ((len_all O ts e k).2.2.1 _ _ _ HX.out)
  have HN2 := lh ((sgnF_range O ts e H0.out.1 H0.out.2 HX.out).2)
  clear hr hs hC hle
  go_wp2_with (fail)
  (with_reducible refine (joined_un 2 _ _ 1 [r] _ HC.out rfl (by simp) (by have := HN.out; have := HN2.out; have := H0.out; simp only [List.flatten_cons, List.flatten_nil, List.append_nil]; omega)).mono ?_)
  rintro en w3 ⟨v, rfl, hr, hb⟩
  have HR := lh (Kd.R_lower hr (Nat.le_trans HS2.out.size (Naf (Below.refl _ _) _).size))
  have HS3 := lh ((HS2.out.below (Naf (Below.refl _ _) _)).below hb)
  clear hr hb HC HS2
  go_wp2
  go_ret
  exact ⟨_, rfl, by have := HR.out; simp only [List.flatten_cons, List.flatten_nil, List.append_nil] at this; exact this, HS3.out⟩
end
end
theorem r_keep {w1 w2 : World} {B g : Nat} {v : Value} {l : List S50} (h : Kd.R k50 50 w1 B (fun _ => True) v l) (hk : Na6 w1 w2 g none) (hg : g < B) : Kd.R k50 50 w2 B (fun _ => True) v l :=
 Kd.R_mono (Kd.R_keep (Kd.R_bound h) hk (fun k hk => by have := hk.2.1; omega)) (fun _ _ => trivial)
section
variable {O : Ops} {ts : List S39} {e : Int} {w0 : World}
theorem signed_part {k : Nat} (ih : Parts O ts e w0 k) (hts : ts.length ≤ 100000) {w : World} {g : Nat} {at_ : Int} {x y} (hI : IsS72 w0 w g ts at_ e) (hB : Below w0.heap.size w0 w) (h0 : 0 ≤ at_) (h1 : at_ ≤ ts.length) (hm1 : markA ts at_ ≠ mB [45]) (hm2 : markA ts at_ ≠ mB [43]) (hx : parF O ts e k at_ = some x) (hy : Res.bnd (some x) (fun (r, a) => perF ts k r a) = some y) :
 Calls Tryz.prog 105 #[.pointer (some ⟨g, 0, none⟩)] w (Ans w0 w g ts e y) := by
 have HT := lh (Nco (m := ⟨#[45]⟩) hI hB h0 (by omega) hm1)
 have HM := lh (show markA ts at_ ≠ ⟨#[43]⟩ from hm2)
 have HX := lh hx
 have HY := lh hy
 have H0 := lh (show 0 ≤ at_ ∧ at_ ≤ 1000000 by omega)
 have H1 := lh h1
 have HG := lh hI.lt
 clear hI hB hm1 hm2 hx h0 h1 hy
 go_enter Tryz.func105, Tryz.ntmps105
 go_wp2_with (first
  | (go_at_call 143; (with_reducible refine (HT.out).mono ?_); rintro en w1 ⟨rfl, hs⟩; have HS1 := lh hs; clear hs)
  | (go_at_call 143; (with_reducible refine (Nco (m := ⟨#[43]⟩) HS1.out.is HS1.out.bel H0.out.1 H0.out.2 HM.out).mono ?_); rintro en w1 ⟨rfl, hs⟩; have HS := lh (HS1.out.trans hs); clear hs HS1))
 cases x with
 | error p =>
  obtain ⟨c, p⟩ := p
  obtain rfl := sI HY.out
  (with_reducible refine (ih.par _ g at_ _ HS.out.is HS.out.bel H0.out.1 H1.out HX.out).mono ?_)
  rintro en w2 ⟨rfl, a, hs⟩
  go_wp2
  exact ⟨rfl, rfl, a, HS.out.trans hs⟩
 | ok p =>
  obtain ⟨r, a⟩ := p
  (with_reducible refine (ih.par _ g at_ _ HS.out.is HS.out.bel H0.out.1 H1.out HX.out).mono ?_)
  rintro en w2 ⟨v, rfl, hr, hs⟩
  obtain ⟨A, c, rfl, hle, -⟩ := Kd.R_reads hr
  have HS2 := lh (HS.out.trans hs)
  have HR := lh (Kd.R_lower hr HS.out.size)
  have HN := lh ((len_all O ts e k).2.2.2.1 _ _ _ HX.out)
  have HN2 := lh (parF_range O ts e H0.out.1 H1.out HX.out)
  have HP : Hid (perF ts k r a = some y) := lh HY.out
  clear hr hs hle HY HX HT HM HS
  go_wp2_with (fail)
  go_loopg [3] k (fun kq v3 w' => ∃ (out : List S50) (b : Int), Hid (perF ts kq out b = some y) ∧ Hid (kq ≤ k) ∧ Hid (Kd.R k50 50 w' w.heap.size (fun _ => True) v3 out) ∧ Hid (St w0 w w' g ts b e) ∧ Hid (0 ≤ b ∧ b ≤ ts.length ∧ (out.length : Int) ≤ b))
  case atStart => exact ⟨r, a, HP, lh (Nat.le_refl _), HR, HS2, lh ⟨by have := HN2.out; have := H0.out; omega, HN2.out.2, by have := HN.out; have := H0.out; omega⟩⟩
  case round =>
   clear HP HR HS2 HN HN2
   obtain ⟨out, b, HP, HK, HR, HS, HC⟩ := hrel
   cases gk with
   | zero => exact absurd HP.out (by rw [perF]; simp)
   | succ k1 =>
    by_cases hm : markA ts b = mB [37]
    ·have hp := HP.out
     rw [perF, if_pos hm] at hp
     have HP1 := lh hp
     have HM := lh (show markA ts b = ⟨#[37]⟩ from hm)
     have HL := lh (Nch ts hm (by decide))
     obtain ⟨A2, c2, rfl, hle, hC⟩ := Kd.R_reads HR.out
     have HCle := lh hle
     clear hp hm HP hC hle
     have HTT := lh (Ndm (m := ⟨#[37]⟩) HS.out.is HS.out.bel HC.out.1 (by have := HC.out; omega) HM.out)
     go_wp2_with (go_at_call 143; (with_reducible refine (HTT.out).mono ?_); rintro en w3 ⟨rfl, hs⟩; have HS3 := lh (HS.out.trans hs); have HR3 := lh (r_keep HR.out hs.keep HG.out); have HCC := lh (c_one HCle.out (Kd.R_reads' HR3.out).2.2); clear hs HS HR HTT)
     (with_reducible refine (joined_un 3 _ _ 1 [out] _ HCC.out rfl (by simp) (by have := HC.out; simp only [List.flatten_cons, List.flatten_nil, List.append_nil]; omega)).mono ?_)
     rintro en w4 ⟨v, rfl, hr, hb⟩
     have HR4 := lh (Kd.R_lower hr (Nat.le_trans HS3.out.size (Naf (Below.refl _ _) _).size))
     have HS4 := lh ((HS3.out.below (Naf (Below.refl _ _) _)).below hb)
     clear hr hb HCC HS3 HR3
     go_wp2
     go_roundg k1
     case measure => have := HK.out; omega
     case rel => exact ⟨nUn 3 :: out, b + 1, HP1, lh (by have := HK.out; omega), lh (by have := HR4.out; simp only [List.flatten_cons, List.flatten_nil, List.append_nil] at this; exact this), HS4, lh (by have := HC.out; have := HL.out; simp only [List.length_cons]; omega)⟩
    ·have hp := HP.out
     rw [perF, if_neg hm] at hp
     obtain rfl := sI hp
     have HM := lh (show markA ts b ≠ ⟨#[37]⟩ from hm)
     clear hp hm HP
     have HTT := lh (Nco (m := ⟨#[37]⟩) HS.out.is HS.out.bel HC.out.1 (by have := HC.out; omega) HM.out)
     go_wp2_with (go_at_call 143; (with_reducible refine (HTT.out).mono ?_); rintro en w3 ⟨rfl, hs⟩; have HS3 := lh (HS.out.trans hs); have HR3 := lh (r_keep HR.out hs.keep HG.out); clear hs HS HR HTT)
     go_ret
     exact ⟨_, rfl, HR3.out, HS3.out⟩
theorem signed_any {k : Nat} (ih : Parts O ts e w0 k) (hts : ts.length ≤ 100000) (w : World) (g : Nat) (at_ : Int) (x) (hI : IsS72 w0 w g ts at_ e) (hB : Below w0.heap.size w0 w) (h0 : 0 ≤ at_) (h1 : at_ ≤ ts.length) (h : sgnF O ts e (k + 1) at_ = some x) :
 Calls Tryz.prog 105 #[.pointer (some ⟨g, 0, none⟩)] w (Ans w0 w g ts e x) := by
 rw [sgnF] at h
 by_cases hm1 : markA ts at_ = mB [45]
 ·rw [if_pos hm1] at h
  cases hx : sgnF O ts e k (at_ + 1) with
  | none => rw [hx] at h; cases h
  | some y =>
   rw [hx] at h
   have := signed_minus ih hts hI hB h0 h1 hm1 hx
   cases y with
   | error p => obtain rfl := sI h; exact this
   | ok p => obtain rfl := sI h; exact this
 ·rw [if_neg hm1] at h
  by_cases hm2 : markA ts at_ = mB [43]
  ·rw [if_pos hm2] at h
   cases hx : sgnF O ts e k (at_ + 1) with
   | none => rw [hx] at h; cases h
   | some y =>
    rw [hx] at h
    have := signed_plus ih hts hI hB h0 h1 hm2 hx
    cases y with
    | error p => obtain rfl := sI h; exact this
    | ok p => obtain rfl := sI h; exact this
  ·rw [if_neg hm2] at h
   cases hx : parF O ts e k at_ with
   | none => rw [hx] at h; cases h
   | some y =>
    rw [hx] at h
    exact signed_part ih hts hI hB h0 h1 hm1 hm2 hx h
end
end Go.Proofs.YtejbbceidnaloaaGreatDoor.P
