import Derived.Test.YtejbbceidnaloaaGreatDoorB11
import Derived.Test.YtejbbceidnaloaaGreatDoorB7
set_option linter.unusedVariables false
set_option linter.unusedSimpArgs false
set_option maxRecDepth 100000
set_option maxHeartbeats 8000000
namespace Go.Proofs.YtejbbceidnaloaaGreatDoor.P
open Go.RowKit AW AL AM
def rdLL (xs : List (List S50)) (i : Int) : (List S50) := xs.getD i.toNat ([] : List S50)
theorem at_LL {w : World} {A : Option Addr} {n : Nat} {xs : List (List S50)} (h : Kd.C (Kd.slice 50 k50) w A n xs) (i : Int) (h0 : 0 ≤ i) (h1 : i < n) : ∃ ad A0 c0, A = some ad ∧ w.cell? (ad.add i.toNat) = some (.slice A0 (rdLL xs i).length c0) ∧ (rdLL xs i).length ≤ c0 ∧ Kd.C k50 w A0 (rdLL xs i).length (rdLL xs i) := by
 obtain ⟨ad, c, e, hl, ⟨A0, c0, rfl, hle, hC⟩, hc⟩ := Kd.C_get h [] i h0 h1
 have := hc 0 (.slice A0 (rdLL xs i).length c0) rfl
 exact ⟨ad, A0, c0, e, by rw [show i.toNat * (Kd.slice 50 k50).sz + 0 = i.toNat from Nat.mul_one _] at this; exact this, hle, hC⟩
theorem flat_snoc (l : List (List S50)) (i : Nat) (h : i < l.length) : (l.take (i + 1)).flatten = (l.take i).flatten ++ rdLL l (i : Int) := by
 rw [List.take_succ_eq_append_getElem h, List.flatten_append]
 have : rdLL l (i : Int) = l[i] := by unfold rdLL; simp [List.getD_eq_getElem?_getD, h]
 rw [this]; simp
theorem flat_le (l : List (List S50)) (i : Nat) : (l.take i).flatten.length ≤ l.flatten.length := by
 conv => rhs; rw [← List.take_append_drop i l, List.flatten_append, List.length_append]
 omega
theorem rd_le (l : List (List S50)) (i : Nat) (h : i < l.length) : ((l.take i).flatten).length + (rdLL l (i : Int)).length ≤ l.flatten.length := by
 have h1 := flat_le l (i + 1)
 rw [flat_snoc l i h, List.length_append] at h1
 exact h1
theorem joined_any (x : S50) (A1 : Option Addr) (c1 : Nat) (l1 : List (List S50)) (w : World) (hr1 : Kd.C (Kd.slice 50 k50) w A1 l1.length l1) (hl1 : l1.length ≤ 1000) (hl : l1.flatten.length ≤ 1000000000) :
 Calls Tryz.prog 108 #[v50 x, .slice A1 l1.length c1] w fun e w' => ∃ v0_ : Value, e = .returned v0_ ∧ Kd.R k50 50 w' w.heap.size (fun _ => True) v0_ (x :: l1.flatten) ∧ Below w.heap.size w w' := by
 have HR1 := lh hr1
 have HL := lh hl
 clear hr1 hl
 show Calls Tryz.prog 108 #[.agg #[.int .i64 x.f0, .int .i64 x.f1.f0, .int .i64 x.f1.f1.f0, .int .i64 x.f1.f1.f1, .string x.f1.f2, .bool x.f1.f3, .int .i64 x.f1.f4, .int .i64 x.f2, .string x.f3, .int .i64 x.f4, .string x.f5.f0, .int .i64 x.f5.f1, .int .i64 x.f5.f2, .bool x.f5.f3, .bool x.f5.f4, .string x.f6.f0, .int .i64 x.f6.f1, .int .i64 x.f6.f2, .bool x.f6.f3, .bool x.f6.f4], .slice A1 l1.length c1] w _
 have hu50 := Tryz.underlying50
 go_enter Tryz.func108, Tryz.ntmps108
 go_wp2_with (first
  | ((with_reducible refine gD 2 rfl ?_); refine bX 2 #[.int .i64 x.f0, .int .i64 x.f1.f0, .int .i64 x.f1.f1.f0, .int .i64 x.f1.f1.f1, .string x.f1.f2, .bool x.f1.f3, .int .i64 x.f1.f4, .int .i64 x.f2, .string x.f3, .int .i64 x.f4, .string x.f5.f0, .int .i64 x.f5.f1, .int .i64 x.f5.f2, .bool x.f5.f3, .bool x.f5.f4, .string x.f6.f0, .int .i64 x.f6.f1, .int .i64 x.f6.f2, .bool x.f6.f3, .bool x.f6.f4] 50 ?_; intro g1 hg_ w1 hb_ hl_; have B1 := lh hl_; have H1 := lh hb_; clear hb_ hl_ hg_)
  | ((with_reducible refine gD 8 rfl ?_); refine lA H1.out 50 (.tmp 2) hu50 ?_)
  | ((with_reducible refine gD 9 rfl ?_); refine Kd.R_lit k50 _ 50 ?hg (N := 9) ?hd (xs := [x]) (inner := [.int .i64 x.f0, .int .i64 x.f1.f0, .int .i64 x.f1.f1.f0, .int .i64 x.f1.f1.f1, .string x.f1.f2, .bool x.f1.f3, .int .i64 x.f1.f4, .int .i64 x.f2, .string x.f3, .int .i64 x.f4, .string x.f5.f0, .int .i64 x.f5.f1, .int .i64 x.f5.f2, .bool x.f5.f3, .bool x.f5.f4, .string x.f6.f0, .int .i64 x.f6.f1, .int .i64 x.f6.f2, .bool x.f6.f3, .bool x.f6.f4]) (ok := fun _ => True) (okp := fun _ => True) ?hr ?hp (fun _ hk => hk) trivial (Below.refl _ _) (Nat.le_refl _) (by simp) ?_; (case hd => rfl); (case hg => rfl); (case hr => go_simp <;> rfl); (case hp => exact (Reps.front (show Kd.M k50 _ _ _ x [.int .i64 x.f0, .int .i64 x.f1.f0, .int .i64 x.f1.f1.f0, .int .i64 x.f1.f1.f1, .string x.f1.f2, .bool x.f1.f3, .int .i64 x.f1.f4, .int .i64 x.f2, .string x.f3, .int .i64 x.f4, .string x.f5.f0, .int .i64 x.f5.f1, .int .i64 x.f5.f2, .bool x.f5.f3, .bool x.f5.f4, .string x.f6.f0, .int .i64 x.f6.f1, .int .i64 x.f6.f2, .bool x.f6.f3, .bool x.f6.f4] from k50_mkM _ _ _ x) rfl (Reps.none _ _) rfl)); intro v1 w2 ho_ hb_ hg_ hn_; have HO := lh (Kd.R_lower ho_ B1.out.size); have B2 := lh (Nac B1.out hb_); clear ho_ hb_ hg_ hn_ H1 B1))
 go_loopw [5, 12] (fun v5 v12 w' => ∃ i : Nat, i ≤ l1.length ∧ v12 = .int .i64 i ∧ Hid (Kd.R k50 50 w' w.heap.size (fun _ => True) v5 (x :: (l1.take i).flatten)) ∧ Hid (Below w.heap.size w w')) (fun _ v12 _ => l1.length - (intOf v12).toNat)
 case atStart => exact ⟨0, by omega, rfl, by simpa using HO, B2⟩
 case round =>
  clear HO B2
  obtain ⟨i, hi, rfl, HO, HB⟩ := hrel
  by_cases hlt : i < l1.length
  ·obtain ⟨ad, A0, c0, e0, hx0, hc0, hk0⟩ := at_LL HR1.out (i : Int) (by omega) (by omega)
   cases e0
   replace hx0 := (HB.out.cell (World.block_lt_of_cell? w _ hx0)).trans hx0
   have HK := lh (Kd.C_below hk0 HB.out)
   have HLen := lh (rd_le l1 i hlt)
   have HFl := lh (flat_snoc l1 i hlt)
   clear hk0 hc0
   rw [Int.toNat_natCast] at hx0
   go_wp2_with (first
    | ((with_reducible refine Nch (b := .append) (xs := #[.tmp 16, .tmp 17]) rfl ?_); at_builtin; refine Kd.R_append_rows k50 (w0 := w) w.heap.size rfl (.tmp 16) (.tmp 17) 22 50 (.agg #[(.int .i64 0), (.int .i64 0), (.int .i64 0), (.int .i64 0), (.string ⟨#[]⟩), (.bool false), (.int .i64 0), (.int .i64 0), (.string ⟨#[]⟩), (.int .i64 0), (.string ⟨#[]⟩), (.int .i64 0), (.int .i64 0), (.bool false), (.bool false), (.string ⟨#[]⟩), (.int .i64 0), (.int .i64 0), (.bool false), (.bool false)]) 176 rfl Tryz.underlying22 info50 rfl (by decide) (by omega) _ (x :: (l1.take i).flatten) (rdLL l1 (i : Int)) _ _ _ (fun _ => True) (fun _ => False) rfl rfl HO.out HK.out (fun _ _ h => h) (fun _ h => h.elim) (fun _ _ => trivial) HB.out HB.out.size ?aL ?_; (case aL => have := HLen.out; have := HL.out; simp only [List.length_cons]; omega); intro v1 w1 ho_ hb_ hg_ hat_; have HO1 := lh ho_; have HB1 := lh hb_; clear ho_ hb_ hg_ hat_))
   go_roundw
   case rel => exact ⟨i + 1, by omega, by go_num, lh (by rw [HFl.out]; exact HO1.out), HB1⟩
   case measure => simp [intOf]; omega
  ·obtain rfl : i = l1.length := by omega
   have HE := lh (show (l1.take l1.length).flatten = l1.flatten by rw [List.take_length])
   clear hi hlt
   go_wp2
   go_ret
   exact ⟨_, rfl, by rw [← HE.out]; exact HO.out, HB.out⟩
section
set_option maxHeartbeats 1000000
def Ans (w0 w : World) (g : Nat) (ts : List S39) (e : Int) (x : Except (Int × Int) (List S50 × Int)) (en : Ending) (w' : World) : Prop :=
 match x with
 | .ok (l, a) => ∃ v, en = .returned v ∧ Kd.R k50 50 w' w.heap.size (fun _ => True) v l ∧ St w0 w w' g ts a e
 | .error (c, p) => Bad en c p ∧ ∃ a, St w0 w w' g ts a e
structure Parts (O : Ops) (ts : List S39) (e : Int) (w0 : World) (k : Nat) : Prop where
 bin : ∀ (w : World) (g : Nat) (least at_ : Int) (x), IsS72 w0 w g ts at_ e → Below w0.heap.size w0 w → 0 ≤ at_ → at_ ≤ ts.length → 1 ≤ least → least ≤ 6 → binF O ts e k least at_ = some x → Calls Tryz.prog 68 #[.pointer (some ⟨g, 0, none⟩), .int .i64 least] w (Ans w0 w g ts e x)
 sgn : ∀ (w : World) (g : Nat) (at_ : Int) (x), IsS72 w0 w g ts at_ e → Below w0.heap.size w0 w → 0 ≤ at_ → at_ ≤ ts.length → sgnF O ts e k at_ = some x → Calls Tryz.prog 105 #[.pointer (some ⟨g, 0, none⟩)] w (Ans w0 w g ts e x)
 par : ∀ (w : World) (g : Nat) (at_ : Int) (x), IsS72 w0 w g ts at_ e → Below w0.heap.size w0 w → 0 ≤ at_ → at_ ≤ ts.length → parF O ts e k at_ = some x → Calls Tryz.prog 144 #[.pointer (some ⟨g, 0, none⟩)] w (Ans w0 w g ts e x)
 wor : ∀ (w : World) (g : Nat) (m : ByteArray) (at_ : Int) (x), IsS72 w0 w g ts at_ e → Below w0.heap.size w0 w → 0 ≤ at_ → at_ < ts.length → m = (tokA ts at_).f1 → worF O ts e k m at_ = some x → Calls Tryz.prog 178 #[.pointer (some ⟨g, 0, none⟩), .string m] w (Ans w0 w g ts e x)
 cal : ∀ (w : World) (g : Nat) (m : ByteArray) (at_ : Int) (x), IsS72 w0 w g ts at_ e → Below w0.heap.size w0 w → 0 ≤ at_ → at_ + 1 < ts.length → m = (tokA ts at_).f1 → calF O ts e k m at_ = some x → Calls Tryz.prog 205 #[.pointer (some ⟨g, 0, none⟩), .string m] w (Ans w0 w g ts e x)
theorem joined_un (o : Int) (A1 : Option Addr) (c1 n : Nat) (l1 : List (List S50)) (w : World) (hr1 : Kd.C (Kd.slice 50 k50) w A1 n l1) (hn : n = l1.length) (hl1 : l1.length ≤ 1000) (hl : l1.flatten.length ≤ 1000000000) :
 Calls Tryz.prog 108 #[.agg #[.int .i64 4, .int .i64 0, .int .i64 0, .int .i64 0, .string ⟨#[]⟩, .bool false, .int .i64 0, .int .i64 o, .string ⟨#[]⟩, .int .i64 0, .string ⟨#[]⟩, .int .i64 0, .int .i64 0, .bool false, .bool false, .string ⟨#[]⟩, .int .i64 0, .int .i64 0, .bool false, .bool false], .slice A1 n c1] w fun e w' => ∃ v0_ : Value, e = .returned v0_ ∧ Kd.R k50 50 w' w.heap.size (fun _ => True) v0_ (nUn o :: l1.flatten) ∧ Below w.heap.size w w' := by
 subst hn
 exact joined_any (nUn o) A1 c1 l1 w hr1 hl1 hl
theorem r_old {w1 w2 : World} {B : Nat} {v : Value} {l : List S50} (h : Kd.R k50 50 w1 B (fun _ => True) v l) (hb : Below w1.heap.size w1 w2) : Kd.R k50 50 w2 B (fun _ => True) v l := Kd.R_below h hb
theorem c_one {W : World} {A : Option Addr} {c : Nat} {r : List S50} (hl : r.length ≤ c) (h : Kd.C k50 W A r.length r) : Kd.C (Kd.slice 50 k50) (W.alloc (.cells #[.slice A r.length c] 22)) (some ⟨W.heap.size, 0, none⟩) 1 [r] := by
 refine ⟨rfl, by omega, fun _ => ⟨_, rfl, fun j p hj => ?_⟩⟩
 cases j with
 | zero =>
  obtain rfl : r = p := by simpa using hj
  refine ⟨[.slice A r.length c], rfl, ⟨A, c, rfl, hl, Kd.C_below h (Nae (Below.refl _ _) _)⟩, fun i u hi => ?_⟩
  cases i with
  | zero =>
   obtain rfl : Value.slice A r.length c = u := by simpa using hi
   rw [add_plain]
   exact (Naa (Nce W _) 0).trans rfl
  | succ i => simp at hi
 | succ j => simp at hj
theorem c_two {W : World} {A A' : Option Addr} {c c' : Nat} {r r' : List S50} (hl : r.length ≤ c) (h : Kd.C k50 W A r.length r) (hl' : r'.length ≤ c') (h' : Kd.C k50 W A' r'.length r') : Kd.C (Kd.slice 50 k50) (W.alloc (.cells #[.slice A r.length c, .slice A' r'.length c'] 22)) (some ⟨W.heap.size, 0, none⟩) 2 [r, r'] := by
 refine ⟨rfl, by omega, fun _ => ⟨_, rfl, fun j p hj => ?_⟩⟩
 match j, hj with
 | 0, hj =>
  obtain rfl : r = p := by simpa using hj
  refine ⟨[.slice A r.length c], rfl, ⟨A, c, rfl, hl, Kd.C_below h (Nae (Below.refl _ _) _)⟩, fun i u hi => ?_⟩
  cases i with
  | zero =>
   obtain rfl : Value.slice A r.length c = u := by simpa using hi
   rw [add_plain]
   exact (Naa (Nce W _) 0).trans rfl
  | succ i => simp at hi
 | 1, hj =>
  obtain rfl : r' = p := by simpa using hj
  refine ⟨[.slice A' r'.length c'], rfl, ⟨A', c', rfl, hl', Kd.C_below h' (Nae (Below.refl _ _) _)⟩, fun i u hi => ?_⟩
  cases i with
  | zero =>
   obtain rfl : Value.slice A' r'.length c' = u := by simpa using hi
   rw [add_plain]
   exact (Naa (Nce W _) 1).trans rfl
  | succ i => simp at hi
 | j + 2, hj => simp at hj
section
variable {O : Ops} {ts : List S39} {e : Int} {w0 : World}
theorem signed_minus {k : Nat} (ih : Parts O ts e w0 k) (hts : ts.length ≤ 100000) {w : World} {g : Nat} {at_ : Int} {x} (hI : IsS72 w0 w g ts at_ e) (hB : Below w0.heap.size w0 w) (h0 : 0 ≤ at_) (h1 : at_ ≤ ts.length) (hm : markA ts at_ = mB [45]) (hx : sgnF O ts e k (at_ + 1) = some x) :
 Calls Tryz.prog 105 #[.pointer (some ⟨g, 0, none⟩)] w (Ans w0 w g ts e (x.map fun (r, a) => (nUn 1 :: r, a))) := by
 have hlt := Nbb ts hm (by decide)
 have HT := lh (Nc9 (m := ⟨#[45]⟩) hI hB h0 (by omega) hm)
 have HX := lh hx
 have H0 := lh (show 0 ≤ at_ + 1 ∧ at_ + 1 ≤ ts.length by omega)
 clear hI hB hm hx h0 h1 hlt
 go_enter Tryz.func105, Tryz.ntmps105
 go_wp2_with (go_at_call 143; (with_reducible refine (HT.out).mono ?_); rintro en w1 ⟨rfl, hs⟩; have HS := lh hs; clear hs)
 cases x with
 | error p =>
  obtain ⟨c, p⟩ := p
  (with_reducible refine (ih.sgn _ g (at_ + 1) _ HS.out.is HS.out.bel H0.out.1 H0.out.2 HX.out).mono ?_)
  rintro en w2 ⟨rfl, a, hs⟩
  go_wp2
  exact ⟨rfl, rfl, a, HS.out.trans hs⟩
 | ok p =>
  obtain ⟨r, a⟩ := p
  (with_reducible refine (ih.sgn _ g (at_ + 1) _ HS.out.is HS.out.bel H0.out.1 H0.out.2 HX.out).mono ?_)
  rintro en w2 ⟨v, rfl, hr, hs⟩
  obtain ⟨A, c, rfl, hle, hC⟩ := Kd.R_reads hr
  have HS2 := lh (HS.out.trans hs)
  have HC := lh (c_one hle hC)
  have HN := lh ((len_all O ts e k).2.2.1 _ _ _ HX.out)
  have HN2 := lh ((sgnF_range O ts e H0.out.1 H0.out.2 HX.out).2)
  clear hr hs hC hle
  go_wp2_with (fail)
  (with_reducible refine (joined_un 1 _ _ 1 [r] _ HC.out rfl (by simp) (by have := HN.out; have := HN2.out; have := H0.out; simp only [List.flatten_cons, List.flatten_nil, List.append_nil]; omega)).mono ?_)
  rintro en w3 ⟨v, rfl, hr, hb⟩
  have HR := lh (Kd.R_lower hr (Nat.le_trans HS2.out.size (Nae (Below.refl _ _) _).size))
  have HS3 := lh ((HS2.out.below (Nae (Below.refl _ _) _)).below hb)
  clear hr hb HC HS2
  go_wp2
  go_ret
  exact ⟨_, rfl, by have := HR.out; simp only [List.flatten_cons, List.flatten_nil, List.append_nil] at this; exact this, HS3.out⟩
theorem signed_plus {k : Nat} (ih : Parts O ts e w0 k) (hts : ts.length ≤ 100000) {w : World} {g : Nat} {at_ : Int} {x} (hI : IsS72 w0 w g ts at_ e) (hB : Below w0.heap.size w0 w) (h0 : 0 ≤ at_) (h1 : at_ ≤ ts.length) (hm : markA ts at_ = mB [43]) (hx : sgnF O ts e k (at_ + 1) = some x) :
 Calls Tryz.prog 105 #[.pointer (some ⟨g, 0, none⟩)] w (Ans w0 w g ts e (x.map fun (r, a) => (nUn 2 :: r, a))) := by
 have hlt := Nbb ts hm (by decide)
 have HT := lh (Nb7 (m := ⟨#[45]⟩) hI hB h0 (by omega) (by rw [hm]; decide))
 have HM := lh (show markA ts at_ = ⟨#[43]⟩ from hm)
 have H00 := lh (show 0 ≤ at_ ∧ at_ ≤ 1000000 by omega)
 have HX := lh hx
 have H0 := lh (show 0 ≤ at_ + 1 ∧ at_ + 1 ≤ ts.length by omega)
 clear hI hB hm hx h0 h1 hlt
 go_enter Tryz.func105, Tryz.ntmps105
 go_wp2_with (first | (go_at_call 143; (with_reducible refine (HT.out).mono ?_); rintro en w1 ⟨rfl, hs⟩; have HS1 := lh hs; clear hs) | (go_at_call 143; (with_reducible refine (Nc9 (m := ⟨#[43]⟩) HS1.out.is HS1.out.bel H00.out.1 H00.out.2 HM.out).mono ?_); rintro en w1 ⟨rfl, hs⟩; have HS := lh (HS1.out.trans hs); clear hs HS1))
 cases x with
 | error p =>
  obtain ⟨c, p⟩ := p
  (with_reducible refine (ih.sgn _ g (at_ + 1) _ HS.out.is HS.out.bel H0.out.1 H0.out.2 HX.out).mono ?_)
  rintro en w2 ⟨rfl, a, hs⟩
  go_wp2
  exact ⟨rfl, rfl, a, HS.out.trans hs⟩
 | ok p =>
  obtain ⟨r, a⟩ := p
  (with_reducible refine (ih.sgn _ g (at_ + 1) _ HS.out.is HS.out.bel H0.out.1 H0.out.2 HX.out).mono ?_)
  rintro en w2 ⟨v, rfl, hr, hs⟩
  obtain ⟨A, c, rfl, hle, hC⟩ := Kd.R_reads hr
  have HS2 := lh (HS.out.trans hs)
  have HC := lh (c_one hle hC)
  have HN := lh ((len_all O ts e k).2.2.1 _ _ _ HX.out)
  have HN2 := lh ((sgnF_range O ts e H0.out.1 H0.out.2 HX.out).2)
  clear hr hs hC hle
  go_wp2_with (fail)
  (with_reducible refine (joined_un 2 _ _ 1 [r] _ HC.out rfl (by simp) (by have := HN.out; have := HN2.out; have := H0.out; simp only [List.flatten_cons, List.flatten_nil, List.append_nil]; omega)).mono ?_)
  rintro en w3 ⟨v, rfl, hr, hb⟩
  have HR := lh (Kd.R_lower hr (Nat.le_trans HS2.out.size (Nae (Below.refl _ _) _).size))
  have HS3 := lh ((HS2.out.below (Nae (Below.refl _ _) _)).below hb)
  clear hr hb HC HS2
  go_wp2
  go_ret
  exact ⟨_, rfl, by have := HR.out; simp only [List.flatten_cons, List.flatten_nil, List.append_nil] at this; exact this, HS3.out⟩
end
end
theorem r_keep {w1 w2 : World} {B g : Nat} {v : Value} {l : List S50} (h : Kd.R k50 50 w1 B (fun _ => True) v l) (hk : Nax w1 w2 g none) (hg : g < B) : Kd.R k50 50 w2 B (fun _ => True) v l :=
 Kd.R_mono (Kd.R_keep (Kd.R_bound h) hk (fun k hk => by have := hk.2.1; omega)) (fun _ _ => trivial)
section
variable {O : Ops} {ts : List S39} {e : Int} {w0 : World}
theorem signed_part {k : Nat} (ih : Parts O ts e w0 k) (hts : ts.length ≤ 100000) {w : World} {g : Nat} {at_ : Int} {x y} (hI : IsS72 w0 w g ts at_ e) (hB : Below w0.heap.size w0 w) (h0 : 0 ≤ at_) (h1 : at_ ≤ ts.length) (hm1 : markA ts at_ ≠ mB [45]) (hm2 : markA ts at_ ≠ mB [43]) (hx : parF O ts e k at_ = some x) (hy : Res.bnd (some x) (fun (r, a) => perF ts k r a) = some y) :
 Calls Tryz.prog 105 #[.pointer (some ⟨g, 0, none⟩)] w (Ans w0 w g ts e y) := by
 have HT := lh (Nb7 (m := ⟨#[45]⟩) hI hB h0 (by omega) hm1)
 have HM := lh (show markA ts at_ ≠ ⟨#[43]⟩ from hm2)
 have HX := lh hx
 have HY := lh hy
 have H0 := lh (show 0 ≤ at_ ∧ at_ ≤ 1000000 by omega)
 have H1 := lh h1
 have HG := lh hI.lt
 clear hI hB hm1 hm2 hx h0 h1 hy
 go_enter Tryz.func105, Tryz.ntmps105
 go_wp2_with (first
  | (go_at_call 143; (with_reducible refine (HT.out).mono ?_); rintro en w1 ⟨rfl, hs⟩; have HS1 := lh hs; clear hs)
  | (go_at_call 143; (with_reducible refine (Nb7 (m := ⟨#[43]⟩) HS1.out.is HS1.out.bel H0.out.1 H0.out.2 HM.out).mono ?_); rintro en w1 ⟨rfl, hs⟩; have HS := lh (HS1.out.trans hs); clear hs HS1))
 cases x with
 | error p =>
  obtain ⟨c, p⟩ := p
  obtain rfl := sI HY.out
  (with_reducible refine (ih.par _ g at_ _ HS.out.is HS.out.bel H0.out.1 H1.out HX.out).mono ?_)
  rintro en w2 ⟨rfl, a, hs⟩
  go_wp2
  exact ⟨rfl, rfl, a, HS.out.trans hs⟩
 | ok p =>
  obtain ⟨r, a⟩ := p
  (with_reducible refine (ih.par _ g at_ _ HS.out.is HS.out.bel H0.out.1 H1.out HX.out).mono ?_)
  rintro en w2 ⟨v, rfl, hr, hs⟩
  obtain ⟨A, c, rfl, hle, -⟩ := Kd.R_reads hr
  have HS2 := lh (HS.out.trans hs)
  have HR := lh (Kd.R_lower hr HS.out.size)
  have HN := lh ((len_all O ts e k).2.2.2.1 _ _ _ HX.out)
  have HN2 := lh (parF_range O ts e H0.out.1 H1.out HX.out)
  have HP : Hid (perF ts k r a = some y) := lh HY.out
  clear hr hs hle HY HX HT HM HS
  go_wp2_with (fail)
  go_loopg [3] k (fun kq v3 w' => ∃ (out : List S50) (b : Int), Hid (perF ts kq out b = some y) ∧ Hid (kq ≤ k) ∧ Hid (Kd.R k50 50 w' w.heap.size (fun _ => True) v3 out) ∧ Hid (St w0 w w' g ts b e) ∧ Hid (0 ≤ b ∧ b ≤ ts.length ∧ (out.length : Int) ≤ b))
  case atStart => exact ⟨r, a, HP, lh (Nat.le_refl _), HR, HS2, lh ⟨by have := HN2.out; have := H0.out; omega, HN2.out.2, by have := HN.out; have := H0.out; omega⟩⟩
  case round =>
   clear HP HR HS2 HN HN2
   obtain ⟨out, b, HP, HK, HR, HS, HC⟩ := hrel
   cases gk with
   | zero => exact absurd HP.out (by rw [perF]; simp)
   | succ k1 =>
    by_cases hm : markA ts b = mB [37]
    ·have hp := HP.out
     rw [perF, if_pos hm] at hp
     have HP1 := lh hp
     have HM := lh (show markA ts b = ⟨#[37]⟩ from hm)
     have HL := lh (Nbb ts hm (by decide))
     obtain ⟨A2, c2, rfl, hle, hC⟩ := Kd.R_reads HR.out
     have HCle := lh hle
     clear hp hm HP hC hle
     have HTT := lh (Nc9 (m := ⟨#[37]⟩) HS.out.is HS.out.bel HC.out.1 (by have := HC.out; omega) HM.out)
     go_wp2_with (go_at_call 143; (with_reducible refine (HTT.out).mono ?_); rintro en w3 ⟨rfl, hs⟩; have HS3 := lh (HS.out.trans hs); have HR3 := lh (r_keep HR.out hs.keep HG.out); have HCC := lh (c_one HCle.out (Kd.R_reads' HR3.out).2.2); clear hs HS HR HTT)
     (with_reducible refine (joined_un 3 _ _ 1 [out] _ HCC.out rfl (by simp) (by have := HC.out; simp only [List.flatten_cons, List.flatten_nil, List.append_nil]; omega)).mono ?_)
     rintro en w4 ⟨v, rfl, hr, hb⟩
     have HR4 := lh (Kd.R_lower hr (Nat.le_trans HS3.out.size (Nae (Below.refl _ _) _).size))
     have HS4 := lh ((HS3.out.below (Nae (Below.refl _ _) _)).below hb)
     clear hr hb HCC HS3 HR3
     go_wp2
     go_roundg k1
     case measure => have := HK.out; omega
     case rel => exact ⟨nUn 3 :: out, b + 1, HP1, lh (by have := HK.out; omega), lh (by have := HR4.out; simp only [List.flatten_cons, List.flatten_nil, List.append_nil] at this; exact this), HS4, lh (by have := HC.out; have := HL.out; simp only [List.length_cons]; omega)⟩
    ·have hp := HP.out
     rw [perF, if_neg hm] at hp
     obtain rfl := sI hp
     have HM := lh (show markA ts b ≠ ⟨#[37]⟩ from hm)
     clear hp hm HP
     have HTT := lh (Nb7 (m := ⟨#[37]⟩) HS.out.is HS.out.bel HC.out.1 (by have := HC.out; omega) HM.out)
     go_wp2_with (go_at_call 143; (with_reducible refine (HTT.out).mono ?_); rintro en w3 ⟨rfl, hs⟩; have HS3 := lh (HS.out.trans hs); have HR3 := lh (r_keep HR.out hs.keep HG.out); clear hs HS HR HTT)
     go_ret
     exact ⟨_, rfl, HR3.out, HS3.out⟩
theorem signed_any {k : Nat} (ih : Parts O ts e w0 k) (hts : ts.length ≤ 100000) (w : World) (g : Nat) (at_ : Int) (x) (hI : IsS72 w0 w g ts at_ e) (hB : Below w0.heap.size w0 w) (h0 : 0 ≤ at_) (h1 : at_ ≤ ts.length) (h : sgnF O ts e (k + 1) at_ = some x) :
 Calls Tryz.prog 105 #[.pointer (some ⟨g, 0, none⟩)] w (Ans w0 w g ts e x) := by
 rw [sgnF] at h
 by_cases hm1 : markA ts at_ = mB [45]
 ·rw [if_pos hm1] at h
  cases hx : sgnF O ts e k (at_ + 1) with
  | none => rw [hx] at h; cases h
  | some y =>
   rw [hx] at h
   have := signed_minus ih hts hI hB h0 h1 hm1 hx
   cases y with
   | error p => obtain rfl := sI h; exact this
   | ok p => obtain rfl := sI h; exact this
 ·rw [if_neg hm1] at h
  by_cases hm2 : markA ts at_ = mB [43]
  ·rw [if_pos hm2] at h
   cases hx : sgnF O ts e k (at_ + 1) with
   | none => rw [hx] at h; cases h
   | some y =>
    rw [hx] at h
    have := signed_plus ih hts hI hB h0 h1 hm2 hx
    cases y with
    | error p => obtain rfl := sI h; exact this
    | ok p => obtain rfl := sI h; exact this
  ·rw [if_neg hm2] at h
   cases hx : parF O ts e k at_ with
   | none => rw [hx] at h; cases h
   | some y =>
    rw [hx] at h
    exact signed_part ih hts hI hB h0 h1 hm1 hm2 hx h
end
theorem load_yields {P : Program} {a : Act} {o : Oper} {t : TypeId} {p : Operand} (ho : o.op = .load t p) {g : Nat} {e : TypeId} {cs : Array Value} {d : TypeDesc} {w : World}
 (haddr : a.eval p = .pointer (some ⟨g, 0, none⟩)) (hh : w.heap[g]? = some (.cells cs e (0, 0))) (hu : P.underlying t = some d) (hd : d.isRow = true) (hi : (P.info? t).map (·.size) = some cs.toList.length) :
 (execOp a.eval o).run P w = .ok (.value (.agg cs)) w := by
 have hrun := Ndp (P := P) w ⟨g, 0, none⟩ t cs.toList d (fun j v hv => by rw [add_plain, Naa hh, ← Array.getElem?_toList]; exact hv) hu hd hi
 unfold execOp
 simp only [ho, haddr, Instr.loadAt, Instr.sureAddr, Sem.run_bind, Sem.run_pure, Result.andThen_ok, hrun]
theorem joined_bin (o : Int) (A1 : Option Addr) (c1 n : Nat) (l1 : List (List S50)) (w : World) (hr1 : Kd.C (Kd.slice 50 k50) w A1 n l1) (hn : n = l1.length) (hl1 : l1.length ≤ 1000) (hl : l1.flatten.length ≤ 1000000000) :
 Calls Tryz.prog 108 #[.agg #[.int .i64 5, .int .i64 0, .int .i64 0, .int .i64 0, .string ⟨#[]⟩, .bool false, .int .i64 0, .int .i64 o, .string ⟨#[]⟩, .int .i64 0, .string ⟨#[]⟩, .int .i64 0, .int .i64 0, .bool false, .bool false, .string ⟨#[]⟩, .int .i64 0, .int .i64 0, .bool false, .bool false], .slice A1 n c1] w fun e w' => ∃ v0_ : Value, e = .returned v0_ ∧ Kd.R k50 50 w' w.heap.size (fun _ => True) v0_ (nBin o :: l1.flatten) ∧ Below w.heap.size w w' := by
 subst hn
 exact joined_any (nBin o) A1 c1 l1 w hr1 hl1 hl
section
variable {P : Program} {ops : Array Oper} {Q : Exit → Act → World → Prop}
theorem bad_ {oi : Oper} {N : Option Tmp} {a : Act} {w : World} {K : Act → World → Prop} {f : FuncId} {fn : Func} {as_ : Array Operand} {ts : Array TypeId} (hf : P.funcs[f]? = some fn) (hname : (fn.name == "runtime.NumGoroutine") = false) (hb : fn.body.isSome = true) (args : Array Value)
 (hw : Region.wanted oi (yielded ops a.tmps) = true) (hop : oi.op = .call { callee := .value (.func f), args := as_, argTypes := ts }) (hargs : as_.map a.eval = args)
 (h : Calls P f args w fun e w' => ∃ c, e = .panicked c ∧ Q (.panic c) a w') : if Region.wanted oi (yielded ops a.tmps) = true then Oper.wp P oi a w K Q else K (a.put N undef) w := by
 rw [if_pos hw]
 have he := enters_ hf hname hb args w
 have hrun : (execOp a.eval oi).run P w = .ok (.enter f args) w := by
  unfold execOp
  simp [hop, resolve, Deferred.ofValue, invoke, Act.eval, hargs, he]
 unfold Oper.wp
 rw [hrun, Oper.upon_enter]
 refine h.mono fun e w'' hh => ?_
 obtain ⟨c, rfl, hk⟩ := hh
 exact hk
end
section
variable {O : Ops} {ts : List S39} {e : Int} {w0 : World}
theorem binary_six {k : Nat} (ih : Parts O ts e w0 k) {w : World} {g : Nat} {at_ : Int} {x} (hI : IsS72 w0 w g ts at_ e) (hB : Below w0.heap.size w0 w) (h0 : 0 ≤ at_) (h1 : at_ ≤ ts.length) (hx : sgnF O ts e k at_ = some x) :
 Calls Tryz.prog 68 #[.pointer (some ⟨g, 0, none⟩), .int .i64 6] w (Ans w0 w g ts e x) := by
 have HC := lh (ih.sgn w g at_ _ hI hB h0 h1 hx)
 clear hI hB h0 h1 hx
 go_enter Tryz.func68, Tryz.ntmps68
 go_wp2_with (fail)
 cases x with
 | error p =>
  obtain ⟨c, p⟩ := p
  (with_reducible refine (HC.out).mono ?_)
  rintro en w2 ⟨rfl, a, hs⟩
  go_wp2
  exact ⟨rfl, rfl, a, hs⟩
 | ok p =>
  obtain ⟨r, a⟩ := p
  (with_reducible refine (HC.out).mono ?_)
  rintro en w2 ⟨v, rfl, hr, hs⟩
  obtain ⟨A, c, rfl, hle, -⟩ := Kd.R_reads hr
  have HR := lh hr
  have HS := lh hs
  clear hr hs hle
  go_wp2
  go_ret
  exact ⟨_, rfl, HR.out, HS.out⟩
theorem binary_low {k : Nat} (ih : Parts O ts e w0 k) (hts : ts.length ≤ 100000) {w : World} {g : Nat} {least at_ : Int} {x y} (hI : IsS72 w0 w g ts at_ e) (hB : Below w0.heap.size w0 w) (h0 : 0 ≤ at_) (h1 : at_ ≤ ts.length) (hl1 : 1 ≤ least) (hl6 : least < 6) (hx : binF O ts e k (least + 1) at_ = some x) (hy : Res.bnd (some x) (fun (r, a) => lopF O ts e k least r a) = some y) :
 Calls Tryz.prog 68 #[.pointer (some ⟨g, 0, none⟩), .int .i64 least] w (Ans w0 w g ts e y) := by
 have HC := lh (ih.bin w g (least + 1) at_ _ hI hB h0 h1 (by omega) (by omega) hx)
 have HX := lh hx
 have HY := lh hy
 have H0 := lh (show 0 ≤ at_ ∧ at_ ≤ 1000000 by omega)
 have H1 := lh h1
 have HG := lh hI.lt
 have HLe := lh (show 1 ≤ least ∧ least < 6 from ⟨hl1, hl6⟩)
 have HWL := lh (show wrap64 (least + 1) = least + 1 by unfold wrap64; omega)
 have b6 : (least == 6) = false := by rw [beq_eq_false_iff_ne]; omega
 have hu50 := Tryz.underlying50
 clear hI hB h0 h1 hx hy
 go_enter Tryz.func68, Tryz.ntmps68
 go_wp2_with (fail)
 cases x with
 | error p =>
  obtain ⟨c, p⟩ := p
  obtain rfl := sI HY.out
  (with_reducible refine (HC.out).mono ?_)
  rintro en w2 ⟨rfl, a, hs⟩
  go_wp2
  exact ⟨rfl, rfl, a, hs⟩
 | ok p =>
  obtain ⟨r, a⟩ := p
  (with_reducible refine (HC.out).mono ?_)
  rintro en w2 ⟨v, rfl, hr, hs⟩
  obtain ⟨A, c, rfl, hle, -⟩ := Kd.R_reads hr
  have HR := lh hr
  have HS := lh hs
  have HN := lh ((len_all O ts e k).1 _ _ _ _ HX.out)
  have HN2 := lh (Ncf O ts e H0.out.1 H1.out (by have := HLe.out; omega) (by have := HLe.out; omega) HX.out)
  have HP : Hid (lopF O ts e k least r a = some y) := lh HY.out
  clear hr hs hle HY HX HC
  go_wp2_with (fail)
  go_loopg [5] k (fun kq v5 w' => ∃ (left : List S50) (b : Int), Hid (lopF O ts e kq least left b = some y) ∧ Hid (kq ≤ k) ∧ Hid (Kd.R k50 50 w' w.heap.size (fun _ => True) v5 left) ∧ Hid (St w0 w w' g ts b e) ∧ Hid (0 ≤ b ∧ b ≤ ts.length ∧ (left.length : Int) ≤ b))
  case atStart => exact ⟨r, a, HP, lh (Nat.le_refl _), HR, HS, lh ⟨by have := HN2.out; have := H0.out; omega, HN2.out.2, by have := HN.out; have := H0.out; omega⟩⟩
  case round =>
   clear HP HR HS HN HN2
   obtain ⟨left, b, HP, HK, HR, HS, HC⟩ := hrel
   obtain ⟨A5, c5, rfl, hle, -⟩ := Kd.R_reads HR.out
   have HLE := lh hle
   clear hle
   cases gk with
   | zero => exact absurd HP.out (by rw [lopF]; simp)
   | succ k1 =>
    have hp := HP.out
    rw [lopF] at hp
    obtain ⟨m, hm⟩ : ∃ m, markA ts b = m := ⟨_, rfl⟩
    obtain ⟨o, ho⟩ : ∃ o, opOf m = o := ⟨_, rfl⟩
    have HOL := lh (fun h : o ≠ 0 => opOf_lt ts (at_ := b) (by rw [hm, ho]; exact h))
    have HTS := lh (fun h : o ≠ 0 => (tightS_op (m := m) (by rw [ho]; exact h)))
    rw [hm, ho] at hp
    have HPP := lh hp
    have HO := lh ho
    have HMK := lh (mark_any HS.out.is HS.out.bel HC.out.1 m hm)
    clear hp hm ho HP
    go_upto_region 5 with (first
     | (go_at_call 107; (with_reducible refine (HMK.out).mono ?_); rintro en w3 ⟨rfl, hs⟩; have HS3 := lh (HS.out.trans hs); have HR3 := lh (r_keep HR.out hs.keep HG.out); clear hs HS HR HMK)
     | (go_at_call 106; (with_reducible refine (operator_any m o _ HO.out).mono ?_); rintro en w4 ⟨rfl, hd⟩; have HS4 := lh (HS3.out.below hd.below); have HR4 := lh (r_old HR3.out hd.below); clear hd HS3 HR3)
     | ((with_reducible refine gD 6 rfl ?_); refine bX 6 #[.int .i64 0, .int .i64 0, .int .i64 0, .int .i64 0, .string ⟨#[]⟩, .bool false, .int .i64 0, .int .i64 0, .string ⟨#[]⟩, .int .i64 0, .string ⟨#[]⟩, .int .i64 0, .int .i64 0, .bool false, .bool false, .string ⟨#[]⟩, .int .i64 0, .int .i64 0, .bool false, .bool false] 50 ?_; intro g6 hg_ w5 hb_ hl_; have zg : w4.heap.size ≤ g6 := hg_ ▸ Nat.le_refl _; have HNE := lh (show g6 ≠ g by have := HS4.out.is.lt; omega); have BL := lh hl_; have G6 := lh hb_; clear hb_ hl_ hg_)
     | ((with_reducible refine gate_ (.store 50 (.tmp 6) (.tmp 18)) rfl ?_); refine sE G6.out 50 (.tmp 6) (.tmp 18) 0 (.agg #[.int .i64 5, .int .i64 0, .int .i64 0, .int .i64 0, .string ⟨#[]⟩, .bool false, .int .i64 0, .int .i64 o, .string ⟨#[]⟩, .int .i64 0, .string ⟨#[]⟩, .int .i64 0, .int .i64 0, .bool false, .bool false, .string ⟨#[]⟩, .int .i64 0, .int .i64 0, .bool false, .bool false]) #[.int .i64 5, .int .i64 0, .int .i64 0, .int .i64 0, .string ⟨#[]⟩, .bool false, .int .i64 0, .int .i64 o, .string ⟨#[]⟩, .int .i64 0, .string ⟨#[]⟩, .int .i64 0, .int .i64 0, .bool false, .bool false, .string ⟨#[]⟩, .int .i64 0, .int .i64 0, .bool false, .bool false] ?_; intro w6 hb_ hp_; have J6 := lh hb_; have HB6 := lh (hp_.below w4 zg BL.out); have HS6 := lh (HS4.out.below HB6.out); have HR6 := lh (r_old HR4.out HB6.out); have ck_ : w6.cell? ⟨g6, 2 + 5, none⟩ = some (.int .i64 o) := (Naa J6.out 7).trans rfl; clear hb_ hp_ G6 BL HS4 HR4))
    by_cases hc : o = 0 ∨ Nbu o ≠ least
    ·have hp := HPP.out
     rw [if_pos hc] at hp
     obtain rfl := sI hp
     by_cases h0 : o = 0
     ·have bo : (o == 0) = true := beq_iff_eq.mpr h0
      have H00 := lh h0
      clear h0 hc hp HTS
      go_wp2
      go_ret
      exact ⟨_, rfl, HR6.out, HS6.out⟩
     ·have bo : (o == 0) = false := beq_eq_false_iff_ne.mpr h0
      have HT := lh (show Nd4 o = Nbu o by have := HTS.out h0; rw [HO.out] at this; exact this)
      have hne := hc.resolve_left h0
      have bt : (Nbu o != least) = true := bne_iff_ne.mpr hne
      have H00 := lh hne
      clear h0 hc hp HTS hne
      go_wp2_with (first | ((with_reducible refine gD 23 rfl ?_); refine Nck (by rfl) ?_; refine lA J6.out 50 (.tmp 6) hu50 ?_) | (go_at_call 73; (with_reducible refine (tight_any o _ _ HT.out).mono ?_); rintro en w7 ⟨rfl, hd⟩; have HS7 := lh (HS6.out.below hd); have HR7 := lh (r_old HR6.out hd); have J7 := lh (Nad J6.out hd); clear hd HS6 HR6 J6 ck_))
      go_ret
      exact ⟨_, rfl, HR7.out, HS7.out⟩
    ·have hp := HPP.out
     rw [if_neg hc] at hp
     have h0 : o ≠ 0 := fun h => hc (.inl h)
     have ht : Nbu o = least := Decidable.of_not_not (fun h => hc (.inr h))
     have bo : (o == 0) = false := beq_eq_false_iff_ne.mpr h0
     have HT := lh (show Nd4 o = least by have := HTS.out h0; rw [HO.out] at this; exact this.trans ht)
     have HLt := lh (HOL.out h0)
     have HP2 := lh hp
     clear h0 hc hp HTS ht
     have hb0 : 0 ≤ b := HC.out.1
     have hb1 : b ≤ 1000000 := by have := HC.out; omega
     go_upto_region 7 with (first | ((with_reducible refine gD 23 rfl ?_); refine Nck (by rfl) ?_; refine lA J6.out 50 (.tmp 6) hu50 ?_) | (go_at_call 73; (with_reducible refine (tight_any o _ _ HT.out).mono ?_); rintro en w7 ⟨rfl, hd⟩; have HS7 := lh (HS6.out.below hd); have HR7 := lh (r_old HR6.out hd); have J7 := lh (Nad J6.out hd); clear hd HS6 HR6 J6 ck_))
     obtain ⟨A0, c0, hg, hge, -⟩ := HS7.out.is
     have k1 := Na0 hg
     have f1 := Naf hg 1
     clear hg hge
     go_upto_region 8 with (fail)
     obtain ⟨w8, hw_⟩ : ∃ x_ : World, x_ = w7.setCell ⟨g, 1, none⟩ (.int .i64 (b + 1)) := ⟨_, rfl⟩
     rw [← hw_]
     have HS8 := lh (show St w0 w w8 g ts (b + 1) e by rw [hw_]; exact HS7.out.set (b + 1))
     have HR8 := lh (show Kd.R k50 50 w8 w.heap.size (fun _ => True) (.slice A5 left.length c5) left by rw [hw_]; exact r_keep HR7.out ((Nax.refl w7 g none).set_ 1 _) HG.out)
     have J8 := lh (show w8.heap[g6]? = some (.cells #[.int .i64 5, .int .i64 0, .int .i64 0, .int .i64 0, .string ⟨#[]⟩, .bool false, .int .i64 0, .int .i64 o, .string ⟨#[]⟩, .int .i64 0, .string ⟨#[]⟩, .int .i64 0, .int .i64 0, .bool false, .bool false, .string ⟨#[]⟩, .int .i64 0, .int .i64 0, .bool false, .bool false] 50 (0, 0)) by rw [hw_]; exact Nbk J7.out HNE.out _)
     clear hw_ k1 f1 HS7 HR7 J7
     have HB1 := lh (show 0 ≤ b + 1 ∧ b + 1 ≤ ts.length ∧ 1 ≤ least + 1 ∧ least + 1 ≤ 6 by have := HLt.out; omega)
     cases hz : binF O ts e k1 (least + 1) (b + 1) with
     | none => rw [hz] at HP2; exact absurd HP2.out (by simp [Res.bnd])
     | some z =>
      have HX2 := lh (binF_le O ts e (show k1 ≤ k by have := HK.out; omega) hz)
      have HP3 := lh (show Res.bnd (some z) (fun (r, a) => lopF O ts e k1 least (nBin o :: (left ++ r)) a) = some y by rw [← hz]; exact HP2.out)
      clear hz HP2
      cases z with
      | error p =>
       obtain ⟨c_, p⟩ := p
       obtain rfl := sI HP3.out
       refine sP (n := 9) (S := fun w' => w'.heap[g6]? = some (.cells #[.int .i64 5, .int .i64 0, .int .i64 0, .int .i64 0, .string ⟨#[]⟩, .bool false, .int .i64 0, .int .i64 o, .string ⟨#[]⟩, .int .i64 0, .string ⟨#[]⟩, .int .i64 0, .int .i64 0, .bool false, .bool false, .string ⟨#[]⟩, .int .i64 0, .int .i64 0, .bool false, .bool false] 50 (0, 0))) (ds := []) (Nag J8.out) (fun hHeld => ?_)
       refine pP 1 37 ?_
       refine pP 2 38 ?_
       refine pP 3 39 ?_
       refine pP 4 40 ?_
       refine tP 0 36 hHeld ?_ (hy := Or.inl ⟨by rfl, by intro w' s0; refine load_yields (t := 50) (p := .tmp 6) (g := g6) (e := 50) (cs := #[.int .i64 5, .int .i64 0, .int .i64 0, .int .i64 0, .string ⟨#[]⟩, .bool false, .int .i64 0, .int .i64 o, .string ⟨#[]⟩, .int .i64 0, .string ⟨#[]⟩, .int .i64 0, .int .i64 0, .bool false, .bool false, .string ⟨#[]⟩, .int .i64 0, .int .i64 0, .bool false, .bool false]) ?_ ?_ s0 hu50 rfl ?_; rfl; rfl; kernel_rfl⟩)
       refine oP 5 (some 41) fun K hK => ?_
       rw [HWL.out]
       refine bad_ Tryz.func68 (by kernel_rfl) rfl #[.pointer (some ⟨g, 0, none⟩), .int .i64 (least + 1)] (by rfl) rfl (by simp only [List.map_toArray, List.map_cons, List.map_nil]; rfl) ?_
       with_reducible refine (ih.bin _ g (least + 1) (b + 1) _ HS8.out.drew.is HS8.out.drew.bel HB1.out.1 HB1.out.2.1 HB1.out.2.2.1 HB1.out.2.2.2 HX2.out).mono ?_
       rintro en w9 ⟨rfl, a3, hs⟩
       exact ⟨_, rfl, rfl, rfl, a3, HS8.out.drew.trans hs⟩
      | ok p =>
       obtain ⟨r2, a2⟩ := p
       have HN9 := lh (show (r2.length : Int) ≤ a2 - (b + 1) ∧ b + 1 < a2 ∧ a2 ≤ ts.length from ⟨(len_all O ts e k).1 _ _ _ _ HX2.out, Ncf O ts e HB1.out.1 HB1.out.2.1 HB1.out.2.2.1 HB1.out.2.2.2 HX2.out⟩)
       refine sP (n := 9) (S := fun w' => w'.heap[g6]? = some (.cells #[.int .i64 5, .int .i64 0, .int .i64 0, .int .i64 0, .string ⟨#[]⟩, .bool false, .int .i64 0, .int .i64 o, .string ⟨#[]⟩, .int .i64 0, .string ⟨#[]⟩, .int .i64 0, .int .i64 0, .bool false, .bool false, .string ⟨#[]⟩, .int .i64 0, .int .i64 0, .bool false, .bool false] 50 (0, 0))) (ds := []) (Nag J8.out) (fun hHeld => ?_)
       refine pP 1 37 ?_
       refine pP 2 38 ?_
       refine pP 3 39 ?_
       refine pP 4 40 ?_
       refine tP 0 36 hHeld ?_ (hy := Or.inl ⟨by rfl, by intro w' s0; refine load_yields (t := 50) (p := .tmp 6) (g := g6) (e := 50) (cs := #[.int .i64 5, .int .i64 0, .int .i64 0, .int .i64 0, .string ⟨#[]⟩, .bool false, .int .i64 0, .int .i64 o, .string ⟨#[]⟩, .int .i64 0, .string ⟨#[]⟩, .int .i64 0, .int .i64 0, .bool false, .bool false, .string ⟨#[]⟩, .int .i64 0, .int .i64 0, .bool false, .bool false]) ?_ ?_ s0 hu50 rfl ?_; rfl; rfl; kernel_rfl⟩)
       refine oP 5 (some 41) fun K hK => ?_
       rw [HWL.out]
       refine gP 68 Tryz.func68 #[.pointer (some ⟨g, 0, none⟩), .int .i64 (least + 1)] ?_
       with_reducible refine (ih.bin _ g (least + 1) (b + 1) _ HS8.out.drew.is HS8.out.drew.bel HB1.out.1 HB1.out.2.1 HB1.out.2.2.1 HB1.out.2.2.2 HX2.out).mono ?_
       rintro en w9 ⟨v9, rfl, hr, hs⟩
       obtain ⟨A9, c9, rfl, hle9, hC9⟩ := Kd.R_reads hr
       have hj9 := hs.keep.blk (Nag J8.out) HNE.out (by simp)
       have HR9 := lh (r_keep (Kd.R_drew HR8.out) hs.keep HG.out)
       have HCC := lh (c_two HLE.out (Kd.R_reads' HR9.out).2.2 hle9 hC9)
       have HS9 := lh (HS8.out.drew.trans hs)
       clear hr hs hle9 hC9
       refine ⟨_, rfl, ?_⟩
       refine hK.out _ _ (hj9) (fun hHeld => ?_)
       clear hK K
       refine nP 41 ?_
       refine oP 6 (some 42) fun K hK => ?_
       refine Nez (w1 := ?_) (v := ?_) (by rfl) rfl ?_ ?_
       rotate_left 2
       ·go_simp
        constructor
        ·rfl
        ·rfl
       refine hK.out _ _ (Nad hHeld (Nae (Below.refl _ _) _)) (fun hHeld => ?_)
       clear hK K
       refine nP 42 ?_
       refine oP 7 (some 43) fun K hK => ?_
       refine gP 108 Tryz.func108 #[.agg #[.int .i64 5, .int .i64 0, .int .i64 0, .int .i64 0, .string ⟨#[]⟩, .bool false, .int .i64 0, .int .i64 o, .string ⟨#[]⟩, .int .i64 0, .string ⟨#[]⟩, .int .i64 0, .int .i64 0, .bool false, .bool false, .string ⟨#[]⟩, .int .i64 0, .int .i64 0, .bool false, .bool false], .slice (some ⟨w9.heap.size, 0, none⟩) 2 2] ?_
       with_reducible refine (joined_bin o _ _ 2 [left, r2] _ HCC.out rfl (by simp) (by have := HC.out; have := HN9.out; simp only [List.flatten_cons, List.flatten_nil, List.append_nil, List.length_append]; omega)).mono ?_
       rintro en w11 ⟨v11, rfl, hr, hb⟩
       have hj11 := Nad hHeld hb
       have HR11 := lh (Kd.R_lower hr (Nat.le_trans HS9.out.size (Nae (Below.refl _ _) _).size))
       have HS11 := lh ((HS9.out.below (Nae (Below.refl _ _) _)).below hb)
       clear hr hb
       refine ⟨_, rfl, ?_⟩
       refine hK.out _ _ (hj11) (fun hHeld => ?_)
       clear hK K
       refine nP 43 ?_
       refine pP 8 5 ?_
       refine done_ (by kernel_rfl) ?_
       go_wp2
       go_roundg k1
       case measure => have := HK.out; omega
       case rel => exact ⟨nBin o :: (left ++ r2), a2, HP3, lh (by have := HK.out; omega), lh (by have := HR11.out; simp only [List.flatten_cons, List.flatten_nil, List.append_nil] at this; exact this), HS11, lh (by have := HC.out; have := HN9.out; simp only [List.length_cons, List.length_append]; omega)⟩
theorem binary_any {k : Nat} (ih : Parts O ts e w0 k) (hts : ts.length ≤ 100000) (w : World) (g : Nat) (least at_ : Int) (x) (hI : IsS72 w0 w g ts at_ e) (hB : Below w0.heap.size w0 w) (h0 : 0 ≤ at_) (h1 : at_ ≤ ts.length) (hl1 : 1 ≤ least) (hl6 : least ≤ 6) (h : binF O ts e (k + 1) least at_ = some x) :
 Calls Tryz.prog 68 #[.pointer (some ⟨g, 0, none⟩), .int .i64 least] w (Ans w0 w g ts e x) := by
 rw [binF] at h
 by_cases h6 : least = 6
 ·subst h6
  rw [if_pos rfl] at h
  exact binary_six ih hI hB h0 h1 h
 ·rw [if_neg h6] at h
  cases hx : binF O ts e k (least + 1) at_ with
  | none => rw [hx] at h; cases h
  | some y => rw [hx] at h; exact binary_low ih hts hI hB h0 h1 hl1 (by omega) hx h
end
end Go.Proofs.YtejbbceidnaloaaGreatDoor.P
