import Derived.Test.YtejbbceidnaloaaGreatDoorB12
import Derived.Test.YtejbbceidnaloaaGreatDoorB13
set_option linter.unusedVariables false
set_option linter.unusedSimpArgs false
set_option maxRecDepth 100000
set_option maxHeartbeats 8000000
namespace Go.Proofs.YtejbbceidnaloaaGreatDoor.P
open Go.RowKit AW AL AM
section
abbrev vV (v : S46) : Value := .agg #[.int .i64 v.f0, .int .i64 v.f1.f0, .int .i64 v.f1.f1, .string v.f2, .bool v.f3, .int .i64 v.f4]
structure PEnv (O : Ops) (ts : List S39) : Prop where
 num : ∀ (i : Int) (s : ByteArray), (tokA ts i).f0 = 1 → (tokA ts i).f1 = s → ∀ w : World, GL w → Calls Tryz.prog 179 #[.string s] w fun en w' => ∃ n d, en = .returned (.tuple #[.agg #[.int .i64 n, .int .i64 d], .bool (O.num s).isSome]) ∧ Below w.heap.size w w' ∧ ∀ v, O.num s = some v → ∀ w2 : World, Calls Tryz.prog 181 #[.agg #[.int .i64 n, .int .i64 d]] w2 fun en w3 => en = .returned (vV v) ∧ Below w2.heap.size w2 w3
 txt : ∀ (i : Int) (s : ByteArray), (tokA ts i).f0 = 2 → (tokA ts i).f1 = s → s.size ≤ 256 → ∀ w : World, Calls Tryz.prog 182 #[.string s] w fun en w' => en = .returned (vV (O.txt s)) ∧ Below w.heap.size w w'
 flt : ∀ (i : Int) (s : ByteArray), (tokA ts i).f0 = 4 → (tokA ts i).f1 = s → ∀ w : World, GL w → Calls Tryz.prog 147 #[.string s] w fun en w' => en = .returned (vV (O.flt s)) ∧ Below w.heap.size w w'
 tru : ∀ (b : Bool) (w : World), Calls Tryz.prog 187 #[.bool b] w fun en w' => en = .returned (vV (O.tru b)) ∧ Below w.heap.size w w'
 fn : ∀ (s : ByteArray) (w : World), GL w → s.size ≤ 100000 → Calls Tryz.prog 96 #[.string s] w fun en w' => en = .returned (.bool (O.fn s)) ∧ Below w.heap.size w w'
 sh : ∀ (s : ByteArray) (w : World), s.size ≤ 100000 → Calls Tryz.prog 135 #[.string s] w fun en w' => en = .returned (.bool (O.sh s)) ∧ Below w.heap.size w w'
 size : ∀ i : Int, (tokA ts i).f1.size ≤ 100000
theorem lit_any (v : S46) (w : World) : Calls Tryz.prog 180 #[vV v] w fun en w' => ∃ v0 : Value, en = .returned v0 ∧ Kd.R k50 50 w' w.heap.size (fun _ => True) v0 [nVal v] ∧ Below w.heap.size w w' :=
 Nd2.calls v.f0 v.f1.f0 v.f1.f1 v.f2 v.f3 v.f4 [nVal v] w rfl
section
variable {O : Ops} {ts : List S39} {e : Int} {w0 : World}
theorem part_open {k : Nat} (ih : Parts O ts e w0 k) (hG : GL w0) (pe : PEnv O ts) (hts : ts.length ≤ 100000) {w : World} {g : Nat} {at_ : Int} (hI : IsS72 w0 w g ts at_ e) (hB : Below w0.heap.size w0 w) (h0 : 0 ≤ at_) (h1 : at_ ≤ ts.length) {x y} (hm : markA ts at_ = mB [40]) (hx : binF O ts e k 1 (at_ + 1) = some x) (hy : Res.bnd (some x) (fun (r, a) => if markA ts a = mB [41] then okR (r, a + 1) else erR 50 (Nbl ts e a)) = some y) :
 Calls Tryz.prog 144 #[.pointer (some ⟨g, 0, none⟩)] w (Ans w0 w g ts e y) := by
 have hlt := Nbb ts hm (by decide)
 have HT := lh (Nc9 (m := ⟨#[40]⟩) hI hB h0 (by omega) hm)
 have HX := lh hx
 have HY := lh hy
 have HG := lh hI.lt
 have H0 := lh (show 0 ≤ at_ + 1 ∧ at_ + 1 ≤ ts.length by omega)
 clear hI hB hm hx h0 h1 hlt hy
 go_enter Tryz.func144, Tryz.ntmps144
 go_wp2_with (go_at_call 143; (with_reducible refine (HT.out).mono ?_); rintro en w1 ⟨rfl, hs⟩; have HS := lh hs; clear hs HT)
 cases x with
 | error p =>
  obtain ⟨c, p⟩ := p
  obtain rfl := sI HY.out
  (with_reducible refine (ih.bin _ g 1 (at_ + 1) _ HS.out.is HS.out.bel H0.out.1 H0.out.2 (by omega) (by omega) HX.out).mono ?_)
  rintro en w2 ⟨rfl, a, hs⟩
  go_wp2
  exact ⟨rfl, rfl, a, HS.out.trans hs⟩
 | ok p =>
  obtain ⟨r, a⟩ := p
  have HA := lh (Ncf O ts e H0.out.1 H0.out.2 (by omega) (by omega) HX.out)
  (with_reducible refine (ih.bin _ g 1 (at_ + 1) _ HS.out.is HS.out.bel H0.out.1 H0.out.2 (by omega) (by omega) HX.out).mono ?_)
  rintro en w2 ⟨v, rfl, hr, hs⟩
  obtain ⟨A, c, rfl, hle, -⟩ := Kd.R_reads hr
  have HR := lh (Kd.R_lower hr HS.out.size)
  have HS2 := lh (HS.out.trans hs)
  clear hr hs hle HS
  by_cases hc : markA ts a = mB [41]
  ·have hy := HY.out
   simp only [Res.bnd] at hy
   rw [if_pos hc] at hy
   obtain rfl := sI hy
   have HM := lh (must_yes (m := ⟨#[41]⟩) HS2.out.is HS2.out.bel (by have := HA.out; have := H0.out; omega) (by have := HA.out; omega) hc)
   clear hy hc HY HX
   go_wp2_with (go_at_call 177; (with_reducible refine (HM.out).mono ?_); rintro en w3 ⟨rfl, hs⟩; have HS3 := lh (HS2.out.trans hs); have HR3 := lh (r_keep HR.out hs.keep HG.out); clear hs HR)
   go_ret
   exact ⟨_, rfl, HR3.out, HS3.out⟩
  ·have hy := HY.out
   simp only [Res.bnd] at hy
   rw [if_neg hc] at hy
   obtain rfl := sI hy
   have HM := lh (must_no (m := ⟨#[41]⟩) HS2.out.is HS2.out.bel (by have := HA.out; have := H0.out; omega) (by have := HA.out; omega) hc)
   clear hy hc HY HX
   go_wp2_with (go_at_call 177; (with_reducible refine (HM.out).mono ?_); rintro en w3 ⟨rfl, hs⟩; have HS3 := lh (HS2.out.trans hs); clear hs)
   exact ⟨rfl, rfl, a, HS3.out⟩
theorem part_end {k : Nat} (ih : Parts O ts e w0 k) (hG : GL w0) (pe : PEnv O ts) (hts : ts.length ≤ 100000) {w : World} {g : Nat} {at_ : Int} (hI : IsS72 w0 w g ts at_ e) (hB : Below w0.heap.size w0 w) (h0 : 0 ≤ at_) (h1 : at_ ≤ ts.length) (hm : markA ts at_ ≠ mB [40]) (he : ¬ at_ < ts.length) :
 Calls Tryz.prog 144 #[.pointer (some ⟨g, 0, none⟩)] w (Ans w0 w g ts e (.error (50, Nbl ts e at_))) := by
 have HT := lh (Nb7 (m := ⟨#[40]⟩) hI hB h0 (by omega) hm)
 have H0 := lh (show 0 ≤ at_ ∧ at_ ≤ 1000000 by omega)
 have be : (at_ == (ts.length : Int)) = true := by rw [beq_iff_eq]; omega
 clear h1 he
 clear hI hB hm
 go_enter Tryz.func144, Tryz.ntmps144
 go_upto_region 5 with (go_at_call 143; (with_reducible refine (HT.out).mono ?_); rintro en w1 ⟨rfl, hs⟩; have HS := lh hs; clear hs HT)
 obtain ⟨A0, c0, hg, hge, hC⟩ := HS.out.is
 have k0 := Nbm hg
 have k1 := Na0 hg
 clear hg hge hC
 go_quiet (fail)
 go_wp2_with (go_at_call 69; (with_reducible refine (Nb8 (HS.out.drewN _).is (HS.out.drewN _).bel H0.out.1 50).mono ?_); rintro en w2 ⟨rfl, hs⟩; have HS2 := lh ((HS.out.drewN _).trans hs); clear hs)
 exact ⟨rfl, rfl, _, HS2.out⟩
theorem part_word {k : Nat} (ih : Parts O ts e w0 k) (hG : GL w0) (pe : PEnv O ts) (hts : ts.length ≤ 100000) {w : World} {g : Nat} {at_ : Int} (hI : IsS72 w0 w g ts at_ e) (hB : Below w0.heap.size w0 w) (h0 : 0 ≤ at_) (h1 : at_ ≤ ts.length) {tx : ByteArray} (hm : markA ts at_ ≠ mB [40]) (he : at_ < ts.length) (hk : (tokA ts at_).f0 = 3) (htx : (tokA ts at_).f1 = tx) {x} (hx : worF O ts e k tx at_ = some x) :
 Calls Tryz.prog 144 #[.pointer (some ⟨g, 0, none⟩)] w (Ans w0 w g ts e x) := by
 have HX := lh hx
 clear hx
 have HT := lh (Nb7 (m := ⟨#[40]⟩) hI hB h0 (by omega) hm)
 have H0 := lh (show 0 ≤ at_ ∧ at_ ≤ 1000000 ∧ at_ < ts.length by omega)
 have be : (at_ == (ts.length : Int)) = false := by rw [beq_eq_false_iff_ne]; omega
 clear hI hB hm
 go_enter Tryz.func144, Tryz.ntmps144
 go_upto_region 5 with (go_at_call 143; (with_reducible refine (HT.out).mono ?_); rintro en w1 ⟨rfl, hs⟩; have HS := lh hs; clear hs HT)
 obtain ⟨A0, c0, hg, hge, hC⟩ := HS.out.is
 have k0 := Nbm hg
 have k1 := Na0 hg
 obtain ⟨ad, ea, x0, x1, x2⟩ := Nd1 hC at_ H0.out.1 H0.out.2.2
 cases ea
 replace x0 := Nab HS.out.bel x0
 replace x1 := Nab HS.out.bel x1
 replace x2 := Nab HS.out.bel x2
 rw [show (Nbq ts at_).f0 = 3 from hk] at x0
 rw [show (Nbq ts at_).f1 = tx from htx] at x1
 obtain ⟨ap, hap⟩ : ∃ ap, (Nbq ts at_).f2 = ap := ⟨_, rfl⟩
 rw [hap] at x2
 have HTX := lh htx
 have HK := lh hk
 clear hg hge hC hap htx hk
 have q0 : 0 ≤ at_ := H0.out.1
 have q1 : at_ < (ts.length : Int) := H0.out.2.2
 go_quiet (fail)
 go_wp2_with (fail)
 obtain ⟨w2, hw_⟩ : ∃ x_ : World, x_ = w1.drewN nq := ⟨_, rfl⟩
 rw [← hw_]
 have HS2 := lh (show St w0 w w2 g ts at_ e by rw [hw_]; exact HS.out.drewN nq)
 have y0 : w2.cell? ⟨g, 0, none⟩ = some (.slice (some ad) ts.length c0) := by rw [hw_]; exact k0
 have y1 : w2.cell? ⟨g, 1, none⟩ = some (.int .i64 at_) := by rw [hw_]; exact k1
 have z0 : w2.cell? (ad.add (at_.toNat * 3)) = some (.int .i64 3) := by rw [hw_]; exact x0
 have z1 : w2.cell? ⟨(ad.add (at_.toNat * 3)).block, (ad.add (at_.toNat * 3)).off + 1, none⟩ = some (.string tx) := by rw [hw_]; exact x1
 have z2 : w2.cell? ⟨(ad.add (at_.toNat * 3)).block, (ad.add (at_.toNat * 3)).off + 2, none⟩ = some (.int .i64 ap) := by rw [hw_]; exact x2
 clear hw_ k0 k1 x0 x1 x2 HS
 refine sP (n := 12) (S := fun w' => w'.cell? ⟨g, 0, none⟩ = some (.slice (some ad) ts.length c0) ∧ w'.cell? ⟨g, 1, none⟩ = some (.int .i64 at_) ∧ w'.cell? (ad.add (at_.toNat * 3)) = some (.int .i64 3) ∧ w'.cell? ⟨(ad.add (at_.toNat * 3)).block, (ad.add (at_.toNat * 3)).off + 1, none⟩ = some (.string tx) ∧ w'.cell? ⟨(ad.add (at_.toNat * 3)).block, (ad.add (at_.toNat * 3)).off + 2, none⟩ = some (.int .i64 ap)) (ds := [11]) ⟨y0, y1, z0, z1, z2⟩ (fun hHeld => ?_)
 refine pP 0 26 ?_
 refine pP 1 27 ?_
 refine pP 2 28 ?_
 refine pP 4 30 ?_
 refine pP 5 31 ?_
 refine pP 6 32 ?_
 refine tP 3 29 hHeld ?_
 refine tP 7 33 hHeld ?_
 refine pP 8 34 ?_
 refine tP 9 35 hHeld ?_
 refine oP 10 (some 4) fun K hK => ?_
 refine Nez (w1 := ?_) (v := ?_) (by rfl) rfl ?_ ?_
 rotate_left 2
 ·go_simp
  constructor
  ·rfl
  ·rfl
 refine hK.out _ _ ⟨Nab (Nae (Below.refl _ _) _) (hHeld.1), Nab (Nae (Below.refl _ _) _) (hHeld.2.1), Nab (Nae (Below.refl _ _) _) (hHeld.2.2.1), Nab (Nae (Below.refl _ _) _) (hHeld.2.2.2.1), Nab (Nae (Below.refl _ _) _) (hHeld.2.2.2.2)⟩ (fun hHeld => ?_)
 clear hK K
 refine nP 4 ?_
 refine lP 11 none fun K hK => ?_
 refine skip_ (w1 := ?_) (by rfl) rfl ?_ ?_
 rotate_left
 ·go_simp
  rfl
 refine hK.out _ _ ?_
 clear hK K
 refine done_ (by kernel_rfl) ?_
 clear y0 y1 z0 z1 z2 hHeld
 obtain ⟨g4, hg4⟩ : ∃ x_ : Nat, x_ = w2.heap.size := ⟨_, rfl⟩
 obtain ⟨w3, hw_⟩ : ∃ x_ : World, x_ = (w2.alloc (.cells #[.int .i64 3, .string tx, .int .i64 ap] 39)).drew := ⟨_, rfl⟩
 rw [← hw_, ← hg4]
 have HS3 := lh (show St w0 w w3 g ts at_ e by rw [hw_]; exact (HS2.out.below (Nae (Below.refl _ _) _)).drew)
 have J4 := lh (show w3.heap[g4]? = some (.cells #[.int .i64 3, .string tx, .int .i64 ap] 39 (0, 0)) by rw [hw_, hg4]; exact Nag (Nce w2 _))
 have HNE := lh (show g4 ≠ g by have := HS2.out.is.lt; omega)
 clear hw_ hg4 HS2
 have ck0 : w3.cell? ⟨g4, 0, none⟩ = some (.int .i64 3) := (Naa J4.out 0).trans rfl
 have ck1 : w3.cell? ⟨g4, 1, none⟩ = some (.string tx) := (Naa J4.out 1).trans rfl
 have q2 : at_ ≤ 1000000 := H0.out.2.1
 have HC := lh (ih.wor w3 g tx at_ _ HS3.out.is HS3.out.bel H0.out.1 H0.out.2.2 HTX.out.symm HX.out)
 go_wp2_with (fail)
 cases x with
 | error p =>
  obtain ⟨c, p⟩ := p
  (with_reducible refine (HC.out).mono ?_)
  rintro en w8 ⟨rfl, a, hs⟩
  go_wp2
  exact ⟨rfl, rfl, a, HS3.out.trans hs⟩
 | ok p =>
  obtain ⟨r, a⟩ := p
  (with_reducible refine (HC.out).mono ?_)
  rintro en w9 ⟨v9, rfl, hr, hs⟩
  obtain ⟨A9, c9, rfl, hle, -⟩ := Kd.R_reads hr
  have HR9 := lh (Kd.R_lower hr HS3.out.size)
  have HS9 := lh (HS3.out.trans hs)
  clear hr hs hle
  go_wp2
  go_ret
  exact ⟨_, rfl, HR9.out, HS9.out⟩
theorem part_txt {k : Nat} (ih : Parts O ts e w0 k) (hG : GL w0) (pe : PEnv O ts) (hts : ts.length ≤ 100000) {w : World} {g : Nat} {at_ : Int} (hI : IsS72 w0 w g ts at_ e) (hB : Below w0.heap.size w0 w) (h0 : 0 ≤ at_) (h1 : at_ ≤ ts.length) {tx : ByteArray} (hm : markA ts at_ ≠ mB [40]) (he : at_ < ts.length) (hk : (tokA ts at_).f0 = 2) (htx : (tokA ts at_).f1 = tx) (hz : tx.size ≤ 256) :
 Calls Tryz.prog 144 #[.pointer (some ⟨g, 0, none⟩)] w (Ans w0 w g ts e (.ok ([nVal (O.txt tx)], at_ + 1))) := by
 have HT := lh (Nb7 (m := ⟨#[40]⟩) hI hB h0 (by omega) hm)
 have H0 := lh (show 0 ≤ at_ ∧ at_ ≤ 1000000 ∧ at_ < ts.length by omega)
 have be : (at_ == (ts.length : Int)) = false := by rw [beq_eq_false_iff_ne]; omega
 clear hI hB hm
 go_enter Tryz.func144, Tryz.ntmps144
 go_upto_region 5 with (go_at_call 143; (with_reducible refine (HT.out).mono ?_); rintro en w1 ⟨rfl, hs⟩; have HS := lh hs; clear hs HT)
 obtain ⟨A0, c0, hg, hge, hC⟩ := HS.out.is
 have k0 := Nbm hg
 have k1 := Na0 hg
 obtain ⟨ad, ea, x0, x1, x2⟩ := Nd1 hC at_ H0.out.1 H0.out.2.2
 cases ea
 replace x0 := Nab HS.out.bel x0
 replace x1 := Nab HS.out.bel x1
 replace x2 := Nab HS.out.bel x2
 rw [show (Nbq ts at_).f0 = 2 from hk] at x0
 rw [show (Nbq ts at_).f1 = tx from htx] at x1
 obtain ⟨ap, hap⟩ : ∃ ap, (Nbq ts at_).f2 = ap := ⟨_, rfl⟩
 rw [hap] at x2
 have HTX := lh htx
 have HK := lh hk
 clear hg hge hC hap htx hk
 have q0 : 0 ≤ at_ := H0.out.1
 have q1 : at_ < (ts.length : Int) := H0.out.2.2
 go_quiet (fail)
 go_wp2_with (fail)
 obtain ⟨w2, hw_⟩ : ∃ x_ : World, x_ = w1.drewN nq := ⟨_, rfl⟩
 rw [← hw_]
 have HS2 := lh (show St w0 w w2 g ts at_ e by rw [hw_]; exact HS.out.drewN nq)
 have y0 : w2.cell? ⟨g, 0, none⟩ = some (.slice (some ad) ts.length c0) := by rw [hw_]; exact k0
 have y1 : w2.cell? ⟨g, 1, none⟩ = some (.int .i64 at_) := by rw [hw_]; exact k1
 have z0 : w2.cell? (ad.add (at_.toNat * 3)) = some (.int .i64 2) := by rw [hw_]; exact x0
 have z1 : w2.cell? ⟨(ad.add (at_.toNat * 3)).block, (ad.add (at_.toNat * 3)).off + 1, none⟩ = some (.string tx) := by rw [hw_]; exact x1
 have z2 : w2.cell? ⟨(ad.add (at_.toNat * 3)).block, (ad.add (at_.toNat * 3)).off + 2, none⟩ = some (.int .i64 ap) := by rw [hw_]; exact x2
 clear hw_ k0 k1 x0 x1 x2 HS
 refine sP (n := 12) (S := fun w' => w'.cell? ⟨g, 0, none⟩ = some (.slice (some ad) ts.length c0) ∧ w'.cell? ⟨g, 1, none⟩ = some (.int .i64 at_) ∧ w'.cell? (ad.add (at_.toNat * 3)) = some (.int .i64 2) ∧ w'.cell? ⟨(ad.add (at_.toNat * 3)).block, (ad.add (at_.toNat * 3)).off + 1, none⟩ = some (.string tx) ∧ w'.cell? ⟨(ad.add (at_.toNat * 3)).block, (ad.add (at_.toNat * 3)).off + 2, none⟩ = some (.int .i64 ap)) (ds := [11]) ⟨y0, y1, z0, z1, z2⟩ (fun hHeld => ?_)
 refine pP 0 26 ?_
 refine pP 1 27 ?_
 refine pP 2 28 ?_
 refine pP 4 30 ?_
 refine pP 5 31 ?_
 refine pP 6 32 ?_
 refine tP 3 29 hHeld ?_
 refine tP 7 33 hHeld ?_
 refine pP 8 34 ?_
 refine tP 9 35 hHeld ?_
 refine oP 10 (some 4) fun K hK => ?_
 refine Nez (w1 := ?_) (v := ?_) (by rfl) rfl ?_ ?_
 rotate_left 2
 ·go_simp
  constructor
  ·rfl
  ·rfl
 refine hK.out _ _ ⟨Nab (Nae (Below.refl _ _) _) (hHeld.1), Nab (Nae (Below.refl _ _) _) (hHeld.2.1), Nab (Nae (Below.refl _ _) _) (hHeld.2.2.1), Nab (Nae (Below.refl _ _) _) (hHeld.2.2.2.1), Nab (Nae (Below.refl _ _) _) (hHeld.2.2.2.2)⟩ (fun hHeld => ?_)
 clear hK K
 refine nP 4 ?_
 refine lP 11 none fun K hK => ?_
 refine skip_ (w1 := ?_) (by rfl) rfl ?_ ?_
 rotate_left
 ·go_simp
  rfl
 refine hK.out _ _ ?_
 clear hK K
 refine done_ (by kernel_rfl) ?_
 clear y0 y1 z0 z1 z2 hHeld
 obtain ⟨g4, hg4⟩ : ∃ x_ : Nat, x_ = w2.heap.size := ⟨_, rfl⟩
 obtain ⟨w3, hw_⟩ : ∃ x_ : World, x_ = (w2.alloc (.cells #[.int .i64 2, .string tx, .int .i64 ap] 39)).drew := ⟨_, rfl⟩
 rw [← hw_, ← hg4]
 have HS3 := lh (show St w0 w w3 g ts at_ e by rw [hw_]; exact (HS2.out.below (Nae (Below.refl _ _) _)).drew)
 have J4 := lh (show w3.heap[g4]? = some (.cells #[.int .i64 2, .string tx, .int .i64 ap] 39 (0, 0)) by rw [hw_, hg4]; exact Nag (Nce w2 _))
 have HNE := lh (show g4 ≠ g by have := HS2.out.is.lt; omega)
 clear hw_ hg4 HS2
 have ck0 : w3.cell? ⟨g4, 0, none⟩ = some (.int .i64 2) := (Naa J4.out 0).trans rfl
 have ck1 : w3.cell? ⟨g4, 1, none⟩ = some (.string tx) := (Naa J4.out 1).trans rfl
 have q2 : at_ ≤ 1000000 := H0.out.2.1
 have HP := lh (fun w => pe.txt at_ tx HK.out HTX.out hz w)
 have dz : decide ((tx.size : Int) ≤ 256) = true := decide_eq_true (by omega)
 clear hz
 go_upto_region 18 with (fail)
 obtain ⟨A9, c9, hg, hge, -⟩ := HS3.out.is
 have k1 := Na0 hg
 have f1 := Naf hg 1
 clear hg hge
 go_upto_region 19 with (fail)
 obtain ⟨w4, hw_⟩ : ∃ x_ : World, x_ = w3.setCell ⟨g, 1, none⟩ (.int .i64 (at_ + 1)) := ⟨_, rfl⟩
 rw [← hw_]
 have HS4 := lh (show St w0 w w4 g ts (at_ + 1) e by rw [hw_]; exact HS3.out.set (at_ + 1))
 have J5 := lh (show w4.heap[g4]? = some (.cells #[.int .i64 2, .string tx, .int .i64 ap] 39 (0, 0)) by rw [hw_]; exact Nbk J4.out HNE.out _)
 clear hw_ k1 f1 HS3 J4
 have ck3 : w4.cell? ⟨g4, 1, none⟩ = some (.string tx) := (Naa J5.out 1).trans rfl
 go_wp2_with (first
  | (go_at_call 182; (with_reducible refine (HP.out _).mono ?_); rintro en w5 ⟨rfl, hb⟩; have HS5 := lh (HS4.out.below hb); clear hb)
  | (go_at_call 180; (with_reducible refine (lit_any _ _).mono ?_); rintro en w9 ⟨v9, rfl, hr, hb⟩; have HR9 := lh (Kd.R_lower hr HS5.out.size); have HS9 := lh (HS5.out.below hb); clear hr hb))
 go_ret
 exact ⟨_, rfl, HR9.out, HS9.out⟩
theorem part_txtno {k : Nat} (ih : Parts O ts e w0 k) (hG : GL w0) (pe : PEnv O ts) (hts : ts.length ≤ 100000) {w : World} {g : Nat} {at_ : Int} (hI : IsS72 w0 w g ts at_ e) (hB : Below w0.heap.size w0 w) (h0 : 0 ≤ at_) (h1 : at_ ≤ ts.length) {tx : ByteArray} (hm : markA ts at_ ≠ mB [40]) (he : at_ < ts.length) (hk : (tokA ts at_).f0 = 2) (htx : (tokA ts at_).f1 = tx) (hz : ¬ tx.size ≤ 256) :
 Calls Tryz.prog 144 #[.pointer (some ⟨g, 0, none⟩)] w (Ans w0 w g ts e (.error (50, Nbl ts e at_))) := by
 have HT := lh (Nb7 (m := ⟨#[40]⟩) hI hB h0 (by omega) hm)
 have H0 := lh (show 0 ≤ at_ ∧ at_ ≤ 1000000 ∧ at_ < ts.length by omega)
 have be : (at_ == (ts.length : Int)) = false := by rw [beq_eq_false_iff_ne]; omega
 clear hI hB hm
 go_enter Tryz.func144, Tryz.ntmps144
 go_upto_region 5 with (go_at_call 143; (with_reducible refine (HT.out).mono ?_); rintro en w1 ⟨rfl, hs⟩; have HS := lh hs; clear hs HT)
 obtain ⟨A0, c0, hg, hge, hC⟩ := HS.out.is
 have k0 := Nbm hg
 have k1 := Na0 hg
 obtain ⟨ad, ea, x0, x1, x2⟩ := Nd1 hC at_ H0.out.1 H0.out.2.2
 cases ea
 replace x0 := Nab HS.out.bel x0
 replace x1 := Nab HS.out.bel x1
 replace x2 := Nab HS.out.bel x2
 rw [show (Nbq ts at_).f0 = 2 from hk] at x0
 rw [show (Nbq ts at_).f1 = tx from htx] at x1
 obtain ⟨ap, hap⟩ : ∃ ap, (Nbq ts at_).f2 = ap := ⟨_, rfl⟩
 rw [hap] at x2
 have HTX := lh htx
 have HK := lh hk
 clear hg hge hC hap htx hk
 have q0 : 0 ≤ at_ := H0.out.1
 have q1 : at_ < (ts.length : Int) := H0.out.2.2
 go_quiet (fail)
 go_wp2_with (fail)
 obtain ⟨w2, hw_⟩ : ∃ x_ : World, x_ = w1.drewN nq := ⟨_, rfl⟩
 rw [← hw_]
 have HS2 := lh (show St w0 w w2 g ts at_ e by rw [hw_]; exact HS.out.drewN nq)
 have y0 : w2.cell? ⟨g, 0, none⟩ = some (.slice (some ad) ts.length c0) := by rw [hw_]; exact k0
 have y1 : w2.cell? ⟨g, 1, none⟩ = some (.int .i64 at_) := by rw [hw_]; exact k1
 have z0 : w2.cell? (ad.add (at_.toNat * 3)) = some (.int .i64 2) := by rw [hw_]; exact x0
 have z1 : w2.cell? ⟨(ad.add (at_.toNat * 3)).block, (ad.add (at_.toNat * 3)).off + 1, none⟩ = some (.string tx) := by rw [hw_]; exact x1
 have z2 : w2.cell? ⟨(ad.add (at_.toNat * 3)).block, (ad.add (at_.toNat * 3)).off + 2, none⟩ = some (.int .i64 ap) := by rw [hw_]; exact x2
 clear hw_ k0 k1 x0 x1 x2 HS
 refine sP (n := 12) (S := fun w' => w'.cell? ⟨g, 0, none⟩ = some (.slice (some ad) ts.length c0) ∧ w'.cell? ⟨g, 1, none⟩ = some (.int .i64 at_) ∧ w'.cell? (ad.add (at_.toNat * 3)) = some (.int .i64 2) ∧ w'.cell? ⟨(ad.add (at_.toNat * 3)).block, (ad.add (at_.toNat * 3)).off + 1, none⟩ = some (.string tx) ∧ w'.cell? ⟨(ad.add (at_.toNat * 3)).block, (ad.add (at_.toNat * 3)).off + 2, none⟩ = some (.int .i64 ap)) (ds := [11]) ⟨y0, y1, z0, z1, z2⟩ (fun hHeld => ?_)
 refine pP 0 26 ?_
 refine pP 1 27 ?_
 refine pP 2 28 ?_
 refine pP 4 30 ?_
 refine pP 5 31 ?_
 refine pP 6 32 ?_
 refine tP 3 29 hHeld ?_
 refine tP 7 33 hHeld ?_
 refine pP 8 34 ?_
 refine tP 9 35 hHeld ?_
 refine oP 10 (some 4) fun K hK => ?_
 refine Nez (w1 := ?_) (v := ?_) (by rfl) rfl ?_ ?_
 rotate_left 2
 ·go_simp
  constructor
  ·rfl
  ·rfl
 refine hK.out _ _ ⟨Nab (Nae (Below.refl _ _) _) (hHeld.1), Nab (Nae (Below.refl _ _) _) (hHeld.2.1), Nab (Nae (Below.refl _ _) _) (hHeld.2.2.1), Nab (Nae (Below.refl _ _) _) (hHeld.2.2.2.1), Nab (Nae (Below.refl _ _) _) (hHeld.2.2.2.2)⟩ (fun hHeld => ?_)
 clear hK K
 refine nP 4 ?_
 refine lP 11 none fun K hK => ?_
 refine skip_ (w1 := ?_) (by rfl) rfl ?_ ?_
 rotate_left
 ·go_simp
  rfl
 refine hK.out _ _ ?_
 clear hK K
 refine done_ (by kernel_rfl) ?_
 clear y0 y1 z0 z1 z2 hHeld
 obtain ⟨g4, hg4⟩ : ∃ x_ : Nat, x_ = w2.heap.size := ⟨_, rfl⟩
 obtain ⟨w3, hw_⟩ : ∃ x_ : World, x_ = (w2.alloc (.cells #[.int .i64 2, .string tx, .int .i64 ap] 39)).drew := ⟨_, rfl⟩
 rw [← hw_, ← hg4]
 have HS3 := lh (show St w0 w w3 g ts at_ e by rw [hw_]; exact (HS2.out.below (Nae (Below.refl _ _) _)).drew)
 have J4 := lh (show w3.heap[g4]? = some (.cells #[.int .i64 2, .string tx, .int .i64 ap] 39 (0, 0)) by rw [hw_, hg4]; exact Nag (Nce w2 _))
 have HNE := lh (show g4 ≠ g by have := HS2.out.is.lt; omega)
 clear hw_ hg4 HS2
 have ck0 : w3.cell? ⟨g4, 0, none⟩ = some (.int .i64 2) := (Naa J4.out 0).trans rfl
 have ck1 : w3.cell? ⟨g4, 1, none⟩ = some (.string tx) := (Naa J4.out 1).trans rfl
 have q2 : at_ ≤ 1000000 := H0.out.2.1
 have dz : decide ((tx.size : Int) ≤ 256) = false := decide_eq_false (by omega)
 clear hz
 go_wp2_with (go_at_call 69; (with_reducible refine (Nb8 HS3.out.is HS3.out.bel H0.out.1 50).mono ?_); rintro en w8 ⟨rfl, hs⟩; have HS8 := lh (HS3.out.trans hs); clear hs)
 exact ⟨rfl, rfl, _, HS8.out⟩
theorem part_flt {k : Nat} (ih : Parts O ts e w0 k) (hG : GL w0) (pe : PEnv O ts) (hts : ts.length ≤ 100000) {w : World} {g : Nat} {at_ : Int} (hI : IsS72 w0 w g ts at_ e) (hB : Below w0.heap.size w0 w) (h0 : 0 ≤ at_) (h1 : at_ ≤ ts.length) {tx : ByteArray} (hm : markA ts at_ ≠ mB [40]) (he : at_ < ts.length) (hk : (tokA ts at_).f0 = 4) (htx : (tokA ts at_).f1 = tx) (hz : tx.size ≤ 100000) :
 Calls Tryz.prog 144 #[.pointer (some ⟨g, 0, none⟩)] w (Ans w0 w g ts e (.ok ([nVal (O.flt tx)], at_ + 1))) := by
 have HT := lh (Nb7 (m := ⟨#[40]⟩) hI hB h0 (by omega) hm)
 have H0 := lh (show 0 ≤ at_ ∧ at_ ≤ 1000000 ∧ at_ < ts.length by omega)
 have be : (at_ == (ts.length : Int)) = false := by rw [beq_eq_false_iff_ne]; omega
 clear hI hB hm
 go_enter Tryz.func144, Tryz.ntmps144
 go_upto_region 5 with (go_at_call 143; (with_reducible refine (HT.out).mono ?_); rintro en w1 ⟨rfl, hs⟩; have HS := lh hs; clear hs HT)
 obtain ⟨A0, c0, hg, hge, hC⟩ := HS.out.is
 have k0 := Nbm hg
 have k1 := Na0 hg
 obtain ⟨ad, ea, x0, x1, x2⟩ := Nd1 hC at_ H0.out.1 H0.out.2.2
 cases ea
 replace x0 := Nab HS.out.bel x0
 replace x1 := Nab HS.out.bel x1
 replace x2 := Nab HS.out.bel x2
 rw [show (Nbq ts at_).f0 = 4 from hk] at x0
 rw [show (Nbq ts at_).f1 = tx from htx] at x1
 obtain ⟨ap, hap⟩ : ∃ ap, (Nbq ts at_).f2 = ap := ⟨_, rfl⟩
 rw [hap] at x2
 have HTX := lh htx
 have HK := lh hk
 clear hg hge hC hap htx hk
 have q0 : 0 ≤ at_ := H0.out.1
 have q1 : at_ < (ts.length : Int) := H0.out.2.2
 go_quiet (fail)
 go_wp2_with (fail)
 obtain ⟨w2, hw_⟩ : ∃ x_ : World, x_ = w1.drewN nq := ⟨_, rfl⟩
 rw [← hw_]
 have HS2 := lh (show St w0 w w2 g ts at_ e by rw [hw_]; exact HS.out.drewN nq)
 have y0 : w2.cell? ⟨g, 0, none⟩ = some (.slice (some ad) ts.length c0) := by rw [hw_]; exact k0
 have y1 : w2.cell? ⟨g, 1, none⟩ = some (.int .i64 at_) := by rw [hw_]; exact k1
 have z0 : w2.cell? (ad.add (at_.toNat * 3)) = some (.int .i64 4) := by rw [hw_]; exact x0
 have z1 : w2.cell? ⟨(ad.add (at_.toNat * 3)).block, (ad.add (at_.toNat * 3)).off + 1, none⟩ = some (.string tx) := by rw [hw_]; exact x1
 have z2 : w2.cell? ⟨(ad.add (at_.toNat * 3)).block, (ad.add (at_.toNat * 3)).off + 2, none⟩ = some (.int .i64 ap) := by rw [hw_]; exact x2
 clear hw_ k0 k1 x0 x1 x2 HS
 refine sP (n := 12) (S := fun w' => w'.cell? ⟨g, 0, none⟩ = some (.slice (some ad) ts.length c0) ∧ w'.cell? ⟨g, 1, none⟩ = some (.int .i64 at_) ∧ w'.cell? (ad.add (at_.toNat * 3)) = some (.int .i64 4) ∧ w'.cell? ⟨(ad.add (at_.toNat * 3)).block, (ad.add (at_.toNat * 3)).off + 1, none⟩ = some (.string tx) ∧ w'.cell? ⟨(ad.add (at_.toNat * 3)).block, (ad.add (at_.toNat * 3)).off + 2, none⟩ = some (.int .i64 ap)) (ds := [11]) ⟨y0, y1, z0, z1, z2⟩ (fun hHeld => ?_)
 refine pP 0 26 ?_
 refine pP 1 27 ?_
 refine pP 2 28 ?_
 refine pP 4 30 ?_
 refine pP 5 31 ?_
 refine pP 6 32 ?_
 refine tP 3 29 hHeld ?_
 refine tP 7 33 hHeld ?_
 refine pP 8 34 ?_
 refine tP 9 35 hHeld ?_
 refine oP 10 (some 4) fun K hK => ?_
 refine Nez (w1 := ?_) (v := ?_) (by rfl) rfl ?_ ?_
 rotate_left 2
 ·go_simp
  constructor
  ·rfl
  ·rfl
 refine hK.out _ _ ⟨Nab (Nae (Below.refl _ _) _) (hHeld.1), Nab (Nae (Below.refl _ _) _) (hHeld.2.1), Nab (Nae (Below.refl _ _) _) (hHeld.2.2.1), Nab (Nae (Below.refl _ _) _) (hHeld.2.2.2.1), Nab (Nae (Below.refl _ _) _) (hHeld.2.2.2.2)⟩ (fun hHeld => ?_)
 clear hK K
 refine nP 4 ?_
 refine lP 11 none fun K hK => ?_
 refine skip_ (w1 := ?_) (by rfl) rfl ?_ ?_
 rotate_left
 ·go_simp
  rfl
 refine hK.out _ _ ?_
 clear hK K
 refine done_ (by kernel_rfl) ?_
 clear y0 y1 z0 z1 z2 hHeld
 obtain ⟨g4, hg4⟩ : ∃ x_ : Nat, x_ = w2.heap.size := ⟨_, rfl⟩
 obtain ⟨w3, hw_⟩ : ∃ x_ : World, x_ = (w2.alloc (.cells #[.int .i64 4, .string tx, .int .i64 ap] 39)).drew := ⟨_, rfl⟩
 rw [← hw_, ← hg4]
 have HS3 := lh (show St w0 w w3 g ts at_ e by rw [hw_]; exact (HS2.out.below (Nae (Below.refl _ _) _)).drew)
 have J4 := lh (show w3.heap[g4]? = some (.cells #[.int .i64 4, .string tx, .int .i64 ap] 39 (0, 0)) by rw [hw_, hg4]; exact Nag (Nce w2 _))
 have HNE := lh (show g4 ≠ g by have := HS2.out.is.lt; omega)
 clear hw_ hg4 HS2
 have ck0 : w3.cell? ⟨g4, 0, none⟩ = some (.int .i64 4) := (Naa J4.out 0).trans rfl
 have ck1 : w3.cell? ⟨g4, 1, none⟩ = some (.string tx) := (Naa J4.out 1).trans rfl
 have q2 : at_ ≤ 1000000 := H0.out.2.1
 have HP := lh (fun w h => pe.flt at_ tx HK.out HTX.out w h)
 clear hz
 go_upto_region 21 with (fail)
 obtain ⟨A9, c9, hg, hge, -⟩ := HS3.out.is
 have k1 := Na0 hg
 have f1 := Naf hg 1
 clear hg hge
 go_upto_region 22 with (fail)
 obtain ⟨w4, hw_⟩ : ∃ x_ : World, x_ = w3.setCell ⟨g, 1, none⟩ (.int .i64 (at_ + 1)) := ⟨_, rfl⟩
 rw [← hw_]
 have HS4 := lh (show St w0 w w4 g ts (at_ + 1) e by rw [hw_]; exact HS3.out.set (at_ + 1))
 have J5 := lh (show w4.heap[g4]? = some (.cells #[.int .i64 4, .string tx, .int .i64 ap] 39 (0, 0)) by rw [hw_]; exact Nbk J4.out HNE.out _)
 clear hw_ k1 f1 HS3 J4
 have ck3 : w4.cell? ⟨g4, 1, none⟩ = some (.string tx) := (Naa J5.out 1).trans rfl
 go_wp2_with (first
  | (go_at_call 147; (with_reducible refine (HP.out _ (hG.below HS4.out.bel)).mono ?_); rintro en w5 ⟨rfl, hb⟩; have HS5 := lh (HS4.out.below hb); clear hb)
  | (go_at_call 180; (with_reducible refine (lit_any _ _).mono ?_); rintro en w9 ⟨v9, rfl, hr, hb⟩; have HR9 := lh (Kd.R_lower hr HS5.out.size); have HS9 := lh (HS5.out.below hb); clear hr hb))
 go_ret
 exact ⟨_, rfl, HR9.out, HS9.out⟩
theorem part_else {k : Nat} (ih : Parts O ts e w0 k) (hG : GL w0) (pe : PEnv O ts) (hts : ts.length ≤ 100000) {w : World} {g : Nat} {at_ : Int} (hI : IsS72 w0 w g ts at_ e) (hB : Below w0.heap.size w0 w) (h0 : 0 ≤ at_) (h1 : at_ ≤ ts.length) {kd : Int} {tx : ByteArray} (hm : markA ts at_ ≠ mB [40]) (he : at_ < ts.length) (hk : (tokA ts at_).f0 = kd) (htx : (tokA ts at_).f1 = tx) (h1k : kd ≠ 3) (h2k : kd ≠ 1) (h3k : kd ≠ 2) (h4k : kd ≠ 4) :
 Calls Tryz.prog 144 #[.pointer (some ⟨g, 0, none⟩)] w (Ans w0 w g ts e (.error (50, Nbl ts e at_))) := by
 have HT := lh (Nb7 (m := ⟨#[40]⟩) hI hB h0 (by omega) hm)
 have H0 := lh (show 0 ≤ at_ ∧ at_ ≤ 1000000 ∧ at_ < ts.length by omega)
 have be : (at_ == (ts.length : Int)) = false := by rw [beq_eq_false_iff_ne]; omega
 clear hI hB hm
 go_enter Tryz.func144, Tryz.ntmps144
 go_upto_region 5 with (go_at_call 143; (with_reducible refine (HT.out).mono ?_); rintro en w1 ⟨rfl, hs⟩; have HS := lh hs; clear hs HT)
 obtain ⟨A0, c0, hg, hge, hC⟩ := HS.out.is
 have k0 := Nbm hg
 have k1 := Na0 hg
 obtain ⟨ad, ea, x0, x1, x2⟩ := Nd1 hC at_ H0.out.1 H0.out.2.2
 cases ea
 replace x0 := Nab HS.out.bel x0
 replace x1 := Nab HS.out.bel x1
 replace x2 := Nab HS.out.bel x2
 rw [show (Nbq ts at_).f0 = kd from hk] at x0
 rw [show (Nbq ts at_).f1 = tx from htx] at x1
 obtain ⟨ap, hap⟩ : ∃ ap, (Nbq ts at_).f2 = ap := ⟨_, rfl⟩
 rw [hap] at x2
 have HTX := lh htx
 have HK := lh hk
 clear hg hge hC hap htx hk
 have q0 : 0 ≤ at_ := H0.out.1
 have q1 : at_ < (ts.length : Int) := H0.out.2.2
 go_quiet (fail)
 go_wp2_with (fail)
 obtain ⟨w2, hw_⟩ : ∃ x_ : World, x_ = w1.drewN nq := ⟨_, rfl⟩
 rw [← hw_]
 have HS2 := lh (show St w0 w w2 g ts at_ e by rw [hw_]; exact HS.out.drewN nq)
 have y0 : w2.cell? ⟨g, 0, none⟩ = some (.slice (some ad) ts.length c0) := by rw [hw_]; exact k0
 have y1 : w2.cell? ⟨g, 1, none⟩ = some (.int .i64 at_) := by rw [hw_]; exact k1
 have z0 : w2.cell? (ad.add (at_.toNat * 3)) = some (.int .i64 kd) := by rw [hw_]; exact x0
 have z1 : w2.cell? ⟨(ad.add (at_.toNat * 3)).block, (ad.add (at_.toNat * 3)).off + 1, none⟩ = some (.string tx) := by rw [hw_]; exact x1
 have z2 : w2.cell? ⟨(ad.add (at_.toNat * 3)).block, (ad.add (at_.toNat * 3)).off + 2, none⟩ = some (.int .i64 ap) := by rw [hw_]; exact x2
 clear hw_ k0 k1 x0 x1 x2 HS
 refine sP (n := 12) (S := fun w' => w'.cell? ⟨g, 0, none⟩ = some (.slice (some ad) ts.length c0) ∧ w'.cell? ⟨g, 1, none⟩ = some (.int .i64 at_) ∧ w'.cell? (ad.add (at_.toNat * 3)) = some (.int .i64 kd) ∧ w'.cell? ⟨(ad.add (at_.toNat * 3)).block, (ad.add (at_.toNat * 3)).off + 1, none⟩ = some (.string tx) ∧ w'.cell? ⟨(ad.add (at_.toNat * 3)).block, (ad.add (at_.toNat * 3)).off + 2, none⟩ = some (.int .i64 ap)) (ds := [11]) ⟨y0, y1, z0, z1, z2⟩ (fun hHeld => ?_)
 refine pP 0 26 ?_
 refine pP 1 27 ?_
 refine pP 2 28 ?_
 refine pP 4 30 ?_
 refine pP 5 31 ?_
 refine pP 6 32 ?_
 refine tP 3 29 hHeld ?_
 refine tP 7 33 hHeld ?_
 refine pP 8 34 ?_
 refine tP 9 35 hHeld ?_
 refine oP 10 (some 4) fun K hK => ?_
 refine Nez (w1 := ?_) (v := ?_) (by rfl) rfl ?_ ?_
 rotate_left 2
 ·go_simp
  constructor
  ·rfl
  ·rfl
 refine hK.out _ _ ⟨Nab (Nae (Below.refl _ _) _) (hHeld.1), Nab (Nae (Below.refl _ _) _) (hHeld.2.1), Nab (Nae (Below.refl _ _) _) (hHeld.2.2.1), Nab (Nae (Below.refl _ _) _) (hHeld.2.2.2.1), Nab (Nae (Below.refl _ _) _) (hHeld.2.2.2.2)⟩ (fun hHeld => ?_)
 clear hK K
 refine nP 4 ?_
 refine lP 11 none fun K hK => ?_
 refine skip_ (w1 := ?_) (by rfl) rfl ?_ ?_
 rotate_left
 ·go_simp
  rfl
 refine hK.out _ _ ?_
 clear hK K
 refine done_ (by kernel_rfl) ?_
 clear y0 y1 z0 z1 z2 hHeld
 obtain ⟨g4, hg4⟩ : ∃ x_ : Nat, x_ = w2.heap.size := ⟨_, rfl⟩
 obtain ⟨w3, hw_⟩ : ∃ x_ : World, x_ = (w2.alloc (.cells #[.int .i64 kd, .string tx, .int .i64 ap] 39)).drew := ⟨_, rfl⟩
 rw [← hw_, ← hg4]
 have HS3 := lh (show St w0 w w3 g ts at_ e by rw [hw_]; exact (HS2.out.below (Nae (Below.refl _ _) _)).drew)
 have J4 := lh (show w3.heap[g4]? = some (.cells #[.int .i64 kd, .string tx, .int .i64 ap] 39 (0, 0)) by rw [hw_, hg4]; exact Nag (Nce w2 _))
 have HNE := lh (show g4 ≠ g by have := HS2.out.is.lt; omega)
 clear hw_ hg4 HS2
 have ck0 : w3.cell? ⟨g4, 0, none⟩ = some (.int .i64 kd) := (Naa J4.out 0).trans rfl
 have ck1 : w3.cell? ⟨g4, 1, none⟩ = some (.string tx) := (Naa J4.out 1).trans rfl
 have q2 : at_ ≤ 1000000 := H0.out.2.1
 have d1 : (kd == 3) = false := beq_eq_false_iff_ne.mpr h1k
 have d2 : (kd == 1) = false := beq_eq_false_iff_ne.mpr h2k
 have d3 : (kd == 2) = false := beq_eq_false_iff_ne.mpr h3k
 have d4 : (kd == 4) = false := beq_eq_false_iff_ne.mpr h4k
 clear h1k h2k h3k h4k
 go_wp2_with (go_at_call 69; (with_reducible refine (Nb8 HS3.out.is HS3.out.bel H0.out.1 50).mono ?_); rintro en w8 ⟨rfl, hs⟩; have HS8 := lh (HS3.out.trans hs); clear hs)
 exact ⟨rfl, rfl, _, HS8.out⟩
theorem part_num {k : Nat} (ih : Parts O ts e w0 k) (hG : GL w0) (pe : PEnv O ts) (hts : ts.length ≤ 100000) {w : World} {g : Nat} {at_ : Int} (hI : IsS72 w0 w g ts at_ e) (hB : Below w0.heap.size w0 w) (h0 : 0 ≤ at_) (h1 : at_ ≤ ts.length) {tx : ByteArray} (hm : markA ts at_ ≠ mB [40]) (he : at_ < ts.length) (hk : (tokA ts at_).f0 = 1) (htx : (tokA ts at_).f1 = tx) {v : S46} (hz : tx.size ≤ 100000) (hv : O.num tx = some v) :
 Calls Tryz.prog 144 #[.pointer (some ⟨g, 0, none⟩)] w (Ans w0 w g ts e (.ok ([nVal v], at_ + 1))) := by
 have HT := lh (Nb7 (m := ⟨#[40]⟩) hI hB h0 (by omega) hm)
 have H0 := lh (show 0 ≤ at_ ∧ at_ ≤ 1000000 ∧ at_ < ts.length by omega)
 have be : (at_ == (ts.length : Int)) = false := by rw [beq_eq_false_iff_ne]; omega
 clear hI hB hm
 go_enter Tryz.func144, Tryz.ntmps144
 go_upto_region 5 with (go_at_call 143; (with_reducible refine (HT.out).mono ?_); rintro en w1 ⟨rfl, hs⟩; have HS := lh hs; clear hs HT)
 obtain ⟨A0, c0, hg, hge, hC⟩ := HS.out.is
 have k0 := Nbm hg
 have k1 := Na0 hg
 obtain ⟨ad, ea, x0, x1, x2⟩ := Nd1 hC at_ H0.out.1 H0.out.2.2
 cases ea
 replace x0 := Nab HS.out.bel x0
 replace x1 := Nab HS.out.bel x1
 replace x2 := Nab HS.out.bel x2
 rw [show (Nbq ts at_).f0 = 1 from hk] at x0
 rw [show (Nbq ts at_).f1 = tx from htx] at x1
 obtain ⟨ap, hap⟩ : ∃ ap, (Nbq ts at_).f2 = ap := ⟨_, rfl⟩
 rw [hap] at x2
 have HTX := lh htx
 have HK := lh hk
 clear hg hge hC hap htx hk
 have q0 : 0 ≤ at_ := H0.out.1
 have q1 : at_ < (ts.length : Int) := H0.out.2.2
 go_quiet (fail)
 go_wp2_with (fail)
 obtain ⟨w2, hw_⟩ : ∃ x_ : World, x_ = w1.drewN nq := ⟨_, rfl⟩
 rw [← hw_]
 have HS2 := lh (show St w0 w w2 g ts at_ e by rw [hw_]; exact HS.out.drewN nq)
 have y0 : w2.cell? ⟨g, 0, none⟩ = some (.slice (some ad) ts.length c0) := by rw [hw_]; exact k0
 have y1 : w2.cell? ⟨g, 1, none⟩ = some (.int .i64 at_) := by rw [hw_]; exact k1
 have z0 : w2.cell? (ad.add (at_.toNat * 3)) = some (.int .i64 1) := by rw [hw_]; exact x0
 have z1 : w2.cell? ⟨(ad.add (at_.toNat * 3)).block, (ad.add (at_.toNat * 3)).off + 1, none⟩ = some (.string tx) := by rw [hw_]; exact x1
 have z2 : w2.cell? ⟨(ad.add (at_.toNat * 3)).block, (ad.add (at_.toNat * 3)).off + 2, none⟩ = some (.int .i64 ap) := by rw [hw_]; exact x2
 clear hw_ k0 k1 x0 x1 x2 HS
 refine sP (n := 12) (S := fun w' => w'.cell? ⟨g, 0, none⟩ = some (.slice (some ad) ts.length c0) ∧ w'.cell? ⟨g, 1, none⟩ = some (.int .i64 at_) ∧ w'.cell? (ad.add (at_.toNat * 3)) = some (.int .i64 1) ∧ w'.cell? ⟨(ad.add (at_.toNat * 3)).block, (ad.add (at_.toNat * 3)).off + 1, none⟩ = some (.string tx) ∧ w'.cell? ⟨(ad.add (at_.toNat * 3)).block, (ad.add (at_.toNat * 3)).off + 2, none⟩ = some (.int .i64 ap)) (ds := [11]) ⟨y0, y1, z0, z1, z2⟩ (fun hHeld => ?_)
 refine pP 0 26 ?_
 refine pP 1 27 ?_
 refine pP 2 28 ?_
 refine pP 4 30 ?_
 refine pP 5 31 ?_
 refine pP 6 32 ?_
 refine tP 3 29 hHeld ?_
 refine tP 7 33 hHeld ?_
 refine pP 8 34 ?_
 refine tP 9 35 hHeld ?_
 refine oP 10 (some 4) fun K hK => ?_
 refine Nez (w1 := ?_) (v := ?_) (by rfl) rfl ?_ ?_
 rotate_left 2
 ·go_simp
  constructor
  ·rfl
  ·rfl
 refine hK.out _ _ ⟨Nab (Nae (Below.refl _ _) _) (hHeld.1), Nab (Nae (Below.refl _ _) _) (hHeld.2.1), Nab (Nae (Below.refl _ _) _) (hHeld.2.2.1), Nab (Nae (Below.refl _ _) _) (hHeld.2.2.2.1), Nab (Nae (Below.refl _ _) _) (hHeld.2.2.2.2)⟩ (fun hHeld => ?_)
 clear hK K
 refine nP 4 ?_
 refine lP 11 none fun K hK => ?_
 refine skip_ (w1 := ?_) (by rfl) rfl ?_ ?_
 rotate_left
 ·go_simp
  rfl
 refine hK.out _ _ ?_
 clear hK K
 refine done_ (by kernel_rfl) ?_
 clear y0 y1 z0 z1 z2 hHeld
 obtain ⟨g4, hg4⟩ : ∃ x_ : Nat, x_ = w2.heap.size := ⟨_, rfl⟩
 obtain ⟨w3, hw_⟩ : ∃ x_ : World, x_ = (w2.alloc (.cells #[.int .i64 1, .string tx, .int .i64 ap] 39)).drew := ⟨_, rfl⟩
 rw [← hw_, ← hg4]
 have HS3 := lh (show St w0 w w3 g ts at_ e by rw [hw_]; exact (HS2.out.below (Nae (Below.refl _ _) _)).drew)
 have J4 := lh (show w3.heap[g4]? = some (.cells #[.int .i64 1, .string tx, .int .i64 ap] 39 (0, 0)) by rw [hw_, hg4]; exact Nag (Nce w2 _))
 have HNE := lh (show g4 ≠ g by have := HS2.out.is.lt; omega)
 clear hw_ hg4 HS2
 have ck0 : w3.cell? ⟨g4, 0, none⟩ = some (.int .i64 1) := (Naa J4.out 0).trans rfl
 have ck1 : w3.cell? ⟨g4, 1, none⟩ = some (.string tx) := (Naa J4.out 1).trans rfl
 have q2 : at_ ≤ 1000000 := H0.out.2.1
 have HP := lh (fun w h => pe.num at_ tx HK.out HTX.out w h)
 clear hz
 simp only [hv, Option.isSome_some] at HP
 go_upto_region 13 with (go_at_call 179; (with_reducible refine (HP.out _ (hG.below HS3.out.bel)).mono ?_); rintro en w4 ⟨n, d, rfl, hb, hn⟩; have HS4 := lh (HS3.out.below hb); have HN := lh hn; clear hb hn)
 obtain ⟨g5, hg5⟩ : ∃ x_ : Nat, x_ = w4.heap.size := ⟨_, rfl⟩
 obtain ⟨w5, hw_⟩ : ∃ x_ : World, x_ = w4.alloc (.cells #[.int .i64 n, .int .i64 d] 44) := ⟨_, rfl⟩
 rw [← hw_, ← hg5]
 have HS5 := lh (show St w0 w w5 g ts at_ e by rw [hw_]; exact HS4.out.below (Nae (Below.refl _ _) _))
 have J5 := lh (show w5.heap[g5]? = some (.cells #[.int .i64 n, .int .i64 d] 44 (0, 0)) by rw [hw_, hg5]; exact Nce w4 _)
 have HNE5 := lh (show g5 ≠ g by have := HS4.out.is.lt; omega)
 clear hw_ hg5 HS4 HP ck0 ck1 J4 HS3
 have HN2 := lh (fun w2 => HN.out v rfl w2)
 clear HN hv
 go_upto_region 14 with (fail)
 obtain ⟨A9, c9, hg, hge, -⟩ := HS5.out.is
 have k1 := Na0 hg
 have f1 := Naf hg 1
 clear hg hge
 go_upto_region 15 with (fail)
 obtain ⟨w6, hw_⟩ : ∃ x_ : World, x_ = w5.setCell ⟨g, 1, none⟩ (.int .i64 (at_ + 1)) := ⟨_, rfl⟩
 rw [← hw_]
 have HS6 := lh (show St w0 w w6 g ts (at_ + 1) e by rw [hw_]; exact HS5.out.set (at_ + 1))
 have J6 := lh (show w6.heap[g5]? = some (.cells #[.int .i64 n, .int .i64 d] 44 (0, 0)) by rw [hw_]; exact Nbk J5.out HNE5.out _)
 clear hw_ k1 f1 HS5 J5
 have cn0 : w6.cell? ⟨g5, 0, none⟩ = some (.int .i64 n) := (Naa J6.out 0).trans rfl
 have cn1 : w6.cell? ⟨g5, 1, none⟩ = some (.int .i64 d) := (Naa J6.out 1).trans rfl
 go_wp2_with (first
  | (go_at_call 181; (with_reducible refine (HN2.out _).mono ?_); rintro en w7 ⟨rfl, hb⟩; have HS7 := lh (HS6.out.below hb); clear hb)
  | (go_at_call 180; (with_reducible refine (lit_any _ _).mono ?_); rintro en w9 ⟨v9, rfl, hr, hb⟩; have HR9 := lh (Kd.R_lower hr HS7.out.size); have HS9 := lh (HS7.out.below hb); clear hr hb))
 go_ret
 exact ⟨_, rfl, HR9.out, HS9.out⟩
theorem part_numno {k : Nat} (ih : Parts O ts e w0 k) (hG : GL w0) (pe : PEnv O ts) (hts : ts.length ≤ 100000) {w : World} {g : Nat} {at_ : Int} (hI : IsS72 w0 w g ts at_ e) (hB : Below w0.heap.size w0 w) (h0 : 0 ≤ at_) (h1 : at_ ≤ ts.length) {tx : ByteArray} (hm : markA ts at_ ≠ mB [40]) (he : at_ < ts.length) (hk : (tokA ts at_).f0 = 1) (htx : (tokA ts at_).f1 = tx) (hz : tx.size ≤ 100000) (hv : O.num tx = none) :
 Calls Tryz.prog 144 #[.pointer (some ⟨g, 0, none⟩)] w (Ans w0 w g ts e (.error (50, Nbl ts e at_))) := by
 have HT := lh (Nb7 (m := ⟨#[40]⟩) hI hB h0 (by omega) hm)
 have H0 := lh (show 0 ≤ at_ ∧ at_ ≤ 1000000 ∧ at_ < ts.length by omega)
 have be : (at_ == (ts.length : Int)) = false := by rw [beq_eq_false_iff_ne]; omega
 clear hI hB hm
 go_enter Tryz.func144, Tryz.ntmps144
 go_upto_region 5 with (go_at_call 143; (with_reducible refine (HT.out).mono ?_); rintro en w1 ⟨rfl, hs⟩; have HS := lh hs; clear hs HT)
 obtain ⟨A0, c0, hg, hge, hC⟩ := HS.out.is
 have k0 := Nbm hg
 have k1 := Na0 hg
 obtain ⟨ad, ea, x0, x1, x2⟩ := Nd1 hC at_ H0.out.1 H0.out.2.2
 cases ea
 replace x0 := Nab HS.out.bel x0
 replace x1 := Nab HS.out.bel x1
 replace x2 := Nab HS.out.bel x2
 rw [show (Nbq ts at_).f0 = 1 from hk] at x0
 rw [show (Nbq ts at_).f1 = tx from htx] at x1
 obtain ⟨ap, hap⟩ : ∃ ap, (Nbq ts at_).f2 = ap := ⟨_, rfl⟩
 rw [hap] at x2
 have HTX := lh htx
 have HK := lh hk
 clear hg hge hC hap htx hk
 have q0 : 0 ≤ at_ := H0.out.1
 have q1 : at_ < (ts.length : Int) := H0.out.2.2
 go_quiet (fail)
 go_wp2_with (fail)
 obtain ⟨w2, hw_⟩ : ∃ x_ : World, x_ = w1.drewN nq := ⟨_, rfl⟩
 rw [← hw_]
 have HS2 := lh (show St w0 w w2 g ts at_ e by rw [hw_]; exact HS.out.drewN nq)
 have y0 : w2.cell? ⟨g, 0, none⟩ = some (.slice (some ad) ts.length c0) := by rw [hw_]; exact k0
 have y1 : w2.cell? ⟨g, 1, none⟩ = some (.int .i64 at_) := by rw [hw_]; exact k1
 have z0 : w2.cell? (ad.add (at_.toNat * 3)) = some (.int .i64 1) := by rw [hw_]; exact x0
 have z1 : w2.cell? ⟨(ad.add (at_.toNat * 3)).block, (ad.add (at_.toNat * 3)).off + 1, none⟩ = some (.string tx) := by rw [hw_]; exact x1
 have z2 : w2.cell? ⟨(ad.add (at_.toNat * 3)).block, (ad.add (at_.toNat * 3)).off + 2, none⟩ = some (.int .i64 ap) := by rw [hw_]; exact x2
 clear hw_ k0 k1 x0 x1 x2 HS
 refine sP (n := 12) (S := fun w' => w'.cell? ⟨g, 0, none⟩ = some (.slice (some ad) ts.length c0) ∧ w'.cell? ⟨g, 1, none⟩ = some (.int .i64 at_) ∧ w'.cell? (ad.add (at_.toNat * 3)) = some (.int .i64 1) ∧ w'.cell? ⟨(ad.add (at_.toNat * 3)).block, (ad.add (at_.toNat * 3)).off + 1, none⟩ = some (.string tx) ∧ w'.cell? ⟨(ad.add (at_.toNat * 3)).block, (ad.add (at_.toNat * 3)).off + 2, none⟩ = some (.int .i64 ap)) (ds := [11]) ⟨y0, y1, z0, z1, z2⟩ (fun hHeld => ?_)
 refine pP 0 26 ?_
 refine pP 1 27 ?_
 refine pP 2 28 ?_
 refine pP 4 30 ?_
 refine pP 5 31 ?_
 refine pP 6 32 ?_
 refine tP 3 29 hHeld ?_
 refine tP 7 33 hHeld ?_
 refine pP 8 34 ?_
 refine tP 9 35 hHeld ?_
 refine oP 10 (some 4) fun K hK => ?_
 refine Nez (w1 := ?_) (v := ?_) (by rfl) rfl ?_ ?_
 rotate_left 2
 ·go_simp
  constructor
  ·rfl
  ·rfl
 refine hK.out _ _ ⟨Nab (Nae (Below.refl _ _) _) (hHeld.1), Nab (Nae (Below.refl _ _) _) (hHeld.2.1), Nab (Nae (Below.refl _ _) _) (hHeld.2.2.1), Nab (Nae (Below.refl _ _) _) (hHeld.2.2.2.1), Nab (Nae (Below.refl _ _) _) (hHeld.2.2.2.2)⟩ (fun hHeld => ?_)
 clear hK K
 refine nP 4 ?_
 refine lP 11 none fun K hK => ?_
 refine skip_ (w1 := ?_) (by rfl) rfl ?_ ?_
 rotate_left
 ·go_simp
  rfl
 refine hK.out _ _ ?_
 clear hK K
 refine done_ (by kernel_rfl) ?_
 clear y0 y1 z0 z1 z2 hHeld
 obtain ⟨g4, hg4⟩ : ∃ x_ : Nat, x_ = w2.heap.size := ⟨_, rfl⟩
 obtain ⟨w3, hw_⟩ : ∃ x_ : World, x_ = (w2.alloc (.cells #[.int .i64 1, .string tx, .int .i64 ap] 39)).drew := ⟨_, rfl⟩
 rw [← hw_, ← hg4]
 have HS3 := lh (show St w0 w w3 g ts at_ e by rw [hw_]; exact (HS2.out.below (Nae (Below.refl _ _) _)).drew)
 have J4 := lh (show w3.heap[g4]? = some (.cells #[.int .i64 1, .string tx, .int .i64 ap] 39 (0, 0)) by rw [hw_, hg4]; exact Nag (Nce w2 _))
 have HNE := lh (show g4 ≠ g by have := HS2.out.is.lt; omega)
 clear hw_ hg4 HS2
 have ck0 : w3.cell? ⟨g4, 0, none⟩ = some (.int .i64 1) := (Naa J4.out 0).trans rfl
 have ck1 : w3.cell? ⟨g4, 1, none⟩ = some (.string tx) := (Naa J4.out 1).trans rfl
 have q2 : at_ ≤ 1000000 := H0.out.2.1
 have HP := lh (fun w h => pe.num at_ tx HK.out HTX.out w h)
 clear hz
 simp only [hv, Option.isSome_none] at HP
 go_upto_region 13 with (go_at_call 179; (with_reducible refine (HP.out _ (hG.below HS3.out.bel)).mono ?_); rintro en w4 ⟨n, d, rfl, hb, hn⟩; have HS4 := lh (HS3.out.below hb); have HN := lh hn; clear hb hn)
 obtain ⟨g5, hg5⟩ : ∃ x_ : Nat, x_ = w4.heap.size := ⟨_, rfl⟩
 obtain ⟨w5, hw_⟩ : ∃ x_ : World, x_ = w4.alloc (.cells #[.int .i64 n, .int .i64 d] 44) := ⟨_, rfl⟩
 rw [← hw_, ← hg5]
 have HS5 := lh (show St w0 w w5 g ts at_ e by rw [hw_]; exact HS4.out.below (Nae (Below.refl _ _) _))
 have J5 := lh (show w5.heap[g5]? = some (.cells #[.int .i64 n, .int .i64 d] 44 (0, 0)) by rw [hw_, hg5]; exact Nce w4 _)
 have HNE5 := lh (show g5 ≠ g by have := HS4.out.is.lt; omega)
 clear hw_ hg5 HS4 HP ck0 ck1 J4 HS3
 clear HN hv
 go_wp2_with (go_at_call 69; (with_reducible refine (Nb8 HS5.out.is HS5.out.bel H0.out.1 50).mono ?_); rintro en w8 ⟨rfl, hs⟩; have HS8 := lh (HS5.out.trans hs); clear hs)
 exact ⟨rfl, rfl, _, HS8.out⟩
theorem part_any {k : Nat} (ih : Parts O ts e w0 k) (hG : GL w0) (pe : PEnv O ts) (hts : ts.length ≤ 100000) (w : World) (g : Nat) (at_ : Int) (x) (hI : IsS72 w0 w g ts at_ e) (hB : Below w0.heap.size w0 w) (h0 : 0 ≤ at_) (h1 : at_ ≤ ts.length) (h : parF O ts e (k + 1) at_ = some x) :
 Calls Tryz.prog 144 #[.pointer (some ⟨g, 0, none⟩)] w (Ans w0 w g ts e x) := by
 rw [parF] at h
 by_cases hm : markA ts at_ = mB [40]
 ·rw [if_pos hm] at h
  cases hx : binF O ts e k 1 (at_ + 1) with
  | none => rw [hx] at h; cases h
  | some y => rw [hx] at h; exact part_open ih hG pe hts hI hB h0 h1 hm hx h
 rw [if_neg hm] at h
 by_cases he : at_ < ts.length
 ·rw [if_pos he] at h
  have hz := pe.size at_
  by_cases h3 : (tokA ts at_).f0 = 3
  ·rw [if_pos h3] at h
   exact part_word ih hG pe hts hI hB h0 h1 hm he h3 rfl h
  rw [if_neg h3] at h
  by_cases h4 : (tokA ts at_).f0 = 1
  ·rw [if_pos h4] at h
   cases hv : O.num (tokA ts at_).f1 with
   | none => rw [hv] at h; obtain rfl := sI h; exact part_numno ih hG pe hts hI hB h0 h1 hm he h4 rfl hz hv
   | some v => rw [hv] at h; obtain rfl := sI h; exact part_num ih hG pe hts hI hB h0 h1 hm he h4 rfl hz hv
  rw [if_neg h4] at h
  by_cases h5 : (tokA ts at_).f0 = 2
  ·rw [if_pos h5] at h
   by_cases h6 : (tokA ts at_).f1.size ≤ 256
   ·rw [if_pos h6] at h; obtain rfl := sI h; exact part_txt ih hG pe hts hI hB h0 h1 hm he h5 rfl h6
   ·rw [if_neg h6] at h; obtain rfl := sI h; exact part_txtno ih hG pe hts hI hB h0 h1 hm he h5 rfl h6
  rw [if_neg h5] at h
  by_cases h7 : (tokA ts at_).f0 = 4
  ·rw [if_pos h7] at h; obtain rfl := sI h; exact part_flt ih hG pe hts hI hB h0 h1 hm he h7 rfl hz
  ·rw [if_neg h7] at h; obtain rfl := sI h; exact part_else ih hG pe hts hI hB h0 h1 hm he rfl rfl h3 h4 h5 h7
 ·rw [if_neg he] at h
  obtain rfl := sI h
  exact part_end ih hG pe hts hI hB h0 h1 hm he
end
end
end Go.Proofs.YtejbbceidnaloaaGreatDoor.P
