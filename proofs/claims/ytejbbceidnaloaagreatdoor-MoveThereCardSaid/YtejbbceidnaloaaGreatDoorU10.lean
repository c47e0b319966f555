import Derived.Test.YtejbbceidnaloaaGreatDoorU9
namespace Go.Proofs.YtejbbceidnaloaaGreatDoor.P
open Go.RowKit Go.Proofs.YtejbbceidnaloaaGreatDoorW.PrintWords Go.Proofs.YtejbbceidnaloaaGreatDoorW.PrintLast Go.Proofs.YtejbbceidnaloaaGreatDoorW.PrintMore
set_option linter.unusedVariables false
set_option linter.unusedSimpArgs false
section
set_option maxRecDepth 100000
abbrev vV (v : S46) : Value := .agg #[.int .i64 v.f0, .int .i64 v.f1.f0, .int .i64 v.f1.f1, .string v.f2, .bool v.f3, .int .i64 v.f4]
structure PEnv (O : Ops) (ts : List S39) : Prop where
 num : ∀ (i : Int) (s : ByteArray), (tokA ts i).f0 = 1 → (tokA ts i).f1 = s → ∀ w : World, GL w → Calls Tryz.prog 179 #[.string s] w fun en w' => ∃ n d, en = .returned (.tuple #[.agg #[.int .i64 n, .int .i64 d], .bool (O.num s).isSome]) ∧ Below w.heap.size w w' ∧ ∀ v, O.num s = some v → ∀ w2 : World, Calls Tryz.prog 181 #[.agg #[.int .i64 n, .int .i64 d]] w2 fun en w3 => en = .returned (vV v) ∧ Below w2.heap.size w2 w3
 txt : ∀ (i : Int) (s : ByteArray), (tokA ts i).f0 = 2 → (tokA ts i).f1 = s → s.size ≤ 256 → ∀ w : World, Calls Tryz.prog 182 #[.string s] w fun en w' => en = .returned (vV (O.txt s)) ∧ Below w.heap.size w w'
 flt : ∀ (i : Int) (s : ByteArray), (tokA ts i).f0 = 4 → (tokA ts i).f1 = s → ∀ w : World, GL w → Calls Tryz.prog 147 #[.string s] w fun en w' => en = .returned (vV (O.flt s)) ∧ Below w.heap.size w w'
 tru : ∀ (b : Bool) (w : World), Calls Tryz.prog 187 #[.bool b] w fun en w' => en = .returned (vV (O.tru b)) ∧ Below w.heap.size w w'
 fn : ∀ (s : ByteArray) (w : World), GL w → s.size ≤ 100000 → Calls Tryz.prog 96 #[.string s] w fun en w' => en = .returned (.bool (O.fn s)) ∧ Below w.heap.size w w'
 sh : ∀ (s : ByteArray) (w : World), s.size ≤ 100000 → Calls Tryz.prog 135 #[.string s] w fun en w' => en = .returned (.bool (O.sh s)) ∧ Below w.heap.size w w'
 size : ∀ i : Int, (tokA ts i).f1.size ≤ 100000
theorem lit_any (v : S46) (w : World) : Calls Tryz.prog 180 #[vV v] w fun en w' => ∃ v0 : Value, en = .returned v0 ∧ Kd.R k50 50 w' w.heap.size (fun _ => True) v0 [nVal v] ∧ Below w.heap.size w w' :=
 tree_literal.calls v.f0 v.f1.f0 v.f1.f1 v.f2 v.f3 v.f4 [nVal v] w rfl
section
variable {O : Ops} {ts : List S39} {e : Int} {w0 : World}
theorem part_open {k : Nat} (ih : Parts O ts e w0 k) (hG : GL w0) (pe : PEnv O ts) (hts : ts.length ≤ 100000) {w : World} {g : Nat} {at_ : Int} (hI : IsS72 w0 w g ts at_ e) (hB : Below w0.heap.size w0 w) (h0 : 0 ≤ at_) (h1 : at_ ≤ ts.length) {x y} (hm : markA ts at_ = mB [40]) (hx : binF O ts e k 1 (at_ + 1) = some x) (hy : Res.bnd (some x) (fun (r, a) => if markA ts a = mB [41] then okR (r, a + 1) else erR 50 (failAt ts e a)) = some y) :
 Calls Tryz.prog 144 #[.pointer (some ⟨g, 0, none⟩)] w (Ans w0 w g ts e y) := by
 have hlt := Nbm ts hm (by decide)
 have HT := lh (takes_yes (m := ⟨#[40]⟩) hI hB h0 (by omega) hm)
 have HX := lh hx
 have HY := lh hy
 have HG := lh hI.lt
 have H0 := lh (show 0 ≤ at_ + 1 ∧ at_ + 1 ≤ ts.length by omega)
 clear hI hB hm hx h0 h1 hlt hy
 go_enter Tryz.func144, Tryz.ntmps144
 go_wp2_with (go_at_call 143; (with_reducible refine (HT.out).mono ?_); rintro en w1 ⟨rfl, hs⟩; have HS := lh hs; clear hs HT)
 cases x with
 | error p =>
  obtain ⟨c, p⟩ := p
  obtain rfl := Option.some.inj HY.out
  (with_reducible refine (ih.bin _ g 1 (at_ + 1) _ HS.out.is HS.out.bel H0.out.1 H0.out.2 (by omega) (by omega) HX.out).mono ?_)
  rintro en w2 ⟨rfl, a, hs⟩
  go_wp2
  exact ⟨rfl, rfl, a, HS.out.trans hs⟩
 | ok p =>
  obtain ⟨r, a⟩ := p
  have HA := lh (binF_range O ts e H0.out.1 H0.out.2 (by omega) (by omega) HX.out)
  (with_reducible refine (ih.bin _ g 1 (at_ + 1) _ HS.out.is HS.out.bel H0.out.1 H0.out.2 (by omega) (by omega) HX.out).mono ?_)
  rintro en w2 ⟨v, rfl, hr, hs⟩
  obtain ⟨A, c, rfl, hle, -⟩ := Kd.R_reads hr
  have HR := lh (Kd.R_lower hr HS.out.size)
  have HS2 := lh (HS.out.trans hs)
  clear hr hs hle HS
  by_cases hc : markA ts a = mB [41]
  ·have hy := HY.out
   simp only [Res.bnd] at hy
   rw [if_pos hc] at hy
   obtain rfl := Option.some.inj hy
   have HM := lh (must_yes (m := ⟨#[41]⟩) HS2.out.is HS2.out.bel (by have := HA.out; have := H0.out; omega) (by have := HA.out; omega) hc)
   clear hy hc HY HX
   go_wp2_with (go_at_call 177; (with_reducible refine (HM.out).mono ?_); rintro en w3 ⟨rfl, hs⟩; have HS3 := lh (HS2.out.trans hs); have HR3 := lh (r_keep HR.out hs.keep HG.out); clear hs HR)
   go_ret
   exact ⟨_, rfl, HR3.out, HS3.out⟩
  ·have hy := HY.out
   simp only [Res.bnd] at hy
   rw [if_neg hc] at hy
   obtain rfl := Option.some.inj hy
   have HM := lh (must_no (m := ⟨#[41]⟩) HS2.out.is HS2.out.bel (by have := HA.out; have := H0.out; omega) (by have := HA.out; omega) hc)
   clear hy hc HY HX
   go_wp2_with (go_at_call 177; (with_reducible refine (HM.out).mono ?_); rintro en w3 ⟨rfl, hs⟩; have HS3 := lh (HS2.out.trans hs); clear hs)
   exact ⟨rfl, rfl, a, HS3.out⟩
theorem part_end {k : Nat} (ih : Parts O ts e w0 k) (hG : GL w0) (pe : PEnv O ts) (hts : ts.length ≤ 100000) {w : World} {g : Nat} {at_ : Int} (hI : IsS72 w0 w g ts at_ e) (hB : Below w0.heap.size w0 w) (h0 : 0 ≤ at_) (h1 : at_ ≤ ts.length) (hm : markA ts at_ ≠ mB [40]) (he : ¬ at_ < ts.length) :
 Calls Tryz.prog 144 #[.pointer (some ⟨g, 0, none⟩)] w (Ans w0 w g ts e (.error (50, failAt ts e at_))) := by
 have HT := lh (Nbs (m := ⟨#[40]⟩) hI hB h0 (by omega) hm)
 have H0 := lh (show 0 ≤ at_ ∧ at_ ≤ 1000000 by omega)
 have be : (at_ == (ts.length : Int)) = true := by rw [beq_iff_eq]; omega
 clear h1 he
 clear hI hB hm
 go_enter Tryz.func144, Tryz.ntmps144
 go_upto_region 5 with (go_at_call 143; (with_reducible refine (HT.out).mono ?_); rintro en w1 ⟨rfl, hs⟩; have HS := lh hs; clear hs HT)
 obtain ⟨A0, c0, hg, hge, hC⟩ := HS.out.is
 have k0 := Nbc hg
 have k1 := Nam hg
 clear hg hge hC
 go_quiet (fail)
 go_wp2_with (go_at_call 69; (with_reducible refine (Nbt (HS.out.drewN _).is (HS.out.drewN _).bel H0.out.1 50).mono ?_); rintro en w2 ⟨rfl, hs⟩; have HS2 := lh ((HS.out.drewN _).trans hs); clear hs)
 exact ⟨rfl, rfl, _, HS2.out⟩
theorem part_word {k : Nat} (ih : Parts O ts e w0 k) (hG : GL w0) (pe : PEnv O ts) (hts : ts.length ≤ 100000) {w : World} {g : Nat} {at_ : Int} (hI : IsS72 w0 w g ts at_ e) (hB : Below w0.heap.size w0 w) (h0 : 0 ≤ at_) (h1 : at_ ≤ ts.length) {tx : ByteArray} (hm : markA ts at_ ≠ mB [40]) (he : at_ < ts.length) (hk : (tokA ts at_).f0 = 3) (htx : (tokA ts at_).f1 = tx) {x} (hx : worF O ts e k tx at_ = some x) :
 Calls Tryz.prog 144 #[.pointer (some ⟨g, 0, none⟩)] w (Ans w0 w g ts e x) := by
 have HX := lh hx
 clear hx
 have HT := lh (Nbs (m := ⟨#[40]⟩) hI hB h0 (by omega) hm)
 have H0 := lh (show 0 ≤ at_ ∧ at_ ≤ 1000000 ∧ at_ < ts.length by omega)
 have be : (at_ == (ts.length : Int)) = false := by rw [beq_eq_false_iff_ne]; omega
 clear hI hB hm
 go_enter Tryz.func144, Tryz.ntmps144
 go_upto_region 5 with (go_at_call 143; (with_reducible refine (HT.out).mono ?_); rintro en w1 ⟨rfl, hs⟩; have HS := lh hs; clear hs HT)
 obtain ⟨A0, c0, hg, hge, hC⟩ := HS.out.is
 have k0 := Nbc hg
 have k1 := Nam hg
 obtain ⟨ad, ea, x0, x1, x2⟩ := at_T39 hC at_ H0.out.1 H0.out.2.2
 cases ea
 replace x0 := pw_cell_below HS.out.bel x0
 replace x1 := pw_cell_below HS.out.bel x1
 replace x2 := pw_cell_below HS.out.bel x2
 rw [show (rd_T39 ts at_).f0 = 3 from hk] at x0
 rw [show (rd_T39 ts at_).f1 = tx from htx] at x1
 obtain ⟨ap, hap⟩ : ∃ ap, (rd_T39 ts at_).f2 = ap := ⟨_, rfl⟩
 rw [hap] at x2
 have HTX := lh htx
 have HK := lh hk
 clear hg hge hC hap htx hk
 have q0 : 0 ≤ at_ := H0.out.1
 have q1 : at_ < (ts.length : Int) := H0.out.2.2
 go_quiet (fail)
 go_wp2_with (fail)
 obtain ⟨w2, hw_⟩ : ∃ x_ : World, x_ = w1.drewN nq := ⟨_, rfl⟩
 rw [← hw_]
 have HS2 := lh (show St w0 w w2 g ts at_ e by rw [hw_]; exact HS.out.drewN nq)
 have y0 : w2.cell? ⟨g, 0, none⟩ = some (.slice (some ad) ts.length c0) := by rw [hw_]; exact k0
 have y1 : w2.cell? ⟨g, 1, none⟩ = some (.int .i64 at_) := by rw [hw_]; exact k1
 have z0 : w2.cell? (ad.add (at_.toNat * 3)) = some (.int .i64 3) := by rw [hw_]; exact x0
 have z1 : w2.cell? ⟨(ad.add (at_.toNat * 3)).block, (ad.add (at_.toNat * 3)).off + 1, none⟩ = some (.string tx) := by rw [hw_]; exact x1
 have z2 : w2.cell? ⟨(ad.add (at_.toNat * 3)).block, (ad.add (at_.toNat * 3)).off + 2, none⟩ = some (.int .i64 ap) := by rw [hw_]; exact x2
 clear hw_ k0 k1 x0 x1 x2 HS
 refine start_ (n := 12) (S := fun w' => w'.cell? ⟨g, 0, none⟩ = some (.slice (some ad) ts.length c0) ∧ w'.cell? ⟨g, 1, none⟩ = some (.int .i64 at_) ∧ w'.cell? (ad.add (at_.toNat * 3)) = some (.int .i64 3) ∧ w'.cell? ⟨(ad.add (at_.toNat * 3)).block, (ad.add (at_.toNat * 3)).off + 1, none⟩ = some (.string tx) ∧ w'.cell? ⟨(ad.add (at_.toNat * 3)).block, (ad.add (at_.toNat * 3)).off + 2, none⟩ = some (.int .i64 ap)) (ds := [11]) #[false, false, false, false, false, false, false, false, false, false, false, false] (by kernel_rfl) rfl rfl ⟨y0, y1, z0, z1, z2⟩ (fun hHeld => ?_)
 refine pP 0 26 ?_
 refine pP 1 27 ?_
 refine pP 2 28 ?_
 refine pP 4 30 ?_
 refine pP 5 31 ?_
 refine pP 6 32 ?_
 refine tP 3 29 hHeld ?_
 refine tP 7 33 hHeld ?_
 refine pP 8 34 ?_
 refine tP 9 35 hHeld ?_
 refine one_ (i := 10) (N := some 4) #[true, true, true, true, true, true, true, true, true, true, true, false] rfl rfl (by kernel_rfl) (by decide) (fun K hK => ?_)
 refine value_ (w1 := ?_) (v := ?_) (by rfl) rfl ?_ ?_
 rotate_left 2
 ·go_simp
  constructor
  ·rfl
  ·rfl
 refine hK.out _ _ ⟨pw_cell_below (below_alloc (Below.refl _ _) _) (hHeld.1), pw_cell_below (below_alloc (Below.refl _ _) _) (hHeld.2.1), pw_cell_below (below_alloc (Below.refl _ _) _) (hHeld.2.2.1), pw_cell_below (below_alloc (Below.refl _ _) _) (hHeld.2.2.2.1), pw_cell_below (below_alloc (Below.refl _ _) _) (hHeld.2.2.2.2)⟩ (fun hHeld => ?_)
 clear hK K
 refine nP 4 ?_
 refine last_ (i := 11) (N := none) #[true, true, true, true, true, true, true, true, true, true, true, true] rfl rfl (by kernel_rfl) (by decide) (fun K hK => ?_)
 refine skip_ (w1 := ?_) (by rfl) rfl ?_ ?_
 rotate_left
 ·go_simp
  rfl
 refine hK.out _ _ ?_
 clear hK K
 refine done_ (by kernel_rfl) ?_
 clear y0 y1 z0 z1 z2 hHeld
 obtain ⟨g4, hg4⟩ : ∃ x_ : Nat, x_ = w2.heap.size := ⟨_, rfl⟩
 obtain ⟨w3, hw_⟩ : ∃ x_ : World, x_ = (w2.alloc (.cells #[.int .i64 3, .string tx, .int .i64 ap] 39)).drew := ⟨_, rfl⟩
 rw [← hw_, ← hg4]
 have HS3 := lh (show St w0 w w3 g ts at_ e by rw [hw_]; exact (HS2.out.below (below_alloc (Below.refl _ _) _)).drew)
 have J4 := lh (show w3.heap[g4]? = some (.cells #[.int .i64 3, .string tx, .int .i64 ap] 39 (0, 0)) by rw [hw_, hg4]; exact blk_drew (blk_new w2 _))
 have HNE := lh (show g4 ≠ g by have := HS2.out.is.lt; omega)
 clear hw_ hg4 HS2
 have ck0 : w3.cell? ⟨g4, 0, none⟩ = some (.int .i64 3) := (blk_cell J4.out 0).trans rfl
 have ck1 : w3.cell? ⟨g4, 1, none⟩ = some (.string tx) := (blk_cell J4.out 1).trans rfl
 have q2 : at_ ≤ 1000000 := H0.out.2.1
 have HC := lh (ih.wor w3 g tx at_ _ HS3.out.is HS3.out.bel H0.out.1 H0.out.2.2 HTX.out.symm HX.out)
 go_wp2_with (fail)
 cases x with
 | error p =>
  obtain ⟨c, p⟩ := p
  (with_reducible refine (HC.out).mono ?_)
  rintro en w8 ⟨rfl, a, hs⟩
  go_wp2
  exact ⟨rfl, rfl, a, HS3.out.trans hs⟩
 | ok p =>
  obtain ⟨r, a⟩ := p
  (with_reducible refine (HC.out).mono ?_)
  rintro en w9 ⟨v9, rfl, hr, hs⟩
  obtain ⟨A9, c9, rfl, hle, -⟩ := Kd.R_reads hr
  have HR9 := lh (Kd.R_lower hr HS3.out.size)
  have HS9 := lh (HS3.out.trans hs)
  clear hr hs hle
  go_wp2
  go_ret
  exact ⟨_, rfl, HR9.out, HS9.out⟩
theorem part_txt {k : Nat} (ih : Parts O ts e w0 k) (hG : GL w0) (pe : PEnv O ts) (hts : ts.length ≤ 100000) {w : World} {g : Nat} {at_ : Int} (hI : IsS72 w0 w g ts at_ e) (hB : Below w0.heap.size w0 w) (h0 : 0 ≤ at_) (h1 : at_ ≤ ts.length) {tx : ByteArray} (hm : markA ts at_ ≠ mB [40]) (he : at_ < ts.length) (hk : (tokA ts at_).f0 = 2) (htx : (tokA ts at_).f1 = tx) (hz : tx.size ≤ 256) :
 Calls Tryz.prog 144 #[.pointer (some ⟨g, 0, none⟩)] w (Ans w0 w g ts e (.ok ([nVal (O.txt tx)], at_ + 1))) := by
 have HT := lh (Nbs (m := ⟨#[40]⟩) hI hB h0 (by omega) hm)
 have H0 := lh (show 0 ≤ at_ ∧ at_ ≤ 1000000 ∧ at_ < ts.length by omega)
 have be : (at_ == (ts.length : Int)) = false := by rw [beq_eq_false_iff_ne]; omega
 clear hI hB hm
 go_enter Tryz.func144, Tryz.ntmps144
 go_upto_region 5 with (go_at_call 143; (with_reducible refine (HT.out).mono ?_); rintro en w1 ⟨rfl, hs⟩; have HS := lh hs; clear hs HT)
 obtain ⟨A0, c0, hg, hge, hC⟩ := HS.out.is
 have k0 := Nbc hg
 have k1 := Nam hg
 obtain ⟨ad, ea, x0, x1, x2⟩ := at_T39 hC at_ H0.out.1 H0.out.2.2
 cases ea
 replace x0 := pw_cell_below HS.out.bel x0
 replace x1 := pw_cell_below HS.out.bel x1
 replace x2 := pw_cell_below HS.out.bel x2
 rw [show (rd_T39 ts at_).f0 = 2 from hk] at x0
 rw [show (rd_T39 ts at_).f1 = tx from htx] at x1
 obtain ⟨ap, hap⟩ : ∃ ap, (rd_T39 ts at_).f2 = ap := ⟨_, rfl⟩
 rw [hap] at x2
 have HTX := lh htx
 have HK := lh hk
 clear hg hge hC hap htx hk
 have q0 : 0 ≤ at_ := H0.out.1
 have q1 : at_ < (ts.length : Int) := H0.out.2.2
 go_quiet (fail)
 go_wp2_with (fail)
 obtain ⟨w2, hw_⟩ : ∃ x_ : World, x_ = w1.drewN nq := ⟨_, rfl⟩
 rw [← hw_]
 have HS2 := lh (show St w0 w w2 g ts at_ e by rw [hw_]; exact HS.out.drewN nq)
 have y0 : w2.cell? ⟨g, 0, none⟩ = some (.slice (some ad) ts.length c0) := by rw [hw_]; exact k0
 have y1 : w2.cell? ⟨g, 1, none⟩ = some (.int .i64 at_) := by rw [hw_]; exact k1
 have z0 : w2.cell? (ad.add (at_.toNat * 3)) = some (.int .i64 2) := by rw [hw_]; exact x0
 have z1 : w2.cell? ⟨(ad.add (at_.toNat * 3)).block, (ad.add (at_.toNat * 3)).off + 1, none⟩ = some (.string tx) := by rw [hw_]; exact x1
 have z2 : w2.cell? ⟨(ad.add (at_.toNat * 3)).block, (ad.add (at_.toNat * 3)).off + 2, none⟩ = some (.int .i64 ap) := by rw [hw_]; exact x2
 clear hw_ k0 k1 x0 x1 x2 HS
 refine start_ (n := 12) (S := fun w' => w'.cell? ⟨g, 0, none⟩ = some (.slice (some ad) ts.length c0) ∧ w'.cell? ⟨g, 1, none⟩ = some (.int .i64 at_) ∧ w'.cell? (ad.add (at_.toNat * 3)) = some (.int .i64 2) ∧ w'.cell? ⟨(ad.add (at_.toNat * 3)).block, (ad.add (at_.toNat * 3)).off + 1, none⟩ = some (.string tx) ∧ w'.cell? ⟨(ad.add (at_.toNat * 3)).block, (ad.add (at_.toNat * 3)).off + 2, none⟩ = some (.int .i64 ap)) (ds := [11]) #[false, false, false, false, false, false, false, false, false, false, false, false] (by kernel_rfl) rfl rfl ⟨y0, y1, z0, z1, z2⟩ (fun hHeld => ?_)
 refine pP 0 26 ?_
 refine pP 1 27 ?_
 refine pP 2 28 ?_
 refine pP 4 30 ?_
 refine pP 5 31 ?_
 refine pP 6 32 ?_
 refine tP 3 29 hHeld ?_
 refine tP 7 33 hHeld ?_
 refine pP 8 34 ?_
 refine tP 9 35 hHeld ?_
 refine one_ (i := 10) (N := some 4) #[true, true, true, true, true, true, true, true, true, true, true, false] rfl rfl (by kernel_rfl) (by decide) (fun K hK => ?_)
 refine value_ (w1 := ?_) (v := ?_) (by rfl) rfl ?_ ?_
 rotate_left 2
 ·go_simp
  constructor
  ·rfl
  ·rfl
 refine hK.out _ _ ⟨pw_cell_below (below_alloc (Below.refl _ _) _) (hHeld.1), pw_cell_below (below_alloc (Below.refl _ _) _) (hHeld.2.1), pw_cell_below (below_alloc (Below.refl _ _) _) (hHeld.2.2.1), pw_cell_below (below_alloc (Below.refl _ _) _) (hHeld.2.2.2.1), pw_cell_below (below_alloc (Below.refl _ _) _) (hHeld.2.2.2.2)⟩ (fun hHeld => ?_)
 clear hK K
 refine nP 4 ?_
 refine last_ (i := 11) (N := none) #[true, true, true, true, true, true, true, true, true, true, true, true] rfl rfl (by kernel_rfl) (by decide) (fun K hK => ?_)
 refine skip_ (w1 := ?_) (by rfl) rfl ?_ ?_
 rotate_left
 ·go_simp
  rfl
 refine hK.out _ _ ?_
 clear hK K
 refine done_ (by kernel_rfl) ?_
 clear y0 y1 z0 z1 z2 hHeld
 obtain ⟨g4, hg4⟩ : ∃ x_ : Nat, x_ = w2.heap.size := ⟨_, rfl⟩
 obtain ⟨w3, hw_⟩ : ∃ x_ : World, x_ = (w2.alloc (.cells #[.int .i64 2, .string tx, .int .i64 ap] 39)).drew := ⟨_, rfl⟩
 rw [← hw_, ← hg4]
 have HS3 := lh (show St w0 w w3 g ts at_ e by rw [hw_]; exact (HS2.out.below (below_alloc (Below.refl _ _) _)).drew)
 have J4 := lh (show w3.heap[g4]? = some (.cells #[.int .i64 2, .string tx, .int .i64 ap] 39 (0, 0)) by rw [hw_, hg4]; exact blk_drew (blk_new w2 _))
 have HNE := lh (show g4 ≠ g by have := HS2.out.is.lt; omega)
 clear hw_ hg4 HS2
 have ck0 : w3.cell? ⟨g4, 0, none⟩ = some (.int .i64 2) := (blk_cell J4.out 0).trans rfl
 have ck1 : w3.cell? ⟨g4, 1, none⟩ = some (.string tx) := (blk_cell J4.out 1).trans rfl
 have q2 : at_ ≤ 1000000 := H0.out.2.1
 have HP := lh (fun w => pe.txt at_ tx HK.out HTX.out hz w)
 have dz : decide ((tx.size : Int) ≤ 256) = true := decide_eq_true (by omega)
 clear hz
 go_upto_region 18 with (fail)
 obtain ⟨A9, c9, hg, hge, -⟩ := HS3.out.is
 have k1 := Nam hg
 have f1 := blk_frozen hg 1
 clear hg hge
 go_upto_region 19 with (fail)
 obtain ⟨w4, hw_⟩ : ∃ x_ : World, x_ = w3.setCell ⟨g, 1, none⟩ (.int .i64 (at_ + 1)) := ⟨_, rfl⟩
 rw [← hw_]
 have HS4 := lh (show St w0 w w4 g ts (at_ + 1) e by rw [hw_]; exact HS3.out.set (at_ + 1))
 have J5 := lh (show w4.heap[g4]? = some (.cells #[.int .i64 2, .string tx, .int .i64 ap] 39 (0, 0)) by rw [hw_]; exact blk_far J4.out HNE.out _)
 clear hw_ k1 f1 HS3 J4
 have ck3 : w4.cell? ⟨g4, 1, none⟩ = some (.string tx) := (blk_cell J5.out 1).trans rfl
 go_wp2_with (first
  | (go_at_call 182; (with_reducible refine (HP.out _).mono ?_); rintro en w5 ⟨rfl, hb⟩; have HS5 := lh (HS4.out.below hb); clear hb)
  | (go_at_call 180; (with_reducible refine (lit_any _ _).mono ?_); rintro en w9 ⟨v9, rfl, hr, hb⟩; have HR9 := lh (Kd.R_lower hr HS5.out.size); have HS9 := lh (HS5.out.below hb); clear hr hb))
 go_ret
 exact ⟨_, rfl, HR9.out, HS9.out⟩
theorem part_txtno {k : Nat} (ih : Parts O ts e w0 k) (hG : GL w0) (pe : PEnv O ts) (hts : ts.length ≤ 100000) {w : World} {g : Nat} {at_ : Int} (hI : IsS72 w0 w g ts at_ e) (hB : Below w0.heap.size w0 w) (h0 : 0 ≤ at_) (h1 : at_ ≤ ts.length) {tx : ByteArray} (hm : markA ts at_ ≠ mB [40]) (he : at_ < ts.length) (hk : (tokA ts at_).f0 = 2) (htx : (tokA ts at_).f1 = tx) (hz : ¬ tx.size ≤ 256) :
 Calls Tryz.prog 144 #[.pointer (some ⟨g, 0, none⟩)] w (Ans w0 w g ts e (.error (50, failAt ts e at_))) := by
 have HT := lh (Nbs (m := ⟨#[40]⟩) hI hB h0 (by omega) hm)
 have H0 := lh (show 0 ≤ at_ ∧ at_ ≤ 1000000 ∧ at_ < ts.length by omega)
 have be : (at_ == (ts.length : Int)) = false := by rw [beq_eq_false_iff_ne]; omega
 clear hI hB hm
 go_enter Tryz.func144, Tryz.ntmps144
 go_upto_region 5 with (go_at_call 143; (with_reducible refine (HT.out).mono ?_); rintro en w1 ⟨rfl, hs⟩; have HS := lh hs; clear hs HT)
 obtain ⟨A0, c0, hg, hge, hC⟩ := HS.out.is
 have k0 := Nbc hg
 have k1 := Nam hg
 obtain ⟨ad, ea, x0, x1, x2⟩ := at_T39 hC at_ H0.out.1 H0.out.2.2
 cases ea
 replace x0 := pw_cell_below HS.out.bel x0
 replace x1 := pw_cell_below HS.out.bel x1
 replace x2 := pw_cell_below HS.out.bel x2
 rw [show (rd_T39 ts at_).f0 = 2 from hk] at x0
 rw [show (rd_T39 ts at_).f1 = tx from htx] at x1
 obtain ⟨ap, hap⟩ : ∃ ap, (rd_T39 ts at_).f2 = ap := ⟨_, rfl⟩
 rw [hap] at x2
 have HTX := lh htx
 have HK := lh hk
 clear hg hge hC hap htx hk
 have q0 : 0 ≤ at_ := H0.out.1
 have q1 : at_ < (ts.length : Int) := H0.out.2.2
 go_quiet (fail)
 go_wp2_with (fail)
 obtain ⟨w2, hw_⟩ : ∃ x_ : World, x_ = w1.drewN nq := ⟨_, rfl⟩
 rw [← hw_]
 have HS2 := lh (show St w0 w w2 g ts at_ e by rw [hw_]; exact HS.out.drewN nq)
 have y0 : w2.cell? ⟨g, 0, none⟩ = some (.slice (some ad) ts.length c0) := by rw [hw_]; exact k0
 have y1 : w2.cell? ⟨g, 1, none⟩ = some (.int .i64 at_) := by rw [hw_]; exact k1
 have z0 : w2.cell? (ad.add (at_.toNat * 3)) = some (.int .i64 2) := by rw [hw_]; exact x0
 have z1 : w2.cell? ⟨(ad.add (at_.toNat * 3)).block, (ad.add (at_.toNat * 3)).off + 1, none⟩ = some (.string tx) := by rw [hw_]; exact x1
 have z2 : w2.cell? ⟨(ad.add (at_.toNat * 3)).block, (ad.add (at_.toNat * 3)).off + 2, none⟩ = some (.int .i64 ap) := by rw [hw_]; exact x2
 clear hw_ k0 k1 x0 x1 x2 HS
 refine start_ (n := 12) (S := fun w' => w'.cell? ⟨g, 0, none⟩ = some (.slice (some ad) ts.length c0) ∧ w'.cell? ⟨g, 1, none⟩ = some (.int .i64 at_) ∧ w'.cell? (ad.add (at_.toNat * 3)) = some (.int .i64 2) ∧ w'.cell? ⟨(ad.add (at_.toNat * 3)).block, (ad.add (at_.toNat * 3)).off + 1, none⟩ = some (.string tx) ∧ w'.cell? ⟨(ad.add (at_.toNat * 3)).block, (ad.add (at_.toNat * 3)).off + 2, none⟩ = some (.int .i64 ap)) (ds := [11]) #[false, false, false, false, false, false, false, false, false, false, false, false] (by kernel_rfl) rfl rfl ⟨y0, y1, z0, z1, z2⟩ (fun hHeld => ?_)
 refine pP 0 26 ?_
 refine pP 1 27 ?_
 refine pP 2 28 ?_
 refine pP 4 30 ?_
 refine pP 5 31 ?_
 refine pP 6 32 ?_
 refine tP 3 29 hHeld ?_
 refine tP 7 33 hHeld ?_
 refine pP 8 34 ?_
 refine tP 9 35 hHeld ?_
 refine one_ (i := 10) (N := some 4) #[true, true, true, true, true, true, true, true, true, true, true, false] rfl rfl (by kernel_rfl) (by decide) (fun K hK => ?_)
 refine value_ (w1 := ?_) (v := ?_) (by rfl) rfl ?_ ?_
 rotate_left 2
 ·go_simp
  constructor
  ·rfl
  ·rfl
 refine hK.out _ _ ⟨pw_cell_below (below_alloc (Below.refl _ _) _) (hHeld.1), pw_cell_below (below_alloc (Below.refl _ _) _) (hHeld.2.1), pw_cell_below (below_alloc (Below.refl _ _) _) (hHeld.2.2.1), pw_cell_below (below_alloc (Below.refl _ _) _) (hHeld.2.2.2.1), pw_cell_below (below_alloc (Below.refl _ _) _) (hHeld.2.2.2.2)⟩ (fun hHeld => ?_)
 clear hK K
 refine nP 4 ?_
 refine last_ (i := 11) (N := none) #[true, true, true, true, true, true, true, true, true, true, true, true] rfl rfl (by kernel_rfl) (by decide) (fun K hK => ?_)
 refine skip_ (w1 := ?_) (by rfl) rfl ?_ ?_
 rotate_left
 ·go_simp
  rfl
 refine hK.out _ _ ?_
 clear hK K
 refine done_ (by kernel_rfl) ?_
 clear y0 y1 z0 z1 z2 hHeld
 obtain ⟨g4, hg4⟩ : ∃ x_ : Nat, x_ = w2.heap.size := ⟨_, rfl⟩
 obtain ⟨w3, hw_⟩ : ∃ x_ : World, x_ = (w2.alloc (.cells #[.int .i64 2, .string tx, .int .i64 ap] 39)).drew := ⟨_, rfl⟩
 rw [← hw_, ← hg4]
 have HS3 := lh (show St w0 w w3 g ts at_ e by rw [hw_]; exact (HS2.out.below (below_alloc (Below.refl _ _) _)).drew)
 have J4 := lh (show w3.heap[g4]? = some (.cells #[.int .i64 2, .string tx, .int .i64 ap] 39 (0, 0)) by rw [hw_, hg4]; exact blk_drew (blk_new w2 _))
 have HNE := lh (show g4 ≠ g by have := HS2.out.is.lt; omega)
 clear hw_ hg4 HS2
 have ck0 : w3.cell? ⟨g4, 0, none⟩ = some (.int .i64 2) := (blk_cell J4.out 0).trans rfl
 have ck1 : w3.cell? ⟨g4, 1, none⟩ = some (.string tx) := (blk_cell J4.out 1).trans rfl
 have q2 : at_ ≤ 1000000 := H0.out.2.1
 have dz : decide ((tx.size : Int) ≤ 256) = false := decide_eq_false (by omega)
 clear hz
 go_wp2_with (go_at_call 69; (with_reducible refine (Nbt HS3.out.is HS3.out.bel H0.out.1 50).mono ?_); rintro en w8 ⟨rfl, hs⟩; have HS8 := lh (HS3.out.trans hs); clear hs)
 exact ⟨rfl, rfl, _, HS8.out⟩
theorem part_flt {k : Nat} (ih : Parts O ts e w0 k) (hG : GL w0) (pe : PEnv O ts) (hts : ts.length ≤ 100000) {w : World} {g : Nat} {at_ : Int} (hI : IsS72 w0 w g ts at_ e) (hB : Below w0.heap.size w0 w) (h0 : 0 ≤ at_) (h1 : at_ ≤ ts.length) {tx : ByteArray} (hm : markA ts at_ ≠ mB [40]) (he : at_ < ts.length) (hk : (tokA ts at_).f0 = 4) (htx : (tokA ts at_).f1 = tx) (hz : tx.size ≤ 100000) :
 Calls Tryz.prog 144 #[.pointer (some ⟨g, 0, none⟩)] w (Ans w0 w g ts e (.ok ([nVal (O.flt tx)], at_ + 1))) := by
 have HT := lh (Nbs (m := ⟨#[40]⟩) hI hB h0 (by omega) hm)
 have H0 := lh (show 0 ≤ at_ ∧ at_ ≤ 1000000 ∧ at_ < ts.length by omega)
 have be : (at_ == (ts.length : Int)) = false := by rw [beq_eq_false_iff_ne]; omega
 clear hI hB hm
 go_enter Tryz.func144, Tryz.ntmps144
 go_upto_region 5 with (go_at_call 143; (with_reducible refine (HT.out).mono ?_); rintro en w1 ⟨rfl, hs⟩; have HS := lh hs; clear hs HT)
 obtain ⟨A0, c0, hg, hge, hC⟩ := HS.out.is
 have k0 := Nbc hg
 have k1 := Nam hg
 obtain ⟨ad, ea, x0, x1, x2⟩ := at_T39 hC at_ H0.out.1 H0.out.2.2
 cases ea
 replace x0 := pw_cell_below HS.out.bel x0
 replace x1 := pw_cell_below HS.out.bel x1
 replace x2 := pw_cell_below HS.out.bel x2
 rw [show (rd_T39 ts at_).f0 = 4 from hk] at x0
 rw [show (rd_T39 ts at_).f1 = tx from htx] at x1
 obtain ⟨ap, hap⟩ : ∃ ap, (rd_T39 ts at_).f2 = ap := ⟨_, rfl⟩
 rw [hap] at x2
 have HTX := lh htx
 have HK := lh hk
 clear hg hge hC hap htx hk
 have q0 : 0 ≤ at_ := H0.out.1
 have q1 : at_ < (ts.length : Int) := H0.out.2.2
 go_quiet (fail)
 go_wp2_with (fail)
 obtain ⟨w2, hw_⟩ : ∃ x_ : World, x_ = w1.drewN nq := ⟨_, rfl⟩
 rw [← hw_]
 have HS2 := lh (show St w0 w w2 g ts at_ e by rw [hw_]; exact HS.out.drewN nq)
 have y0 : w2.cell? ⟨g, 0, none⟩ = some (.slice (some ad) ts.length c0) := by rw [hw_]; exact k0
 have y1 : w2.cell? ⟨g, 1, none⟩ = some (.int .i64 at_) := by rw [hw_]; exact k1
 have z0 : w2.cell? (ad.add (at_.toNat * 3)) = some (.int .i64 4) := by rw [hw_]; exact x0
 have z1 : w2.cell? ⟨(ad.add (at_.toNat * 3)).block, (ad.add (at_.toNat * 3)).off + 1, none⟩ = some (.string tx) := by rw [hw_]; exact x1
 have z2 : w2.cell? ⟨(ad.add (at_.toNat * 3)).block, (ad.add (at_.toNat * 3)).off + 2, none⟩ = some (.int .i64 ap) := by rw [hw_]; exact x2
 clear hw_ k0 k1 x0 x1 x2 HS
 refine start_ (n := 12) (S := fun w' => w'.cell? ⟨g, 0, none⟩ = some (.slice (some ad) ts.length c0) ∧ w'.cell? ⟨g, 1, none⟩ = some (.int .i64 at_) ∧ w'.cell? (ad.add (at_.toNat * 3)) = some (.int .i64 4) ∧ w'.cell? ⟨(ad.add (at_.toNat * 3)).block, (ad.add (at_.toNat * 3)).off + 1, none⟩ = some (.string tx) ∧ w'.cell? ⟨(ad.add (at_.toNat * 3)).block, (ad.add (at_.toNat * 3)).off + 2, none⟩ = some (.int .i64 ap)) (ds := [11]) #[false, false, false, false, false, false, false, false, false, false, false, false] (by kernel_rfl) rfl rfl ⟨y0, y1, z0, z1, z2⟩ (fun hHeld => ?_)
 refine pP 0 26 ?_
 refine pP 1 27 ?_
 refine pP 2 28 ?_
 refine pP 4 30 ?_
 refine pP 5 31 ?_
 refine pP 6 32 ?_
 refine tP 3 29 hHeld ?_
 refine tP 7 33 hHeld ?_
 refine pP 8 34 ?_
 refine tP 9 35 hHeld ?_
 refine one_ (i := 10) (N := some 4) #[true, true, true, true, true, true, true, true, true, true, true, false] rfl rfl (by kernel_rfl) (by decide) (fun K hK => ?_)
 refine value_ (w1 := ?_) (v := ?_) (by rfl) rfl ?_ ?_
 rotate_left 2
 ·go_simp
  constructor
  ·rfl
  ·rfl
 refine hK.out _ _ ⟨pw_cell_below (below_alloc (Below.refl _ _) _) (hHeld.1), pw_cell_below (below_alloc (Below.refl _ _) _) (hHeld.2.1), pw_cell_below (below_alloc (Below.refl _ _) _) (hHeld.2.2.1), pw_cell_below (below_alloc (Below.refl _ _) _) (hHeld.2.2.2.1), pw_cell_below (below_alloc (Below.refl _ _) _) (hHeld.2.2.2.2)⟩ (fun hHeld => ?_)
 clear hK K
 refine nP 4 ?_
 refine last_ (i := 11) (N := none) #[true, true, true, true, true, true, true, true, true, true, true, true] rfl rfl (by kernel_rfl) (by decide) (fun K hK => ?_)
 refine skip_ (w1 := ?_) (by rfl) rfl ?_ ?_
 rotate_left
 ·go_simp
  rfl
 refine hK.out _ _ ?_
 clear hK K
 refine done_ (by kernel_rfl) ?_
 clear y0 y1 z0 z1 z2 hHeld
 obtain ⟨g4, hg4⟩ : ∃ x_ : Nat, x_ = w2.heap.size := ⟨_, rfl⟩
 obtain ⟨w3, hw_⟩ : ∃ x_ : World, x_ = (w2.alloc (.cells #[.int .i64 4, .string tx, .int .i64 ap] 39)).drew := ⟨_, rfl⟩
 rw [← hw_, ← hg4]
 have HS3 := lh (show St w0 w w3 g ts at_ e by rw [hw_]; exact (HS2.out.below (below_alloc (Below.refl _ _) _)).drew)
 have J4 := lh (show w3.heap[g4]? = some (.cells #[.int .i64 4, .string tx, .int .i64 ap] 39 (0, 0)) by rw [hw_, hg4]; exact blk_drew (blk_new w2 _))
 have HNE := lh (show g4 ≠ g by have := HS2.out.is.lt; omega)
 clear hw_ hg4 HS2
 have ck0 : w3.cell? ⟨g4, 0, none⟩ = some (.int .i64 4) := (blk_cell J4.out 0).trans rfl
 have ck1 : w3.cell? ⟨g4, 1, none⟩ = some (.string tx) := (blk_cell J4.out 1).trans rfl
 have q2 : at_ ≤ 1000000 := H0.out.2.1
 have HP := lh (fun w h => pe.flt at_ tx HK.out HTX.out w h)
 clear hz
 go_upto_region 21 with (fail)
 obtain ⟨A9, c9, hg, hge, -⟩ := HS3.out.is
 have k1 := Nam hg
 have f1 := blk_frozen hg 1
 clear hg hge
 go_upto_region 22 with (fail)
 obtain ⟨w4, hw_⟩ : ∃ x_ : World, x_ = w3.setCell ⟨g, 1, none⟩ (.int .i64 (at_ + 1)) := ⟨_, rfl⟩
 rw [← hw_]
 have HS4 := lh (show St w0 w w4 g ts (at_ + 1) e by rw [hw_]; exact HS3.out.set (at_ + 1))
 have J5 := lh (show w4.heap[g4]? = some (.cells #[.int .i64 4, .string tx, .int .i64 ap] 39 (0, 0)) by rw [hw_]; exact blk_far J4.out HNE.out _)
 clear hw_ k1 f1 HS3 J4
 have ck3 : w4.cell? ⟨g4, 1, none⟩ = some (.string tx) := (blk_cell J5.out 1).trans rfl
 go_wp2_with (first
  | (go_at_call 147; (with_reducible refine (HP.out _ (hG.below HS4.out.bel)).mono ?_); rintro en w5 ⟨rfl, hb⟩; have HS5 := lh (HS4.out.below hb); clear hb)
  | (go_at_call 180; (with_reducible refine (lit_any _ _).mono ?_); rintro en w9 ⟨v9, rfl, hr, hb⟩; have HR9 := lh (Kd.R_lower hr HS5.out.size); have HS9 := lh (HS5.out.below hb); clear hr hb))
 go_ret
 exact ⟨_, rfl, HR9.out, HS9.out⟩
theorem part_else {k : Nat} (ih : Parts O ts e w0 k) (hG : GL w0) (pe : PEnv O ts) (hts : ts.length ≤ 100000) {w : World} {g : Nat} {at_ : Int} (hI : IsS72 w0 w g ts at_ e) (hB : Below w0.heap.size w0 w) (h0 : 0 ≤ at_) (h1 : at_ ≤ ts.length) {kd : Int} {tx : ByteArray} (hm : markA ts at_ ≠ mB [40]) (he : at_ < ts.length) (hk : (tokA ts at_).f0 = kd) (htx : (tokA ts at_).f1 = tx) (h1k : kd ≠ 3) (h2k : kd ≠ 1) (h3k : kd ≠ 2) (h4k : kd ≠ 4) :
 Calls Tryz.prog 144 #[.pointer (some ⟨g, 0, none⟩)] w (Ans w0 w g ts e (.error (50, failAt ts e at_))) := by
 have HT := lh (Nbs (m := ⟨#[40]⟩) hI hB h0 (by omega) hm)
 have H0 := lh (show 0 ≤ at_ ∧ at_ ≤ 1000000 ∧ at_ < ts.length by omega)
 have be : (at_ == (ts.length : Int)) = false := by rw [beq_eq_false_iff_ne]; omega
 clear hI hB hm
 go_enter Tryz.func144, Tryz.ntmps144
 go_upto_region 5 with (go_at_call 143; (with_reducible refine (HT.out).mono ?_); rintro en w1 ⟨rfl, hs⟩; have HS := lh hs; clear hs HT)
 obtain ⟨A0, c0, hg, hge, hC⟩ := HS.out.is
 have k0 := Nbc hg
 have k1 := Nam hg
 obtain ⟨ad, ea, x0, x1, x2⟩ := at_T39 hC at_ H0.out.1 H0.out.2.2
 cases ea
 replace x0 := pw_cell_below HS.out.bel x0
 replace x1 := pw_cell_below HS.out.bel x1
 replace x2 := pw_cell_below HS.out.bel x2
 rw [show (rd_T39 ts at_).f0 = kd from hk] at x0
 rw [show (rd_T39 ts at_).f1 = tx from htx] at x1
 obtain ⟨ap, hap⟩ : ∃ ap, (rd_T39 ts at_).f2 = ap := ⟨_, rfl⟩
 rw [hap] at x2
 have HTX := lh htx
 have HK := lh hk
 clear hg hge hC hap htx hk
 have q0 : 0 ≤ at_ := H0.out.1
 have q1 : at_ < (ts.length : Int) := H0.out.2.2
 go_quiet (fail)
 go_wp2_with (fail)
 obtain ⟨w2, hw_⟩ : ∃ x_ : World, x_ = w1.drewN nq := ⟨_, rfl⟩
 rw [← hw_]
 have HS2 := lh (show St w0 w w2 g ts at_ e by rw [hw_]; exact HS.out.drewN nq)
 have y0 : w2.cell? ⟨g, 0, none⟩ = some (.slice (some ad) ts.length c0) := by rw [hw_]; exact k0
 have y1 : w2.cell? ⟨g, 1, none⟩ = some (.int .i64 at_) := by rw [hw_]; exact k1
 have z0 : w2.cell? (ad.add (at_.toNat * 3)) = some (.int .i64 kd) := by rw [hw_]; exact x0
 have z1 : w2.cell? ⟨(ad.add (at_.toNat * 3)).block, (ad.add (at_.toNat * 3)).off + 1, none⟩ = some (.string tx) := by rw [hw_]; exact x1
 have z2 : w2.cell? ⟨(ad.add (at_.toNat * 3)).block, (ad.add (at_.toNat * 3)).off + 2, none⟩ = some (.int .i64 ap) := by rw [hw_]; exact x2
 clear hw_ k0 k1 x0 x1 x2 HS
 refine start_ (n := 12) (S := fun w' => w'.cell? ⟨g, 0, none⟩ = some (.slice (some ad) ts.length c0) ∧ w'.cell? ⟨g, 1, none⟩ = some (.int .i64 at_) ∧ w'.cell? (ad.add (at_.toNat * 3)) = some (.int .i64 kd) ∧ w'.cell? ⟨(ad.add (at_.toNat * 3)).block, (ad.add (at_.toNat * 3)).off + 1, none⟩ = some (.string tx) ∧ w'.cell? ⟨(ad.add (at_.toNat * 3)).block, (ad.add (at_.toNat * 3)).off + 2, none⟩ = some (.int .i64 ap)) (ds := [11]) #[false, false, false, false, false, false, false, false, false, false, false, false] (by kernel_rfl) rfl rfl ⟨y0, y1, z0, z1, z2⟩ (fun hHeld => ?_)
 refine pP 0 26 ?_
 refine pP 1 27 ?_
 refine pP 2 28 ?_
 refine pP 4 30 ?_
 refine pP 5 31 ?_
 refine pP 6 32 ?_
 refine tP 3 29 hHeld ?_
 refine tP 7 33 hHeld ?_
 refine pP 8 34 ?_
 refine tP 9 35 hHeld ?_
 refine one_ (i := 10) (N := some 4) #[true, true, true, true, true, true, true, true, true, true, true, false] rfl rfl (by kernel_rfl) (by decide) (fun K hK => ?_)
 refine value_ (w1 := ?_) (v := ?_) (by rfl) rfl ?_ ?_
 rotate_left 2
 ·go_simp
  constructor
  ·rfl
  ·rfl
 refine hK.out _ _ ⟨pw_cell_below (below_alloc (Below.refl _ _) _) (hHeld.1), pw_cell_below (below_alloc (Below.refl _ _) _) (hHeld.2.1), pw_cell_below (below_alloc (Below.refl _ _) _) (hHeld.2.2.1), pw_cell_below (below_alloc (Below.refl _ _) _) (hHeld.2.2.2.1), pw_cell_below (below_alloc (Below.refl _ _) _) (hHeld.2.2.2.2)⟩ (fun hHeld => ?_)
 clear hK K
 refine nP 4 ?_
 refine last_ (i := 11) (N := none) #[true, true, true, true, true, true, true, true, true, true, true, true] rfl rfl (by kernel_rfl) (by decide) (fun K hK => ?_)
 refine skip_ (w1 := ?_) (by rfl) rfl ?_ ?_
 rotate_left
 ·go_simp
  rfl
 refine hK.out _ _ ?_
 clear hK K
 refine done_ (by kernel_rfl) ?_
 clear y0 y1 z0 z1 z2 hHeld
 obtain ⟨g4, hg4⟩ : ∃ x_ : Nat, x_ = w2.heap.size := ⟨_, rfl⟩
 obtain ⟨w3, hw_⟩ : ∃ x_ : World, x_ = (w2.alloc (.cells #[.int .i64 kd, .string tx, .int .i64 ap] 39)).drew := ⟨_, rfl⟩
 rw [← hw_, ← hg4]
 have HS3 := lh (show St w0 w w3 g ts at_ e by rw [hw_]; exact (HS2.out.below (below_alloc (Below.refl _ _) _)).drew)
 have J4 := lh (show w3.heap[g4]? = some (.cells #[.int .i64 kd, .string tx, .int .i64 ap] 39 (0, 0)) by rw [hw_, hg4]; exact blk_drew (blk_new w2 _))
 have HNE := lh (show g4 ≠ g by have := HS2.out.is.lt; omega)
 clear hw_ hg4 HS2
 have ck0 : w3.cell? ⟨g4, 0, none⟩ = some (.int .i64 kd) := (blk_cell J4.out 0).trans rfl
 have ck1 : w3.cell? ⟨g4, 1, none⟩ = some (.string tx) := (blk_cell J4.out 1).trans rfl
 have q2 : at_ ≤ 1000000 := H0.out.2.1
 have d1 : (kd == 3) = false := beq_eq_false_iff_ne.mpr h1k
 have d2 : (kd == 1) = false := beq_eq_false_iff_ne.mpr h2k
 have d3 : (kd == 2) = false := beq_eq_false_iff_ne.mpr h3k
 have d4 : (kd == 4) = false := beq_eq_false_iff_ne.mpr h4k
 clear h1k h2k h3k h4k
 go_wp2_with (go_at_call 69; (with_reducible refine (Nbt HS3.out.is HS3.out.bel H0.out.1 50).mono ?_); rintro en w8 ⟨rfl, hs⟩; have HS8 := lh (HS3.out.trans hs); clear hs)
 exact ⟨rfl, rfl, _, HS8.out⟩
theorem part_num {k : Nat} (ih : Parts O ts e w0 k) (hG : GL w0) (pe : PEnv O ts) (hts : ts.length ≤ 100000) {w : World} {g : Nat} {at_ : Int} (hI : IsS72 w0 w g ts at_ e) (hB : Below w0.heap.size w0 w) (h0 : 0 ≤ at_) (h1 : at_ ≤ ts.length) {tx : ByteArray} (hm : markA ts at_ ≠ mB [40]) (he : at_ < ts.length) (hk : (tokA ts at_).f0 = 1) (htx : (tokA ts at_).f1 = tx) {v : S46} (hz : tx.size ≤ 100000) (hv : O.num tx = some v) :
 Calls Tryz.prog 144 #[.pointer (some ⟨g, 0, none⟩)] w (Ans w0 w g ts e (.ok ([nVal v], at_ + 1))) := by
 have HT := lh (Nbs (m := ⟨#[40]⟩) hI hB h0 (by omega) hm)
 have H0 := lh (show 0 ≤ at_ ∧ at_ ≤ 1000000 ∧ at_ < ts.length by omega)
 have be : (at_ == (ts.length : Int)) = false := by rw [beq_eq_false_iff_ne]; omega
 clear hI hB hm
 go_enter Tryz.func144, Tryz.ntmps144
 go_upto_region 5 with (go_at_call 143; (with_reducible refine (HT.out).mono ?_); rintro en w1 ⟨rfl, hs⟩; have HS := lh hs; clear hs HT)
 obtain ⟨A0, c0, hg, hge, hC⟩ := HS.out.is
 have k0 := Nbc hg
 have k1 := Nam hg
 obtain ⟨ad, ea, x0, x1, x2⟩ := at_T39 hC at_ H0.out.1 H0.out.2.2
 cases ea
 replace x0 := pw_cell_below HS.out.bel x0
 replace x1 := pw_cell_below HS.out.bel x1
 replace x2 := pw_cell_below HS.out.bel x2
 rw [show (rd_T39 ts at_).f0 = 1 from hk] at x0
 rw [show (rd_T39 ts at_).f1 = tx from htx] at x1
 obtain ⟨ap, hap⟩ : ∃ ap, (rd_T39 ts at_).f2 = ap := ⟨_, rfl⟩
 rw [hap] at x2
 have HTX := lh htx
 have HK := lh hk
 clear hg hge hC hap htx hk
 have q0 : 0 ≤ at_ := H0.out.1
 have q1 : at_ < (ts.length : Int) := H0.out.2.2
 go_quiet (fail)
 go_wp2_with (fail)
 obtain ⟨w2, hw_⟩ : ∃ x_ : World, x_ = w1.drewN nq := ⟨_, rfl⟩
 rw [← hw_]
 have HS2 := lh (show St w0 w w2 g ts at_ e by rw [hw_]; exact HS.out.drewN nq)
 have y0 : w2.cell? ⟨g, 0, none⟩ = some (.slice (some ad) ts.length c0) := by rw [hw_]; exact k0
 have y1 : w2.cell? ⟨g, 1, none⟩ = some (.int .i64 at_) := by rw [hw_]; exact k1
 have z0 : w2.cell? (ad.add (at_.toNat * 3)) = some (.int .i64 1) := by rw [hw_]; exact x0
 have z1 : w2.cell? ⟨(ad.add (at_.toNat * 3)).block, (ad.add (at_.toNat * 3)).off + 1, none⟩ = some (.string tx) := by rw [hw_]; exact x1
 have z2 : w2.cell? ⟨(ad.add (at_.toNat * 3)).block, (ad.add (at_.toNat * 3)).off + 2, none⟩ = some (.int .i64 ap) := by rw [hw_]; exact x2
 clear hw_ k0 k1 x0 x1 x2 HS
 refine start_ (n := 12) (S := fun w' => w'.cell? ⟨g, 0, none⟩ = some (.slice (some ad) ts.length c0) ∧ w'.cell? ⟨g, 1, none⟩ = some (.int .i64 at_) ∧ w'.cell? (ad.add (at_.toNat * 3)) = some (.int .i64 1) ∧ w'.cell? ⟨(ad.add (at_.toNat * 3)).block, (ad.add (at_.toNat * 3)).off + 1, none⟩ = some (.string tx) ∧ w'.cell? ⟨(ad.add (at_.toNat * 3)).block, (ad.add (at_.toNat * 3)).off + 2, none⟩ = some (.int .i64 ap)) (ds := [11]) #[false, false, false, false, false, false, false, false, false, false, false, false] (by kernel_rfl) rfl rfl ⟨y0, y1, z0, z1, z2⟩ (fun hHeld => ?_)
 refine pP 0 26 ?_
 refine pP 1 27 ?_
 refine pP 2 28 ?_
 refine pP 4 30 ?_
 refine pP 5 31 ?_
 refine pP 6 32 ?_
 refine tP 3 29 hHeld ?_
 refine tP 7 33 hHeld ?_
 refine pP 8 34 ?_
 refine tP 9 35 hHeld ?_
 refine one_ (i := 10) (N := some 4) #[true, true, true, true, true, true, true, true, true, true, true, false] rfl rfl (by kernel_rfl) (by decide) (fun K hK => ?_)
 refine value_ (w1 := ?_) (v := ?_) (by rfl) rfl ?_ ?_
 rotate_left 2
 ·go_simp
  constructor
  ·rfl
  ·rfl
 refine hK.out _ _ ⟨pw_cell_below (below_alloc (Below.refl _ _) _) (hHeld.1), pw_cell_below (below_alloc (Below.refl _ _) _) (hHeld.2.1), pw_cell_below (below_alloc (Below.refl _ _) _) (hHeld.2.2.1), pw_cell_below (below_alloc (Below.refl _ _) _) (hHeld.2.2.2.1), pw_cell_below (below_alloc (Below.refl _ _) _) (hHeld.2.2.2.2)⟩ (fun hHeld => ?_)
 clear hK K
 refine nP 4 ?_
 refine last_ (i := 11) (N := none) #[true, true, true, true, true, true, true, true, true, true, true, true] rfl rfl (by kernel_rfl) (by decide) (fun K hK => ?_)
 refine skip_ (w1 := ?_) (by rfl) rfl ?_ ?_
 rotate_left
 ·go_simp
  rfl
 refine hK.out _ _ ?_
 clear hK K
 refine done_ (by kernel_rfl) ?_
 clear y0 y1 z0 z1 z2 hHeld
 obtain ⟨g4, hg4⟩ : ∃ x_ : Nat, x_ = w2.heap.size := ⟨_, rfl⟩
 obtain ⟨w3, hw_⟩ : ∃ x_ : World, x_ = (w2.alloc (.cells #[.int .i64 1, .string tx, .int .i64 ap] 39)).drew := ⟨_, rfl⟩
 rw [← hw_, ← hg4]
 have HS3 := lh (show St w0 w w3 g ts at_ e by rw [hw_]; exact (HS2.out.below (below_alloc (Below.refl _ _) _)).drew)
 have J4 := lh (show w3.heap[g4]? = some (.cells #[.int .i64 1, .string tx, .int .i64 ap] 39 (0, 0)) by rw [hw_, hg4]; exact blk_drew (blk_new w2 _))
 have HNE := lh (show g4 ≠ g by have := HS2.out.is.lt; omega)
 clear hw_ hg4 HS2
 have ck0 : w3.cell? ⟨g4, 0, none⟩ = some (.int .i64 1) := (blk_cell J4.out 0).trans rfl
 have ck1 : w3.cell? ⟨g4, 1, none⟩ = some (.string tx) := (blk_cell J4.out 1).trans rfl
 have q2 : at_ ≤ 1000000 := H0.out.2.1
 have HP := lh (fun w h => pe.num at_ tx HK.out HTX.out w h)
 clear hz
 simp only [hv, Option.isSome_some] at HP
 go_upto_region 13 with (go_at_call 179; (with_reducible refine (HP.out _ (hG.below HS3.out.bel)).mono ?_); rintro en w4 ⟨n, d, rfl, hb, hn⟩; have HS4 := lh (HS3.out.below hb); have HN := lh hn; clear hb hn)
 obtain ⟨g5, hg5⟩ : ∃ x_ : Nat, x_ = w4.heap.size := ⟨_, rfl⟩
 obtain ⟨w5, hw_⟩ : ∃ x_ : World, x_ = w4.alloc (.cells #[.int .i64 n, .int .i64 d] 44) := ⟨_, rfl⟩
 rw [← hw_, ← hg5]
 have HS5 := lh (show St w0 w w5 g ts at_ e by rw [hw_]; exact HS4.out.below (below_alloc (Below.refl _ _) _))
 have J5 := lh (show w5.heap[g5]? = some (.cells #[.int .i64 n, .int .i64 d] 44 (0, 0)) by rw [hw_, hg5]; exact blk_new w4 _)
 have HNE5 := lh (show g5 ≠ g by have := HS4.out.is.lt; omega)
 clear hw_ hg5 HS4 HP ck0 ck1 J4 HS3
 have HN2 := lh (fun w2 => HN.out v rfl w2)
 clear HN hv
 go_upto_region 14 with (fail)
 obtain ⟨A9, c9, hg, hge, -⟩ := HS5.out.is
 have k1 := Nam hg
 have f1 := blk_frozen hg 1
 clear hg hge
 go_upto_region 15 with (fail)
 obtain ⟨w6, hw_⟩ : ∃ x_ : World, x_ = w5.setCell ⟨g, 1, none⟩ (.int .i64 (at_ + 1)) := ⟨_, rfl⟩
 rw [← hw_]
 have HS6 := lh (show St w0 w w6 g ts (at_ + 1) e by rw [hw_]; exact HS5.out.set (at_ + 1))
 have J6 := lh (show w6.heap[g5]? = some (.cells #[.int .i64 n, .int .i64 d] 44 (0, 0)) by rw [hw_]; exact blk_far J5.out HNE5.out _)
 clear hw_ k1 f1 HS5 J5
 have cn0 : w6.cell? ⟨g5, 0, none⟩ = some (.int .i64 n) := (blk_cell J6.out 0).trans rfl
 have cn1 : w6.cell? ⟨g5, 1, none⟩ = some (.int .i64 d) := (blk_cell J6.out 1).trans rfl
 go_wp2_with (first
  | (go_at_call 181; (with_reducible refine (HN2.out _).mono ?_); rintro en w7 ⟨rfl, hb⟩; have HS7 := lh (HS6.out.below hb); clear hb)
  | (go_at_call 180; (with_reducible refine (lit_any _ _).mono ?_); rintro en w9 ⟨v9, rfl, hr, hb⟩; have HR9 := lh (Kd.R_lower hr HS7.out.size); have HS9 := lh (HS7.out.below hb); clear hr hb))
 go_ret
 exact ⟨_, rfl, HR9.out, HS9.out⟩
theorem part_numno {k : Nat} (ih : Parts O ts e w0 k) (hG : GL w0) (pe : PEnv O ts) (hts : ts.length ≤ 100000) {w : World} {g : Nat} {at_ : Int} (hI : IsS72 w0 w g ts at_ e) (hB : Below w0.heap.size w0 w) (h0 : 0 ≤ at_) (h1 : at_ ≤ ts.length) {tx : ByteArray} (hm : markA ts at_ ≠ mB [40]) (he : at_ < ts.length) (hk : (tokA ts at_).f0 = 1) (htx : (tokA ts at_).f1 = tx) (hz : tx.size ≤ 100000) (hv : O.num tx = none) :
 Calls Tryz.prog 144 #[.pointer (some ⟨g, 0, none⟩)] w (Ans w0 w g ts e (.error (50, failAt ts e at_))) := by
 have HT := lh (Nbs (m := ⟨#[40]⟩) hI hB h0 (by omega) hm)
 have H0 := lh (show 0 ≤ at_ ∧ at_ ≤ 1000000 ∧ at_ < ts.length by omega)
 have be : (at_ == (ts.length : Int)) = false := by rw [beq_eq_false_iff_ne]; omega
 clear hI hB hm
 go_enter Tryz.func144, Tryz.ntmps144
 go_upto_region 5 with (go_at_call 143; (with_reducible refine (HT.out).mono ?_); rintro en w1 ⟨rfl, hs⟩; have HS := lh hs; clear hs HT)
 obtain ⟨A0, c0, hg, hge, hC⟩ := HS.out.is
 have k0 := Nbc hg
 have k1 := Nam hg
 obtain ⟨ad, ea, x0, x1, x2⟩ := at_T39 hC at_ H0.out.1 H0.out.2.2
 cases ea
 replace x0 := pw_cell_below HS.out.bel x0
 replace x1 := pw_cell_below HS.out.bel x1
 replace x2 := pw_cell_below HS.out.bel x2
 rw [show (rd_T39 ts at_).f0 = 1 from hk] at x0
 rw [show (rd_T39 ts at_).f1 = tx from htx] at x1
 obtain ⟨ap, hap⟩ : ∃ ap, (rd_T39 ts at_).f2 = ap := ⟨_, rfl⟩
 rw [hap] at x2
 have HTX := lh htx
 have HK := lh hk
 clear hg hge hC hap htx hk
 have q0 : 0 ≤ at_ := H0.out.1
 have q1 : at_ < (ts.length : Int) := H0.out.2.2
 go_quiet (fail)
 go_wp2_with (fail)
 obtain ⟨w2, hw_⟩ : ∃ x_ : World, x_ = w1.drewN nq := ⟨_, rfl⟩
 rw [← hw_]
 have HS2 := lh (show St w0 w w2 g ts at_ e by rw [hw_]; exact HS.out.drewN nq)
 have y0 : w2.cell? ⟨g, 0, none⟩ = some (.slice (some ad) ts.length c0) := by rw [hw_]; exact k0
 have y1 : w2.cell? ⟨g, 1, none⟩ = some (.int .i64 at_) := by rw [hw_]; exact k1
 have z0 : w2.cell? (ad.add (at_.toNat * 3)) = some (.int .i64 1) := by rw [hw_]; exact x0
 have z1 : w2.cell? ⟨(ad.add (at_.toNat * 3)).block, (ad.add (at_.toNat * 3)).off + 1, none⟩ = some (.string tx) := by rw [hw_]; exact x1
 have z2 : w2.cell? ⟨(ad.add (at_.toNat * 3)).block, (ad.add (at_.toNat * 3)).off + 2, none⟩ = some (.int .i64 ap) := by rw [hw_]; exact x2
 clear hw_ k0 k1 x0 x1 x2 HS
 refine start_ (n := 12) (S := fun w' => w'.cell? ⟨g, 0, none⟩ = some (.slice (some ad) ts.length c0) ∧ w'.cell? ⟨g, 1, none⟩ = some (.int .i64 at_) ∧ w'.cell? (ad.add (at_.toNat * 3)) = some (.int .i64 1) ∧ w'.cell? ⟨(ad.add (at_.toNat * 3)).block, (ad.add (at_.toNat * 3)).off + 1, none⟩ = some (.string tx) ∧ w'.cell? ⟨(ad.add (at_.toNat * 3)).block, (ad.add (at_.toNat * 3)).off + 2, none⟩ = some (.int .i64 ap)) (ds := [11]) #[false, false, false, false, false, false, false, false, false, false, false, false] (by kernel_rfl) rfl rfl ⟨y0, y1, z0, z1, z2⟩ (fun hHeld => ?_)
 refine pP 0 26 ?_
 refine pP 1 27 ?_
 refine pP 2 28 ?_
 refine pP 4 30 ?_
 refine pP 5 31 ?_
 refine pP 6 32 ?_
 refine tP 3 29 hHeld ?_
 refine tP 7 33 hHeld ?_
 refine pP 8 34 ?_
 refine tP 9 35 hHeld ?_
 refine one_ (i := 10) (N := some 4) #[true, true, true, true, true, true, true, true, true, true, true, false] rfl rfl (by kernel_rfl) (by decide) (fun K hK => ?_)
 refine value_ (w1 := ?_) (v := ?_) (by rfl) rfl ?_ ?_
 rotate_left 2
 ·go_simp
  constructor
  ·rfl
  ·rfl
 refine hK.out _ _ ⟨pw_cell_below (below_alloc (Below.refl _ _) _) (hHeld.1), pw_cell_below (below_alloc (Below.refl _ _) _) (hHeld.2.1), pw_cell_below (below_alloc (Below.refl _ _) _) (hHeld.2.2.1), pw_cell_below (below_alloc (Below.refl _ _) _) (hHeld.2.2.2.1), pw_cell_below (below_alloc (Below.refl _ _) _) (hHeld.2.2.2.2)⟩ (fun hHeld => ?_)
 clear hK K
 refine nP 4 ?_
 refine last_ (i := 11) (N := none) #[true, true, true, true, true, true, true, true, true, true, true, true] rfl rfl (by kernel_rfl) (by decide) (fun K hK => ?_)
 refine skip_ (w1 := ?_) (by rfl) rfl ?_ ?_
 rotate_left
 ·go_simp
  rfl
 refine hK.out _ _ ?_
 clear hK K
 refine done_ (by kernel_rfl) ?_
 clear y0 y1 z0 z1 z2 hHeld
 obtain ⟨g4, hg4⟩ : ∃ x_ : Nat, x_ = w2.heap.size := ⟨_, rfl⟩
 obtain ⟨w3, hw_⟩ : ∃ x_ : World, x_ = (w2.alloc (.cells #[.int .i64 1, .string tx, .int .i64 ap] 39)).drew := ⟨_, rfl⟩
 rw [← hw_, ← hg4]
 have HS3 := lh (show St w0 w w3 g ts at_ e by rw [hw_]; exact (HS2.out.below (below_alloc (Below.refl _ _) _)).drew)
 have J4 := lh (show w3.heap[g4]? = some (.cells #[.int .i64 1, .string tx, .int .i64 ap] 39 (0, 0)) by rw [hw_, hg4]; exact blk_drew (blk_new w2 _))
 have HNE := lh (show g4 ≠ g by have := HS2.out.is.lt; omega)
 clear hw_ hg4 HS2
 have ck0 : w3.cell? ⟨g4, 0, none⟩ = some (.int .i64 1) := (blk_cell J4.out 0).trans rfl
 have ck1 : w3.cell? ⟨g4, 1, none⟩ = some (.string tx) := (blk_cell J4.out 1).trans rfl
 have q2 : at_ ≤ 1000000 := H0.out.2.1
 have HP := lh (fun w h => pe.num at_ tx HK.out HTX.out w h)
 clear hz
 simp only [hv, Option.isSome_none] at HP
 go_upto_region 13 with (go_at_call 179; (with_reducible refine (HP.out _ (hG.below HS3.out.bel)).mono ?_); rintro en w4 ⟨n, d, rfl, hb, hn⟩; have HS4 := lh (HS3.out.below hb); have HN := lh hn; clear hb hn)
 obtain ⟨g5, hg5⟩ : ∃ x_ : Nat, x_ = w4.heap.size := ⟨_, rfl⟩
 obtain ⟨w5, hw_⟩ : ∃ x_ : World, x_ = w4.alloc (.cells #[.int .i64 n, .int .i64 d] 44) := ⟨_, rfl⟩
 rw [← hw_, ← hg5]
 have HS5 := lh (show St w0 w w5 g ts at_ e by rw [hw_]; exact HS4.out.below (below_alloc (Below.refl _ _) _))
 have J5 := lh (show w5.heap[g5]? = some (.cells #[.int .i64 n, .int .i64 d] 44 (0, 0)) by rw [hw_, hg5]; exact blk_new w4 _)
 have HNE5 := lh (show g5 ≠ g by have := HS4.out.is.lt; omega)
 clear hw_ hg5 HS4 HP ck0 ck1 J4 HS3
 clear HN hv
 go_wp2_with (go_at_call 69; (with_reducible refine (Nbt HS5.out.is HS5.out.bel H0.out.1 50).mono ?_); rintro en w8 ⟨rfl, hs⟩; have HS8 := lh (HS5.out.trans hs); clear hs)
 exact ⟨rfl, rfl, _, HS8.out⟩
theorem part_any {k : Nat} (ih : Parts O ts e w0 k) (hG : GL w0) (pe : PEnv O ts) (hts : ts.length ≤ 100000) (w : World) (g : Nat) (at_ : Int) (x) (hI : IsS72 w0 w g ts at_ e) (hB : Below w0.heap.size w0 w) (h0 : 0 ≤ at_) (h1 : at_ ≤ ts.length) (h : parF O ts e (k + 1) at_ = some x) :
 Calls Tryz.prog 144 #[.pointer (some ⟨g, 0, none⟩)] w (Ans w0 w g ts e x) := by
 rw [parF] at h
 by_cases hm : markA ts at_ = mB [40]
 ·rw [if_pos hm] at h
  cases hx : binF O ts e k 1 (at_ + 1) with
  | none => rw [hx] at h; cases h
  | some y => rw [hx] at h; exact part_open ih hG pe hts hI hB h0 h1 hm hx h
 rw [if_neg hm] at h
 by_cases he : at_ < ts.length
 ·rw [if_pos he] at h
  have hz := pe.size at_
  by_cases h3 : (tokA ts at_).f0 = 3
  ·rw [if_pos h3] at h
   exact part_word ih hG pe hts hI hB h0 h1 hm he h3 rfl h
  rw [if_neg h3] at h
  by_cases h4 : (tokA ts at_).f0 = 1
  ·rw [if_pos h4] at h
   cases hv : O.num (tokA ts at_).f1 with
   | none => rw [hv] at h; obtain rfl := Option.some.inj h; exact part_numno ih hG pe hts hI hB h0 h1 hm he h4 rfl hz hv
   | some v => rw [hv] at h; obtain rfl := Option.some.inj h; exact part_num ih hG pe hts hI hB h0 h1 hm he h4 rfl hz hv
  rw [if_neg h4] at h
  by_cases h5 : (tokA ts at_).f0 = 2
  ·rw [if_pos h5] at h
   by_cases h6 : (tokA ts at_).f1.size ≤ 256
   ·rw [if_pos h6] at h; obtain rfl := Option.some.inj h; exact part_txt ih hG pe hts hI hB h0 h1 hm he h5 rfl h6
   ·rw [if_neg h6] at h; obtain rfl := Option.some.inj h; exact part_txtno ih hG pe hts hI hB h0 h1 hm he h5 rfl h6
  rw [if_neg h5] at h
  by_cases h7 : (tokA ts at_).f0 = 4
  ·rw [if_pos h7] at h; obtain rfl := Option.some.inj h; exact part_flt ih hG pe hts hI hB h0 h1 hm he h7 rfl hz
  ·rw [if_neg h7] at h; obtain rfl := Option.some.inj h; exact part_else ih hG pe hts hI hB h0 h1 hm he rfl rfl h3 h4 h5 h7
 ·rw [if_neg he] at h
  obtain rfl := Option.some.inj h
  exact part_end ih hG pe hts hI hB h0 h1 hm he
end
end
def Nai.f (a0 : Int) : Option (ByteArray) := if -9223372036854775808 ≤ a0 ∧ a0 ≤ 9223372036854775807 then some ⟨(Lib.itoa a0).toArray⟩ else none
theorem Nai.calls (a0 : Int) (r : ByteArray) (w : World) (hG : GL w) (h : Nai.f a0 = some r) :
 Calls Tryz.prog 150 #[.int .i64 a0] w fun e w' => e = .returned (.string r) ∧ Below w.heap.size w w' := by
 unfold Nai.f at h
 split at h
 ·rename_i hb
  obtain rfl := Option.some.inj h
  exact itoa_any a0 w hb.1 hb.2 (.inr hG)
 ·cases h
def place_Read_g.f (a0 : ByteArray) : Option (Int × Int × Bool) := if a0.size ≤ 140737488351232 then some (readF a0) else none
theorem place_Read_g.calls (a0 : ByteArray) (r1 : Int) (r2 : Int) (r3 : Bool) (w : World) (hG : GL w) (h : place_Read_g.f a0 = some (r1, r2, r3)) :
 Calls Tryz.prog 221 #[.string a0] w fun e w' => e = .returned (.tuple #[.int .i64 r1, .int .i64 r2, .bool r3]) ∧ Below w.heap.size w w' := by
 unfold place_Read_g.f at h
 split at h
 ·rename_i hb
  have e := Option.some.inj h
  refine (read_any a0 w hb (.inr hG)).mono fun e w' hp => ?_
  obtain ⟨he, hw⟩ := hp
  rw [‹readF a0 = _›] at he
  exact ⟨he, hw⟩
 ·cases h
def strings_IndexByte.f (a0 : ByteArray) (a1 : Int) : Option (Int) := some (Lib.indexByte a0.data.toList a1.toNat.toUInt8)
theorem strings_IndexByte.calls (a0 : ByteArray) (a1 : Int) (r : Int) (w : World) (h : strings_IndexByte.f a0 a1 = some r) :
 Calls Tryz.prog 92 #[.string a0, .int .u8 a1] w fun e w' => e = .returned (.int .i64 r) ∧ Drawn0 w w' := by
 obtain rfl := Option.some.inj h
 exact (Tryz.strings_IndexByte a0 a1 w).mono fun e w' ⟨he, hw⟩ => ⟨he, hw ▸ Drawn0.refl _⟩
def Naj.f (a0 a1 a2 : ByteArray) : Option (ByteArray) := if a0.size < 4294967281 ∧ 1 ≤ a1.size ∧ a0.size + Lib.countB a0 a1 * a2.size ≤ 140737488355328 then some ⟨(Lib.replaceAll a0.data.toList a1.data.toList a2.data.toList).toArray⟩ else none
theorem Naj.calls (a0 a1 a2 : ByteArray) (r : ByteArray) (w : World) (hG : GL w) (h : Naj.f a0 a1 a2 = some r) :
 Calls Tryz.prog 60 #[.string a0, .string a1, .string a2] w fun e w' => e = .returned (.string r) ∧ Below w.heap.size w w' := by
 unfold Naj.f at h
 split at h
 ·rename_i hb
  obtain rfl := Option.some.inj h
  obtain ⟨m, hm⟩ := hG.maxl
  exact Tryz.strings_ReplaceAll a0 a1 a2 m w hb.1 hm hb.2.1 hb.2.2
 ·cases h
def Nbj.f (a0 a1 : ByteArray) : Option (ByteArray) := if a1.size = 1 ∧ (a1.data.toList.headD 0).toNat < 128 ∧ a0.size ≤ 9223372036854775807 then some ⟨(Lib.trimRightB a0.data.toList (a1.data.toList.headD 0)).toArray⟩ else none
theorem Nbj.calls (a0 a1 : ByteArray) (r : ByteArray) (w : World) (h : Nbj.f a0 a1 = some r) :
 Calls Tryz.prog 213 #[.string a0, .string a1] w fun e w' => e = .returned (.string r) ∧ Drawn0 w w' := by
 unfold Nbj.f at h
 split at h
 ·rename_i hb
  obtain rfl := Option.some.inj h
  obtain ⟨d⟩ := a1
  obtain ⟨l⟩ := d
  match l, hb with
  | [c], hb =>
   refine (Tryz.strings_TrimRight_one a0 c (by simpa using hb.2.1) w hb.2.2).mono fun e w' hp => ?_
   obtain ⟨he, rfl⟩ := hp
   exact ⟨he, Drawn0.refl _⟩
 ·cases h
section
attribute [local go_sem] max2_int min2_int max_two min_two max_three min_three max_four min_four
def stringslite_HasPrefix.f (a0 : ByteArray) (a1 : ByteArray) : Option (Bool) := if (a0.size : Int) ≥ (a1.size : Int) then (if 0 ≤ (a1.size : Int) then (if (a1.size : Int) ≤ (a0.size : Int) then (some ((a0.extract 0 ((a1.size : Int) : Int).toNat).toList == a1.toList)) else (none)) else (none)) else (some false)
set_option maxHeartbeats 8000000 in
set_option maxRecDepth 100000 in
theorem stringslite_HasPrefix.calls (a0 : ByteArray) (a1 : ByteArray) (r : Bool) (w : World) (h : stringslite_HasPrefix.f a0 a1 = some r) :
 Calls Tryz.prog 142 #[.string a0, .string a1] w fun e w' => e = .returned (.bool r) ∧ Drawn0 w w' := by
 have H := h
 unfold stringslite_HasPrefix.f at H
 clear h
 by_cases c3 : (a0.size : Int) ≥ (a1.size : Int)
 ·rw [if_pos c3] at H
  have c3b0 : decide ((a1.size : Int) ≤ (a0.size : Int)) = true := decide_eq_true c3
  have c3b1 : decide (a1.size ≤ a0.size) = true := decide_eq_true (Int.ofNat_le.mp c3)
  clear c3
  by_cases c4 : 0 ≤ (a1.size : Int)
  ·rw [if_pos c4] at H
   have c4b0 := eq_true c4
   have c4b1 : decide (0 ≤ (a1.size : Int)) = true := decide_eq_true c4
   clear c4
   by_cases c5 : (a1.size : Int) ≤ (a0.size : Int)
   ·rw [if_pos c5] at H
    have c5b0 := eq_true c5
    have c5b1 : decide ((a1.size : Int) ≤ (a0.size : Int)) = true := decide_eq_true c5
    clear c5
    obtain rfl := Option.some.inj H
    go_enter Tryz.func142, Tryz.ntmps142
    go_wp2
    go_ret
    exact ⟨by first | rfl | (simp; done) | (simp [*]; done), by repeat (first | exact Drawn0.refl _ | apply Drawn0.step)⟩
   ·rw [if_neg c5] at H
    exact absurd H (by simp)
  ·rw [if_neg c4] at H
   exact absurd H (by simp)
 ·rw [if_neg c3] at H
  have c3b0 : decide ((a1.size : Int) ≤ (a0.size : Int)) = false := decide_eq_false c3
  have c3b1 : decide (a1.size ≤ a0.size) = false := decide_eq_false (fun h => c3 (Int.ofNat_le.mpr h))
  clear c3
  obtain rfl := Option.some.inj H
  go_enter Tryz.func142, Tryz.ntmps142
  go_wp2
  go_ret
  exact ⟨by first | rfl | (simp; done) | (simp [*]; done), by repeat (first | exact Drawn0.refl _ | apply Drawn0.step)⟩
end
section
attribute [local go_sem] max2_int min2_int max_two min_two max_three min_three max_four min_four
def stringslite_CutPrefix.f (a0 : ByteArray) (a1 : ByteArray) : Option (ByteArray × Bool) := (stringslite_HasPrefix.f a0 a1).bind fun t101 => (if t101 = true then (if 0 ≤ (a1.size : Int) then (if (a1.size : Int) ≤ (a0.size : Int) then (some (a0.extract ((a1.size : Int) : Int).toNat a0.size, true)) else (none)) else (none)) else (some (a0, false)))
set_option maxHeartbeats 8000000 in
set_option maxRecDepth 100000 in
theorem stringslite_CutPrefix.calls (a0 : ByteArray) (a1 : ByteArray) (r1 : ByteArray) (r2 : Bool) (w : World) (h : stringslite_CutPrefix.f a0 a1 = some (r1, r2)) :
 Calls Tryz.prog 101 #[.string a0, .string a1] w fun e w' => e = .returned (.tuple #[.string r1, .bool r2]) ∧ Drawn0 w w' := by
 have H := h
 unfold stringslite_CutPrefix.f at H
 clear h
 replace H := Option.bind_eq_some_iff.mp H
 obtain ⟨t101, A30, H⟩ := H
 try dsimp only at H
 have A3 := aM A30
 clear A30
 by_cases c4 : t101 = true
 ·subst c4
  rw [if_pos rfl] at H
  by_cases c5 : 0 ≤ (a1.size : Int)
  ·rw [if_pos c5] at H
   have c5b0 := eq_true c5
   have c5b1 : decide (0 ≤ (a1.size : Int)) = true := decide_eq_true c5
   clear c5
   by_cases c6 : (a1.size : Int) ≤ (a0.size : Int)
   ·rw [if_pos c6] at H
    have c6b0 := eq_true c6
    have c6b1 : decide ((a1.size : Int) ≤ (a0.size : Int)) = true := decide_eq_true c6
    clear c6
    simp only [Option.some.injEq, Prod.mk.injEq] at H
    obtain ⟨rfl, rfl⟩ := H
    go_enter Tryz.func101, Tryz.ntmps101
    go_wp2_with (first | ((with_reducible refine gate_callee (f := 142) rfl ?_); refine gL 8 Tryz.func142 #[.string a0, .string a1] ?_; (with_reducible refine (stringslite_HasPrefix.calls a0 a1 true _ A3.out).mono ?_); rintro e w' ⟨rfl, ⟨nd, rfl⟩⟩; refine ⟨_, rfl, ?_⟩))
    go_ret2
    exact ⟨by first | rfl | (simp; done) | (simp [*]; done), by repeat (first | exact Drawn0.refl _ | apply Drawn0.step)⟩
   ·rw [if_neg c6] at H
    exact absurd H (by simp)
  ·rw [if_neg c5] at H
   exact absurd H (by simp)
 ·replace c4 := Bool.eq_false_iff.mpr c4
  subst c4
  rw [if_neg Bool.false_ne_true] at H
  simp only [Option.some.injEq, Prod.mk.injEq] at H
  obtain ⟨rfl, rfl⟩ := H
  go_enter Tryz.func101, Tryz.ntmps101
  go_wp2_with (first | ((with_reducible refine gate_callee (f := 142) rfl ?_); refine gL 8 Tryz.func142 #[.string a0, .string a1] ?_; (with_reducible refine (stringslite_HasPrefix.calls a0 a1 false _ A3.out).mono ?_); rintro e w' ⟨rfl, ⟨nd, rfl⟩⟩; refine ⟨_, rfl, ?_⟩))
  go_ret2
  exact ⟨by first | rfl | (simp; done) | (simp [*]; done), by repeat (first | exact Drawn0.refl _ | apply Drawn0.step)⟩
end
section
attribute [local go_sem] max2_int min2_int max_two min_two max_three min_three max_four min_four
def strings_CutPrefix.f (a0 : ByteArray) (a1 : ByteArray) : Option (ByteArray × Bool) := (stringslite_CutPrefix.f a0 a1).bind fun bt101 => (some (bt101.1, bt101.2))
set_option maxHeartbeats 8000000 in
set_option maxRecDepth 100000 in
theorem strings_CutPrefix.calls (a0 : ByteArray) (a1 : ByteArray) (r1 : ByteArray) (r2 : Bool) (w : World) (h : strings_CutPrefix.f a0 a1 = some (r1, r2)) :
 Calls Tryz.prog 64 #[.string a0, .string a1] w fun e w' => e = .returned (.tuple #[.string r1, .bool r2]) ∧ Drawn0 w w' := by
 have H := h
 unfold strings_CutPrefix.f at H
 clear h
 replace H := Option.bind_eq_some_iff.mp H
 obtain ⟨⟨t101, t102⟩, A30, H⟩ := H
 try dsimp only at H
 have A3 := aM A30
 clear A30
 simp only [Option.some.injEq, Prod.mk.injEq] at H
 obtain ⟨rfl, rfl⟩ := H
 go_enter Tryz.func64, Tryz.ntmps64
 go_wp2_with (first | ((with_reducible refine gate_callee (f := 101) rfl ?_); refine gL 8 Tryz.func101 #[.string a0, .string a1] ?_; (with_reducible refine (stringslite_CutPrefix.calls a0 a1 t101 t102 _ A3.out).mono ?_); rintro e w' ⟨rfl, ⟨nd, rfl⟩⟩; refine ⟨_, rfl, ?_⟩))
 go_ret2
 exact ⟨by first | rfl | (simp; done) | (simp [*]; done), by repeat (first | exact Drawn0.refl _ | apply Drawn0.step)⟩
end
end Go.Proofs.YtejbbceidnaloaaGreatDoor.P
