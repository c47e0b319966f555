import Derived.Test.YtejbbceidnaloaaGreatDoorB16
import Derived.Defers
import Derived.Recover
import Derived.BigRegion
set_option linter.unusedVariables false
set_option linter.unusedSimpArgs false
set_option maxRecDepth 100000
set_option maxHeartbeats 8000000
namespace Go.Proofs.YtejbbceidnaloaaGreatDoor.P
open Go.RowKit AW AL AM
section
set_option maxHeartbeats 4000000
theorem tl_non {m : ByteArray} {l : List UInt8} (h : m ≠ mB l) : (m.toList != l) = true := by rw [bne, tl_no h]; rfl
theorem m_cell (sv : ByteArray) (r : S48) (w : World) (base : Nat) (ok : Nat → Prop) : Kd.M k50 w base ok (nCell ⟨sv, r.f1, r.f2, r.f3, r.f4⟩) [.int .i64 2, .int .i64 0, .int .i64 0, .int .i64 0, .string ⟨#[]⟩, .bool false, .int .i64 0, .int .i64 0, .string ⟨#[]⟩, .int .i64 0, .string sv, .int .i64 r.f1, .int .i64 r.f2, .bool r.f3, .bool r.f4, .string ⟨#[]⟩, .int .i64 0, .int .i64 0, .bool false, .bool false] := k50_mkM w base ok (nCell ⟨sv, r.f1, r.f2, r.f3, r.f4⟩)
theorem m_area (sv : ByteArray) (r s : S48) (w : World) (base : Nat) (ok : Nat → Prop) : Kd.M k50 w base ok (nArea ⟨sv, r.f1, r.f2, r.f3, r.f4⟩ s) [.int .i64 3, .int .i64 0, .int .i64 0, .int .i64 0, .string ⟨#[]⟩, .bool false, .int .i64 0, .int .i64 0, .string ⟨#[]⟩, .int .i64 0, .string sv, .int .i64 r.f1, .int .i64 r.f2, .bool r.f3, .bool r.f4, .string s.f0, .int .i64 s.f1, .int .i64 s.f2, .bool s.f3, .bool s.f4] := k50_mkM w base ok (nArea ⟨sv, r.f1, r.f2, r.f3, r.f4⟩ s)
section
variable {O : Ops} {ts : List S39} {e : Int} {w0 : World}
theorem word_call {k : Nat} (ih : Parts O ts e w0 k) (hG : GL w0) (pe : PEnv O ts) (hcell : ∀ i, O.cell (tokA ts i).f1 = cellO (tokA ts i).f1) (hts : ts.length ≤ 100000) {w : World} {g : Nat} {m : ByteArray} {at_ : Int} (hI : IsS72 w0 w g ts at_ e) (hB : Below w0.heap.size w0 w) (h0 : 0 ≤ at_) (h1 : at_ < ts.length) {x} (hm : markA ts (at_ + 1) = mB [40]) (hw : m = (tokA ts at_).f1) (hx : calF O ts e k m at_ = some x) :
 Calls Tryz.prog 178 #[.pointer (some ⟨g, 0, none⟩), .string m] w (Ans w0 w g ts e x) := by
 have H0 := lh (show 0 ≤ at_ ∧ at_ ≤ 1000000 by omega)
 have HB0 := lh (St.start hI hB)
 have HBz := lh hB.size
 have hu50 := Tryz.underlying50
 have HM := lh (show markA ts (at_ + 1) = ⟨#[40]⟩ from hm)
 have HX := lh hx
 have HW := lh hw
 have HL := lh (show at_ + 1 < ts.length from Nbb ts hm (by decide))
 clear hI hB hm hx hw
 go_enter Tryz.func178, Tryz.ntmps178
 go_wp2_with (first
  | (go_at_call 204; (with_reducible refine (Nbf HB0.out.is HB0.out.bel H0.out.1 H0.out.2 ⟨#[40]⟩ HM.out).mono ?_); rintro en wb1 ⟨rfl, hs, hb⟩; have HB1 := lh (HB0.out.trans hs); clear hs hb HB0))
 cases x with
 | error p =>
  obtain ⟨c, p⟩ := p
  (with_reducible refine (ih.cal _ g m at_ _ HB1.out.is HB1.out.bel H0.out.1 HL.out HW.out HX.out).mono ?_)
  rintro en w2 ⟨rfl, a, hs⟩
  go_wp2
  exact ⟨rfl, rfl, a, HB1.out.trans hs⟩
 | ok p =>
  obtain ⟨r, a⟩ := p
  (with_reducible refine (ih.cal _ g m at_ _ HB1.out.is HB1.out.bel H0.out.1 HL.out HW.out HX.out).mono ?_)
  rintro en w2 ⟨v, rfl, hr, hs⟩
  obtain ⟨A, c, rfl, hle, -⟩ := Kd.R_reads hr
  have HR := lh (Kd.R_lower hr HB1.out.size)
  have HS := lh (HB1.out.trans hs)
  clear hr hs hle
  go_wp2
  go_ret
  exact ⟨_, rfl, HR.out, HS.out⟩
theorem word_bad {k : Nat} (ih : Parts O ts e w0 k) (hG : GL w0) (pe : PEnv O ts) (hcell : ∀ i, O.cell (tokA ts i).f1 = cellO (tokA ts i).f1) (hts : ts.length ≤ 100000) {w : World} {g : Nat} {m : ByteArray} {at_ : Int} (hI : IsS72 w0 w g ts at_ e) (hB : Below w0.heap.size w0 w) (h0 : 0 ≤ at_) (h1 : at_ < ts.length) (hm : markA ts (at_ + 1) = mB [33]) (hz : m.size ≤ 100000) (hf : O.sh m = false) :
 Calls Tryz.prog 178 #[.pointer (some ⟨g, 0, none⟩), .string m] w (Ans w0 w g ts e (.error (50, Nbl ts e at_))) := by
 have H0 := lh (show 0 ≤ at_ ∧ at_ ≤ 1000000 by omega)
 have HB0 := lh (St.start hI hB)
 have HBz := lh hB.size
 have hu50 := Tryz.underlying50
 have HM := lh (show markA ts (at_ + 1) = ⟨#[33]⟩ from hm)
 have HF := lh (fun w => pe.sh m w hz)
 rw [hf] at HF
 clear hI hB hm hz hf
 go_enter Tryz.func178, Tryz.ntmps178
 go_upto_region 8 with (first
  | (go_at_call 204; (with_reducible refine (Nbf HB0.out.is HB0.out.bel H0.out.1 H0.out.2 ⟨#[33]⟩ HM.out).mono ?_); rintro en wb1 ⟨rfl, hs, hb⟩; have HB1 := lh (HB0.out.trans hs); clear hs hb HB0)
  | (go_at_call 204; (with_reducible refine (Nbf HB1.out.is HB1.out.bel H0.out.1 H0.out.2 ⟨#[33]⟩ HM.out).mono ?_); rintro en wb2 ⟨rfl, hs, hb⟩; have HB2 := lh (HB1.out.trans hs); clear hs hb HB1)
  | (go_at_call 204; (with_reducible refine (Nbf HB2.out.is HB2.out.bel H0.out.1 H0.out.2 ⟨#[33]⟩ HM.out).mono ?_); rintro en wb3 ⟨rfl, hs, hb⟩; have HB3 := lh (HB2.out.trans hs); clear hs hb HB2))
 go_wp2_with (first
  | (go_at_call 135; (with_reducible refine (HF.out _).mono ?_); rintro en w1 ⟨rfl, hb⟩; have HS1 := lh (HB3.out.below hb); clear hb)
  | (go_at_call 69; (with_reducible refine (Nb8 HS1.out.is HS1.out.bel H0.out.1 50).mono ?_); rintro en w8 ⟨rfl, hs⟩; have HS8 := lh (HS1.out.trans hs); clear hs))
 exact ⟨rfl, rfl, _, HS8.out⟩
theorem word_true {k : Nat} (ih : Parts O ts e w0 k) (hG : GL w0) (pe : PEnv O ts) (hcell : ∀ i, O.cell (tokA ts i).f1 = cellO (tokA ts i).f1) (hts : ts.length ≤ 100000) {w : World} {g : Nat} {m : ByteArray} {at_ : Int} (hI : IsS72 w0 w g ts at_ e) (hB : Below w0.heap.size w0 w) (h0 : 0 ≤ at_) (h1 : at_ < ts.length) (hm1 : markA ts (at_ + 1) ≠ mB [40]) (hm2 : markA ts (at_ + 1) ≠ mB [33]) (hw : m = mB [84, 82, 85, 69]) :
 Calls Tryz.prog 178 #[.pointer (some ⟨g, 0, none⟩), .string m] w (Ans w0 w g ts e (.ok ([nVal (O.tru true)], at_ + 1))) := by
 have H0 := lh (show 0 ≤ at_ ∧ at_ ≤ 1000000 by omega)
 have HB0 := lh (St.start hI hB)
 have HBz := lh hB.size
 have hu50 := Tryz.underlying50
 obtain ⟨m2, hm⟩ : ∃ m2, markA ts (at_ + 1) = m2 := ⟨_, rfl⟩
 rw [hm] at hm1 hm2
 have HM := lh hm
 have b1 : (m2.toList == [40]) = false := tl_no hm1
 have b2 : (m2.toList == [33]) = false := tl_no hm2
 have b3 : (m2.toList != [33]) = true := tl_non hm2
 obtain rfl : m = ⟨#[84, 82, 85, 69]⟩ := hw
 clear hI hB hm hm1 hm2
 have q0 : 0 ≤ at_ := h0
 have q1 : at_ ≤ 1000000 := H0.out.2
 go_enter Tryz.func178, Tryz.ntmps178
 go_upto_region 4 with (first
  | (go_at_call 204; (with_reducible refine (Nbf HB0.out.is HB0.out.bel H0.out.1 H0.out.2 m2 HM.out).mono ?_); rintro en wb1 ⟨rfl, hs, hb⟩; have HB1 := lh (HB0.out.trans hs); clear hs hb HB0)
  | (go_at_call 204; (with_reducible refine (Nbf HB1.out.is HB1.out.bel H0.out.1 H0.out.2 m2 HM.out).mono ?_); rintro en wb2 ⟨rfl, hs, hb⟩; have HB2 := lh (HB1.out.trans hs); clear hs hb HB1))
 obtain ⟨A9, c9, hg, hge, -⟩ := HB2.out.is
 have k1 := Na0 hg
 have f1 := Naf hg 1
 clear hg hge
 go_upto_region 5 with (fail)
 obtain ⟨w4, hw_⟩ : ∃ x_ : World, x_ = wb2.setCell ⟨g, 1, none⟩ (.int .i64 (at_ + 1)) := ⟨_, rfl⟩
 rw [← hw_]
 have HS4 := lh (show St w0 w w4 g ts (at_ + 1) e by rw [hw_]; exact HB2.out.set (at_ + 1))
 clear hw_ k1 f1 HB2
 go_wp2_with (first
  | (go_at_call 187; (with_reducible refine (pe.tru true _).mono ?_); rintro en w5 ⟨rfl, hb⟩; have HS5 := lh (HS4.out.below hb); clear hb)
  | (go_at_call 180; (with_reducible refine (lit_any _ _).mono ?_); rintro en w9 ⟨v9, rfl, hr, hb⟩; have HR9 := lh (Kd.R_lower hr HS5.out.size); have HS9 := lh (HS5.out.below hb); clear hr hb))
 go_ret
 exact ⟨_, rfl, HR9.out, HS9.out⟩
theorem word_false {k : Nat} (ih : Parts O ts e w0 k) (hG : GL w0) (pe : PEnv O ts) (hcell : ∀ i, O.cell (tokA ts i).f1 = cellO (tokA ts i).f1) (hts : ts.length ≤ 100000) {w : World} {g : Nat} {m : ByteArray} {at_ : Int} (hI : IsS72 w0 w g ts at_ e) (hB : Below w0.heap.size w0 w) (h0 : 0 ≤ at_) (h1 : at_ < ts.length) (hm1 : markA ts (at_ + 1) ≠ mB [40]) (hm2 : markA ts (at_ + 1) ≠ mB [33]) (hw : m = mB [70, 65, 76, 83, 69]) :
 Calls Tryz.prog 178 #[.pointer (some ⟨g, 0, none⟩), .string m] w (Ans w0 w g ts e (.ok ([nVal (O.tru false)], at_ + 1))) := by
 have H0 := lh (show 0 ≤ at_ ∧ at_ ≤ 1000000 by omega)
 have HB0 := lh (St.start hI hB)
 have HBz := lh hB.size
 have hu50 := Tryz.underlying50
 obtain ⟨m2, hm⟩ : ∃ m2, markA ts (at_ + 1) = m2 := ⟨_, rfl⟩
 rw [hm] at hm1 hm2
 have HM := lh hm
 have b1 : (m2.toList == [40]) = false := tl_no hm1
 have b2 : (m2.toList == [33]) = false := tl_no hm2
 have b3 : (m2.toList != [33]) = true := tl_non hm2
 obtain rfl : m = ⟨#[70, 65, 76, 83, 69]⟩ := hw
 clear hI hB hm hm1 hm2
 have q0 : 0 ≤ at_ := h0
 have q1 : at_ ≤ 1000000 := H0.out.2
 go_enter Tryz.func178, Tryz.ntmps178
 go_upto_region 4 with (first
  | (go_at_call 204; (with_reducible refine (Nbf HB0.out.is HB0.out.bel H0.out.1 H0.out.2 m2 HM.out).mono ?_); rintro en wb1 ⟨rfl, hs, hb⟩; have HB1 := lh (HB0.out.trans hs); clear hs hb HB0)
  | (go_at_call 204; (with_reducible refine (Nbf HB1.out.is HB1.out.bel H0.out.1 H0.out.2 m2 HM.out).mono ?_); rintro en wb2 ⟨rfl, hs, hb⟩; have HB2 := lh (HB1.out.trans hs); clear hs hb HB1))
 obtain ⟨A9, c9, hg, hge, -⟩ := HB2.out.is
 have k1 := Na0 hg
 have f1 := Naf hg 1
 clear hg hge
 go_upto_region 5 with (fail)
 obtain ⟨w4, hw_⟩ : ∃ x_ : World, x_ = wb2.setCell ⟨g, 1, none⟩ (.int .i64 (at_ + 1)) := ⟨_, rfl⟩
 rw [← hw_]
 have HS4 := lh (show St w0 w w4 g ts (at_ + 1) e by rw [hw_]; exact HB2.out.set (at_ + 1))
 clear hw_ k1 f1 HB2
 go_wp2_with (first
  | (go_at_call 187; (with_reducible refine (pe.tru false _).mono ?_); rintro en w5 ⟨rfl, hb⟩; have HS5 := lh (HS4.out.below hb); clear hb)
  | (go_at_call 180; (with_reducible refine (lit_any _ _).mono ?_); rintro en w9 ⟨v9, rfl, hr, hb⟩; have HR9 := lh (Kd.R_lower hr HS5.out.size); have HS9 := lh (HS5.out.below hb); clear hr hb))
 go_ret
 exact ⟨_, rfl, HR9.out, HS9.out⟩
theorem word_plain {k : Nat} (ih : Parts O ts e w0 k) (hG : GL w0) (pe : PEnv O ts) (hcell : ∀ i, O.cell (tokA ts i).f1 = cellO (tokA ts i).f1) (hts : ts.length ≤ 100000) {w : World} {g : Nat} {m : ByteArray} {at_ : Int} (hI : IsS72 w0 w g ts at_ e) (hB : Below w0.heap.size w0 w) (h0 : 0 ≤ at_) (h1 : at_ < ts.length) {x} (hm1 : markA ts (at_ + 1) ≠ mB [40]) (hm2 : markA ts (at_ + 1) ≠ mB [33]) (hw1 : m ≠ mB [84, 82, 85, 69]) (hw2 : m ≠ mB [70, 65, 76, 83, 69]) (hx : refF O ts e ⟨#[]⟩ at_ = some x) :
 Calls Tryz.prog 178 #[.pointer (some ⟨g, 0, none⟩), .string m] w (Ans w0 w g ts e x) := by
 have H0 := lh (show 0 ≤ at_ ∧ at_ ≤ 1000000 by omega)
 have HB0 := lh (St.start hI hB)
 have HBz := lh hB.size
 have hu50 := Tryz.underlying50
 have HG := lh hI.lt
 obtain ⟨m2, hm⟩ : ∃ m2, markA ts (at_ + 1) = m2 := ⟨_, rfl⟩
 rw [hm] at hm1 hm2
 have HM := lh hm
 have b1 : (m2.toList == [40]) = false := tl_no hm1
 have b2 : (m2.toList == [33]) = false := tl_no hm2
 have b3 : (m2.toList != [33]) = true := tl_non hm2
 have b4 : (m.toList == [84, 82, 85, 69]) = false := tl_no hw1
 have b5 : (m.toList == [70, 65, 76, 83, 69]) = false := tl_no hw2
 obtain ⟨sv, hsv⟩ : ∃ sv : ByteArray, sv = ⟨#[]⟩ := ⟨_, rfl⟩
 rw [← hsv] at hx
 have HX := lh hx
 have HBd := lh (show 0 ≤ at_ ∧ at_ ≤ ts.length by omega)
 have HSV := lh hsv
 clear hI hB hm hm1 hm2 hw1 hw2 hx hsv
 go_enter Tryz.func178, Tryz.ntmps178
 go_upto_region 12 with (first
  | (go_at_call 204; (with_reducible refine (Nbf HB0.out.is HB0.out.bel H0.out.1 H0.out.2 m2 HM.out).mono ?_); rintro en wb1 ⟨rfl, hs, hb⟩; have HB1 := lh (HB0.out.trans hs); clear hs hb HB0)
  | (go_at_call 204; (with_reducible refine (Nbf HB1.out.is HB1.out.bel H0.out.1 H0.out.2 m2 HM.out).mono ?_); rintro en wb2 ⟨rfl, hs, hb⟩; have HB2 := lh (HB1.out.trans hs); clear hs hb HB1)
  | (go_at_call 204; (with_reducible refine (Nbf HB2.out.is HB2.out.bel H0.out.1 H0.out.2 m2 HM.out).mono ?_); rintro en wb3 ⟨rfl, hs, hb⟩; have HB3 := lh (HB2.out.trans hs); clear hs hb HB2))
 rw [← HSV.out]
 have hxx := HX.out
 unfold refF at hxx
 cases hz : celF O ts e (at_) with
 | none => rw [hz] at hxx; cases hxx
 | some z =>
  rw [hz] at hxx
  have HC := lh (cel_any hcell pe.size hG hts HB3.out.is HB3.out.bel HBd.out.1 HBd.out.2 hz)
  have HZ := lh hz
  have HP := lh hxx
  clear hz hxx HX
  cases z with
  | error p =>
   obtain ⟨c_, p⟩ := p
   obtain rfl := sI HP.out
   go_wp2_with (go_at_call 206; (with_reducible refine (HC.out).mono ?_); rintro en w2 ⟨rfl, a, hs⟩; have HS2 := lh (HB3.out.trans hs); clear hs)
   exact ⟨rfl, rfl, _, HS2.out⟩
  | ok p =>
   obtain ⟨r, a⟩ := p
   have hp := HP.out
   simp only [Res.bnd] at hp
   have HA := lh (celF_range O e HZ.out)
   have HA1 := lh (show 0 ≤ a ∧ a ≤ 1000000 by have := HA.out; have := HBd.out; omega)
   clear HP
   go_upto_region 14 with (first
    | (go_at_call 206; (with_reducible refine (HC.out).mono ?_); rintro en w2 ⟨rfl, hs⟩; have HS2 := lh (HB3.out.trans hs); clear hs HC HB3)
    | ((with_reducible refine gD 6 rfl ?_); refine bX 6 #[.int .i64 0, .int .i64 0, .int .i64 0, .int .i64 0, .string ⟨#[]⟩, .bool false, .int .i64 0, .int .i64 0, .string ⟨#[]⟩, .int .i64 0, .string ⟨#[]⟩, .int .i64 0, .int .i64 0, .bool false, .bool false, .string ⟨#[]⟩, .int .i64 0, .int .i64 0, .bool false, .bool false] 50 ?_; intro g6 hg_ w3 hb_ hl_; have HG6 := lh (show w0.heap.size ≤ g6 ∧ w.heap.size ≤ g6 ∧ g6 ≠ g from ⟨hg_ ▸ HS2.out.bel.size, hg_ ▸ HS2.out.size, by have := HS2.out.is.lt; omega⟩); have HS3 := lh (HS2.out.below hl_); have J3 := lh hb_; clear hb_ hl_ hg_ HS2)
    | ((with_reducible refine gate_ (.store 50 (.tmp 6) (.tmp 55)) rfl ?_); refine Nca rfl rfl (t := 50) (p := .tmp 6) (x := (.tmp 55)) rfl (g := g6) (o' := 0) (e := 50) (u := .agg #[.int .i64 2, .int .i64 0, .int .i64 0, .int .i64 0, .string ⟨#[]⟩, .bool false, .int .i64 0, .int .i64 0, .string ⟨#[]⟩, .int .i64 0, .string r.f0, .int .i64 r.f1, .int .i64 r.f2, .bool r.f3, .bool r.f4, .string ⟨#[]⟩, .int .i64 0, .int .i64 0, .bool false, .bool false]) (seg := [.int .i64 2, .int .i64 0, .int .i64 0, .int .i64 0, .string ⟨#[]⟩, .bool false, .int .i64 0, .int .i64 0, .string ⟨#[]⟩, .int .i64 0, .string r.f0, .int .i64 r.f1, .int .i64 r.f2, .bool r.f3, .bool r.f4, .string ⟨#[]⟩, .int .i64 0, .int .i64 0, .bool false, .bool false]) (new := #[.int .i64 2, .int .i64 0, .int .i64 0, .int .i64 0, .string ⟨#[]⟩, .bool false, .int .i64 0, .int .i64 0, .string ⟨#[]⟩, .int .i64 0, .string r.f0, .int .i64 r.f1, .int .i64 r.f2, .bool r.f3, .bool r.f4, .string ⟨#[]⟩, .int .i64 0, .int .i64 0, .bool false, .bool false]) ?ha ?hx ?hu ?ht J3.out ?hf ?h1 ?hn ?_; (case ha => rfl); (case hx => rfl); (case hu => rfl); (case ht => kernel_rfl); (case hf => simp); (case h1 => rfl); (case hn => kernel_rfl); intro w4 hb_ hp_; have J4 := lh hb_; have HS4 := lh (HS3.out.put hp_ HG6.out.1 HG6.out.2.1 HG6.out.2.2); clear hb_ hp_ J3 HS3)
    | ((with_reducible refine gate_ (.store 9 (.tmp 58) (.tmp 56)) rfl ?_); refine Nca rfl rfl (t := 9) (p := .tmp 58) (x := (.tmp 56)) rfl (g := g6) (o' := 10) (e := 50) (u := .string sv) (seg := [.string sv]) (new := #[.int .i64 2, .int .i64 0, .int .i64 0, .int .i64 0, .string ⟨#[]⟩, .bool false, .int .i64 0, .int .i64 0, .string ⟨#[]⟩, .int .i64 0, .string sv, .int .i64 r.f1, .int .i64 r.f2, .bool r.f3, .bool r.f4, .string ⟨#[]⟩, .int .i64 0, .int .i64 0, .bool false, .bool false]) ?ha ?hx ?hu ?ht J4.out ?hf ?h1 ?hn ?_; (case ha => rfl); (case hx => rfl); (case hu => rfl); (case ht => kernel_rfl); (case hf => simp); (case h1 => rfl); (case hn => kernel_rfl); intro w5 hb_ hp_; have J5 := lh hb_; have HS5 := lh (HS4.out.put hp_ HG6.out.1 HG6.out.2.1 HG6.out.2.2); clear hb_ hp_ J4 HS4))
   by_cases hm58 : markA ts a = mB [58]
   ·rw [if_pos hm58] at hp
    cases hz : celF O ts e (a + 1) with
    | none => rw [hz] at hp; cases hp
    | some z =>
     rw [hz] at hp
     have HL58 := lh (Nbb ts hm58 (by decide))
     have HT := lh (Nc9 (m := ⟨#[58]⟩) HS5.out.is HS5.out.bel HA1.out.1 HA1.out.2 hm58)
     have HZ2 := lh hz
     have HP := lh hp
     clear hz hp hm58
     go_wp2_with (go_at_call 143; (with_reducible refine (HT.out).mono ?_); rintro en w6 ⟨rfl, hs⟩; have HS6 := lh (HS5.out.trans hs); have J6 := lh (hs.keep.blk J5.out HG6.out.2.2 (by simp)); clear hs HT HS5 J5)
     have HC := lh (cel_any hcell pe.size hG hts HS6.out.is HS6.out.bel (show 0 ≤ a + 1 by have := HA1.out; omega) (show a + 1 ≤ ts.length by have := HL58.out; omega) HZ2.out)
     cases z with
     | error p =>
      obtain ⟨c_, p⟩ := p
      obtain rfl := sI HP.out
      (with_reducible refine (HC.out).mono ?_)
      rintro en w7 ⟨rfl, a2, hs⟩
      go_wp2
      exact ⟨rfl, rfl, a2, HS6.out.trans hs⟩
     | ok p =>
      obtain ⟨s, b2⟩ := p
      obtain rfl := sI HP.out
      (with_reducible refine (HC.out).mono ?_)
      rintro en w7 ⟨rfl, hs⟩
      have HS7 := lh (HS6.out.trans hs)
      have J7 := lh (hs.keep.blk J6.out HG6.out.2.2 (by simp))
      clear hs HC HS6 J6
      go_wp2_with (first | ((with_reducible refine gate_ (.store 3 (.tmp 63) (.const (.int .i64 3))) rfl ?_); refine Nca rfl rfl (t := 3) (p := .tmp 63) (x := (.const (.int .i64 3))) rfl (g := g6) (o' := 0) (e := 50) (u := .int .i64 3) (seg := [.int .i64 3]) (new := #[.int .i64 3, .int .i64 0, .int .i64 0, .int .i64 0, .string ⟨#[]⟩, .bool false, .int .i64 0, .int .i64 0, .string ⟨#[]⟩, .int .i64 0, .string sv, .int .i64 r.f1, .int .i64 r.f2, .bool r.f3, .bool r.f4, .string ⟨#[]⟩, .int .i64 0, .int .i64 0, .bool false, .bool false]) ?ha ?hx ?hu ?ht J7.out ?hf ?h1 ?hn ?_; (case ha => rfl); (case hx => rfl); (case hu => rfl); (case ht => kernel_rfl); (case hf => simp); (case h1 => rfl); (case hn => kernel_rfl); intro w8 hb_ hp_; have J8 := lh hb_; have HS8 := lh (HS7.out.put hp_ HG6.out.1 HG6.out.2.1 HG6.out.2.2); clear hb_ hp_ J7 HS7) | ((with_reducible refine gate_ (.store 48 (.tmp 64) (.tmp 62)) rfl ?_); refine Nca rfl rfl (t := 48) (p := .tmp 64) (x := (.tmp 62)) rfl (g := g6) (o' := 15) (e := 50) (u := vR s) (seg := [.string s.f0, .int .i64 s.f1, .int .i64 s.f2, .bool s.f3, .bool s.f4]) (new := #[.int .i64 3, .int .i64 0, .int .i64 0, .int .i64 0, .string ⟨#[]⟩, .bool false, .int .i64 0, .int .i64 0, .string ⟨#[]⟩, .int .i64 0, .string sv, .int .i64 r.f1, .int .i64 r.f2, .bool r.f3, .bool r.f4, .string s.f0, .int .i64 s.f1, .int .i64 s.f2, .bool s.f3, .bool s.f4]) ?ha ?hx ?hu ?ht J8.out ?hf ?h1 ?hn ?_; (case ha => rfl); (case hx => rfl); (case hu => rfl); (case ht => kernel_rfl); (case hf => simp); (case h1 => rfl); (case hn => kernel_rfl); intro w10 hb_ hp_; have J10 := lh hb_; have HS10 := lh (HS8.out.put hp_ HG6.out.1 HG6.out.2.1 HG6.out.2.2); clear hb_ hp_ J8 HS8) | ((with_reducible refine gD 65 rfl ?_); refine lA J10.out 50 (.tmp 6) hu50 ?_) | ((with_reducible refine gD 66 rfl ?_); refine Kd.R_lit k50 w.heap.size 50 (w0 := w10) ?hg (N := 66) ?hd (xs := [nArea ⟨sv, r.f1, r.f2, r.f3, r.f4⟩ s]) (inner := [.int .i64 3, .int .i64 0, .int .i64 0, .int .i64 0, .string ⟨#[]⟩, .bool false, .int .i64 0, .int .i64 0, .string ⟨#[]⟩, .int .i64 0, .string sv, .int .i64 r.f1, .int .i64 r.f2, .bool r.f3, .bool r.f4, .string s.f0, .int .i64 s.f1, .int .i64 s.f2, .bool s.f3, .bool s.f4]) (ok := fun _ => True) (okp := fun _ => True) ?hr ?hp (fun _ hk => hk) trivial (Below.refl _ _) HS10.out.size (by simp) ?_; (case hd => rfl); (case hg => rfl); (case hr => go_simp <;> rfl); (case hp => exact (Reps.front (m_area sv r s _ _ _) rfl (Reps.none _ _) rfl)); intro v9 w9 ho_ hb_ hg_ hn_; have HR9 := lh ho_; have HS9 := lh (HS10.out.fresh hb_ HG.out HBz.out); clear ho_ hb_ hg_ hn_))
      go_ret
      exact ⟨_, rfl, HR9.out, HS9.out⟩
   ·rw [if_neg hm58] at hp
    obtain rfl := sI hp
    have HT := lh (Nb7 (m := ⟨#[58]⟩) HS5.out.is HS5.out.bel HA1.out.1 HA1.out.2 hm58)
    clear hp hm58
    go_wp2_with (first
     | (go_at_call 143; (with_reducible refine (HT.out).mono ?_); rintro en w6 ⟨rfl, hs⟩; have HS6 := lh (HS5.out.trans hs); have J6 := lh (hs.keep.blk J5.out HG6.out.2.2 (by simp)); clear hs HT HS5 J5)
     | ((with_reducible refine gD 65 rfl ?_); refine lA J6.out 50 (.tmp 6) hu50 ?_)
     | ((with_reducible refine gD 66 rfl ?_); refine Kd.R_lit k50 w.heap.size 50 (w0 := w6) ?hg (N := 66) ?hd (xs := [nCell ⟨sv, r.f1, r.f2, r.f3, r.f4⟩]) (inner := [.int .i64 2, .int .i64 0, .int .i64 0, .int .i64 0, .string ⟨#[]⟩, .bool false, .int .i64 0, .int .i64 0, .string ⟨#[]⟩, .int .i64 0, .string sv, .int .i64 r.f1, .int .i64 r.f2, .bool r.f3, .bool r.f4, .string ⟨#[]⟩, .int .i64 0, .int .i64 0, .bool false, .bool false]) (ok := fun _ => True) (okp := fun _ => True) ?hr ?hp (fun _ hk => hk) trivial (Below.refl _ _) HS6.out.size (by simp) ?_; (case hd => rfl); (case hg => rfl); (case hr => go_simp <;> rfl); (case hp => exact (Reps.front (m_cell sv r _ _ _) rfl (Reps.none _ _) rfl)); intro v9 w9 ho_ hb_ hg_ hn_; have HR9 := lh ho_; have HS9 := lh (HS6.out.fresh hb_ HG.out HBz.out); clear ho_ hb_ hg_ hn_))
    go_ret
    exact ⟨_, rfl, HR9.out, HS9.out⟩
theorem word_sheet {k : Nat} (ih : Parts O ts e w0 k) (hG : GL w0) (pe : PEnv O ts) (hcell : ∀ i, O.cell (tokA ts i).f1 = cellO (tokA ts i).f1) (hts : ts.length ≤ 100000) {w : World} {g : Nat} {m : ByteArray} {at_ : Int} (hI : IsS72 w0 w g ts at_ e) (hB : Below w0.heap.size w0 w) (h0 : 0 ≤ at_) (h1 : at_ < ts.length) {x} (hm : markA ts (at_ + 1) = mB [33]) (hz : m.size ≤ 100000) (hf : O.sh m = true) (hx : refF O ts e m (at_ + 2) = some x) :
 Calls Tryz.prog 178 #[.pointer (some ⟨g, 0, none⟩), .string m] w (Ans w0 w g ts e x) := by
 have H0 := lh (show 0 ≤ at_ ∧ at_ ≤ 1000000 by omega)
 have HB0 := lh (St.start hI hB)
 have HBz := lh hB.size
 have hu50 := Tryz.underlying50
 have HG := lh hI.lt
 have HM := lh (show markA ts (at_ + 1) = ⟨#[33]⟩ from hm)
 have HL := lh (show at_ + 1 < ts.length from Nbb ts hm (by decide))
 have HF := lh (fun w => pe.sh m w hz)
 rw [hf] at HF
 obtain ⟨sv, hsv⟩ : ∃ sv : ByteArray, sv = m := ⟨_, rfl⟩
 rw [← hsv] at hx
 have HX := lh hx
 have HBd := lh (show 0 ≤ at_ + 2 ∧ at_ + 2 ≤ ts.length by have := HL.out; omega)
 subst hsv
 have q0 : 0 ≤ at_ := h0
 have q1 : at_ ≤ 1000000 := H0.out.2
 clear hI hB hm hz hf hx
 go_enter Tryz.func178, Tryz.ntmps178
 go_upto_region 8 with (first
  | (go_at_call 204; (with_reducible refine (Nbf HB0.out.is HB0.out.bel H0.out.1 H0.out.2 ⟨#[33]⟩ HM.out).mono ?_); rintro en wb1 ⟨rfl, hs, hb⟩; have HB1 := lh (HB0.out.trans hs); clear hs hb HB0)
  | (go_at_call 204; (with_reducible refine (Nbf HB1.out.is HB1.out.bel H0.out.1 H0.out.2 ⟨#[33]⟩ HM.out).mono ?_); rintro en wb2 ⟨rfl, hs, hb⟩; have HB2 := lh (HB1.out.trans hs); clear hs hb HB1)
  | (go_at_call 204; (with_reducible refine (Nbf HB2.out.is HB2.out.bel H0.out.1 H0.out.2 ⟨#[33]⟩ HM.out).mono ?_); rintro en wb3 ⟨rfl, hs, hb⟩; have HB3 := lh (HB2.out.trans hs); clear hs hb HB2))
 go_upto_region 11 with (go_at_call 135; (with_reducible refine (HF.out _).mono ?_); rintro en w1 ⟨rfl, hb⟩; have HS1 := lh (HB3.out.below hb); clear hb)
 obtain ⟨A9, c9, hg, hge, -⟩ := HS1.out.is
 have k1 := Na0 hg
 have f1 := Naf hg 1
 clear hg hge
 go_upto_region 12 with (fail)
 obtain ⟨w14, hw_⟩ : ∃ x_ : World, x_ = w1.setCell ⟨g, 1, none⟩ (.int .i64 (at_ + 2)) := ⟨_, rfl⟩
 rw [← hw_]
 have HS14 := lh (show St w0 w w14 g ts (at_ + 2) e by rw [hw_]; exact HS1.out.set (at_ + 2))
 clear hw_ k1 f1 HS1
 have hxx := HX.out
 unfold refF at hxx
 cases hz : celF O ts e (at_ + 2) with
 | none => rw [hz] at hxx; cases hxx
 | some z =>
  rw [hz] at hxx
  have HC := lh (cel_any hcell pe.size hG hts HS14.out.is HS14.out.bel HBd.out.1 HBd.out.2 hz)
  have HZ := lh hz
  have HP := lh hxx
  clear hz hxx HX
  cases z with
  | error p =>
   obtain ⟨c_, p⟩ := p
   obtain rfl := sI HP.out
   go_wp2_with (go_at_call 206; (with_reducible refine (HC.out).mono ?_); rintro en w2 ⟨rfl, a, hs⟩; have HS2 := lh (HS14.out.trans hs); clear hs)
   exact ⟨rfl, rfl, _, HS2.out⟩
  | ok p =>
   obtain ⟨r, a⟩ := p
   have hp := HP.out
   simp only [Res.bnd] at hp
   have HA := lh (celF_range O e HZ.out)
   have HA1 := lh (show 0 ≤ a ∧ a ≤ 1000000 by have := HA.out; have := HBd.out; omega)
   clear HP
   go_upto_region 14 with (first
    | (go_at_call 206; (with_reducible refine (HC.out).mono ?_); rintro en w2 ⟨rfl, hs⟩; have HS2 := lh (HS14.out.trans hs); clear hs HC HS14)
    | ((with_reducible refine gD 6 rfl ?_); refine bX 6 #[.int .i64 0, .int .i64 0, .int .i64 0, .int .i64 0, .string ⟨#[]⟩, .bool false, .int .i64 0, .int .i64 0, .string ⟨#[]⟩, .int .i64 0, .string ⟨#[]⟩, .int .i64 0, .int .i64 0, .bool false, .bool false, .string ⟨#[]⟩, .int .i64 0, .int .i64 0, .bool false, .bool false] 50 ?_; intro g6 hg_ w3 hb_ hl_; have HG6 := lh (show w0.heap.size ≤ g6 ∧ w.heap.size ≤ g6 ∧ g6 ≠ g from ⟨hg_ ▸ HS2.out.bel.size, hg_ ▸ HS2.out.size, by have := HS2.out.is.lt; omega⟩); have HS3 := lh (HS2.out.below hl_); have J3 := lh hb_; clear hb_ hl_ hg_ HS2)
    | ((with_reducible refine gate_ (.store 50 (.tmp 6) (.tmp 55)) rfl ?_); refine Nca rfl rfl (t := 50) (p := .tmp 6) (x := (.tmp 55)) rfl (g := g6) (o' := 0) (e := 50) (u := .agg #[.int .i64 2, .int .i64 0, .int .i64 0, .int .i64 0, .string ⟨#[]⟩, .bool false, .int .i64 0, .int .i64 0, .string ⟨#[]⟩, .int .i64 0, .string r.f0, .int .i64 r.f1, .int .i64 r.f2, .bool r.f3, .bool r.f4, .string ⟨#[]⟩, .int .i64 0, .int .i64 0, .bool false, .bool false]) (seg := [.int .i64 2, .int .i64 0, .int .i64 0, .int .i64 0, .string ⟨#[]⟩, .bool false, .int .i64 0, .int .i64 0, .string ⟨#[]⟩, .int .i64 0, .string r.f0, .int .i64 r.f1, .int .i64 r.f2, .bool r.f3, .bool r.f4, .string ⟨#[]⟩, .int .i64 0, .int .i64 0, .bool false, .bool false]) (new := #[.int .i64 2, .int .i64 0, .int .i64 0, .int .i64 0, .string ⟨#[]⟩, .bool false, .int .i64 0, .int .i64 0, .string ⟨#[]⟩, .int .i64 0, .string r.f0, .int .i64 r.f1, .int .i64 r.f2, .bool r.f3, .bool r.f4, .string ⟨#[]⟩, .int .i64 0, .int .i64 0, .bool false, .bool false]) ?ha ?hx ?hu ?ht J3.out ?hf ?h1 ?hn ?_; (case ha => rfl); (case hx => rfl); (case hu => rfl); (case ht => kernel_rfl); (case hf => simp); (case h1 => rfl); (case hn => kernel_rfl); intro w4 hb_ hp_; have J4 := lh hb_; have HS4 := lh (HS3.out.put hp_ HG6.out.1 HG6.out.2.1 HG6.out.2.2); clear hb_ hp_ J3 HS3)
    | ((with_reducible refine gate_ (.store 9 (.tmp 58) (.tmp 56)) rfl ?_); refine Nca rfl rfl (t := 9) (p := .tmp 58) (x := (.tmp 56)) rfl (g := g6) (o' := 10) (e := 50) (u := .string sv) (seg := [.string sv]) (new := #[.int .i64 2, .int .i64 0, .int .i64 0, .int .i64 0, .string ⟨#[]⟩, .bool false, .int .i64 0, .int .i64 0, .string ⟨#[]⟩, .int .i64 0, .string sv, .int .i64 r.f1, .int .i64 r.f2, .bool r.f3, .bool r.f4, .string ⟨#[]⟩, .int .i64 0, .int .i64 0, .bool false, .bool false]) ?ha ?hx ?hu ?ht J4.out ?hf ?h1 ?hn ?_; (case ha => rfl); (case hx => rfl); (case hu => rfl); (case ht => kernel_rfl); (case hf => simp); (case h1 => rfl); (case hn => kernel_rfl); intro w5 hb_ hp_; have J5 := lh hb_; have HS5 := lh (HS4.out.put hp_ HG6.out.1 HG6.out.2.1 HG6.out.2.2); clear hb_ hp_ J4 HS4))
   by_cases hm58 : markA ts a = mB [58]
   ·rw [if_pos hm58] at hp
    cases hz : celF O ts e (a + 1) with
    | none => rw [hz] at hp; cases hp
    | some z =>
     rw [hz] at hp
     have HL58 := lh (Nbb ts hm58 (by decide))
     have HT := lh (Nc9 (m := ⟨#[58]⟩) HS5.out.is HS5.out.bel HA1.out.1 HA1.out.2 hm58)
     have HZ2 := lh hz
     have HP := lh hp
     clear hz hp hm58
     go_wp2_with (go_at_call 143; (with_reducible refine (HT.out).mono ?_); rintro en w6 ⟨rfl, hs⟩; have HS6 := lh (HS5.out.trans hs); have J6 := lh (hs.keep.blk J5.out HG6.out.2.2 (by simp)); clear hs HT HS5 J5)
     have HC := lh (cel_any hcell pe.size hG hts HS6.out.is HS6.out.bel (show 0 ≤ a + 1 by have := HA1.out; omega) (show a + 1 ≤ ts.length by have := HL58.out; omega) HZ2.out)
     cases z with
     | error p =>
      obtain ⟨c_, p⟩ := p
      obtain rfl := sI HP.out
      (with_reducible refine (HC.out).mono ?_)
      rintro en w7 ⟨rfl, a2, hs⟩
      go_wp2
      exact ⟨rfl, rfl, a2, HS6.out.trans hs⟩
     | ok p =>
      obtain ⟨s, b2⟩ := p
      obtain rfl := sI HP.out
      (with_reducible refine (HC.out).mono ?_)
      rintro en w7 ⟨rfl, hs⟩
      have HS7 := lh (HS6.out.trans hs)
      have J7 := lh (hs.keep.blk J6.out HG6.out.2.2 (by simp))
      clear hs HC HS6 J6
      go_wp2_with (first | ((with_reducible refine gate_ (.store 3 (.tmp 63) (.const (.int .i64 3))) rfl ?_); refine Nca rfl rfl (t := 3) (p := .tmp 63) (x := (.const (.int .i64 3))) rfl (g := g6) (o' := 0) (e := 50) (u := .int .i64 3) (seg := [.int .i64 3]) (new := #[.int .i64 3, .int .i64 0, .int .i64 0, .int .i64 0, .string ⟨#[]⟩, .bool false, .int .i64 0, .int .i64 0, .string ⟨#[]⟩, .int .i64 0, .string sv, .int .i64 r.f1, .int .i64 r.f2, .bool r.f3, .bool r.f4, .string ⟨#[]⟩, .int .i64 0, .int .i64 0, .bool false, .bool false]) ?ha ?hx ?hu ?ht J7.out ?hf ?h1 ?hn ?_; (case ha => rfl); (case hx => rfl); (case hu => rfl); (case ht => kernel_rfl); (case hf => simp); (case h1 => rfl); (case hn => kernel_rfl); intro w8 hb_ hp_; have J8 := lh hb_; have HS8 := lh (HS7.out.put hp_ HG6.out.1 HG6.out.2.1 HG6.out.2.2); clear hb_ hp_ J7 HS7) | ((with_reducible refine gate_ (.store 48 (.tmp 64) (.tmp 62)) rfl ?_); refine Nca rfl rfl (t := 48) (p := .tmp 64) (x := (.tmp 62)) rfl (g := g6) (o' := 15) (e := 50) (u := vR s) (seg := [.string s.f0, .int .i64 s.f1, .int .i64 s.f2, .bool s.f3, .bool s.f4]) (new := #[.int .i64 3, .int .i64 0, .int .i64 0, .int .i64 0, .string ⟨#[]⟩, .bool false, .int .i64 0, .int .i64 0, .string ⟨#[]⟩, .int .i64 0, .string sv, .int .i64 r.f1, .int .i64 r.f2, .bool r.f3, .bool r.f4, .string s.f0, .int .i64 s.f1, .int .i64 s.f2, .bool s.f3, .bool s.f4]) ?ha ?hx ?hu ?ht J8.out ?hf ?h1 ?hn ?_; (case ha => rfl); (case hx => rfl); (case hu => rfl); (case ht => kernel_rfl); (case hf => simp); (case h1 => rfl); (case hn => kernel_rfl); intro w10 hb_ hp_; have J10 := lh hb_; have HS10 := lh (HS8.out.put hp_ HG6.out.1 HG6.out.2.1 HG6.out.2.2); clear hb_ hp_ J8 HS8) | ((with_reducible refine gD 65 rfl ?_); refine lA J10.out 50 (.tmp 6) hu50 ?_) | ((with_reducible refine gD 66 rfl ?_); refine Kd.R_lit k50 w.heap.size 50 (w0 := w10) ?hg (N := 66) ?hd (xs := [nArea ⟨sv, r.f1, r.f2, r.f3, r.f4⟩ s]) (inner := [.int .i64 3, .int .i64 0, .int .i64 0, .int .i64 0, .string ⟨#[]⟩, .bool false, .int .i64 0, .int .i64 0, .string ⟨#[]⟩, .int .i64 0, .string sv, .int .i64 r.f1, .int .i64 r.f2, .bool r.f3, .bool r.f4, .string s.f0, .int .i64 s.f1, .int .i64 s.f2, .bool s.f3, .bool s.f4]) (ok := fun _ => True) (okp := fun _ => True) ?hr ?hp (fun _ hk => hk) trivial (Below.refl _ _) HS10.out.size (by simp) ?_; (case hd => rfl); (case hg => rfl); (case hr => go_simp <;> rfl); (case hp => exact (Reps.front (m_area sv r s _ _ _) rfl (Reps.none _ _) rfl)); intro v9 w9 ho_ hb_ hg_ hn_; have HR9 := lh ho_; have HS9 := lh (HS10.out.fresh hb_ HG.out HBz.out); clear ho_ hb_ hg_ hn_))
      go_ret
      exact ⟨_, rfl, HR9.out, HS9.out⟩
   ·rw [if_neg hm58] at hp
    obtain rfl := sI hp
    have HT := lh (Nb7 (m := ⟨#[58]⟩) HS5.out.is HS5.out.bel HA1.out.1 HA1.out.2 hm58)
    clear hp hm58
    go_wp2_with (first
     | (go_at_call 143; (with_reducible refine (HT.out).mono ?_); rintro en w6 ⟨rfl, hs⟩; have HS6 := lh (HS5.out.trans hs); have J6 := lh (hs.keep.blk J5.out HG6.out.2.2 (by simp)); clear hs HT HS5 J5)
     | ((with_reducible refine gD 65 rfl ?_); refine lA J6.out 50 (.tmp 6) hu50 ?_)
     | ((with_reducible refine gD 66 rfl ?_); refine Kd.R_lit k50 w.heap.size 50 (w0 := w6) ?hg (N := 66) ?hd (xs := [nCell ⟨sv, r.f1, r.f2, r.f3, r.f4⟩]) (inner := [.int .i64 2, .int .i64 0, .int .i64 0, .int .i64 0, .string ⟨#[]⟩, .bool false, .int .i64 0, .int .i64 0, .string ⟨#[]⟩, .int .i64 0, .string sv, .int .i64 r.f1, .int .i64 r.f2, .bool r.f3, .bool r.f4, .string ⟨#[]⟩, .int .i64 0, .int .i64 0, .bool false, .bool false]) (ok := fun _ => True) (okp := fun _ => True) ?hr ?hp (fun _ hk => hk) trivial (Below.refl _ _) HS6.out.size (by simp) ?_; (case hd => rfl); (case hg => rfl); (case hr => go_simp <;> rfl); (case hp => exact (Reps.front (m_cell sv r _ _ _) rfl (Reps.none _ _) rfl)); intro v9 w9 ho_ hb_ hg_ hn_; have HR9 := lh ho_; have HS9 := lh (HS6.out.fresh hb_ HG.out HBz.out); clear ho_ hb_ hg_ hn_))
    go_ret
    exact ⟨_, rfl, HR9.out, HS9.out⟩
theorem wor_any {k : Nat} (ih : Parts O ts e w0 k) (hG : GL w0) (pe : PEnv O ts) (hcell : ∀ i, O.cell (tokA ts i).f1 = cellO (tokA ts i).f1) (hts : ts.length ≤ 100000) (w : World) (g : Nat) (m : ByteArray) (at_ : Int) (x) (hI : IsS72 w0 w g ts at_ e) (hB : Below w0.heap.size w0 w) (h0 : 0 ≤ at_) (h1 : at_ < ts.length) (hw : m = (tokA ts at_).f1) (h : worF O ts e (k + 1) m at_ = some x) :
 Calls Tryz.prog 178 #[.pointer (some ⟨g, 0, none⟩), .string m] w (Ans w0 w g ts e x) := by
 have hz : m.size ≤ 100000 := by rw [hw]; exact pe.size at_
 rw [worF] at h
 by_cases hm1 : markA ts (at_ + 1) = mB [40]
 ·rw [if_pos hm1] at h
  exact word_call ih hG pe hcell hts hI hB h0 h1 hm1 hw h
 rw [if_neg hm1] at h
 by_cases hm2 : markA ts (at_ + 1) = mB [33]
 ·rw [if_pos hm2] at h
  cases hf : O.sh m with
  | false => rw [hf] at h; obtain rfl := sI h; exact word_bad ih hG pe hcell hts hI hB h0 h1 hm2 hz hf
  | true => rw [hf, if_pos rfl] at h; exact word_sheet ih hG pe hcell hts hI hB h0 h1 hm2 hz hf h
 rw [if_neg hm2] at h
 by_cases hw1 : m = tTRUE
 ·rw [if_pos hw1] at h; obtain rfl := sI h; exact word_true ih hG pe hcell hts hI hB h0 h1 hm1 hm2 hw1
 rw [if_neg hw1] at h
 by_cases hw2 : m = tFALSE
 ·rw [if_pos hw2] at h; obtain rfl := sI h; exact word_false ih hG pe hcell hts hI hB h0 h1 hm1 hm2 hw2
 rw [if_neg hw2] at h
 exact word_plain ih hG pe hcell hts hI hB h0 h1 hm1 hm2 hw1 hw2 h
theorem parts_all (hG : GL w0) (pe : PEnv O ts) (hcell : ∀ i, O.cell (tokA ts i).f1 = cellO (tokA ts i).f1) (hts : ts.length ≤ 100000) : ∀ k, Parts O ts e w0 k
 | 0 => by
  constructor
  ·intro _ _ _ _ _ _ _ _ _ _ _ h; rw [binF] at h; cases h
  ·intro _ _ _ _ _ _ _ _ h; rw [sgnF] at h; cases h
  ·intro _ _ _ _ _ _ _ _ h; rw [parF] at h; cases h
  ·intro _ _ _ _ _ _ _ _ _ _ h; rw [worF] at h; cases h
  ·intro _ _ _ _ _ _ _ _ _ _ h; rw [calF] at h; cases h
 | k + 1 => by
  have ih := parts_all hG pe hcell hts k
  exact ⟨fun w g least at_ x hI hB h0 h1 h2 h3 h => binary_any ih hts w g least at_ x hI hB h0 h1 h2 h3 h, fun w g at_ x hI hB h0 h1 h => signed_any ih hts w g at_ x hI hB h0 h1 h, fun w g at_ x hI hB h0 h1 h => part_any ih hG pe hts w g at_ x hI hB h0 h1 h,
   fun w g m at_ x hI hB h0 h1 hw h => wor_any ih hG pe hcell hts w g m at_ x hI hB h0 h1 hw h, fun w g m at_ x hI hB h0 h1 hw h => call_any ih hG pe hts w g m at_ x hI hB h0 h1 hw h⟩
end
end
theorem catch_idle (p q : Addr) (w : World) :
 CallsD Tryz.prog 67 #[.pointer (some p), .pointer (some q)] .returning w fun e u' w' => e = .returned (.tuple #[]) ∧ u' = .returning ∧ w' = w := by
 refine callsD_of_wpS Tryz.func67 rfl fun c₀ cs hu => ?_
 apply wpS_seq
 apply wpS_region
 simp [wpOpsS, go_sem, recoverD, hu, Tryz.ntmps67, Exit.thenS]
 refine wpS_of_wp ?_
 go_wp2
 cases c₀
 simp_all [bodyPostS, results, Tryz.results67]
structure Caught (g2 g3 : Nat) (c p : Int) (w w' : World) : Prop where
 out : w'.heap[g2]? = some (.cells #[.slice none 0 0] 22 (0, 0))
 bad : w'.heap[g3]? = some (.cells #[.int .i64 c, .int .i64 p] 74 (0, 0))
 below : ∀ w0 : World, w0.heap.size ≤ g2 → w0.heap.size ≤ g3 → Below w0.heap.size w0 w → Below w0.heap.size w0 w'
 size : w.heap.size ≤ w'.heap.size
 far : ∀ k, k < w.heap.size → k ≠ g2 → k ≠ g3 → w'.heap[k]? = w.heap[k]?
theorem caught_put {g2 g3 : Nat} {c p : Int} {w w1 w2 : World} (hb : Below w.heap.size w w1) (h2 : w2.heap[g2]? = some (.cells #[.slice none 0 0] 22 (0, 0))) (h3 : w2.heap[g3]? = some (.cells #[.int .i64 c, .int .i64 p] 74 (0, 0)))
 (hw : ∀ w0 : World, w0.heap.size ≤ g2 → w0.heap.size ≤ g3 → Below w0.heap.size w0 w1 → Below w0.heap.size w0 w2) (hs : w2.heap.size = w1.heap.size) (hf : ∀ k, k ≠ g2 → k ≠ g3 → w2.heap[k]? = w1.heap[k]?) : Caught g2 g3 c p w w2 :=
 ⟨h2, h3, fun w0 a b h => hw w0 a b (Nac h hb), by have := hb.size; omega, fun k hk a b => (hf k a b).trans (hb.block k hk)⟩
theorem far1 {w : World} {g k : Nat} (j : Nat) (v : Value) (h : k ≠ g) : (w.setCell ⟨g, j, none⟩ v).heap[k]? = w.heap[k]? := Below.heap_setCell w ⟨g, j, none⟩ v k h
theorem catch_bad (g2 g3 : Nat) (v2 : Value) (b0 b1 c p : Int) (older : List PanicEntry) (w : World) (hg2 : w.heap[g2]? = some (.cells #[v2] 22 (0, 0))) (hg3 : w.heap[g3]? = some (.cells #[.int .i64 b0, .int .i64 b1] 74 (0, 0))) (hne : g2 ≠ g3) :
 CallsD Tryz.prog 67 #[.pointer (some ⟨g2, 0, none⟩), .pointer (some ⟨g3, 0, none⟩)] (.panicking ({ v := .iface 74 (.agg #[.int .i64 c, .int .i64 p]), recovered := false } :: older)) w fun e u' w' =>
  e = .returned (.tuple #[]) ∧ u' = .panicking ({ v := .iface 74 (.agg #[.int .i64 c, .int .i64 p]), recovered := true } :: older) ∧ Caught g2 g3 c p w w' := by
 refine callsD_of_wpS Tryz.func67 rfl fun c₀ cs hu => ?_
 apply wpS_seq
 apply wpS_region
 simp [wpOpsS, go_sem, recoverD, hu, Tryz.ntmps67, Exit.thenS]
 refine wpS_of_wp ?_
 rw [show (#[.pointer (some ⟨g2, 0, none⟩), .pointer (some ⟨g3, 0, none⟩)] ++ (Array.replicate 10 undef).setIfInBounds 3 (Value.iface 74 (.agg #[.int .i64 c, .int .i64 p])) : Array Value) = #[.pointer (some ⟨g2, 0, none⟩), .pointer (some ⟨g3, 0, none⟩), undef, undef, undef, .iface 74 (.agg #[.int .i64 c, .int .i64 p]), undef, undef, undef, undef, undef, undef] from rfl]
 have hta : ∀ w : World, (Instr.typeAssert (.iface 74 (.agg #[.int .i64 c, .int .i64 p])) 20 74 true).run Tryz.prog w = .ok (.tuple #[.agg #[.int .i64 c, .int .i64 p], .bool true]) w := fun w => by kernel_rfl
 have HG2 := lh hg2
 have HG3 := lh hg3
 have HU := lh hu
 have HNE := lh hne
 clear hg2 hg3 hu hne
 go_upto_region 7 with (fail)
 obtain ⟨g4, hg4⟩ : ∃ x_ : Nat, x_ = w.heap.size := ⟨_, rfl⟩
 obtain ⟨w1, hw_⟩ : ∃ x_ : World, x_ = w.alloc (.cells #[.int .i64 c, .int .i64 p] 74) := ⟨_, rfl⟩
 rw [← hw_, ← hg4]
 have BL := lh (show Below w.heap.size w w1 by rw [hw_]; exact Nae (Below.refl _ _) _)
 have J4 := lh (show w1.heap[g4]? = some (.cells #[.int .i64 c, .int .i64 p] 74 (0, 0)) by rw [hw_, hg4]; exact Nce w _)
 have J2 := lh (show w1.heap[g2]? = some (.cells #[v2] 22 (0, 0)) by rw [hw_]; exact Nap HG2.out _)
 have J3 := lh (show w1.heap[g3]? = some (.cells #[.int .i64 b0, .int .i64 b1] 74 (0, 0)) by rw [hw_]; exact Nap HG3.out _)
 have e2 : w1.cell? ⟨g2, 0, none⟩ = some v2 := (Naa J2.out 0).trans rfl
 have f2 := Naf J2.out 0
 have e30 : w1.cell? ⟨g3, 0, none⟩ = some (.int .i64 b0) := (Naa J3.out 0).trans rfl
 have e31 : w1.cell? ⟨g3, 1, none⟩ = some (.int .i64 b1) := (Naa J3.out 1).trans rfl
 have f30 := Naf J3.out 0
 have f31 := Naf J3.out 1
 have e40 : w1.cell? ⟨g4, 0, none⟩ = some (.int .i64 c) := (Naa J4.out 0).trans rfl
 have e41 : w1.cell? ⟨g4, 1, none⟩ = some (.int .i64 p) := (Naa J4.out 1).trans rfl
 have n23 : g2 ≠ g3 := HNE.out
 have n24 : g4 ≠ g2 := by have := Nbe HG2.out; omega
 have n34 : g4 ≠ g3 := by have := Nbe HG3.out; omega
 clear hw_ hg4
 go_region
 all_goals
  have HC := lh (caught_put BL.out (w2 := (((w1.setCell ⟨g2, 0, none⟩ (.slice none 0 0)).setCell ⟨g3, 0, none⟩ (.int .i64 c)).setCell ⟨g3, 1, none⟩ (.int .i64 p)).drew)
   ((Nag (Nbk (Nbk (Ncy (cs' := #[.slice none 0 0]) J2.out 0 (.slice none 0 0) rfl) n23 _) n23 _)))
   (Nag (Ncy (cs' := #[.int .i64 c, .int .i64 p]) (Ncy (cs' := #[.int .i64 c, .int .i64 b1]) (Nbk J3.out n23.symm _) 0 (.int .i64 c) rfl) 1 (.int .i64 p) rfl))
   (fun w0 a b h => Ndh (((h.setCell a _).setCell b _).setCell b _)) (by simp [World.setCell, World.drew])
   (fun k a b => ((far1 1 _ b).trans ((far1 0 _ b).trans (far1 0 _ a)))))
  clear e2 f2 e30 e31 f30 f31 e40 e41 n23 n24 n34 J2 J3 J4 BL hta
  exact ⟨rfl, _, rfl, .tuple #[], results_none rfl _ _ _, rfl, rfl, HC.out⟩
end Go.Proofs.YtejbbceidnaloaaGreatDoor.P
