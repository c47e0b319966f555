import Derived.Test.YtejbbceidnaloaaGreatDoorL24
namespace Go.Proofs.YtejbbceidnaloaaGreatDoor.P
open Go.RowKit Go.Proofs.YtejbbceidnaloaaGreatDoorW.PrintWords Go.Proofs.YtejbbceidnaloaaGreatDoorW.PrintLast Go.Proofs.YtejbbceidnaloaaGreatDoorW.PrintMore
set_option linter.unusedVariables false
set_option linter.unusedSimpArgs false
section
set_option maxRecDepth 100000
set_option maxHeartbeats 4000000
theorem tl_non {m : ByteArray} {l : List UInt8} (h : m ≠ mB l) : (m.toList != l) = true := by rw [bne, tl_no h]; rfl
theorem m_cell (sv : ByteArray) (r : S48) (w : World) (base : Nat) (ok : Nat → Prop) : Kd.M k50 w base ok (nCell ⟨sv, r.f1, r.f2, r.f3, r.f4⟩) [.int .i64 2, .int .i64 0, .int .i64 0, .int .i64 0, .string (⟨#[]⟩ : ByteArray), .bool false, .int .i64 0, .int .i64 0, .string (⟨#[]⟩ : ByteArray), .int .i64 0, .string sv, .int .i64 r.f1, .int .i64 r.f2, .bool r.f3, .bool r.f4, .string (⟨#[]⟩ : ByteArray), .int .i64 0, .int .i64 0, .bool false, .bool false] := k50_mkM w base ok (nCell ⟨sv, r.f1, r.f2, r.f3, r.f4⟩)
theorem m_area (sv : ByteArray) (r s : S48) (w : World) (base : Nat) (ok : Nat → Prop) : Kd.M k50 w base ok (nArea ⟨sv, r.f1, r.f2, r.f3, r.f4⟩ s) [.int .i64 3, .int .i64 0, .int .i64 0, .int .i64 0, .string (⟨#[]⟩ : ByteArray), .bool false, .int .i64 0, .int .i64 0, .string (⟨#[]⟩ : ByteArray), .int .i64 0, .string sv, .int .i64 r.f1, .int .i64 r.f2, .bool r.f3, .bool r.f4, .string s.f0, .int .i64 s.f1, .int .i64 s.f2, .bool s.f3, .bool s.f4] := k50_mkM w base ok (nArea ⟨sv, r.f1, r.f2, r.f3, r.f4⟩ s)
section
variable {O : Ops} {ts : List S39} {e : Int} {w0 : World}
theorem word_call {k : Nat} (ih : Parts O ts e w0 k) (hG : GL w0) (pe : PEnv O ts) (hcell : ∀ i, O.cell (tokA ts i).f1 = cellO (tokA ts i).f1) (hts : ts.length ≤ 100000) {w : World} {g : Nat} {m : ByteArray} {at_ : Int} (hI : IsS72 w0 w g ts at_ e) (hB : Below w0.heap.size w0 w) (h0 : 0 ≤ at_) (h1 : at_ < ts.length) {x} (hm : markA ts (at_ + 1) = mB [40]) (hw : m = (tokA ts at_).f1) (hx : calF O ts e k m at_ = some x) :
 Calls Tryz.prog 178 #[.pointer (some ⟨g, 0, none⟩), .string m] w (Ans w0 w g ts e x) := by
 have H0 := Lib.hid (show 0 ≤ at_ ∧ at_ ≤ 1000000 by omega)
 have HB0 := Lib.hid (St.start hI hB)
 have HBz := Lib.hid hB.size
 have hu50 := Tryz.underlying50
 have HM := Lib.hid (show markA ts (at_ + 1) = ⟨#[40]⟩ from hm)
 have HX := Lib.hid hx
 have HW := Lib.hid hw
 have HL := Lib.hid (show at_ + 1 < ts.length from markA_lt ts hm (by decide))
 clear hI hB hm hx hw
 go_enter Tryz.func178, Tryz.ntmps178
 go_wp2_with (first
  | (go_at_call 204; (with_reducible refine (behind_any HB0.out.is HB0.out.bel H0.out.1 H0.out.2 ⟨#[40]⟩ HM.out).mono ?_); rintro en wb1 ⟨rfl, hs, hb⟩; have HB1 := Lib.hid (HB0.out.trans hs); clear hs hb HB0))
 cases x with
 | error p =>
  obtain ⟨c, p⟩ := p
  (with_reducible refine (ih.cal _ g m at_ _ HB1.out.is HB1.out.bel H0.out.1 HL.out HW.out HX.out).mono ?_)
  rintro en w2 ⟨rfl, a, hs⟩
  go_wp2
  exact ⟨rfl, rfl, a, HB1.out.trans hs⟩
 | ok p =>
  obtain ⟨r, a⟩ := p
  (with_reducible refine (ih.cal _ g m at_ _ HB1.out.is HB1.out.bel H0.out.1 HL.out HW.out HX.out).mono ?_)
  rintro en w2 ⟨v, rfl, hr, hs⟩
  obtain ⟨A, c, rfl, hle, -⟩ := Kd.R_reads hr
  have HR := Lib.hid (Kd.R_lower hr HB1.out.size)
  have HS := Lib.hid (HB1.out.trans hs)
  clear hr hs hle
  go_wp2
  go_ret
  exact ⟨_, rfl, HR.out, HS.out⟩
theorem word_bad {k : Nat} (ih : Parts O ts e w0 k) (hG : GL w0) (pe : PEnv O ts) (hcell : ∀ i, O.cell (tokA ts i).f1 = cellO (tokA ts i).f1) (hts : ts.length ≤ 100000) {w : World} {g : Nat} {m : ByteArray} {at_ : Int} (hI : IsS72 w0 w g ts at_ e) (hB : Below w0.heap.size w0 w) (h0 : 0 ≤ at_) (h1 : at_ < ts.length) (hm : markA ts (at_ + 1) = mB [33]) (hz : m.size ≤ 100000) (hf : O.sh m = false) :
 Calls Tryz.prog 178 #[.pointer (some ⟨g, 0, none⟩), .string m] w (Ans w0 w g ts e (.error (50, failAt ts e at_))) := by
 have H0 := Lib.hid (show 0 ≤ at_ ∧ at_ ≤ 1000000 by omega)
 have HB0 := Lib.hid (St.start hI hB)
 have HBz := Lib.hid hB.size
 have hu50 := Tryz.underlying50
 have HM := Lib.hid (show markA ts (at_ + 1) = ⟨#[33]⟩ from hm)
 have HF := Lib.hid (fun w => pe.sh m w hz)
 rw [hf] at HF
 clear hI hB hm hz hf
 go_enter Tryz.func178, Tryz.ntmps178
 go_upto_region 8 with (first
  | (go_at_call 204; (with_reducible refine (behind_any HB0.out.is HB0.out.bel H0.out.1 H0.out.2 ⟨#[33]⟩ HM.out).mono ?_); rintro en wb1 ⟨rfl, hs, hb⟩; have HB1 := Lib.hid (HB0.out.trans hs); clear hs hb HB0)
  | (go_at_call 204; (with_reducible refine (behind_any HB1.out.is HB1.out.bel H0.out.1 H0.out.2 ⟨#[33]⟩ HM.out).mono ?_); rintro en wb2 ⟨rfl, hs, hb⟩; have HB2 := Lib.hid (HB1.out.trans hs); clear hs hb HB1)
  | (go_at_call 204; (with_reducible refine (behind_any HB2.out.is HB2.out.bel H0.out.1 H0.out.2 ⟨#[33]⟩ HM.out).mono ?_); rintro en wb3 ⟨rfl, hs, hb⟩; have HB3 := Lib.hid (HB2.out.trans hs); clear hs hb HB2))
 go_wp2_with (first
  | (go_at_call 135; (with_reducible refine (HF.out _).mono ?_); rintro en w1 ⟨rfl, hb⟩; have HS1 := Lib.hid (HB3.out.below hb); clear hb)
  | (go_at_call 69; (with_reducible refine (fail_any HS1.out.is HS1.out.bel H0.out.1 50).mono ?_); rintro en w8 ⟨rfl, hs⟩; have HS8 := Lib.hid (HS1.out.trans hs); clear hs))
 exact ⟨rfl, rfl, _, HS8.out⟩
theorem word_true {k : Nat} (ih : Parts O ts e w0 k) (hG : GL w0) (pe : PEnv O ts) (hcell : ∀ i, O.cell (tokA ts i).f1 = cellO (tokA ts i).f1) (hts : ts.length ≤ 100000) {w : World} {g : Nat} {m : ByteArray} {at_ : Int} (hI : IsS72 w0 w g ts at_ e) (hB : Below w0.heap.size w0 w) (h0 : 0 ≤ at_) (h1 : at_ < ts.length) (hm1 : markA ts (at_ + 1) ≠ mB [40]) (hm2 : markA ts (at_ + 1) ≠ mB [33]) (hw : m = mB [84, 82, 85, 69]) :
 Calls Tryz.prog 178 #[.pointer (some ⟨g, 0, none⟩), .string m] w (Ans w0 w g ts e (.ok ([nVal (O.tru true)], at_ + 1))) := by
 have H0 := Lib.hid (show 0 ≤ at_ ∧ at_ ≤ 1000000 by omega)
 have HB0 := Lib.hid (St.start hI hB)
 have HBz := Lib.hid hB.size
 have hu50 := Tryz.underlying50
 obtain ⟨m2, hm⟩ : ∃ m2, markA ts (at_ + 1) = m2 := ⟨_, rfl⟩
 rw [hm] at hm1 hm2
 have HM := Lib.hid hm
 have b1 : (m2.toList == [40]) = false := tl_no hm1
 have b2 : (m2.toList == [33]) = false := tl_no hm2
 have b3 : (m2.toList != [33]) = true := tl_non hm2
 obtain rfl : m = ⟨#[84, 82, 85, 69]⟩ := hw
 clear hI hB hm hm1 hm2
 have q0 : 0 ≤ at_ := h0
 have q1 : at_ ≤ 1000000 := H0.out.2
 go_enter Tryz.func178, Tryz.ntmps178
 go_upto_region 4 with (first
  | (go_at_call 204; (with_reducible refine (behind_any HB0.out.is HB0.out.bel H0.out.1 H0.out.2 m2 HM.out).mono ?_); rintro en wb1 ⟨rfl, hs, hb⟩; have HB1 := Lib.hid (HB0.out.trans hs); clear hs hb HB0)
  | (go_at_call 204; (with_reducible refine (behind_any HB1.out.is HB1.out.bel H0.out.1 H0.out.2 m2 HM.out).mono ?_); rintro en wb2 ⟨rfl, hs, hb⟩; have HB2 := Lib.hid (HB1.out.trans hs); clear hs hb HB1))
 obtain ⟨A9, c9, hg, hge, -⟩ := HB2.out.is
 have k1 := cellS72_1 hg
 have f1 := blk_frozen hg 1
 clear hg hge
 go_upto_region 5 with (fail)
 obtain ⟨w4, hw_⟩ : ∃ x_ : World, x_ = wb2.setCell ⟨g, 1, none⟩ (.int .i64 (at_ + 1)) := ⟨_, rfl⟩
 rw [← hw_]
 have HS4 := Lib.hid (show St w0 w w4 g ts (at_ + 1) e by rw [hw_]; exact HB2.out.set (at_ + 1))
 clear hw_ k1 f1 HB2
 go_wp2_with (first
  | (go_at_call 187; (with_reducible refine (pe.tru true _).mono ?_); rintro en w5 ⟨rfl, hb⟩; have HS5 := Lib.hid (HS4.out.below hb); clear hb)
  | (go_at_call 180; (with_reducible refine (lit_any _ _).mono ?_); rintro en w9 ⟨v9, rfl, hr, hb⟩; have HR9 := Lib.hid (Kd.R_lower hr HS5.out.size); have HS9 := Lib.hid (HS5.out.below hb); clear hr hb))
 go_ret
 exact ⟨_, rfl, HR9.out, HS9.out⟩
theorem word_false {k : Nat} (ih : Parts O ts e w0 k) (hG : GL w0) (pe : PEnv O ts) (hcell : ∀ i, O.cell (tokA ts i).f1 = cellO (tokA ts i).f1) (hts : ts.length ≤ 100000) {w : World} {g : Nat} {m : ByteArray} {at_ : Int} (hI : IsS72 w0 w g ts at_ e) (hB : Below w0.heap.size w0 w) (h0 : 0 ≤ at_) (h1 : at_ < ts.length) (hm1 : markA ts (at_ + 1) ≠ mB [40]) (hm2 : markA ts (at_ + 1) ≠ mB [33]) (hw : m = mB [70, 65, 76, 83, 69]) :
 Calls Tryz.prog 178 #[.pointer (some ⟨g, 0, none⟩), .string m] w (Ans w0 w g ts e (.ok ([nVal (O.tru false)], at_ + 1))) := by
 have H0 := Lib.hid (show 0 ≤ at_ ∧ at_ ≤ 1000000 by omega)
 have HB0 := Lib.hid (St.start hI hB)
 have HBz := Lib.hid hB.size
 have hu50 := Tryz.underlying50
 obtain ⟨m2, hm⟩ : ∃ m2, markA ts (at_ + 1) = m2 := ⟨_, rfl⟩
 rw [hm] at hm1 hm2
 have HM := Lib.hid hm
 have b1 : (m2.toList == [40]) = false := tl_no hm1
 have b2 : (m2.toList == [33]) = false := tl_no hm2
 have b3 : (m2.toList != [33]) = true := tl_non hm2
 obtain rfl : m = ⟨#[70, 65, 76, 83, 69]⟩ := hw
 clear hI hB hm hm1 hm2
 have q0 : 0 ≤ at_ := h0
 have q1 : at_ ≤ 1000000 := H0.out.2
 go_enter Tryz.func178, Tryz.ntmps178
 go_upto_region 4 with (first
  | (go_at_call 204; (with_reducible refine (behind_any HB0.out.is HB0.out.bel H0.out.1 H0.out.2 m2 HM.out).mono ?_); rintro en wb1 ⟨rfl, hs, hb⟩; have HB1 := Lib.hid (HB0.out.trans hs); clear hs hb HB0)
  | (go_at_call 204; (with_reducible refine (behind_any HB1.out.is HB1.out.bel H0.out.1 H0.out.2 m2 HM.out).mono ?_); rintro en wb2 ⟨rfl, hs, hb⟩; have HB2 := Lib.hid (HB1.out.trans hs); clear hs hb HB1))
 obtain ⟨A9, c9, hg, hge, -⟩ := HB2.out.is
 have k1 := cellS72_1 hg
 have f1 := blk_frozen hg 1
 clear hg hge
 go_upto_region 5 with (fail)
 obtain ⟨w4, hw_⟩ : ∃ x_ : World, x_ = wb2.setCell ⟨g, 1, none⟩ (.int .i64 (at_ + 1)) := ⟨_, rfl⟩
 rw [← hw_]
 have HS4 := Lib.hid (show St w0 w w4 g ts (at_ + 1) e by rw [hw_]; exact HB2.out.set (at_ + 1))
 clear hw_ k1 f1 HB2
 go_wp2_with (first
  | (go_at_call 187; (with_reducible refine (pe.tru false _).mono ?_); rintro en w5 ⟨rfl, hb⟩; have HS5 := Lib.hid (HS4.out.below hb); clear hb)
  | (go_at_call 180; (with_reducible refine (lit_any _ _).mono ?_); rintro en w9 ⟨v9, rfl, hr, hb⟩; have HR9 := Lib.hid (Kd.R_lower hr HS5.out.size); have HS9 := Lib.hid (HS5.out.below hb); clear hr hb))
 go_ret
 exact ⟨_, rfl, HR9.out, HS9.out⟩
theorem word_plain {k : Nat} (ih : Parts O ts e w0 k) (hG : GL w0) (pe : PEnv O ts) (hcell : ∀ i, O.cell (tokA ts i).f1 = cellO (tokA ts i).f1) (hts : ts.length ≤ 100000) {w : World} {g : Nat} {m : ByteArray} {at_ : Int} (hI : IsS72 w0 w g ts at_ e) (hB : Below w0.heap.size w0 w) (h0 : 0 ≤ at_) (h1 : at_ < ts.length) {x} (hm1 : markA ts (at_ + 1) ≠ mB [40]) (hm2 : markA ts (at_ + 1) ≠ mB [33]) (hw1 : m ≠ mB [84, 82, 85, 69]) (hw2 : m ≠ mB [70, 65, 76, 83, 69]) (hx : refF O ts e ⟨#[]⟩ at_ = some x) :
 Calls Tryz.prog 178 #[.pointer (some ⟨g, 0, none⟩), .string m] w (Ans w0 w g ts e x) := by
 have H0 := Lib.hid (show 0 ≤ at_ ∧ at_ ≤ 1000000 by omega)
 have HB0 := Lib.hid (St.start hI hB)
 have HBz := Lib.hid hB.size
 have hu50 := Tryz.underlying50
 have HG := Lib.hid hI.lt
 obtain ⟨m2, hm⟩ : ∃ m2, markA ts (at_ + 1) = m2 := ⟨_, rfl⟩
 rw [hm] at hm1 hm2
 have HM := Lib.hid hm
 have b1 : (m2.toList == [40]) = false := tl_no hm1
 have b2 : (m2.toList == [33]) = false := tl_no hm2
 have b3 : (m2.toList != [33]) = true := tl_non hm2
 have b4 : (m.toList == [84, 82, 85, 69]) = false := tl_no hw1
 have b5 : (m.toList == [70, 65, 76, 83, 69]) = false := tl_no hw2
 obtain ⟨sv, hsv⟩ : ∃ sv : ByteArray, sv = ⟨#[]⟩ := ⟨_, rfl⟩
 rw [← hsv] at hx
 have HX := Lib.hid hx
 have HBd := Lib.hid (show 0 ≤ at_ ∧ at_ ≤ ts.length by omega)
 have HSV := Lib.hid hsv
 clear hI hB hm hm1 hm2 hw1 hw2 hx hsv
 go_enter Tryz.func178, Tryz.ntmps178
 go_upto_region 12 with (first
  | (go_at_call 204; (with_reducible refine (behind_any HB0.out.is HB0.out.bel H0.out.1 H0.out.2 m2 HM.out).mono ?_); rintro en wb1 ⟨rfl, hs, hb⟩; have HB1 := Lib.hid (HB0.out.trans hs); clear hs hb HB0)
  | (go_at_call 204; (with_reducible refine (behind_any HB1.out.is HB1.out.bel H0.out.1 H0.out.2 m2 HM.out).mono ?_); rintro en wb2 ⟨rfl, hs, hb⟩; have HB2 := Lib.hid (HB1.out.trans hs); clear hs hb HB1)
  | (go_at_call 204; (with_reducible refine (behind_any HB2.out.is HB2.out.bel H0.out.1 H0.out.2 m2 HM.out).mono ?_); rintro en wb3 ⟨rfl, hs, hb⟩; have HB3 := Lib.hid (HB2.out.trans hs); clear hs hb HB2))
 rw [← HSV.out]
 have hxx := HX.out
 unfold refF at hxx
 cases hz : celF O ts e (at_) with
 | none => rw [hz] at hxx; cases hxx
 | some z =>
  rw [hz] at hxx
  have HC := Lib.hid (cel_any hcell pe.size hG hts HB3.out.is HB3.out.bel HBd.out.1 HBd.out.2 hz)
  have HZ := Lib.hid hz
  have HP := Lib.hid hxx
  clear hz hxx HX
  cases z with
  | error p =>
   obtain ⟨c_, p⟩ := p
   obtain rfl := Option.some.inj HP.out
   go_wp2_with (go_at_call 206; (with_reducible refine (HC.out).mono ?_); rintro en w2 ⟨rfl, a, hs⟩; have HS2 := Lib.hid (HB3.out.trans hs); clear hs)
   exact ⟨rfl, rfl, _, HS2.out⟩
  | ok p =>
   obtain ⟨r, a⟩ := p
   have hp := HP.out
   simp only [Res.bnd] at hp
   have HA := Lib.hid (celF_range O e HZ.out)
   have HA1 := Lib.hid (show 0 ≤ a ∧ a ≤ 1000000 by have := HA.out; have := HBd.out; omega)
   clear HP
   go_upto_region 14 with (first
    | (go_at_call 206; (with_reducible refine (HC.out).mono ?_); rintro en w2 ⟨rfl, hs⟩; have HS2 := Lib.hid (HB3.out.trans hs); clear hs HC HB3)
    | ((with_reducible refine gate_dst (N := 6) rfl ?_); refine bX 6 #[.int .i64 0, .int .i64 0, .int .i64 0, .int .i64 0, .string (⟨#[]⟩ : ByteArray), .bool false, .int .i64 0, .int .i64 0, .string (⟨#[]⟩ : ByteArray), .int .i64 0, .string (⟨#[]⟩ : ByteArray), .int .i64 0, .int .i64 0, .bool false, .bool false, .string (⟨#[]⟩ : ByteArray), .int .i64 0, .int .i64 0, .bool false, .bool false] 50 ?_; intro g6 hg_ w3 hb_ hl_; have HG6 := Lib.hid (show w0.heap.size ≤ g6 ∧ w.heap.size ≤ g6 ∧ g6 ≠ g from ⟨hg_ ▸ HS2.out.bel.size, hg_ ▸ HS2.out.size, by have := HS2.out.is.lt; omega⟩); have HS3 := Lib.hid (HS2.out.below hl_); have J3 := Lib.hid hb_; clear hb_ hl_ hg_ HS2)
    | ((with_reducible refine gate_ (.store 50 (.tmp 6) (.tmp 55)) rfl ?_); refine store_event rfl rfl (t := 50) (p := .tmp 6) (x := (.tmp 55)) rfl (g := g6) (o' := 0) (e := 50) (u := .agg #[.int .i64 2, .int .i64 0, .int .i64 0, .int .i64 0, .string (⟨#[]⟩ : ByteArray), .bool false, .int .i64 0, .int .i64 0, .string (⟨#[]⟩ : ByteArray), .int .i64 0, .string r.f0, .int .i64 r.f1, .int .i64 r.f2, .bool r.f3, .bool r.f4, .string (⟨#[]⟩ : ByteArray), .int .i64 0, .int .i64 0, .bool false, .bool false]) (seg := [.int .i64 2, .int .i64 0, .int .i64 0, .int .i64 0, .string (⟨#[]⟩ : ByteArray), .bool false, .int .i64 0, .int .i64 0, .string (⟨#[]⟩ : ByteArray), .int .i64 0, .string r.f0, .int .i64 r.f1, .int .i64 r.f2, .bool r.f3, .bool r.f4, .string (⟨#[]⟩ : ByteArray), .int .i64 0, .int .i64 0, .bool false, .bool false]) (new := #[.int .i64 2, .int .i64 0, .int .i64 0, .int .i64 0, .string (⟨#[]⟩ : ByteArray), .bool false, .int .i64 0, .int .i64 0, .string (⟨#[]⟩ : ByteArray), .int .i64 0, .string r.f0, .int .i64 r.f1, .int .i64 r.f2, .bool r.f3, .bool r.f4, .string (⟨#[]⟩ : ByteArray), .int .i64 0, .int .i64 0, .bool false, .bool false]) ?ha ?hx ?hu ?ht J3.out ?hf ?h1 ?hn ?_; (case ha => rfl); (case hx => rfl); (case hu => rfl); (case ht => kernel_rfl); (case hf => simp); (case h1 => rfl); (case hn => kernel_rfl); intro w4 hb_ hp_; have J4 := Lib.hid hb_; have HS4 := Lib.hid (HS3.out.put hp_ HG6.out.1 HG6.out.2.1 HG6.out.2.2); clear hb_ hp_ J3 HS3)
    | ((with_reducible refine gate_ (.store 9 (.tmp 58) (.tmp 56)) rfl ?_); refine store_event rfl rfl (t := 9) (p := .tmp 58) (x := (.tmp 56)) rfl (g := g6) (o' := 10) (e := 50) (u := .string sv) (seg := [.string sv]) (new := #[.int .i64 2, .int .i64 0, .int .i64 0, .int .i64 0, .string (⟨#[]⟩ : ByteArray), .bool false, .int .i64 0, .int .i64 0, .string (⟨#[]⟩ : ByteArray), .int .i64 0, .string sv, .int .i64 r.f1, .int .i64 r.f2, .bool r.f3, .bool r.f4, .string (⟨#[]⟩ : ByteArray), .int .i64 0, .int .i64 0, .bool false, .bool false]) ?ha ?hx ?hu ?ht J4.out ?hf ?h1 ?hn ?_; (case ha => rfl); (case hx => rfl); (case hu => rfl); (case ht => kernel_rfl); (case hf => simp); (case h1 => rfl); (case hn => kernel_rfl); intro w5 hb_ hp_; have J5 := Lib.hid hb_; have HS5 := Lib.hid (HS4.out.put hp_ HG6.out.1 HG6.out.2.1 HG6.out.2.2); clear hb_ hp_ J4 HS4))
   by_cases hm58 : markA ts a = mB [58]
   ·rw [if_pos hm58] at hp
    cases hz : celF O ts e (a + 1) with
    | none => rw [hz] at hp; cases hp
    | some z =>
     rw [hz] at hp
     have HL58 := Lib.hid (markA_lt ts hm58 (by decide))
     have HT := Lib.hid (takes_yes (m := ⟨#[58]⟩) HS5.out.is HS5.out.bel HA1.out.1 HA1.out.2 hm58)
     have HZ2 := Lib.hid hz
     have HP := Lib.hid hp
     clear hz hp hm58
     go_wp2_with (go_at_call 143; (with_reducible refine (HT.out).mono ?_); rintro en w6 ⟨rfl, hs⟩; have HS6 := Lib.hid (HS5.out.trans hs); have J6 := Lib.hid (hs.keep.blk J5.out HG6.out.2.2 (by simp)); clear hs HT HS5 J5)
     have HC := Lib.hid (cel_any hcell pe.size hG hts HS6.out.is HS6.out.bel (show 0 ≤ a + 1 by have := HA1.out; omega) (show a + 1 ≤ ts.length by have := HL58.out; omega) HZ2.out)
     cases z with
     | error p =>
      obtain ⟨c_, p⟩ := p
      obtain rfl := Option.some.inj HP.out
      (with_reducible refine (HC.out).mono ?_)
      rintro en w7 ⟨rfl, a2, hs⟩
      go_wp2
      exact ⟨rfl, rfl, a2, HS6.out.trans hs⟩
     | ok p =>
      obtain ⟨s, b2⟩ := p
      obtain rfl := Option.some.inj HP.out
      (with_reducible refine (HC.out).mono ?_)
      rintro en w7 ⟨rfl, hs⟩
      have HS7 := Lib.hid (HS6.out.trans hs)
      have J7 := Lib.hid (hs.keep.blk J6.out HG6.out.2.2 (by simp))
      clear hs HC HS6 J6
      go_wp2_with (first | ((with_reducible refine gate_ (.store 3 (.tmp 63) (.const (.int .i64 3))) rfl ?_); refine store_event rfl rfl (t := 3) (p := .tmp 63) (x := (.const (.int .i64 3))) rfl (g := g6) (o' := 0) (e := 50) (u := .int .i64 3) (seg := [.int .i64 3]) (new := #[.int .i64 3, .int .i64 0, .int .i64 0, .int .i64 0, .string (⟨#[]⟩ : ByteArray), .bool false, .int .i64 0, .int .i64 0, .string (⟨#[]⟩ : ByteArray), .int .i64 0, .string sv, .int .i64 r.f1, .int .i64 r.f2, .bool r.f3, .bool r.f4, .string (⟨#[]⟩ : ByteArray), .int .i64 0, .int .i64 0, .bool false, .bool false]) ?ha ?hx ?hu ?ht J7.out ?hf ?h1 ?hn ?_; (case ha => rfl); (case hx => rfl); (case hu => rfl); (case ht => kernel_rfl); (case hf => simp); (case h1 => rfl); (case hn => kernel_rfl); intro w8 hb_ hp_; have J8 := Lib.hid hb_; have HS8 := Lib.hid (HS7.out.put hp_ HG6.out.1 HG6.out.2.1 HG6.out.2.2); clear hb_ hp_ J7 HS7) | ((with_reducible refine gate_ (.store 48 (.tmp 64) (.tmp 62)) rfl ?_); refine store_event rfl rfl (t := 48) (p := .tmp 64) (x := (.tmp 62)) rfl (g := g6) (o' := 15) (e := 50) (u := vR s) (seg := [.string s.f0, .int .i64 s.f1, .int .i64 s.f2, .bool s.f3, .bool s.f4]) (new := #[.int .i64 3, .int .i64 0, .int .i64 0, .int .i64 0, .string (⟨#[]⟩ : ByteArray), .bool false, .int .i64 0, .int .i64 0, .string (⟨#[]⟩ : ByteArray), .int .i64 0, .string sv, .int .i64 r.f1, .int .i64 r.f2, .bool r.f3, .bool r.f4, .string s.f0, .int .i64 s.f1, .int .i64 s.f2, .bool s.f3, .bool s.f4]) ?ha ?hx ?hu ?ht J8.out ?hf ?h1 ?hn ?_; (case ha => rfl); (case hx => rfl); (case hu => rfl); (case ht => kernel_rfl); (case hf => simp); (case h1 => rfl); (case hn => kernel_rfl); intro w10 hb_ hp_; have J10 := Lib.hid hb_; have HS10 := Lib.hid (HS8.out.put hp_ HG6.out.1 HG6.out.2.1 HG6.out.2.2); clear hb_ hp_ J8 HS8) | ((with_reducible refine gate_dst (N := 65) rfl ?_); refine lA J10.out 50 (.tmp 6) hu50 ?_) | ((with_reducible refine gate_dst (N := 66) rfl ?_); refine Kd.R_lit k50 w.heap.size 50 (w0 := w10) ?hg (N := 66) ?hd (xs := [nArea ⟨sv, r.f1, r.f2, r.f3, r.f4⟩ s]) (inner := [.int .i64 3, .int .i64 0, .int .i64 0, .int .i64 0, .string (⟨#[]⟩ : ByteArray), .bool false, .int .i64 0, .int .i64 0, .string (⟨#[]⟩ : ByteArray), .int .i64 0, .string sv, .int .i64 r.f1, .int .i64 r.f2, .bool r.f3, .bool r.f4, .string s.f0, .int .i64 s.f1, .int .i64 s.f2, .bool s.f3, .bool s.f4]) (ok := fun _ => True) (okp := fun _ => True) ?hr ?hp (fun _ hk => hk) trivial (Below.refl _ _) HS10.out.size (by simp) ?_; (case hd => rfl); (case hg => rfl); (case hr => go_simp <;> rfl); (case hp => exact (Reps.front (m_area sv r s _ _ _) rfl (Reps.none _ _) rfl)); intro v9 w9 ho_ hb_ hg_ hn_; have HR9 := Lib.hid ho_; have HS9 := Lib.hid (HS10.out.fresh hb_ HG.out HBz.out); clear ho_ hb_ hg_ hn_))
      go_ret
      exact ⟨_, rfl, HR9.out, HS9.out⟩
   ·rw [if_neg hm58] at hp
    obtain rfl := Option.some.inj hp
    have HT := Lib.hid (takes_no (m := ⟨#[58]⟩) HS5.out.is HS5.out.bel HA1.out.1 HA1.out.2 hm58)
    clear hp hm58
    go_wp2_with (first
     | (go_at_call 143; (with_reducible refine (HT.out).mono ?_); rintro en w6 ⟨rfl, hs⟩; have HS6 := Lib.hid (HS5.out.trans hs); have J6 := Lib.hid (hs.keep.blk J5.out HG6.out.2.2 (by simp)); clear hs HT HS5 J5)
     | ((with_reducible refine gate_dst (N := 65) rfl ?_); refine lA J6.out 50 (.tmp 6) hu50 ?_)
     | ((with_reducible refine gate_dst (N := 66) rfl ?_); refine Kd.R_lit k50 w.heap.size 50 (w0 := w6) ?hg (N := 66) ?hd (xs := [nCell ⟨sv, r.f1, r.f2, r.f3, r.f4⟩]) (inner := [.int .i64 2, .int .i64 0, .int .i64 0, .int .i64 0, .string (⟨#[]⟩ : ByteArray), .bool false, .int .i64 0, .int .i64 0, .string (⟨#[]⟩ : ByteArray), .int .i64 0, .string sv, .int .i64 r.f1, .int .i64 r.f2, .bool r.f3, .bool r.f4, .string (⟨#[]⟩ : ByteArray), .int .i64 0, .int .i64 0, .bool false, .bool false]) (ok := fun _ => True) (okp := fun _ => True) ?hr ?hp (fun _ hk => hk) trivial (Below.refl _ _) HS6.out.size (by simp) ?_; (case hd => rfl); (case hg => rfl); (case hr => go_simp <;> rfl); (case hp => exact (Reps.front (m_cell sv r _ _ _) rfl (Reps.none _ _) rfl)); intro v9 w9 ho_ hb_ hg_ hn_; have HR9 := Lib.hid ho_; have HS9 := Lib.hid (HS6.out.fresh hb_ HG.out HBz.out); clear ho_ hb_ hg_ hn_))
    go_ret
    exact ⟨_, rfl, HR9.out, HS9.out⟩
theorem word_sheet {k : Nat} (ih : Parts O ts e w0 k) (hG : GL w0) (pe : PEnv O ts) (hcell : ∀ i, O.cell (tokA ts i).f1 = cellO (tokA ts i).f1) (hts : ts.length ≤ 100000) {w : World} {g : Nat} {m : ByteArray} {at_ : Int} (hI : IsS72 w0 w g ts at_ e) (hB : Below w0.heap.size w0 w) (h0 : 0 ≤ at_) (h1 : at_ < ts.length) {x} (hm : markA ts (at_ + 1) = mB [33]) (hz : m.size ≤ 100000) (hf : O.sh m = true) (hx : refF O ts e m (at_ + 2) = some x) :
 Calls Tryz.prog 178 #[.pointer (some ⟨g, 0, none⟩), .string m] w (Ans w0 w g ts e x) := by
 have H0 := Lib.hid (show 0 ≤ at_ ∧ at_ ≤ 1000000 by omega)
 have HB0 := Lib.hid (St.start hI hB)
 have HBz := Lib.hid hB.size
 have hu50 := Tryz.underlying50
 have HG := Lib.hid hI.lt
 have HM := Lib.hid (show markA ts (at_ + 1) = ⟨#[33]⟩ from hm)
 have HL := Lib.hid (show at_ + 1 < ts.length from markA_lt ts hm (by decide))
 have HF := Lib.hid (fun w => pe.sh m w hz)
 rw [hf] at HF
 obtain ⟨sv, hsv⟩ : ∃ sv : ByteArray, sv = m := ⟨_, rfl⟩
 rw [← hsv] at hx
 have HX := Lib.hid hx
 have HBd := Lib.hid (show 0 ≤ at_ + 2 ∧ at_ + 2 ≤ ts.length by have := HL.out; omega)
 subst hsv
 have q0 : 0 ≤ at_ := h0
 have q1 : at_ ≤ 1000000 := H0.out.2
 clear hI hB hm hz hf hx
 go_enter Tryz.func178, Tryz.ntmps178
 go_upto_region 8 with (first
  | (go_at_call 204; (with_reducible refine (behind_any HB0.out.is HB0.out.bel H0.out.1 H0.out.2 ⟨#[33]⟩ HM.out).mono ?_); rintro en wb1 ⟨rfl, hs, hb⟩; have HB1 := Lib.hid (HB0.out.trans hs); clear hs hb HB0)
  | (go_at_call 204; (with_reducible refine (behind_any HB1.out.is HB1.out.bel H0.out.1 H0.out.2 ⟨#[33]⟩ HM.out).mono ?_); rintro en wb2 ⟨rfl, hs, hb⟩; have HB2 := Lib.hid (HB1.out.trans hs); clear hs hb HB1)
  | (go_at_call 204; (with_reducible refine (behind_any HB2.out.is HB2.out.bel H0.out.1 H0.out.2 ⟨#[33]⟩ HM.out).mono ?_); rintro en wb3 ⟨rfl, hs, hb⟩; have HB3 := Lib.hid (HB2.out.trans hs); clear hs hb HB2))
 go_upto_region 11 with (go_at_call 135; (with_reducible refine (HF.out _).mono ?_); rintro en w1 ⟨rfl, hb⟩; have HS1 := Lib.hid (HB3.out.below hb); clear hb)
 obtain ⟨A9, c9, hg, hge, -⟩ := HS1.out.is
 have k1 := cellS72_1 hg
 have f1 := blk_frozen hg 1
 clear hg hge
 go_upto_region 12 with (fail)
 obtain ⟨w14, hw_⟩ : ∃ x_ : World, x_ = w1.setCell ⟨g, 1, none⟩ (.int .i64 (at_ + 2)) := ⟨_, rfl⟩
 rw [← hw_]
 have HS14 := Lib.hid (show St w0 w w14 g ts (at_ + 2) e by rw [hw_]; exact HS1.out.set (at_ + 2))
 clear hw_ k1 f1 HS1
 have hxx := HX.out
 unfold refF at hxx
 cases hz : celF O ts e (at_ + 2) with
 | none => rw [hz] at hxx; cases hxx
 | some z =>
  rw [hz] at hxx
  have HC := Lib.hid (cel_any hcell pe.size hG hts HS14.out.is HS14.out.bel HBd.out.1 HBd.out.2 hz)
  have HZ := Lib.hid hz
  have HP := Lib.hid hxx
  clear hz hxx HX
  cases z with
  | error p =>
   obtain ⟨c_, p⟩ := p
   obtain rfl := Option.some.inj HP.out
   go_wp2_with (go_at_call 206; (with_reducible refine (HC.out).mono ?_); rintro en w2 ⟨rfl, a, hs⟩; have HS2 := Lib.hid (HS14.out.trans hs); clear hs)
   exact ⟨rfl, rfl, _, HS2.out⟩
  | ok p =>
   obtain ⟨r, a⟩ := p
   have hp := HP.out
   simp only [Res.bnd] at hp
   have HA := Lib.hid (celF_range O e HZ.out)
   have HA1 := Lib.hid (show 0 ≤ a ∧ a ≤ 1000000 by have := HA.out; have := HBd.out; omega)
   clear HP
   go_upto_region 14 with (first
    | (go_at_call 206; (with_reducible refine (HC.out).mono ?_); rintro en w2 ⟨rfl, hs⟩; have HS2 := Lib.hid (HS14.out.trans hs); clear hs HC HS14)
    | ((with_reducible refine gate_dst (N := 6) rfl ?_); refine bX 6 #[.int .i64 0, .int .i64 0, .int .i64 0, .int .i64 0, .string (⟨#[]⟩ : ByteArray), .bool false, .int .i64 0, .int .i64 0, .string (⟨#[]⟩ : ByteArray), .int .i64 0, .string (⟨#[]⟩ : ByteArray), .int .i64 0, .int .i64 0, .bool false, .bool false, .string (⟨#[]⟩ : ByteArray), .int .i64 0, .int .i64 0, .bool false, .bool false] 50 ?_; intro g6 hg_ w3 hb_ hl_; have HG6 := Lib.hid (show w0.heap.size ≤ g6 ∧ w.heap.size ≤ g6 ∧ g6 ≠ g from ⟨hg_ ▸ HS2.out.bel.size, hg_ ▸ HS2.out.size, by have := HS2.out.is.lt; omega⟩); have HS3 := Lib.hid (HS2.out.below hl_); have J3 := Lib.hid hb_; clear hb_ hl_ hg_ HS2)
    | ((with_reducible refine gate_ (.store 50 (.tmp 6) (.tmp 55)) rfl ?_); refine store_event rfl rfl (t := 50) (p := .tmp 6) (x := (.tmp 55)) rfl (g := g6) (o' := 0) (e := 50) (u := .agg #[.int .i64 2, .int .i64 0, .int .i64 0, .int .i64 0, .string (⟨#[]⟩ : ByteArray), .bool false, .int .i64 0, .int .i64 0, .string (⟨#[]⟩ : ByteArray), .int .i64 0, .string r.f0, .int .i64 r.f1, .int .i64 r.f2, .bool r.f3, .bool r.f4, .string (⟨#[]⟩ : ByteArray), .int .i64 0, .int .i64 0, .bool false, .bool false]) (seg := [.int .i64 2, .int .i64 0, .int .i64 0, .int .i64 0, .string (⟨#[]⟩ : ByteArray), .bool false, .int .i64 0, .int .i64 0, .string (⟨#[]⟩ : ByteArray), .int .i64 0, .string r.f0, .int .i64 r.f1, .int .i64 r.f2, .bool r.f3, .bool r.f4, .string (⟨#[]⟩ : ByteArray), .int .i64 0, .int .i64 0, .bool false, .bool false]) (new := #[.int .i64 2, .int .i64 0, .int .i64 0, .int .i64 0, .string (⟨#[]⟩ : ByteArray), .bool false, .int .i64 0, .int .i64 0, .string (⟨#[]⟩ : ByteArray), .int .i64 0, .string r.f0, .int .i64 r.f1, .int .i64 r.f2, .bool r.f3, .bool r.f4, .string (⟨#[]⟩ : ByteArray), .int .i64 0, .int .i64 0, .bool false, .bool false]) ?ha ?hx ?hu ?ht J3.out ?hf ?h1 ?hn ?_; (case ha => rfl); (case hx => rfl); (case hu => rfl); (case ht => kernel_rfl); (case hf => simp); (case h1 => rfl); (case hn => kernel_rfl); intro w4 hb_ hp_; have J4 := Lib.hid hb_; have HS4 := Lib.hid (HS3.out.put hp_ HG6.out.1 HG6.out.2.1 HG6.out.2.2); clear hb_ hp_ J3 HS3)
    | ((with_reducible refine gate_ (.store 9 (.tmp 58) (.tmp 56)) rfl ?_); refine store_event rfl rfl (t := 9) (p := .tmp 58) (x := (.tmp 56)) rfl (g := g6) (o' := 10) (e := 50) (u := .string sv) (seg := [.string sv]) (new := #[.int .i64 2, .int .i64 0, .int .i64 0, .int .i64 0, .string (⟨#[]⟩ : ByteArray), .bool false, .int .i64 0, .int .i64 0, .string (⟨#[]⟩ : ByteArray), .int .i64 0, .string sv, .int .i64 r.f1, .int .i64 r.f2, .bool r.f3, .bool r.f4, .string (⟨#[]⟩ : ByteArray), .int .i64 0, .int .i64 0, .bool false, .bool false]) ?ha ?hx ?hu ?ht J4.out ?hf ?h1 ?hn ?_; (case ha => rfl); (case hx => rfl); (case hu => rfl); (case ht => kernel_rfl); (case hf => simp); (case h1 => rfl); (case hn => kernel_rfl); intro w5 hb_ hp_; have J5 := Lib.hid hb_; have HS5 := Lib.hid (HS4.out.put hp_ HG6.out.1 HG6.out.2.1 HG6.out.2.2); clear hb_ hp_ J4 HS4))
   by_cases hm58 : markA ts a = mB [58]
   ·rw [if_pos hm58] at hp
    cases hz : celF O ts e (a + 1) with
    | none => rw [hz] at hp; cases hp
    | some z =>
     rw [hz] at hp
     have HL58 := Lib.hid (markA_lt ts hm58 (by decide))
     have HT := Lib.hid (takes_yes (m := ⟨#[58]⟩) HS5.out.is HS5.out.bel HA1.out.1 HA1.out.2 hm58)
     have HZ2 := Lib.hid hz
     have HP := Lib.hid hp
     clear hz hp hm58
     go_wp2_with (go_at_call 143; (with_reducible refine (HT.out).mono ?_); rintro en w6 ⟨rfl, hs⟩; have HS6 := Lib.hid (HS5.out.trans hs); have J6 := Lib.hid (hs.keep.blk J5.out HG6.out.2.2 (by simp)); clear hs HT HS5 J5)
     have HC := Lib.hid (cel_any hcell pe.size hG hts HS6.out.is HS6.out.bel (show 0 ≤ a + 1 by have := HA1.out; omega) (show a + 1 ≤ ts.length by have := HL58.out; omega) HZ2.out)
     cases z with
     | error p =>
      obtain ⟨c_, p⟩ := p
      obtain rfl := Option.some.inj HP.out
      (with_reducible refine (HC.out).mono ?_)
      rintro en w7 ⟨rfl, a2, hs⟩
      go_wp2
      exact ⟨rfl, rfl, a2, HS6.out.trans hs⟩
     | ok p =>
      obtain ⟨s, b2⟩ := p
      obtain rfl := Option.some.inj HP.out
      (with_reducible refine (HC.out).mono ?_)
      rintro en w7 ⟨rfl, hs⟩
      have HS7 := Lib.hid (HS6.out.trans hs)
      have J7 := Lib.hid (hs.keep.blk J6.out HG6.out.2.2 (by simp))
      clear hs HC HS6 J6
      go_wp2_with (first | ((with_reducible refine gate_ (.store 3 (.tmp 63) (.const (.int .i64 3))) rfl ?_); refine store_event rfl rfl (t := 3) (p := .tmp 63) (x := (.const (.int .i64 3))) rfl (g := g6) (o' := 0) (e := 50) (u := .int .i64 3) (seg := [.int .i64 3]) (new := #[.int .i64 3, .int .i64 0, .int .i64 0, .int .i64 0, .string (⟨#[]⟩ : ByteArray), .bool false, .int .i64 0, .int .i64 0, .string (⟨#[]⟩ : ByteArray), .int .i64 0, .string sv, .int .i64 r.f1, .int .i64 r.f2, .bool r.f3, .bool r.f4, .string (⟨#[]⟩ : ByteArray), .int .i64 0, .int .i64 0, .bool false, .bool false]) ?ha ?hx ?hu ?ht J7.out ?hf ?h1 ?hn ?_; (case ha => rfl); (case hx => rfl); (case hu => rfl); (case ht => kernel_rfl); (case hf => simp); (case h1 => rfl); (case hn => kernel_rfl); intro w8 hb_ hp_; have J8 := Lib.hid hb_; have HS8 := Lib.hid (HS7.out.put hp_ HG6.out.1 HG6.out.2.1 HG6.out.2.2); clear hb_ hp_ J7 HS7) | ((with_reducible refine gate_ (.store 48 (.tmp 64) (.tmp 62)) rfl ?_); refine store_event rfl rfl (t := 48) (p := .tmp 64) (x := (.tmp 62)) rfl (g := g6) (o' := 15) (e := 50) (u := vR s) (seg := [.string s.f0, .int .i64 s.f1, .int .i64 s.f2, .bool s.f3, .bool s.f4]) (new := #[.int .i64 3, .int .i64 0, .int .i64 0, .int .i64 0, .string (⟨#[]⟩ : ByteArray), .bool false, .int .i64 0, .int .i64 0, .string (⟨#[]⟩ : ByteArray), .int .i64 0, .string sv, .int .i64 r.f1, .int .i64 r.f2, .bool r.f3, .bool r.f4, .string s.f0, .int .i64 s.f1, .int .i64 s.f2, .bool s.f3, .bool s.f4]) ?ha ?hx ?hu ?ht J8.out ?hf ?h1 ?hn ?_; (case ha => rfl); (case hx => rfl); (case hu => rfl); (case ht => kernel_rfl); (case hf => simp); (case h1 => rfl); (case hn => kernel_rfl); intro w10 hb_ hp_; have J10 := Lib.hid hb_; have HS10 := Lib.hid (HS8.out.put hp_ HG6.out.1 HG6.out.2.1 HG6.out.2.2); clear hb_ hp_ J8 HS8) | ((with_reducible refine gate_dst (N := 65) rfl ?_); refine lA J10.out 50 (.tmp 6) hu50 ?_) | ((with_reducible refine gate_dst (N := 66) rfl ?_); refine Kd.R_lit k50 w.heap.size 50 (w0 := w10) ?hg (N := 66) ?hd (xs := [nArea ⟨sv, r.f1, r.f2, r.f3, r.f4⟩ s]) (inner := [.int .i64 3, .int .i64 0, .int .i64 0, .int .i64 0, .string (⟨#[]⟩ : ByteArray), .bool false, .int .i64 0, .int .i64 0, .string (⟨#[]⟩ : ByteArray), .int .i64 0, .string sv, .int .i64 r.f1, .int .i64 r.f2, .bool r.f3, .bool r.f4, .string s.f0, .int .i64 s.f1, .int .i64 s.f2, .bool s.f3, .bool s.f4]) (ok := fun _ => True) (okp := fun _ => True) ?hr ?hp (fun _ hk => hk) trivial (Below.refl _ _) HS10.out.size (by simp) ?_; (case hd => rfl); (case hg => rfl); (case hr => go_simp <;> rfl); (case hp => exact (Reps.front (m_area sv r s _ _ _) rfl (Reps.none _ _) rfl)); intro v9 w9 ho_ hb_ hg_ hn_; have HR9 := Lib.hid ho_; have HS9 := Lib.hid (HS10.out.fresh hb_ HG.out HBz.out); clear ho_ hb_ hg_ hn_))
      go_ret
      exact ⟨_, rfl, HR9.out, HS9.out⟩
   ·rw [if_neg hm58] at hp
    obtain rfl := Option.some.inj hp
    have HT := Lib.hid (takes_no (m := ⟨#[58]⟩) HS5.out.is HS5.out.bel HA1.out.1 HA1.out.2 hm58)
    clear hp hm58
    go_wp2_with (first
     | (go_at_call 143; (with_reducible refine (HT.out).mono ?_); rintro en w6 ⟨rfl, hs⟩; have HS6 := Lib.hid (HS5.out.trans hs); have J6 := Lib.hid (hs.keep.blk J5.out HG6.out.2.2 (by simp)); clear hs HT HS5 J5)
     | ((with_reducible refine gate_dst (N := 65) rfl ?_); refine lA J6.out 50 (.tmp 6) hu50 ?_)
     | ((with_reducible refine gate_dst (N := 66) rfl ?_); refine Kd.R_lit k50 w.heap.size 50 (w0 := w6) ?hg (N := 66) ?hd (xs := [nCell ⟨sv, r.f1, r.f2, r.f3, r.f4⟩]) (inner := [.int .i64 2, .int .i64 0, .int .i64 0, .int .i64 0, .string (⟨#[]⟩ : ByteArray), .bool false, .int .i64 0, .int .i64 0, .string (⟨#[]⟩ : ByteArray), .int .i64 0, .string sv, .int .i64 r.f1, .int .i64 r.f2, .bool r.f3, .bool r.f4, .string (⟨#[]⟩ : ByteArray), .int .i64 0, .int .i64 0, .bool false, .bool false]) (ok := fun _ => True) (okp := fun _ => True) ?hr ?hp (fun _ hk => hk) trivial (Below.refl _ _) HS6.out.size (by simp) ?_; (case hd => rfl); (case hg => rfl); (case hr => go_simp <;> rfl); (case hp => exact (Reps.front (m_cell sv r _ _ _) rfl (Reps.none _ _) rfl)); intro v9 w9 ho_ hb_ hg_ hn_; have HR9 := Lib.hid ho_; have HS9 := Lib.hid (HS6.out.fresh hb_ HG.out HBz.out); clear ho_ hb_ hg_ hn_))
    go_ret
    exact ⟨_, rfl, HR9.out, HS9.out⟩
theorem wor_any {k : Nat} (ih : Parts O ts e w0 k) (hG : GL w0) (pe : PEnv O ts) (hcell : ∀ i, O.cell (tokA ts i).f1 = cellO (tokA ts i).f1) (hts : ts.length ≤ 100000) (w : World) (g : Nat) (m : ByteArray) (at_ : Int) (x) (hI : IsS72 w0 w g ts at_ e) (hB : Below w0.heap.size w0 w) (h0 : 0 ≤ at_) (h1 : at_ < ts.length) (hw : m = (tokA ts at_).f1) (h : worF O ts e (k + 1) m at_ = some x) :
 Calls Tryz.prog 178 #[.pointer (some ⟨g, 0, none⟩), .string m] w (Ans w0 w g ts e x) := by
 have hz : m.size ≤ 100000 := by rw [hw]; exact pe.size at_
 rw [worF] at h
 by_cases hm1 : markA ts (at_ + 1) = mB [40]
 ·rw [if_pos hm1] at h
  exact word_call ih hG pe hcell hts hI hB h0 h1 hm1 hw h
 rw [if_neg hm1] at h
 by_cases hm2 : markA ts (at_ + 1) = mB [33]
 ·rw [if_pos hm2] at h
  cases hf : O.sh m with
  | false => rw [hf] at h; obtain rfl := Option.some.inj h; exact word_bad ih hG pe hcell hts hI hB h0 h1 hm2 hz hf
  | true => rw [hf, if_pos rfl] at h; exact word_sheet ih hG pe hcell hts hI hB h0 h1 hm2 hz hf h
 rw [if_neg hm2] at h
 by_cases hw1 : m = tTRUE
 ·rw [if_pos hw1] at h; obtain rfl := Option.some.inj h; exact word_true ih hG pe hcell hts hI hB h0 h1 hm1 hm2 hw1
 rw [if_neg hw1] at h
 by_cases hw2 : m = tFALSE
 ·rw [if_pos hw2] at h; obtain rfl := Option.some.inj h; exact word_false ih hG pe hcell hts hI hB h0 h1 hm1 hm2 hw2
 rw [if_neg hw2] at h
 exact word_plain ih hG pe hcell hts hI hB h0 h1 hm1 hm2 hw1 hw2 h
theorem parts_all (hG : GL w0) (pe : PEnv O ts) (hcell : ∀ i, O.cell (tokA ts i).f1 = cellO (tokA ts i).f1) (hts : ts.length ≤ 100000) : ∀ k, Parts O ts e w0 k
 | 0 => by
  constructor
  ·intro _ _ _ _ _ _ _ _ _ _ _ h; rw [binF] at h; cases h
  ·intro _ _ _ _ _ _ _ _ h; rw [sgnF] at h; cases h
  ·intro _ _ _ _ _ _ _ _ h; rw [parF] at h; cases h
  ·intro _ _ _ _ _ _ _ _ _ _ h; rw [worF] at h; cases h
  ·intro _ _ _ _ _ _ _ _ _ _ h; rw [calF] at h; cases h
 | k + 1 => by
  have ih := parts_all hG pe hcell hts k
  exact ⟨fun w g least at_ x hI hB h0 h1 h2 h3 h => binary_any ih hts w g least at_ x hI hB h0 h1 h2 h3 h, fun w g at_ x hI hB h0 h1 h => signed_any ih hts w g at_ x hI hB h0 h1 h, fun w g at_ x hI hB h0 h1 h => part_any ih hG pe hts w g at_ x hI hB h0 h1 h,
   fun w g m at_ x hI hB h0 h1 hw h => wor_any ih hG pe hcell hts w g m at_ x hI hB h0 h1 hw h, fun w g m at_ x hI hB h0 h1 hw h => call_any ih hG pe hts w g m at_ x hI hB h0 h1 hw h⟩
end
end
end Go.Proofs.YtejbbceidnaloaaGreatDoor.P
