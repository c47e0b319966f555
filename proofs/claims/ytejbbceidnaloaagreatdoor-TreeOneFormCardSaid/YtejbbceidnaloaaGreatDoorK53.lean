import Derived.Test.YtejbbceidnaloaaGreatDoorK43
import Derived.Test.YtejbbceidnaloaaGreatDoorK46
namespace Go.Proofs.YtejbbceidnaloaaGreatDoor.P
open Go.RowKit Go.Proofs.YtejbbceidnaloaaGreatDoorW.PrintWords Go.Proofs.YtejbbceidnaloaaGreatDoorW.PrintLast Go.Proofs.YtejbbceidnaloaaGreatDoorW.PrintMore
set_option linter.unusedVariables false
set_option linter.unusedSimpArgs false
section
set_option maxRecDepth 100000
set_option maxHeartbeats 4000000
theorem size_toList (s : ByteArray) : s = ⟨s.data.toList.toArray⟩ := by cases s; simp
theorem oneForm_er (l : List UInt8) (w : World) (hG : GL w) (E A : Int) (he : parseL l = ([], E, A)) (h1 : E ≠ 0) (h3 : 0 ≤ A) (h4 : A ≤ l.length) : Calls Tryz.prog 6 #[.string ⟨l.toArray⟩] w fun e w' => e = .returned (.bool true) ∧ Below w.heap.size w w' := by
 have HA := Lib.hid (able5_any w hG)
 have HG := Lib.hid hG
 have HE := Lib.hid he
 have b1 : (E != 0) = true := bne_iff_ne.mpr h1
 have b2 : decide (0 ≤ A) = true := decide_eq_true h3
 have b3 : decide (A ≤ (l.length : Int)) = true := decide_eq_true h4
 clear hG he h1 h3 h4
 go_enter Tryz.func6, Tryz.ntmps6
 go_upto_region 2 with (go_at_call 23; (with_reducible refine (HA.out).mono ?_); rintro en w1 ⟨rfl, hb⟩; have HB1 := Lib.hid hb; clear hb)
 have HQ := Lib.hid (parse_any l w1 (HG.out.below HB1.out))
 rw [HE.out] at HQ
 go_upto_region 4 with (go_at_call 21; (with_reducible refine (HQ.out).mono ?_); rintro en w2 ⟨v, rfl, hr, hb⟩; have HB2 := Lib.hid hb; have HR2 := Lib.hid hr; clear hr hb)
 obtain ⟨Ad, c, rfl, hle, hC⟩ := Kd.R_reads HR2.out
 clear hC hle HR2
 rw [show ([] : List S50).length = 0 from rfl]
 go_wp2_with (fail)
 go_ret
 exact ⟨rfl, below_step HB1.out HB2.out⟩
theorem oneForm_long (l : List UInt8) (w : World) (hG : GL w) (L : List S50) (he : parseL l = (L, 0, 0)) (hk : chk L = 0) (U : List UInt8) (hp : printL L = (U, 0)) (hx : parseL U = ([], 2, 0)) (hln : decide (1024 < U.length) = true) : Calls Tryz.prog 6 #[.string ⟨l.toArray⟩] w fun e w' => e = .returned (.bool true) ∧ Below w.heap.size w w' := by
 have HA := Lib.hid (able5_any w hG)
 have HG := Lib.hid hG
 have HE := Lib.hid he
 have HK := Lib.hid hk
 have HP := Lib.hid hp
 have HX := Lib.hid hx
 have HLN := Lib.hid hln
 clear hG he hk hp hx hln
 go_enter Tryz.func6, Tryz.ntmps6
 go_upto_region 2 with (go_at_call 23; (with_reducible refine (HA.out).mono ?_); rintro en w1 ⟨rfl, hb⟩; have HB1 := Lib.hid hb; clear hb)
 have HQ := Lib.hid (parse_any l w1 (HG.out.below HB1.out))
 rw [HE.out] at HQ
 go_upto_region 4 with (go_at_call 21; (with_reducible refine (HQ.out).mono ?_); rintro en w2 ⟨v, rfl, hr, hb⟩; have HB2 := Lib.hid (below_step HB1.out hb); have HR2 := Lib.hid hr; clear hr hb)
 obtain ⟨Ad, c, rfl, hle, hC⟩ := Kd.R_reads HR2.out
 have HC := Lib.hid hC
 have HL := Lib.hid hle
 clear hC hle HR2
 have HPR := Lib.hid (print_any (HG.out.below HB2.out) HC.out HL.out)
 rw [HP.out] at HPR
 go_upto_region 7 with (go_at_call 26; (with_reducible refine (HPR.out).mono ?_); rintro en w3 ⟨rfl, hb⟩; have HB3 := Lib.hid (below_step HB2.out hb); have HC3 := Lib.hid (Kd.C_below HC.out hb); clear hb)
 have HQ2 := Lib.hid (parse_any U w3 (HG.out.below HB3.out))
 rw [HX.out] at HQ2
 go_upto_region 8 with (go_at_call 21; (with_reducible refine (HQ2.out).mono ?_); rintro en w4 ⟨v2, rfl, hr, hb⟩; have HB4 := Lib.hid (below_step HB3.out hb); have HC4 := Lib.hid (Kd.C_below HC3.out hb); have HR4 := Lib.hid hr; clear hr hb)
 obtain ⟨Ad2, c2, rfl, hle2, hC2⟩ := Kd.R_reads HR4.out
 have HD4 := Lib.hid hC2
 have HL2 := Lib.hid hle2
 clear hC2 hle2 HR4
 have HCH := Lib.hid (tree_Check.calls 600 Ad c L 0 w4 HC4.out HL.out (by rw [chk_f, HK.out]))
 go_upto_region 10 with (go_at_call 28; (with_reducible refine (HCH.out).mono ?_); rintro en w5 ⟨rfl, hb⟩; have HB5 := Lib.hid (below_step HB4.out hb); have HC5 := Lib.hid (Kd.C_below HC4.out hb); have HD5 := Lib.hid (Kd.C_below HD4.out hb); clear hb)
 have b1 := HLN.out
 have b2 : decide (1024 < (U.length : Int)) = true := by rw [← b1]; exact decide_eq_decide.mpr (by omega)
 have b3 : (1024 : Int) < (U.length : Int) := by have := b1; simp at this; omega
 go_wp2_with (fail)
 go_ret
 exact ⟨rfl, HB5.out⟩
theorem oneForm_ok (l : List UInt8) (w : World) (hG : GL w) (L : List S50) (he : parseL l = (L, 0, 0)) (hk : chk L = 0) (U : List UInt8) (hp : printL L = (U, 0)) (hx : parseL U = (L, 0, 0)) (hln : decide (1024 < U.length) = false) (h12 : L.length ≤ 1000000000000) : Calls Tryz.prog 6 #[.string ⟨l.toArray⟩] w fun e w' => e = .returned (.bool true) ∧ Below w.heap.size w w' := by
 have HA := Lib.hid (able5_any w hG)
 have HG := Lib.hid hG
 have HE := Lib.hid he
 have HK := Lib.hid hk
 have HP := Lib.hid hp
 have HX := Lib.hid hx
 have HLN := Lib.hid hln
 clear hG he hk hp hx hln
 go_enter Tryz.func6, Tryz.ntmps6
 go_upto_region 2 with (go_at_call 23; (with_reducible refine (HA.out).mono ?_); rintro en w1 ⟨rfl, hb⟩; have HB1 := Lib.hid hb; clear hb)
 have HQ := Lib.hid (parse_any l w1 (HG.out.below HB1.out))
 rw [HE.out] at HQ
 go_upto_region 4 with (go_at_call 21; (with_reducible refine (HQ.out).mono ?_); rintro en w2 ⟨v, rfl, hr, hb⟩; have HB2 := Lib.hid (below_step HB1.out hb); have HR2 := Lib.hid hr; clear hr hb)
 obtain ⟨Ad, c, rfl, hle, hC⟩ := Kd.R_reads HR2.out
 have HC := Lib.hid hC
 have HL := Lib.hid hle
 clear hC hle HR2
 have HPR := Lib.hid (print_any (HG.out.below HB2.out) HC.out HL.out)
 rw [HP.out] at HPR
 go_upto_region 7 with (go_at_call 26; (with_reducible refine (HPR.out).mono ?_); rintro en w3 ⟨rfl, hb⟩; have HB3 := Lib.hid (below_step HB2.out hb); have HC3 := Lib.hid (Kd.C_below HC.out hb); clear hb)
 have HQ2 := Lib.hid (parse_any U w3 (HG.out.below HB3.out))
 rw [HX.out] at HQ2
 go_upto_region 8 with (go_at_call 21; (with_reducible refine (HQ2.out).mono ?_); rintro en w4 ⟨v2, rfl, hr, hb⟩; have HB4 := Lib.hid (below_step HB3.out hb); have HC4 := Lib.hid (Kd.C_below HC3.out hb); have HR4 := Lib.hid hr; clear hr hb)
 obtain ⟨Ad2, c2, rfl, hle2, hC2⟩ := Kd.R_reads HR4.out
 have HD4 := Lib.hid hC2
 have HL2 := Lib.hid hle2
 clear hC2 hle2 HR4
 have HCH := Lib.hid (tree_Check.calls 600 Ad c L 0 w4 HC4.out HL.out (by rw [chk_f, HK.out]))
 go_upto_region 10 with (go_at_call 28; (with_reducible refine (HCH.out).mono ?_); rintro en w5 ⟨rfl, hb⟩; have HB5 := Lib.hid (below_step HB4.out hb); have HC5 := Lib.hid (Kd.C_below HC4.out hb); have HD5 := Lib.hid (Kd.C_below HD4.out hb); clear hb)
 have b1 := HLN.out
 have b2 : decide (1024 < (U.length : Int)) = false := by rw [← b1]; exact decide_eq_decide.mpr (by omega)
 have b3 : ¬ ((1024 : Int) < (U.length : Int)) := by have := b1; simp at this; omega
 have HP2 := Lib.hid (print_any (HG.out.below HB5.out) HD5.out HL2.out)
 rw [HP.out] at HP2
 go_upto_region 13 with (go_at_call 26; (with_reducible refine (HP2.out).mono ?_); rintro en w6 ⟨rfl, hb⟩; have HB6 := Lib.hid (below_step HB5.out hb); have HC6 := Lib.hid (Kd.C_below HC5.out hb); have HD6 := Lib.hid (Kd.C_below HD5.out hb); clear hb)
 have HS := Lib.hid (law5_same_h.calls Ad c L Ad2 c2 L true w6 HC6.out HL.out HD6.out HL2.out (by unfold law5_same_h.f; rw [if_pos h12, eqRows_iff.mpr rfl]))
 go_wp2_with (go_at_call 24; (with_reducible refine (HS.out).mono ?_); rintro en w7 ⟨rfl, hb⟩; have HB7 := Lib.hid (below_step HB6.out hb); clear hb)
 go_ret
 exact ⟨by simp, HB7.out⟩
theorem oneForm_any (l : List UInt8) (w : World) (hG : GL w) : Calls Tryz.prog 6 #[.string ⟨l.toArray⟩] w fun e w' => e = .returned (.bool true) ∧ Below w.heap.size w w' := by
 cases hq : parseL l with | mk L q =>
 obtain ⟨E, A⟩ := q
 rcases parse_cases l with ⟨h1, h2, h3⟩ | ⟨h1, h2, h3, h4⟩
 ·rw [hq] at h1 h2 h3
  obtain rfl : E = 0 := h1
  obtain rfl : A = 0 := h2
  have h3 : chk L = 0 := h3
  cases hp : printL L with | mk U z =>
  have hz : z = 0 := by
   have : (printL L).2 = 0 := by unfold printL; rw [if_pos h3]
   rw [hp] at this; exact this
  subst hz
  have hU : (printL L).1 = U := by rw [hp]
  by_cases hl : 1024 < U.length
  ·exact oneForm_long l w hG L hq h3 U hp (parse_long hl) (decide_eq_true hl)
  ·have := parse_print h3 (by rw [hU]; omega)
   rw [hU] at this
   exact oneForm_ok l w hG L hq h3 U hp this (decide_eq_false hl) (by obtain ⟨d, -, -, h⟩ := check_back (l := L) (K := 600) (by rw [chk_f, h3]); omega)
 ·rw [hq] at h1 h2 h3 h4
  obtain rfl : L = [] := h2
  exact oneForm_er l w hG E A hq h1 h3 h4
theorem oneForm_calls (s : ByteArray) (w : World) (hG : GL w) : Calls Tryz.prog 6 #[.string s] w fun e w' => e = .returned (.bool true) ∧ Below w.heap.size w w' := by
 rw [size_toList s]
 exact oneForm_any _ w hG
end
end Go.Proofs.YtejbbceidnaloaaGreatDoor.P
