import Derived.Test.YtejbbceidnaloaaGreatDoorB24
import Derived.Test.YtejbbceidnaloaaGreatDoorB23
import Derived.Test.YtejbbceidnaloaaGreatDoorB21
set_option linter.unusedVariables false
set_option linter.unusedSimpArgs false
set_option maxRecDepth 100000
set_option maxHeartbeats 8000000
namespace Go.Proofs.YtejbbceidnaloaaGreatDoor.P
open Go.RowKit AW AL AM
def Nbv.f (k : Nat) (a0_0 a0_1 a0_2 : Int) (a0_3 : ByteArray) (a0_4 : Bool) (a0_5 : Int) : Option (ByteArray × Int × Int × Int × ByteArray × Bool × Int) := (Nbg.f k a0_0 a0_1 a0_2 a0_3 a0_4 a0_5).bind fun bt103 => (if bt103.1 = 4 then (some ((⟨#[]⟩ : ByteArray), bt103.1, bt103.2.1, bt103.2.2.1, bt103.2.2.2.1, bt103.2.2.2.2.1, bt103.2.2.2.2.2)) else (if bt103.1 = 1 then ((Naq.f k bt103.2.1 bt103.2.2.1).bind fun t109 => ((Nci.f).bind fun bt110 => (some (t109, bt110.1, bt110.2.1, bt110.2.2.1, bt110.2.2.2.1, bt110.2.2.2.2.1, bt110.2.2.2.2.2)))) else (if bt103.1 = 3 then ((Nde.f bt103.2.2.2.2.1).bind fun t116 => ((Nci.f).bind fun bt117 => (some (t116, bt117.1, bt117.2.1, bt117.2.2.1, bt117.2.2.2.1, bt117.2.2.2.2.1, bt117.2.2.2.2.2)))) else ((Nci.f).bind fun bt123 => (some (bt103.2.2.2.1, bt123.1, bt123.2.1, bt123.2.2.1, bt123.2.2.2.1, bt123.2.2.2.2.1, bt123.2.2.2.2.2))))))
theorem Nbv.calls (k : Nat) (a0_0 a0_1 a0_2 : Int) (a0_3 : ByteArray) (a0_4 : Bool) (a0_5 : Int) (r1 : ByteArray) (r2 r3 r4 : Int) (r5 : ByteArray) (r6 : Bool) (r7 : Int) (w : World) (hG : GL w) (h : Nbv.f k a0_0 a0_1 a0_2 a0_3 a0_4 a0_5 = some (r1, r2, r3, r4, r5, r6, r7)) :
 Calls Tryz.prog 148 #[.agg #[.int .i64 a0_0, .int .i64 a0_1, .int .i64 a0_2, .string a0_3, .bool a0_4, .int .i64 a0_5]] w fun e w' => e = .returned (.tuple #[.string r1, .agg #[.int .i64 r2, .int .i64 r3, .int .i64 r4, .string r5, .bool r6, .int .i64 r7]]) ∧ Below w.heap.size w w' := by
 have hu46 := Tryz.underlying46
 have hu44 := Tryz.underlying44
 have HB := aM (Below.refl w.heap.size w)
 have H := h
 unfold Nbv.f at H
 clear h
 replace H := bS H
 obtain ⟨⟨t103, t104, t105, t106, t107, t108⟩, A20, H⟩ := H
 try dsimp only at H
 have A2 := aM A20
 clear A20
 by_cases c3 : t103 = 4
 ·rw [if_pos c3] at H
  obtain ⟨c3b0, c3b1⟩ := bqT c3
  clear c3
  simp only [sJ, pJ] at H
  obtain ⟨rfl, rfl, rfl, rfl, rfl, rfl, rfl⟩ := H
  go_enter Tryz.func148, Tryz.ntmps148
  try go_wp2_with (first | ((with_reducible refine gD 1 rfl ?_); refine bX 1 #[.int .i64 a0_0, .int .i64 a0_1, .int .i64 a0_2, .string a0_3, .bool a0_4, .int .i64 a0_5] 46 ?_; intro gb101 hg w4 hbox hb; replace HB := bK w hbox hg hb; obtain ⟨BK101, GW101, HB⟩ := HB; have GE101 := GW101; clear hb hbox hg) | ((with_reducible refine gD 3 rfl ?_); refine bX 3 #[.int .i64 0, .int .i64 0, .int .i64 0, .string ⟨#[]⟩, .bool false, .int .i64 0] 46 ?_; intro gb102 hg w5 hbox hb; have BK102 := aM (hbox); have GW102 := aM ((by rw [hg]; exact (Nbc bE) : w.heap.size ≤ gb102)); have GE102 := GW102; have NB101_102 := aM ((by rw [hg]; exact Nat.ne_of_lt (Nbe (g := gb101) (o := .cells #[.int .i64 a0_0, .int .i64 a0_1, .int .i64 a0_2, .string a0_3, .bool a0_4, .int .i64 a0_5] 46 (0, 0)) (bd BK101.out)) : gb101 ≠ gb102)); have NB102_101 := aM ((by rw [hg]; exact Nat.ne_of_gt (Nbe (g := gb101) (o := .cells #[.int .i64 a0_0, .int .i64 a0_1, .int .i64 a0_2, .string a0_3, .bool a0_4, .int .i64 a0_5] 46 (0, 0)) (bd BK101.out)) : gb102 ≠ gb101)); replace BK101 := aM (Nad (g := gb101) (o := .cells #[.int .i64 a0_0, .int .i64 a0_1, .int .i64 a0_2, .string a0_3, .bool a0_4, .int .i64 a0_5] 46 (0, 0)) (bd BK101.out) hb); replace HB := aM (Nac bE hb); clear hb hbox hg; have hnb6 := NB101_102.out; have hnc6 := NB102_101.out; obtain ⟨hcz7_0, hcz7_1, hcz7_2, hcz7_3, hcz7_4, hcz7_5, hfz7_0, hfz7_1, hfz7_2, hfz7_3, hfz7_4, hfz7_5⟩ := bc6 BK101.out) | ((with_reducible refine gC 146 rfl ?_); refine gL 5 Tryz.func146 #[.agg #[.int .i64 a0_0, .int .i64 a0_1, .int .i64 a0_2, .string a0_3, .bool a0_4, .int .i64 a0_5]] ?_; (with_reducible refine (Nbg.calls k a0_0 a0_1 a0_2 a0_3 a0_4 a0_5 t103 t104 t105 t106 t107 t108 _ A2.out).mono ?_); rintro e w8 ⟨rfl, hb⟩; refine ⟨_, rfl, ?_⟩; replace BK101 := aM (Nad (g := gb101) (o := .cells #[.int .i64 a0_0, .int .i64 a0_1, .int .i64 a0_2, .string a0_3, .bool a0_4, .int .i64 a0_5] 46 (0, 0)) (bd BK101.out) hb); replace BK102 := aM (Nad (g := gb102) (o := .cells #[.int .i64 0, .int .i64 0, .int .i64 0, .string ⟨#[]⟩, .bool false, .int .i64 0] 46 (0, 0)) (bd BK102.out) hb); replace HB := aM (Nac bE hb); (try clear hb); obtain ⟨hcz9_0, hcz9_1, hcz9_2, hcz9_3, hcz9_4, hcz9_5, hfz9_0, hfz9_1, hfz9_2, hfz9_3, hfz9_4, hfz9_5⟩ := bc6 BK101.out))
  have n0_ : Nai (((((((w8.setCell ⟨gb101, 0, none⟩ (.int .i64 t103)).setCell ⟨gb101, 1, none⟩ (.int .i64 t104)).setCell ⟨gb101, 2, none⟩ (.int .i64 t105)).setCell ⟨gb101, 3, none⟩ (.string t106)).setCell ⟨gb101, 4, none⟩ (.bool t107)).setCell ⟨gb101, 5, none⟩ (.int .i64 t108)).heap[gb101]? = some (.cells #[.int .i64 t103, .int .i64 t104, .int .i64 t105, .string t106, .bool t107, .int .i64 t108] 46 (0, 0))) := ⟨bP BK101.out⟩
  have n1_ : Nai (((((((w8.setCell ⟨gb101, 0, none⟩ (.int .i64 t103)).setCell ⟨gb101, 1, none⟩ (.int .i64 t104)).setCell ⟨gb101, 2, none⟩ (.int .i64 t105)).setCell ⟨gb101, 3, none⟩ (.string t106)).setCell ⟨gb101, 4, none⟩ (.bool t107)).setCell ⟨gb101, 5, none⟩ (.int .i64 t108)).heap[gb102]? = some (.cells #[.int .i64 0, .int .i64 0, .int .i64 0, .string ⟨#[]⟩, .bool false, .int .i64 0] 46 (0, 0))) := ⟨by (with_reducible repeat first | apply Nam | apply Nag | apply Nap); refine Nbk ?_ NB102_101.out _; (with_reducible repeat first | apply Nam | apply Nag | apply Nap); refine Nbk ?_ NB102_101.out _; (with_reducible repeat first | apply Nam | apply Nag | apply Nap); refine Nbk ?_ NB102_101.out _; (with_reducible repeat first | apply Nam | apply Nag | apply Nap); refine Nbk ?_ NB102_101.out _; (with_reducible repeat first | apply Nam | apply Nag | apply Nap); refine Nbk ?_ NB102_101.out _; (with_reducible repeat first | apply Nam | apply Nag | apply Nap); refine Nbk ?_ NB102_101.out _; (with_reducible repeat first | apply Nam | apply Nag | apply Nap); exact BK102.out⟩
  have n2_ : Nai (Below w.heap.size w ((((((w8.setCell ⟨gb101, 0, none⟩ (.int .i64 t103)).setCell ⟨gb101, 1, none⟩ (.int .i64 t104)).setCell ⟨gb101, 2, none⟩ (.int .i64 t105)).setCell ⟨gb101, 3, none⟩ (.string t106)).setCell ⟨gb101, 4, none⟩ (.bool t107)).setCell ⟨gb101, 5, none⟩ (.int .i64 t108))) := ⟨bE⟩
  (try clear BK101)
  (try clear BK102)
  (try clear HB)
  generalize ((((((w8.setCell ⟨gb101, 0, none⟩ (.int .i64 t103)).setCell ⟨gb101, 1, none⟩ (.int .i64 t104)).setCell ⟨gb101, 2, none⟩ (.int .i64 t105)).setCell ⟨gb101, 3, none⟩ (.string t106)).setCell ⟨gb101, 4, none⟩ (.bool t107)).setCell ⟨gb101, 5, none⟩ (.int .i64 t108)) = w10 at n0_ n1_ n2_ ⊢
  have BK101 := n0_
  have BK102 := n1_
  have HB := n2_
  clear n0_ n1_ n2_
  have n0_ := aM (Nag BK101.out)
  have n1_ := aM (Nag BK102.out)
  have n2_ := aM (Nbp HB.out)
  clear BK101
  clear BK102
  clear HB
  have BK101 := n0_
  have BK102 := n1_
  have HB := n2_
  clear n0_ n1_ n2_
  refine sP (n := 3) (S := fun w' => w'.cell? ⟨gb101, 0, none⟩ = some (.int .i64 t103) ∧ w'.cell? ⟨gb101, 1, none⟩ = some (.int .i64 t104) ∧ w'.cell? ⟨gb101, 2, none⟩ = some (.int .i64 t105) ∧ w'.cell? ⟨gb101, 3, none⟩ = some (.string t106) ∧ w'.cell? ⟨gb101, 4, none⟩ = some (.bool t107) ∧ w'.cell? ⟨gb101, 5, none⟩ = some (.int .i64 t108)) (ds := []) ⟨(Naa BK101.out 0).trans rfl, (Naa BK101.out 1).trans rfl, (Naa BK101.out 2).trans rfl, (Naa BK101.out 3).trans rfl, (Naa BK101.out 4).trans rfl, (Naa BK101.out 5).trans rfl⟩ (fun hHeld => ?_)
  generalize w10.drew = w11 at BK101 BK102 HB hHeld ⊢
  refine pP 1 2 ?_
  refine tP 0 10 hHeld ?_
  refine oP 2 none fun K hK => ?_
  have hs12 : w11.cell? ⟨gb102, 0, none⟩ = some (.int .i64 0) := (Naa BK102.out 0).trans rfl
  have hfs12 := Naf BK102.out 0
  have hns12_0 := NB101_102.out
  have hms12_0 := NB102_101.out
  have hs13 : w11.cell? ⟨gb102, 1, none⟩ = some (.int .i64 0) := (Naa BK102.out 1).trans rfl
  have hfs13 := Naf BK102.out 1
  have hns13_0 := NB101_102.out
  have hms13_0 := NB102_101.out
  have hs14 : w11.cell? ⟨gb102, 2, none⟩ = some (.int .i64 0) := (Naa BK102.out 2).trans rfl
  have hfs14 := Naf BK102.out 2
  have hns14_0 := NB101_102.out
  have hms14_0 := NB102_101.out
  have hs15 : w11.cell? ⟨gb102, 3, none⟩ = some (.string ⟨#[]⟩) := (Naa BK102.out 3).trans rfl
  have hfs15 := Naf BK102.out 3
  have hns15_0 := NB101_102.out
  have hms15_0 := NB102_101.out
  have hs16 : w11.cell? ⟨gb102, 4, none⟩ = some (.bool false) := (Naa BK102.out 4).trans rfl
  have hfs16 := Naf BK102.out 4
  have hns16_0 := NB101_102.out
  have hms16_0 := NB102_101.out
  have hs17 : w11.cell? ⟨gb102, 5, none⟩ = some (.int .i64 0) := (Naa BK102.out 5).trans rfl
  have hfs17 := Naf BK102.out 5
  have hns17_0 := NB101_102.out
  have hms17_0 := NB102_101.out
  refine skip_ (w1 := ?_) (by rfl) rfl ?_ ?_
  rotate_left
  ·go_simp
   rfl
  refine hK.out _ _ ⟨(cF hHeld.1), (cF hHeld.2.1), (cF hHeld.2.2.1), (cF hHeld.2.2.2.1), (cF hHeld.2.2.2.2.1), (cF hHeld.2.2.2.2.2)⟩ (fun hHeld => ?_)
  clear hK K
  refine done_ (by kernel_rfl) ?_
  try go_wp2
  refine bodyPost_ret (Neu rfl _ _ gb102 46 #[.int .i64 t103, .int .i64 t104, .int .i64 t105, .string t106, .bool t107, .int .i64 t108] (0, 0) _ rfl (bP BK102.out) Tryz.underlying46 rfl (by kernel_rfl)) rfl ?_
  exact ⟨eR, bE⟩
 ·rw [if_neg c3] at H
  obtain ⟨c3b0, c3b1⟩ := bqF c3
  by_cases c18 : t103 = 1
  ·rw [if_pos c18] at H
   obtain ⟨c18b0, c18b1⟩ := bqT c18
   clear c18
   replace H := bS H
   obtain ⟨t109, A190, H⟩ := H
   try dsimp only at H
   have A19 := aM A190
   clear A190
   replace H := bS H
   obtain ⟨⟨t110, t111, t112, t113, t114, t115⟩, A200, H⟩ := H
   try dsimp only at H
   have A20 := aM A200
   clear A200
   simp only [sJ, pJ] at H
   obtain ⟨rfl, rfl, rfl, rfl, rfl, rfl, rfl⟩ := H
   go_enter Tryz.func148, Tryz.ntmps148
   go_wp2_with (first | ((with_reducible refine gD 1 rfl ?_); refine bX 1 #[.int .i64 a0_0, .int .i64 a0_1, .int .i64 a0_2, .string a0_3, .bool a0_4, .int .i64 a0_5] 46 ?_; intro gb101 hg w21 hbox hb; replace HB := bK w hbox hg hb; obtain ⟨BK101, GW101, HB⟩ := HB; have GE101 := GW101; clear hb hbox hg) | ((with_reducible refine gD 3 rfl ?_); refine bX 3 #[.int .i64 0, .int .i64 0, .int .i64 0, .string ⟨#[]⟩, .bool false, .int .i64 0] 46 ?_; intro gb102 hg w22 hbox hb; have BK102 := aM (hbox); have GW102 := aM ((by rw [hg]; exact (Nbc bE) : w.heap.size ≤ gb102)); have GE102 := GW102; have NB101_102 := aM ((by rw [hg]; exact Nat.ne_of_lt (Nbe (g := gb101) (o := .cells #[.int .i64 a0_0, .int .i64 a0_1, .int .i64 a0_2, .string a0_3, .bool a0_4, .int .i64 a0_5] 46 (0, 0)) (bd BK101.out)) : gb101 ≠ gb102)); have NB102_101 := aM ((by rw [hg]; exact Nat.ne_of_gt (Nbe (g := gb101) (o := .cells #[.int .i64 a0_0, .int .i64 a0_1, .int .i64 a0_2, .string a0_3, .bool a0_4, .int .i64 a0_5] 46 (0, 0)) (bd BK101.out)) : gb102 ≠ gb101)); replace BK101 := aM (Nad (g := gb101) (o := .cells #[.int .i64 a0_0, .int .i64 a0_1, .int .i64 a0_2, .string a0_3, .bool a0_4, .int .i64 a0_5] 46 (0, 0)) (bd BK101.out) hb); replace HB := aM (Nac bE hb); clear hb hbox hg; have hnb23 := NB101_102.out; have hnc23 := NB102_101.out; obtain ⟨hcz24_0, hcz24_1, hcz24_2, hcz24_3, hcz24_4, hcz24_5, hfz24_0, hfz24_1, hfz24_2, hfz24_3, hfz24_4, hfz24_5⟩ := bc6 BK101.out) | ((with_reducible refine gC 146 rfl ?_); refine gL 5 Tryz.func146 #[.agg #[.int .i64 a0_0, .int .i64 a0_1, .int .i64 a0_2, .string a0_3, .bool a0_4, .int .i64 a0_5]] ?_; (with_reducible refine (Nbg.calls k a0_0 a0_1 a0_2 a0_3 a0_4 a0_5 t103 t104 t105 t106 t107 t108 _ A2.out).mono ?_); rintro e w25 ⟨rfl, hb⟩; refine ⟨_, rfl, ?_⟩; replace BK101 := aM (Nad (g := gb101) (o := .cells #[.int .i64 a0_0, .int .i64 a0_1, .int .i64 a0_2, .string a0_3, .bool a0_4, .int .i64 a0_5] 46 (0, 0)) (bd BK101.out) hb); replace BK102 := aM (Nad (g := gb102) (o := .cells #[.int .i64 0, .int .i64 0, .int .i64 0, .string ⟨#[]⟩, .bool false, .int .i64 0] 46 (0, 0)) (bd BK102.out) hb); replace HB := aM (Nac bE hb); (try clear hb); obtain ⟨hcz26_0, hcz26_1, hcz26_2, hcz26_3, hcz26_4, hcz26_5, hfz26_0, hfz26_1, hfz26_2, hfz26_3, hfz26_4, hfz26_5⟩ := bc6 BK101.out) | ((with_reducible refine gC 188 rfl ?_); refine gL 15 Tryz.func188 #[.agg #[.int .i64 t104, .int .i64 t105]] ?_; (with_reducible refine (Naq.calls k t104 t105 t109 _ ?side1 A19.out).mono ?_); (case side1 => exact GL.below hG bE); rintro e w27 ⟨rfl, hb⟩; refine ⟨_, rfl, ?_⟩; replace BK101 := aM (Nad (g := gb101) (o := .cells #[.int .i64 t103, .int .i64 t104, .int .i64 t105, .string t106, .bool t107, .int .i64 t108] 46 (0, 0)) (bP BK101.out) hb); replace BK102 := aM (Nad (g := gb102) (o := .cells #[.int .i64 0, .int .i64 0, .int .i64 0, .string ⟨#[]⟩, .bool false, .int .i64 0] 46 (0, 0)) (by (repeat refine Nbk ?_ NB102_101.out _); exact BK102.out) hb); replace HB := aM (Nac bE hb); (try clear hb)) | ((with_reducible refine gC 185 rfl ?_); refine gL 16 Tryz.func185 #[] ?_; (with_reducible refine (Nci.calls  t110 t111 t112 t113 t114 t115 _ A20.out).mono ?_); rintro e w28 ⟨rfl, hb⟩; refine ⟨_, rfl, ?_⟩; replace BK101 := aM (Nad (g := gb101) (o := .cells #[.int .i64 t103, .int .i64 t104, .int .i64 t105, .string t106, .bool t107, .int .i64 t108] 46 (0, 0)) (bd BK101.out) hb); replace BK102 := aM (Nad (g := gb102) (o := .cells #[.int .i64 0, .int .i64 0, .int .i64 0, .string ⟨#[]⟩, .bool false, .int .i64 0] 46 (0, 0)) (bd BK102.out) hb); replace HB := aM (Nac bE hb); (try clear hb); obtain ⟨hcz29_0, hcz29_1, hcz29_2, hcz29_3, hcz29_4, hcz29_5, hfz29_0, hfz29_1, hfz29_2, hfz29_3, hfz29_4, hfz29_5⟩ := bc6 BK102.out))
   refine bodyPost_ret (Neu rfl _ _ gb102 46 #[.int .i64 t110, .int .i64 t111, .int .i64 t112, .string t113, .bool t114, .int .i64 t115] (0, 0) _ rfl (bP BK102.out) Tryz.underlying46 rfl (by kernel_rfl)) rfl ?_
   exact ⟨eR, bE⟩
  ·rw [if_neg c18] at H
   obtain ⟨c18b0, c18b1⟩ := bqF c18
   by_cases c30 : t103 = 3
   ·rw [if_pos c30] at H
    obtain ⟨c30b0, c30b1⟩ := bqT c30
    clear c30
    replace H := bS H
    obtain ⟨t116, A310, H⟩ := H
    try dsimp only at H
    have A31 := aM A310
    clear A310
    replace H := bS H
    obtain ⟨⟨t117, t118, t119, t120, t121, t122⟩, A320, H⟩ := H
    try dsimp only at H
    have A32 := aM A320
    clear A320
    simp only [sJ, pJ] at H
    obtain ⟨rfl, rfl, rfl, rfl, rfl, rfl, rfl⟩ := H
    go_enter Tryz.func148, Tryz.ntmps148
    go_wp2_with (first | ((with_reducible refine gD 1 rfl ?_); refine bX 1 #[.int .i64 a0_0, .int .i64 a0_1, .int .i64 a0_2, .string a0_3, .bool a0_4, .int .i64 a0_5] 46 ?_; intro gb101 hg w33 hbox hb; replace HB := bK w hbox hg hb; obtain ⟨BK101, GW101, HB⟩ := HB; have GE101 := GW101; clear hb hbox hg) | ((with_reducible refine gD 3 rfl ?_); refine bX 3 #[.int .i64 0, .int .i64 0, .int .i64 0, .string ⟨#[]⟩, .bool false, .int .i64 0] 46 ?_; intro gb102 hg w34 hbox hb; have BK102 := aM (hbox); have GW102 := aM ((by rw [hg]; exact (Nbc bE) : w.heap.size ≤ gb102)); have GE102 := GW102; have NB101_102 := aM ((by rw [hg]; exact Nat.ne_of_lt (Nbe (g := gb101) (o := .cells #[.int .i64 a0_0, .int .i64 a0_1, .int .i64 a0_2, .string a0_3, .bool a0_4, .int .i64 a0_5] 46 (0, 0)) (bd BK101.out)) : gb101 ≠ gb102)); have NB102_101 := aM ((by rw [hg]; exact Nat.ne_of_gt (Nbe (g := gb101) (o := .cells #[.int .i64 a0_0, .int .i64 a0_1, .int .i64 a0_2, .string a0_3, .bool a0_4, .int .i64 a0_5] 46 (0, 0)) (bd BK101.out)) : gb102 ≠ gb101)); replace BK101 := aM (Nad (g := gb101) (o := .cells #[.int .i64 a0_0, .int .i64 a0_1, .int .i64 a0_2, .string a0_3, .bool a0_4, .int .i64 a0_5] 46 (0, 0)) (bd BK101.out) hb); replace HB := aM (Nac bE hb); clear hb hbox hg; have hnb35 := NB101_102.out; have hnc35 := NB102_101.out; obtain ⟨hcz36_0, hcz36_1, hcz36_2, hcz36_3, hcz36_4, hcz36_5, hfz36_0, hfz36_1, hfz36_2, hfz36_3, hfz36_4, hfz36_5⟩ := bc6 BK101.out) | ((with_reducible refine gC 146 rfl ?_); refine gL 5 Tryz.func146 #[.agg #[.int .i64 a0_0, .int .i64 a0_1, .int .i64 a0_2, .string a0_3, .bool a0_4, .int .i64 a0_5]] ?_; (with_reducible refine (Nbg.calls k a0_0 a0_1 a0_2 a0_3 a0_4 a0_5 t103 t104 t105 t106 t107 t108 _ A2.out).mono ?_); rintro e w37 ⟨rfl, hb⟩; refine ⟨_, rfl, ?_⟩; replace BK101 := aM (Nad (g := gb101) (o := .cells #[.int .i64 a0_0, .int .i64 a0_1, .int .i64 a0_2, .string a0_3, .bool a0_4, .int .i64 a0_5] 46 (0, 0)) (bd BK101.out) hb); replace BK102 := aM (Nad (g := gb102) (o := .cells #[.int .i64 0, .int .i64 0, .int .i64 0, .string ⟨#[]⟩, .bool false, .int .i64 0] 46 (0, 0)) (bd BK102.out) hb); replace HB := aM (Nac bE hb); (try clear hb); obtain ⟨hcz38_0, hcz38_1, hcz38_2, hcz38_3, hcz38_4, hcz38_5, hfz38_0, hfz38_1, hfz38_2, hfz38_3, hfz38_4, hfz38_5⟩ := bc6 BK101.out) | ((with_reducible refine gC 186 rfl ?_); refine gL 21 Tryz.func186 #[.bool t107] ?_; (with_reducible refine (Nde.calls t107 t116 _ A31.out).mono ?_); rintro e w' ⟨rfl, ⟨nd, rfl⟩⟩; refine ⟨_, rfl, ?_⟩) | ((with_reducible refine gC 185 rfl ?_); refine gL 22 Tryz.func185 #[] ?_; (with_reducible refine (Nci.calls  t117 t118 t119 t120 t121 t122 _ A32.out).mono ?_); rintro e w39 ⟨rfl, hb⟩; refine ⟨_, rfl, ?_⟩; replace BK101 := aM (Nad (g := gb101) (o := .cells #[.int .i64 t103, .int .i64 t104, .int .i64 t105, .string t106, .bool t107, .int .i64 t108] 46 (0, 0)) (bP BK101.out) hb); replace BK102 := aM (Nad (g := gb102) (o := .cells #[.int .i64 0, .int .i64 0, .int .i64 0, .string ⟨#[]⟩, .bool false, .int .i64 0] 46 (0, 0)) (by (repeat refine Nbk ?_ NB102_101.out _); exact BK102.out) hb); replace HB := aM (Nac bE hb); (try clear hb); obtain ⟨hcz40_0, hcz40_1, hcz40_2, hcz40_3, hcz40_4, hcz40_5, hfz40_0, hfz40_1, hfz40_2, hfz40_3, hfz40_4, hfz40_5⟩ := bc6 BK102.out))
    refine bodyPost_ret (Neu rfl _ _ gb102 46 #[.int .i64 t117, .int .i64 t118, .int .i64 t119, .string t120, .bool t121, .int .i64 t122] (0, 0) _ rfl (bP BK102.out) Tryz.underlying46 rfl (by kernel_rfl)) rfl ?_
    exact ⟨eR, bE⟩
   ·rw [if_neg c30] at H
    obtain ⟨c30b0, c30b1⟩ := bqF c30
    replace H := bS H
    obtain ⟨⟨t123, t124, t125, t126, t127, t128⟩, A410, H⟩ := H
    try dsimp only at H
    have A41 := aM A410
    clear A410
    simp only [sJ, pJ] at H
    obtain ⟨rfl, rfl, rfl, rfl, rfl, rfl, rfl⟩ := H
    go_enter Tryz.func148, Tryz.ntmps148
    try go_wp2_with (first | ((with_reducible refine gD 1 rfl ?_); refine bX 1 #[.int .i64 a0_0, .int .i64 a0_1, .int .i64 a0_2, .string a0_3, .bool a0_4, .int .i64 a0_5] 46 ?_; intro gb101 hg w42 hbox hb; replace HB := bK w hbox hg hb; obtain ⟨BK101, GW101, HB⟩ := HB; have GE101 := GW101; clear hb hbox hg) | ((with_reducible refine gD 3 rfl ?_); refine bX 3 #[.int .i64 0, .int .i64 0, .int .i64 0, .string ⟨#[]⟩, .bool false, .int .i64 0] 46 ?_; intro gb102 hg w43 hbox hb; have BK102 := aM (hbox); have GW102 := aM ((by rw [hg]; exact (Nbc bE) : w.heap.size ≤ gb102)); have GE102 := GW102; have NB101_102 := aM ((by rw [hg]; exact Nat.ne_of_lt (Nbe (g := gb101) (o := .cells #[.int .i64 a0_0, .int .i64 a0_1, .int .i64 a0_2, .string a0_3, .bool a0_4, .int .i64 a0_5] 46 (0, 0)) (bd BK101.out)) : gb101 ≠ gb102)); have NB102_101 := aM ((by rw [hg]; exact Nat.ne_of_gt (Nbe (g := gb101) (o := .cells #[.int .i64 a0_0, .int .i64 a0_1, .int .i64 a0_2, .string a0_3, .bool a0_4, .int .i64 a0_5] 46 (0, 0)) (bd BK101.out)) : gb102 ≠ gb101)); replace BK101 := aM (Nad (g := gb101) (o := .cells #[.int .i64 a0_0, .int .i64 a0_1, .int .i64 a0_2, .string a0_3, .bool a0_4, .int .i64 a0_5] 46 (0, 0)) (bd BK101.out) hb); replace HB := aM (Nac bE hb); clear hb hbox hg; have hnb44 := NB101_102.out; have hnc44 := NB102_101.out; obtain ⟨hcz45_0, hcz45_1, hcz45_2, hcz45_3, hcz45_4, hcz45_5, hfz45_0, hfz45_1, hfz45_2, hfz45_3, hfz45_4, hfz45_5⟩ := bc6 BK101.out) | ((with_reducible refine gC 146 rfl ?_); refine gL 5 Tryz.func146 #[.agg #[.int .i64 a0_0, .int .i64 a0_1, .int .i64 a0_2, .string a0_3, .bool a0_4, .int .i64 a0_5]] ?_; (with_reducible refine (Nbg.calls k a0_0 a0_1 a0_2 a0_3 a0_4 a0_5 t103 t104 t105 t106 t107 t108 _ A2.out).mono ?_); rintro e w46 ⟨rfl, hb⟩; refine ⟨_, rfl, ?_⟩; replace BK101 := aM (Nad (g := gb101) (o := .cells #[.int .i64 a0_0, .int .i64 a0_1, .int .i64 a0_2, .string a0_3, .bool a0_4, .int .i64 a0_5] 46 (0, 0)) (bd BK101.out) hb); replace BK102 := aM (Nad (g := gb102) (o := .cells #[.int .i64 0, .int .i64 0, .int .i64 0, .string ⟨#[]⟩, .bool false, .int .i64 0] 46 (0, 0)) (bd BK102.out) hb); replace HB := aM (Nac bE hb); (try clear hb); obtain ⟨hcz47_0, hcz47_1, hcz47_2, hcz47_3, hcz47_4, hcz47_5, hfz47_0, hfz47_1, hfz47_2, hfz47_3, hfz47_4, hfz47_5⟩ := bc6 BK101.out))
    have n0_ : Nai (((((((w46.setCell ⟨gb101, 0, none⟩ (.int .i64 t103)).setCell ⟨gb101, 1, none⟩ (.int .i64 t104)).setCell ⟨gb101, 2, none⟩ (.int .i64 t105)).setCell ⟨gb101, 3, none⟩ (.string t106)).setCell ⟨gb101, 4, none⟩ (.bool t107)).setCell ⟨gb101, 5, none⟩ (.int .i64 t108)).heap[gb101]? = some (.cells #[.int .i64 t103, .int .i64 t104, .int .i64 t105, .string t106, .bool t107, .int .i64 t108] 46 (0, 0))) := ⟨bP BK101.out⟩
    have n1_ : Nai (((((((w46.setCell ⟨gb101, 0, none⟩ (.int .i64 t103)).setCell ⟨gb101, 1, none⟩ (.int .i64 t104)).setCell ⟨gb101, 2, none⟩ (.int .i64 t105)).setCell ⟨gb101, 3, none⟩ (.string t106)).setCell ⟨gb101, 4, none⟩ (.bool t107)).setCell ⟨gb101, 5, none⟩ (.int .i64 t108)).heap[gb102]? = some (.cells #[.int .i64 0, .int .i64 0, .int .i64 0, .string ⟨#[]⟩, .bool false, .int .i64 0] 46 (0, 0))) := ⟨by (with_reducible repeat first | apply Nam | apply Nag | apply Nap); refine Nbk ?_ NB102_101.out _; (with_reducible repeat first | apply Nam | apply Nag | apply Nap); refine Nbk ?_ NB102_101.out _; (with_reducible repeat first | apply Nam | apply Nag | apply Nap); refine Nbk ?_ NB102_101.out _; (with_reducible repeat first | apply Nam | apply Nag | apply Nap); refine Nbk ?_ NB102_101.out _; (with_reducible repeat first | apply Nam | apply Nag | apply Nap); refine Nbk ?_ NB102_101.out _; (with_reducible repeat first | apply Nam | apply Nag | apply Nap); refine Nbk ?_ NB102_101.out _; (with_reducible repeat first | apply Nam | apply Nag | apply Nap); exact BK102.out⟩
    have n2_ : Nai (Below w.heap.size w ((((((w46.setCell ⟨gb101, 0, none⟩ (.int .i64 t103)).setCell ⟨gb101, 1, none⟩ (.int .i64 t104)).setCell ⟨gb101, 2, none⟩ (.int .i64 t105)).setCell ⟨gb101, 3, none⟩ (.string t106)).setCell ⟨gb101, 4, none⟩ (.bool t107)).setCell ⟨gb101, 5, none⟩ (.int .i64 t108))) := ⟨bE⟩
    (try clear BK101)
    (try clear BK102)
    (try clear HB)
    generalize ((((((w46.setCell ⟨gb101, 0, none⟩ (.int .i64 t103)).setCell ⟨gb101, 1, none⟩ (.int .i64 t104)).setCell ⟨gb101, 2, none⟩ (.int .i64 t105)).setCell ⟨gb101, 3, none⟩ (.string t106)).setCell ⟨gb101, 4, none⟩ (.bool t107)).setCell ⟨gb101, 5, none⟩ (.int .i64 t108)) = w48 at n0_ n1_ n2_ ⊢
    have BK101 := n0_
    have BK102 := n1_
    have HB := n2_
    clear n0_ n1_ n2_
    have n0_ := aM (Nag BK101.out)
    have n1_ := aM (Nag BK102.out)
    have n2_ := aM (Nbp HB.out)
    clear BK101
    clear BK102
    clear HB
    have BK101 := n0_
    have BK102 := n1_
    have HB := n2_
    clear n0_ n1_ n2_
    refine sP (n := 5) (S := fun w' => w'.cell? ⟨gb101, 0, none⟩ = some (.int .i64 t103) ∧ w'.cell? ⟨gb101, 1, none⟩ = some (.int .i64 t104) ∧ w'.cell? ⟨gb101, 2, none⟩ = some (.int .i64 t105) ∧ w'.cell? ⟨gb101, 3, none⟩ = some (.string t106) ∧ w'.cell? ⟨gb101, 4, none⟩ = some (.bool t107) ∧ w'.cell? ⟨gb101, 5, none⟩ = some (.int .i64 t108)) (ds := []) ⟨(Naa BK101.out 0).trans rfl, (Naa BK101.out 1).trans rfl, (Naa BK101.out 2).trans rfl, (Naa BK101.out 3).trans rfl, (Naa BK101.out 4).trans rfl, (Naa BK101.out 5).trans rfl⟩ (fun hHeld => ?_)
    generalize w48.drew = w49 at BK101 BK102 HB hHeld ⊢
    refine pP 0 23 ?_
    refine tP 1 24 hHeld ?_
    refine oP 2 (some 25) fun K hK => ?_
    refine gP 185 Tryz.func185 #[] ?_
    with_reducible refine (Nci.calls  t123 t124 t125 t126 t127 t128 _ A41.out).mono ?_
    rintro e w50 ⟨rfl, hb⟩
    refine ⟨_, rfl, ?_⟩
    have n0_ := aM (Nad (g := gb101) (o := .cells #[.int .i64 t103, .int .i64 t104, .int .i64 t105, .string t106, .bool t107, .int .i64 t108] 46 (0, 0)) (bd BK101.out) hb)
    have n1_ := aM (Nad (g := gb102) (o := .cells #[.int .i64 0, .int .i64 0, .int .i64 0, .string ⟨#[]⟩, .bool false, .int .i64 0] 46 (0, 0)) (bd BK102.out) hb)
    have n2_ := aM (Nac bE hb)
    clear BK101
    clear BK102
    clear HB
    have BK101 := n0_
    have BK102 := n1_
    have HB := n2_
    clear n0_ n1_ n2_
    (try clear hb)
    refine hK.out _ _ ⟨(Naa BK101.out 0).trans rfl, (Naa BK101.out 1).trans rfl, (Naa BK101.out 2).trans rfl, (Naa BK101.out 3).trans rfl, (Naa BK101.out 4).trans rfl, (Naa BK101.out 5).trans rfl⟩ (fun hHeld => ?_)
    clear hK K
    refine nP 25 ?_
    refine pP 3 2 ?_
    refine oP 4 none fun K hK => ?_
    have hs51 : w50.cell? ⟨gb102, 0, none⟩ = some (.int .i64 0) := (Naa BK102.out 0).trans rfl
    have hfs51 := Naf BK102.out 0
    have hns51_0 := NB101_102.out
    have hms51_0 := NB102_101.out
    have hs52 : w50.cell? ⟨gb102, 1, none⟩ = some (.int .i64 0) := (Naa BK102.out 1).trans rfl
    have hfs52 := Naf BK102.out 1
    have hns52_0 := NB101_102.out
    have hms52_0 := NB102_101.out
    have hs53 : w50.cell? ⟨gb102, 2, none⟩ = some (.int .i64 0) := (Naa BK102.out 2).trans rfl
    have hfs53 := Naf BK102.out 2
    have hns53_0 := NB101_102.out
    have hms53_0 := NB102_101.out
    have hs54 : w50.cell? ⟨gb102, 3, none⟩ = some (.string ⟨#[]⟩) := (Naa BK102.out 3).trans rfl
    have hfs54 := Naf BK102.out 3
    have hns54_0 := NB101_102.out
    have hms54_0 := NB102_101.out
    have hs55 : w50.cell? ⟨gb102, 4, none⟩ = some (.bool false) := (Naa BK102.out 4).trans rfl
    have hfs55 := Naf BK102.out 4
    have hns55_0 := NB101_102.out
    have hms55_0 := NB102_101.out
    have hs56 : w50.cell? ⟨gb102, 5, none⟩ = some (.int .i64 0) := (Naa BK102.out 5).trans rfl
    have hfs56 := Naf BK102.out 5
    have hns56_0 := NB101_102.out
    have hms56_0 := NB102_101.out
    refine skip_ (w1 := ?_) (by rfl) rfl ?_ ?_
    rotate_left
    ·go_simp
     rfl
    refine hK.out _ _ ⟨(cF hHeld.1), (cF hHeld.2.1), (cF hHeld.2.2.1), (cF hHeld.2.2.2.1), (cF hHeld.2.2.2.2.1), (cF hHeld.2.2.2.2.2)⟩ (fun hHeld => ?_)
    clear hK K
    refine done_ (by kernel_rfl) ?_
    try go_wp2
    refine bodyPost_ret (Neu rfl _ _ gb102 46 #[.int .i64 t123, .int .i64 t124, .int .i64 t125, .string t126, .bool t127, .int .i64 t128] (0, 0) _ rfl (bP BK102.out) Tryz.underlying46 rfl (by kernel_rfl)) rfl ?_
    exact ⟨eR, bE⟩
section
set_option maxHeartbeats 2000000
theorem show_fault {k : Nat} {w : World} (hG : GL w) {kd n d e : Int} {tx : ByteArray} {b : Bool} (hR : Nb3.f k 4 n d tx b e = some true) (h1 : 1 ≤ e) (h8 : e ≤ 8) :
 Calls Tryz.prog 117 #[.agg #[.int .i64 4, .int .i64 n, .int .i64 d, .string tx, .bool b, .int .i64 e]] w fun en w' => en = .returned (.string (Nbx.getD (e - 1).toNat ByteArray.empty)) ∧ Below w.heap.size w w' := by
 have HT := lh (show Nbg.f k 4 n d tx b e = some (4, n, d, tx, b, e) by unfold Nbg.f; rw [hR]; rfl)
 have HGL := lh hG
 have HSZ := lh (Below.refl w.heap.size w)
 have hu46 := Tryz.underlying46
 obtain ⟨j, hej⟩ : ∃ j : Nat, e = (j : Int) + 1 := ⟨(e - 1).toNat, by omega⟩
 have hj : j < 8 := by omega
 have HJ := lh hj
 have HE := lh hej
 clear h1 h8 hj hej
 clear hR hG
 go_enter Tryz.func117, Tryz.ntmps117
 go_upto_region 1 with ((with_reducible refine gD 1 rfl ?_); refine bX 1 #[.int .i64 4, .int .i64 n, .int .i64 d, .string tx, .bool b, .int .i64 e] 46 ?_; intro g1 hg_ w1 hb_ hl_; have Z1 := lh (show w.heap.size ≤ g1 from hg_ ▸ Nat.le_refl _); have B1 := lh hl_; have J1 := lh hb_; clear hb_ hl_ hg_)
 have e0 : w1.cell? ⟨g1, 0, none⟩ = some (.int .i64 4) := (Naa J1.out 0).trans rfl
 have e1 : w1.cell? ⟨g1, 1, none⟩ = some (.int .i64 n) := (Naa J1.out 1).trans rfl
 have e2 : w1.cell? ⟨g1, 2, none⟩ = some (.int .i64 d) := (Naa J1.out 2).trans rfl
 have e3 : w1.cell? ⟨g1, 3, none⟩ = some (.string tx) := (Naa J1.out 3).trans rfl
 have e4 : w1.cell? ⟨g1, 4, none⟩ = some (.bool b) := (Naa J1.out 4).trans rfl
 have e5 : w1.cell? ⟨g1, 5, none⟩ = some (.int .i64 e) := (Naa J1.out 5).trans rfl
 go_upto_region 2 with (first
  | (go_at_call 146; clear e0 e1 e2 e3 e4 e5; (with_reducible refine (Nbg.calls k 4 n d tx b e 4 n d tx b e _ HT.out).mono ?_); rintro en w2 ⟨rfl, hb_⟩; have B2 := lh (Nac B1.out hb_); have J2 := lh (Nad J1.out hb_); clear hb_ B1 J1)
  | ((with_reducible refine gate_ (.store 46 (.tmp 1) (.tmp 6)) rfl ?_); refine sE J2.out 46 (.tmp 1) (.tmp 6) 0 (.agg #[.int .i64 4, .int .i64 n, .int .i64 d, .string tx, .bool b, .int .i64 e]) #[.int .i64 4, .int .i64 n, .int .i64 d, .string tx, .bool b, .int .i64 e] ?_; intro w3 hb_ hp_; have J3 := lh hb_; have B3 := lh (hp_.below w Z1.out B2.out); clear B2 J2; clear hb_ hp_))
 have e0 : w3.cell? ⟨g1, 0, none⟩ = some (.int .i64 4) := (Naa J3.out 0).trans rfl
 have e1 : w3.cell? ⟨g1, 1, none⟩ = some (.int .i64 n) := (Naa J3.out 1).trans rfl
 have e2 : w3.cell? ⟨g1, 2, none⟩ = some (.int .i64 d) := (Naa J3.out 2).trans rfl
 have e3 : w3.cell? ⟨g1, 3, none⟩ = some (.string tx) := (Naa J3.out 3).trans rfl
 have e4 : w3.cell? ⟨g1, 4, none⟩ = some (.bool b) := (Naa J3.out 4).trans rfl
 have e5 : w3.cell? ⟨g1, 5, none⟩ = some (.int .i64 e) := (Naa J3.out 5).trans rfl
 have HGL3 := lh (HGL.out.below B3.out)
 have en0 : w3.cell? ⟨2, j, none⟩ = some (.string (Nbx.getD j ByteArray.empty)) := Ncv HGL3.out j HJ.out
 have hw4 : wrap64 (e - 1) = (j : Int) := by have := HE.out; have := HJ.out; rw [show e - 1 = (j : Int) by omega]; unfold wrap64; omega
 have hj0 : (0 : Int) ≤ (j : Int) := Int.natCast_nonneg j
 have hj8 : (j : Int) < 8 := by have := HJ.out; omega
 go_wp2_with (fail)
 go_ret
 exact ⟨by rw [show (e - 1).toNat = j by have := HE.out; omega]; rfl, B3.out⟩
theorem show_text {k : Nat} {w : World} (hG : GL w) {kd n d e : Int} {tx : ByteArray} {b : Bool} (hR : Nb3.f k kd n d tx b e = some true) (h4 : (kd == 4) = false) (h2 : (kd == 2) = false) {t : ByteArray} {q1 q2 q3 q6 : Int} {q4 : ByteArray} {q5 : Bool} (hA : Nbv.f k kd n d tx b e = some (t, q1, q2, q3, q4, q5, q6)) :
 Calls Tryz.prog 117 #[.agg #[.int .i64 kd, .int .i64 n, .int .i64 d, .string tx, .bool b, .int .i64 e]] w fun en w' => en = .returned (.string t) ∧ Below w.heap.size w w' := by
 have HT := lh (show Nbg.f k kd n d tx b e = some (kd, n, d, tx, b, e) by unfold Nbg.f; rw [hR]; rfl)
 have HGL := lh hG
 have HSZ := lh (Below.refl w.heap.size w)
 have hu46 := Tryz.underlying46
 have HA := lh hA
 clear hA
 clear hR hG
 go_enter Tryz.func117, Tryz.ntmps117
 go_upto_region 1 with ((with_reducible refine gD 1 rfl ?_); refine bX 1 #[.int .i64 kd, .int .i64 n, .int .i64 d, .string tx, .bool b, .int .i64 e] 46 ?_; intro g1 hg_ w1 hb_ hl_; have Z1 := lh (show w.heap.size ≤ g1 from hg_ ▸ Nat.le_refl _); have B1 := lh hl_; have J1 := lh hb_; clear hb_ hl_ hg_)
 have e0 : w1.cell? ⟨g1, 0, none⟩ = some (.int .i64 kd) := (Naa J1.out 0).trans rfl
 have e1 : w1.cell? ⟨g1, 1, none⟩ = some (.int .i64 n) := (Naa J1.out 1).trans rfl
 have e2 : w1.cell? ⟨g1, 2, none⟩ = some (.int .i64 d) := (Naa J1.out 2).trans rfl
 have e3 : w1.cell? ⟨g1, 3, none⟩ = some (.string tx) := (Naa J1.out 3).trans rfl
 have e4 : w1.cell? ⟨g1, 4, none⟩ = some (.bool b) := (Naa J1.out 4).trans rfl
 have e5 : w1.cell? ⟨g1, 5, none⟩ = some (.int .i64 e) := (Naa J1.out 5).trans rfl
 go_upto_region 2 with (first
  | (go_at_call 146; clear e0 e1 e2 e3 e4 e5; (with_reducible refine (Nbg.calls k kd n d tx b e kd n d tx b e _ HT.out).mono ?_); rintro en w2 ⟨rfl, hb_⟩; have B2 := lh (Nac B1.out hb_); have J2 := lh (Nad J1.out hb_); clear hb_ B1 J1)
  | ((with_reducible refine gate_ (.store 46 (.tmp 1) (.tmp 6)) rfl ?_); refine sE J2.out 46 (.tmp 1) (.tmp 6) 0 (.agg #[.int .i64 kd, .int .i64 n, .int .i64 d, .string tx, .bool b, .int .i64 e]) #[.int .i64 kd, .int .i64 n, .int .i64 d, .string tx, .bool b, .int .i64 e] ?_; intro w3 hb_ hp_; have J3 := lh hb_; have B3 := lh (hp_.below w Z1.out B2.out); clear B2 J2; clear hb_ hp_))
 have e0 : w3.cell? ⟨g1, 0, none⟩ = some (.int .i64 kd) := (Naa J3.out 0).trans rfl
 have e1 : w3.cell? ⟨g1, 1, none⟩ = some (.int .i64 n) := (Naa J3.out 1).trans rfl
 have e2 : w3.cell? ⟨g1, 2, none⟩ = some (.int .i64 d) := (Naa J3.out 2).trans rfl
 have e3 : w3.cell? ⟨g1, 3, none⟩ = some (.string tx) := (Naa J3.out 3).trans rfl
 have e4 : w3.cell? ⟨g1, 4, none⟩ = some (.bool b) := (Naa J3.out 4).trans rfl
 have e5 : w3.cell? ⟨g1, 5, none⟩ = some (.int .i64 e) := (Naa J3.out 5).trans rfl
 have HGL3 := lh (HGL.out.below B3.out)
 go_wp2_with (first
  | (go_at_call 148; clear e0 e1 e2 e3 e4 e5; (with_reducible refine (Nbv.calls k kd n d tx b e t q1 q2 q3 q4 q5 q6 _ HGL3.out HA.out).mono ?_); rintro en w4 ⟨rfl, hb_⟩; have B4 := lh (Nac B3.out hb_); clear hb_)
  | ((with_reducible refine gD 4 rfl ?_); refine bX 4 #[.int .i64 0, .int .i64 0, .int .i64 0, .string ⟨#[]⟩, .bool false, .int .i64 0] 46 ?_; intro g4 hg_ w5 hb_ hl_; have Z4 := lh (show w.heap.size ≤ g4 from hg_ ▸ B4.out.size); have B5 := lh (Nac B4.out hl_); have J4 := lh hb_; clear hb_ hl_ hg_)
  | ((with_reducible refine gate_ (.store 46 (.tmp 4) (.tmp 43)) rfl ?_); refine sE J4.out 46 (.tmp 4) (.tmp 43) 0 (.agg #[.int .i64 q1, .int .i64 q2, .int .i64 q3, .string q4, .bool q5, .int .i64 q6]) #[.int .i64 q1, .int .i64 q2, .int .i64 q3, .string q4, .bool q5, .int .i64 q6] ?_; intro w6 hb_ hp_; have B6 := lh (hp_.below w Z4.out B5.out); clear hb_ hp_))
 go_ret
 exact ⟨rfl, B6.out⟩
end
end Go.Proofs.YtejbbceidnaloaaGreatDoor.P
