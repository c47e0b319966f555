import Derived.Test.YtejbbceidnaloaaGreatDoorB18
set_option linter.unusedVariables false
set_option linter.unusedSimpArgs false
set_option maxRecDepth 100000
set_option maxHeartbeats 8000000
namespace Go.Proofs.YtejbbceidnaloaaGreatDoor.P
open Go.RowKit AW AL AM
section
set_option maxHeartbeats 1000000
def Nx (w : World) (kd : Int) (tx : ByteArray) (n c : Int) (en : Ending) (w' : World) : Prop :=
 en = .returned (.tuple #[.agg #[.int .i64 kd, .string tx, .int .i64 0], .int .i64 n, .int .i64 c]) ∧ Below w.heap.size w w'
def NxK (w : World) (s : ByteArray) (kd : Int) (n : Nat) (en : Ending) (w' : World) : Prop := if n = 0 then Nx w 0 ⟨#[]⟩ 0 40 en w' else Nx w kd (s.extract 0 n) n 0 en w'
theorem NxK.zero {w : World} {s : ByteArray} {kd : Int} {n : Nat} {en : Ending} {w' : World} (h : n = 0) (hh : Nx w 0 ⟨#[]⟩ 0 40 en w') : NxK w s kd n en w' := by unfold NxK; rw [if_pos h]; exact hh
theorem NxK.pos {w : World} {s : ByteArray} {kd : Int} {n : Nat} {en : Ending} {w' : World} (h : n ≠ 0) (hh : Nx w kd (s.extract 0 n) n 0 en w') : NxK w s kd n en w' := by unfold NxK; rw [if_neg h]; exact hh
theorem next_digit (s : ByteArray) (w : World) (hp : 0 < s.size) (hs : s.size ≤ 100000) {n : Nat} (hd : digB (bt s 0) = true) (hn : numN s = n) (hle : n ≤ s.size) :
 Calls Tryz.prog 55 #[.string s] w (NxK w s 1 n) := by
 have e0 : ∀ h : 0 < s.size, ((s[0]'h).toNat : Int) = bt s 0 := fun h => bt_at s 0 h
 have HS := lh hs
 clear hs
 have HLE := lh hle
 have HD := lh (fun w => show Calls Tryz.prog 85 #[.int .u8 (bt s 0)] w fun e w' => e = .returned (.bool true) ∧ w = w' from hd ▸ Ncs (bt s 0) w)
 have HN := lh (fun w => show Calls Tryz.prog 86 #[.string s] w fun e w' => e = .returned (.int .i64 (n : Nat)) ∧ w = w' from hn ▸ number_any s w (by have := HS.out; omega))
 clear hd hn hle
 go_enter Tryz.func55, Tryz.ntmps55
 go_upto_region 14 with (first | ((with_reducible refine gD 2 rfl ?_); refine bX 2 #[.int .i64 0, .string ⟨#[]⟩, .int .i64 0] 39 ?_; intro g2 hg_ w1 hb_ hl_; have B1 := lh hl_; have G2 := lh (show w.heap.size ≤ g2 from hg_ ▸ Nat.le_refl _); have J1 := lh hb_; clear hb_ hl_ hg_) | (go_at_call 85; (with_reducible refine (HD.out _).mono ?_); rintro en w' ⟨rfl, rfl⟩) | (go_at_call 86; (with_reducible refine (HN.out _).mono ?_); rintro en w' ⟨rfl, rfl⟩))
 by_cases h0 : n = 0
 ·have b0 : ((n : Int) == 0) = true := by rw [beq_iff_eq]; omega
  have H00 := lh h0
  clear h0
  go_wp2_with ((with_reducible refine gate_ (.store 39 (.tmp 2) (.tmp 60)) rfl ?_); refine sE J1.out 39 (.tmp 2) (.tmp 60) 0 (.agg #[.int .i64 0, .string ⟨#[]⟩, .int .i64 0]) #[.int .i64 0, .string ⟨#[]⟩, .int .i64 0] ?_; intro w8 hb_ hp_; have J9 := lh hb_; have BE := lh (hp_.below w G2.out B1.out); clear hb_ hp_)
  refine bodyPost_ret (Nby rfl _ _ g2 39 #[.int .i64 0, .string ⟨#[]⟩, .int .i64 0] (0, 0) _ rfl J9.out Tryz.underlying39 rfl (by kernel_rfl)) rfl ?_
  exact NxK.zero H00.out ⟨rfl, BE.out⟩
 ·have b0 : ((n : Int) == 0) = false := by rw [beq_eq_false_iff_ne]; omega
  have q1 : n ≤ s.size := HLE.out
  have H00 := lh h0
  clear h0
  go_wp2_with ((with_reducible refine gate_ (.store 39 (.tmp 2) (.tmp 65)) rfl ?_); refine sE J1.out 39 (.tmp 2) (.tmp 65) 0 (.agg #[.int .i64 1, .string (s.extract 0 n), .int .i64 0]) #[.int .i64 1, .string (s.extract 0 n), .int .i64 0] ?_; intro w8 hb_ hp_; have J9 := lh hb_; have BE := lh (hp_.below w G2.out B1.out); clear hb_ hp_)
  refine bodyPost_ret (Nby rfl _ _ g2 39 #[.int .i64 1, .string (s.extract 0 n), .int .i64 0] (0, 0) _ rfl J9.out Tryz.underlying39 rfl (by kernel_rfl)) rfl ?_
  exact NxK.pos H00.out ⟨rfl, BE.out⟩
theorem begins_faults (k : Nat) (s b : ByteArray) (w : World) (hG : GL w) (h : Nba.f k s Nbx = some b) : Calls Tryz.prog 91 #[.string s, .slice (some ⟨0, 0, none⟩) 8 8] w fun e w' => e = .returned (.string b) ∧ Na9 w w' :=
 Nba.calls k s (some ⟨0, 0, none⟩) 8 Nbx b w hG.fau (Nat.le_refl _) h
theorem begins_pairs (k : Nat) (s b : ByteArray) (w : World) (hG : GL w) (h : Nba.f k s Nej = some b) : Calls Tryz.prog 91 #[.string s, .slice (some ⟨1, 0, none⟩) 3 3] w fun e w' => e = .returned (.string b) ∧ Na9 w w' :=
 Nba.calls k s (some ⟨1, 0, none⟩) 3 Nej b w hG.prs (Nat.le_refl _) h
theorem next_quote (s : ByteArray) (w : World) (hp : 0 < s.size) (hs : s.size ≤ 100000) (hG : GL w) {k : Nat} {tx : ByteArray} {n c : Int} (hd : digB (bt s 0) = false) (h34 : bt s 0 = 34) (hq : Nak.f k s = some (tx, n, c)) :
 Calls Tryz.prog 55 #[.string s] w (Nx w 2 tx n c) := by
 have e0 : ∀ h : 0 < s.size, ((s[0]'h).toNat : Int) = bt s 0 := fun h => bt_at s 0 h
 have HS := lh hs
 clear hs
 have b34 : (bt s 0 == 34) = true := beq_iff_eq.mpr h34
 have HD := lh (fun w => show Calls Tryz.prog 85 #[.int .u8 (bt s 0)] w fun e w' => e = .returned (.bool false) ∧ w = w' from hd ▸ Ncs (bt s 0) w)
 have HQ := lh hq
 clear hd h34 hq
 go_enter Tryz.func55, Tryz.ntmps55
 go_wp2_with (first | ((with_reducible refine gD 2 rfl ?_); refine bX 2 #[.int .i64 0, .string ⟨#[]⟩, .int .i64 0] 39 ?_; intro g2 hg_ w1 hb_ hl_; have B1 := lh hl_; have G2 := lh (show w.heap.size ≤ g2 from hg_ ▸ Nat.le_refl _); have J1 := lh hb_; clear hb_ hl_ hg_) | (go_at_call 85; (with_reducible refine (HD.out _).mono ?_); rintro en w' ⟨rfl, rfl⟩) | (go_at_call 87; (with_reducible refine (Nak.calls k s tx n c _ (hG.below B1.out) HQ.out).mono ?_); rintro en w2 ⟨rfl, hb⟩; have B2 := lh (Nac B1.out hb); have J2 := lh (Nad J1.out hb); clear hb B1 J1) | ((with_reducible refine gate_ (.store 39 (.tmp 2) (.tmp 39)) rfl ?_); refine sE J2.out 39 (.tmp 2) (.tmp 39) 0 (.agg #[.int .i64 2, .string tx, .int .i64 0]) #[.int .i64 2, .string tx, .int .i64 0] ?_; intro w8 hb_ hp_; have J9 := lh hb_; have BE := lh (hp_.below w G2.out B2.out); clear hb_ hp_))
 refine bodyPost_ret (Nby rfl _ _ g2 39 #[.int .i64 2, .string tx, .int .i64 0] (0, 0) _ rfl J9.out Tryz.underlying39 rfl (by kernel_rfl)) rfl ?_
 exact ⟨rfl, BE.out⟩
theorem next_letter (s : ByteArray) (w : World) (hp : 0 < s.size) (hs : s.size ≤ 100000) {n : Nat} (hd : digB (bt s 0) = false) (h34 : bt s 0 ≠ 34) (hl : letB (bt s 0) = true) (hn : runN wordB s = n) (hle : n ≤ s.size) :
 Calls Tryz.prog 55 #[.string s] w (NxK w s 3 n) := by
 have e0 : ∀ h : 0 < s.size, ((s[0]'h).toNat : Int) = bt s 0 := fun h => bt_at s 0 h
 have HS := lh hs
 clear hs
 have b34 : (bt s 0 == 34) = false := beq_eq_false_iff_ne.mpr h34
 have HD := lh (fun w => show Calls Tryz.prog 85 #[.int .u8 (bt s 0)] w fun e w' => e = .returned (.bool false) ∧ w = w' from hd ▸ Ncs (bt s 0) w)
 have HT := lh (fun w => show Calls Tryz.prog 88 #[.int .u8 (bt s 0)] w fun e w' => e = .returned (.bool true) ∧ w = w' from hl ▸ Nc5 (bt s 0) w)
 have HLE := lh hle
 have HN := lh (fun w => show Calls Tryz.prog 89 #[.string s, .func (.func 90) #[] #[]] w fun e w' => e = .returned (.int .i64 (n : Nat)) ∧ w = w' from hn ▸ run_word s w (by have := HS.out; omega))
 clear hd h34 hl hn hle
 go_enter Tryz.func55, Tryz.ntmps55
 go_upto_region 14 with (first | ((with_reducible refine gD 2 rfl ?_); refine bX 2 #[.int .i64 0, .string ⟨#[]⟩, .int .i64 0] 39 ?_; intro g2 hg_ w1 hb_ hl_; have B1 := lh hl_; have G2 := lh (show w.heap.size ≤ g2 from hg_ ▸ Nat.le_refl _); have J1 := lh hb_; clear hb_ hl_ hg_) | (go_at_call 85; (with_reducible refine (HD.out _).mono ?_); rintro en w' ⟨rfl, rfl⟩) | (go_at_call 88; (with_reducible refine (HT.out _).mono ?_); rintro en w' ⟨rfl, rfl⟩) | (go_at_call 89; (with_reducible refine (HN.out _).mono ?_); rintro en w' ⟨rfl, rfl⟩))
 by_cases h0 : n = 0
 ·have b0 : ((n : Int) == 0) = true := by rw [beq_iff_eq]; omega
  have H00 := lh h0
  clear h0
  go_wp2_with ((with_reducible refine gate_ (.store 39 (.tmp 2) (.tmp 60)) rfl ?_); refine sE J1.out 39 (.tmp 2) (.tmp 60) 0 (.agg #[.int .i64 0, .string ⟨#[]⟩, .int .i64 0]) #[.int .i64 0, .string ⟨#[]⟩, .int .i64 0] ?_; intro w8 hb_ hp_; have J9 := lh hb_; have BE := lh (hp_.below w G2.out B1.out); clear hb_ hp_)
  refine bodyPost_ret (Nby rfl _ _ g2 39 #[.int .i64 0, .string ⟨#[]⟩, .int .i64 0] (0, 0) _ rfl J9.out Tryz.underlying39 rfl (by kernel_rfl)) rfl ?_
  exact NxK.zero H00.out ⟨rfl, BE.out⟩
 ·have b0 : ((n : Int) == 0) = false := by rw [beq_eq_false_iff_ne]; omega
  have q1 : n ≤ s.size := HLE.out
  have H00 := lh h0
  clear h0
  go_wp2_with ((with_reducible refine gate_ (.store 39 (.tmp 2) (.tmp 65)) rfl ?_); refine sE J1.out 39 (.tmp 2) (.tmp 65) 0 (.agg #[.int .i64 3, .string (s.extract 0 n), .int .i64 0]) #[.int .i64 3, .string (s.extract 0 n), .int .i64 0] ?_; intro w8 hb_ hp_; have J9 := lh hb_; have BE := lh (hp_.below w G2.out B1.out); clear hb_ hp_)
  refine bodyPost_ret (Nby rfl _ _ g2 39 #[.int .i64 3, .string (s.extract 0 n), .int .i64 0] (0, 0) _ rfl J9.out Tryz.underlying39 rfl (by kernel_rfl)) rfl ?_
  exact NxK.pos H00.out ⟨rfl, BE.out⟩
theorem next_dollar (s : ByteArray) (w : World) (hp : 0 < s.size) (hs : s.size ≤ 100000) {n : Nat} (hd : digB (bt s 0) = false) (h34 : bt s 0 ≠ 34) (hl : letB (bt s 0) = false) (h36 : bt s 0 = 36) (hn : runN wordB s = n) (hle : n ≤ s.size) :
 Calls Tryz.prog 55 #[.string s] w (NxK w s 3 n) := by
 have e0 : ∀ h : 0 < s.size, ((s[0]'h).toNat : Int) = bt s 0 := fun h => bt_at s 0 h
 have HS := lh hs
 clear hs
 have b34 : (bt s 0 == 34) = false := beq_eq_false_iff_ne.mpr h34
 have b36 : (bt s 0 == 36) = true := beq_iff_eq.mpr h36
 have HD := lh (fun w => show Calls Tryz.prog 85 #[.int .u8 (bt s 0)] w fun e w' => e = .returned (.bool false) ∧ w = w' from hd ▸ Ncs (bt s 0) w)
 have HT := lh (fun w => show Calls Tryz.prog 88 #[.int .u8 (bt s 0)] w fun e w' => e = .returned (.bool false) ∧ w = w' from hl ▸ Nc5 (bt s 0) w)
 have HLE := lh hle
 have HN := lh (fun w => show Calls Tryz.prog 89 #[.string s, .func (.func 90) #[] #[]] w fun e w' => e = .returned (.int .i64 (n : Nat)) ∧ w = w' from hn ▸ run_word s w (by have := HS.out; omega))
 clear hd h34 hl hn hle h36
 go_enter Tryz.func55, Tryz.ntmps55
 go_upto_region 14 with (first | ((with_reducible refine gD 2 rfl ?_); refine bX 2 #[.int .i64 0, .string ⟨#[]⟩, .int .i64 0] 39 ?_; intro g2 hg_ w1 hb_ hl_; have B1 := lh hl_; have G2 := lh (show w.heap.size ≤ g2 from hg_ ▸ Nat.le_refl _); have J1 := lh hb_; clear hb_ hl_ hg_) | (go_at_call 85; (with_reducible refine (HD.out _).mono ?_); rintro en w' ⟨rfl, rfl⟩) | (go_at_call 88; (with_reducible refine (HT.out _).mono ?_); rintro en w' ⟨rfl, rfl⟩) | (go_at_call 89; (with_reducible refine (HN.out _).mono ?_); rintro en w' ⟨rfl, rfl⟩))
 by_cases h0 : n = 0
 ·have b0 : ((n : Int) == 0) = true := by rw [beq_iff_eq]; omega
  have H00 := lh h0
  clear h0
  go_wp2_with ((with_reducible refine gate_ (.store 39 (.tmp 2) (.tmp 60)) rfl ?_); refine sE J1.out 39 (.tmp 2) (.tmp 60) 0 (.agg #[.int .i64 0, .string ⟨#[]⟩, .int .i64 0]) #[.int .i64 0, .string ⟨#[]⟩, .int .i64 0] ?_; intro w8 hb_ hp_; have J9 := lh hb_; have BE := lh (hp_.below w G2.out B1.out); clear hb_ hp_)
  refine bodyPost_ret (Nby rfl _ _ g2 39 #[.int .i64 0, .string ⟨#[]⟩, .int .i64 0] (0, 0) _ rfl J9.out Tryz.underlying39 rfl (by kernel_rfl)) rfl ?_
  exact NxK.zero H00.out ⟨rfl, BE.out⟩
 ·have b0 : ((n : Int) == 0) = false := by rw [beq_eq_false_iff_ne]; omega
  have q1 : n ≤ s.size := HLE.out
  have H00 := lh h0
  clear h0
  go_wp2_with ((with_reducible refine gate_ (.store 39 (.tmp 2) (.tmp 65)) rfl ?_); refine sE J1.out 39 (.tmp 2) (.tmp 65) 0 (.agg #[.int .i64 3, .string (s.extract 0 n), .int .i64 0]) #[.int .i64 3, .string (s.extract 0 n), .int .i64 0] ?_; intro w8 hb_ hp_; have J9 := lh hb_; have BE := lh (hp_.below w G2.out B1.out); clear hb_ hp_)
  refine bodyPost_ret (Nby rfl _ _ g2 39 #[.int .i64 3, .string (s.extract 0 n), .int .i64 0] (0, 0) _ rfl J9.out Tryz.underlying39 rfl (by kernel_rfl)) rfl ?_
  exact NxK.pos H00.out ⟨rfl, BE.out⟩
theorem next_fault (s : ByteArray) (w : World) (hp : 0 < s.size) (hs : s.size ≤ 100000) (hG : GL w) {k : Nat} {b : ByteArray} {n : Nat} (hd : digB (bt s 0) = false) (h34 : bt s 0 ≠ 34) (hl : letB (bt s 0) = false) (h36 : bt s 0 ≠ 36) (h35 : bt s 0 = 35) (hb : Nba.f k s Nbx = some b) (hn : b.size = n) (hle : n ≤ s.size) :
 Calls Tryz.prog 55 #[.string s] w (NxK w s 4 n) := by
 have e0 : ∀ h : 0 < s.size, ((s[0]'h).toNat : Int) = bt s 0 := fun h => bt_at s 0 h
 have HS := lh hs
 clear hs
 have b34 : (bt s 0 == 34) = false := beq_eq_false_iff_ne.mpr h34
 have b36 : (bt s 0 == 36) = false := beq_eq_false_iff_ne.mpr h36
 have b35 : (bt s 0 == 35) = true := beq_iff_eq.mpr h35
 have HD := lh (fun w => show Calls Tryz.prog 85 #[.int .u8 (bt s 0)] w fun e w' => e = .returned (.bool false) ∧ w = w' from hd ▸ Ncs (bt s 0) w)
 have HT := lh (fun w => show Calls Tryz.prog 88 #[.int .u8 (bt s 0)] w fun e w' => e = .returned (.bool false) ∧ w = w' from hl ▸ Nc5 (bt s 0) w)
 have HLE := lh hle
 have HB := lh hb
 have HN := lh hn
 clear hd h34 hl h36 h35 hb hle hn
 go_enter Tryz.func55, Tryz.ntmps55
 go_upto_region 14 with (first | ((with_reducible refine gD 2 rfl ?_); refine bX 2 #[.int .i64 0, .string ⟨#[]⟩, .int .i64 0] 39 ?_; intro g2 hg_ w1 hb_ hl_; have B1 := lh hl_; have G2 := lh (show w.heap.size ≤ g2 from hg_ ▸ Nat.le_refl _); have J1 := lh hb_; clear hb_ hl_ hg_) | (go_at_call 85; (with_reducible refine (HD.out _).mono ?_); rintro en w' ⟨rfl, rfl⟩) | (go_at_call 88; (with_reducible refine (HT.out _).mono ?_); rintro en w' ⟨rfl, rfl⟩) | (go_at_call 91; (with_reducible refine (begins_faults k s b _ (hG.below B1.out) HB.out).mono ?_); rintro en w2 ⟨rfl, hd_⟩; have B2 := lh (Nac B1.out hd_.below); have J2 := lh (Nad J1.out hd_.below); clear hd_ B1 J1))
 rw [HN.out]
 by_cases h0 : n = 0
 ·have b0 : ((n : Int) == 0) = true := by rw [beq_iff_eq]; omega
  have H00 := lh h0
  clear h0
  go_wp2_with ((with_reducible refine gate_ (.store 39 (.tmp 2) (.tmp 60)) rfl ?_); refine sE J2.out 39 (.tmp 2) (.tmp 60) 0 (.agg #[.int .i64 0, .string ⟨#[]⟩, .int .i64 0]) #[.int .i64 0, .string ⟨#[]⟩, .int .i64 0] ?_; intro w8 hb_ hp_; have J9 := lh hb_; have BE := lh (hp_.below w G2.out B2.out); clear hb_ hp_)
  refine bodyPost_ret (Nby rfl _ _ g2 39 #[.int .i64 0, .string ⟨#[]⟩, .int .i64 0] (0, 0) _ rfl J9.out Tryz.underlying39 rfl (by kernel_rfl)) rfl ?_
  exact NxK.zero H00.out ⟨rfl, BE.out⟩
 ·have b0 : ((n : Int) == 0) = false := by rw [beq_eq_false_iff_ne]; omega
  have q1 : n ≤ s.size := HLE.out
  have H00 := lh h0
  clear h0
  go_wp2_with ((with_reducible refine gate_ (.store 39 (.tmp 2) (.tmp 65)) rfl ?_); refine sE J2.out 39 (.tmp 2) (.tmp 65) 0 (.agg #[.int .i64 4, .string (s.extract 0 n), .int .i64 0]) #[.int .i64 4, .string (s.extract 0 n), .int .i64 0] ?_; intro w8 hb_ hp_; have J9 := lh hb_; have BE := lh (hp_.below w G2.out B2.out); clear hb_ hp_)
  refine bodyPost_ret (Nby rfl _ _ g2 39 #[.int .i64 4, .string (s.extract 0 n), .int .i64 0] (0, 0) _ rfl J9.out Tryz.underlying39 rfl (by kernel_rfl)) rfl ?_
  exact NxK.pos H00.out ⟨rfl, BE.out⟩
theorem next_mark2 (s : ByteArray) (w : World) (hp : 0 < s.size) (hs : s.size ≤ 100000) (hG : GL w) {k : Nat} {b : ByteArray} {n : Nat} (hd : digB (bt s 0) = false) (h34 : bt s 0 ≠ 34) (hl : letB (bt s 0) = false) (h36 : bt s 0 ≠ 36) (h35 : bt s 0 ≠ 35) (hb : Nba.f k s Nej = some b) (hn : b.size = n) (hle : n ≤ s.size) (hn0 : n ≠ 0) :
 Calls Tryz.prog 55 #[.string s] w (NxK w s 5 n) := by
 have e0 : ∀ h : 0 < s.size, ((s[0]'h).toNat : Int) = bt s 0 := fun h => bt_at s 0 h
 have HS := lh hs
 clear hs
 have b34 : (bt s 0 == 34) = false := beq_eq_false_iff_ne.mpr h34
 have b36 : (bt s 0 == 36) = false := beq_eq_false_iff_ne.mpr h36
 have b35 : (bt s 0 == 35) = false := beq_eq_false_iff_ne.mpr h35
 have HD := lh (fun w => show Calls Tryz.prog 85 #[.int .u8 (bt s 0)] w fun e w' => e = .returned (.bool false) ∧ w = w' from hd ▸ Ncs (bt s 0) w)
 have HT := lh (fun w => show Calls Tryz.prog 88 #[.int .u8 (bt s 0)] w fun e w' => e = .returned (.bool false) ∧ w = w' from hl ▸ Nc5 (bt s 0) w)
 have HLE := lh hle
 have HB := lh hb
 have HN := lh hn
 have bn : ((n : Int) == 0) = false := by rw [beq_eq_false_iff_ne]; omega
 clear hd h34 hl h36 h35 hb hle hn hn0
 go_enter Tryz.func55, Tryz.ntmps55
 go_upto_region 3 with (first | ((with_reducible refine gD 2 rfl ?_); refine bX 2 #[.int .i64 0, .string ⟨#[]⟩, .int .i64 0] 39 ?_; intro g2 hg_ w1 hb_ hl_; have B1 := lh hl_; have G2 := lh (show w.heap.size ≤ g2 from hg_ ▸ Nat.le_refl _); have J1 := lh hb_; clear hb_ hl_ hg_) | (go_at_call 85; (with_reducible refine (HD.out _).mono ?_); rintro en w' ⟨rfl, rfl⟩) | (go_at_call 88; (with_reducible refine (HT.out _).mono ?_); rintro en w' ⟨rfl, rfl⟩) | (go_at_call 91; (with_reducible refine (begins_pairs k s b _ (hG.below B1.out) HB.out).mono ?_); rintro en w2 ⟨rfl, hd_⟩; have B2 := lh (Nac B1.out hd_.below); have J2 := lh (Nad J1.out hd_.below); clear hd_ B1 J1))
 rw [HN.out]
 go_upto_region 14 with (fail)
 have H00 := lh (show n ≠ 0 by intro hh; rw [hh] at bn; simp at bn)
 have q1 : n ≤ s.size := HLE.out
 go_wp2_with ((with_reducible refine gate_ (.store 39 (.tmp 2) (.tmp 65)) rfl ?_); refine sE J2.out 39 (.tmp 2) (.tmp 65) 0 (.agg #[.int .i64 5, .string (s.extract 0 n), .int .i64 0]) #[.int .i64 5, .string (s.extract 0 n), .int .i64 0] ?_; intro w8 hb_ hp_; have J9 := lh hb_; have BE := lh (hp_.below w G2.out B2.out); clear hb_ hp_)
 refine bodyPost_ret (Nby rfl _ _ g2 39 #[.int .i64 5, .string (s.extract 0 n), .int .i64 0] (0, 0) _ rfl J9.out Tryz.underlying39 rfl (by kernel_rfl)) rfl ?_
 exact NxK.pos H00.out ⟨rfl, BE.out⟩
theorem next_mark1 (s : ByteArray) (w : World) (hp : 0 < s.size) (hs : s.size ≤ 100000) (hG : GL w) {k : Nat} {b : ByteArray} {n : Nat} (hd : digB (bt s 0) = false) (h34 : bt s 0 ≠ 34) (hl : letB (bt s 0) = false) (h36 : bt s 0 ≠ 36) {i : Int} (h35 : bt s 0 ≠ 35) (hb : Nba.f k s Nej = some b) (hn : b.size = 0) (hi : Lib.indexByte (ByteArray.data ⟨#[43, 45, 42, 47, 94, 38, 37, 40, 41, 44, 58, 33, 61, 60, 62]⟩).toList (bt s 0).toNat.toUInt8 = i) (hn1 : n = if 0 ≤ i then 1 else 0) :
 Calls Tryz.prog 55 #[.string s] w (NxK w s 5 n) := by
 have e0 : ∀ h : 0 < s.size, ((s[0]'h).toNat : Int) = bt s 0 := fun h => bt_at s 0 h
 have HS := lh hs
 clear hs
 have b34 : (bt s 0 == 34) = false := beq_eq_false_iff_ne.mpr h34
 have b36 : (bt s 0 == 36) = false := beq_eq_false_iff_ne.mpr h36
 have b35 : (bt s 0 == 35) = false := beq_eq_false_iff_ne.mpr h35
 have HD := lh (fun w => show Calls Tryz.prog 85 #[.int .u8 (bt s 0)] w fun e w' => e = .returned (.bool false) ∧ w = w' from hd ▸ Ncs (bt s 0) w)
 have HT := lh (fun w => show Calls Tryz.prog 88 #[.int .u8 (bt s 0)] w fun e w' => e = .returned (.bool false) ∧ w = w' from hl ▸ Nc5 (bt s 0) w)
 have HLE := lh (show n ≤ s.size by rw [hn1]; split <;> omega)
 have HB := lh hb
 have HN := lh hn
 have HI := lh (fun w => show Calls Tryz.prog 92 #[.string ⟨#[43, 45, 42, 47, 94, 38, 37, 40, 41, 44, 58, 33, 61, 60, 62]⟩, .int .u8 (bt s 0)] w fun e w' => e = .returned (.int .i64 i) ∧ Na9 w w' from strings_IndexByte.calls ⟨#[43, 45, 42, 47, 94, 38, 37, 40, 41, 44, 58, 33, 61, 60, 62]⟩ (bt s 0) i w (congrArg some hi))
 clear hd h34 hl h36 h35 hb hn hi
 go_enter Tryz.func55, Tryz.ntmps55
 go_upto_region 3 with (first | ((with_reducible refine gD 2 rfl ?_); refine bX 2 #[.int .i64 0, .string ⟨#[]⟩, .int .i64 0] 39 ?_; intro g2 hg_ w1 hb_ hl_; have B1 := lh hl_; have G2 := lh (show w.heap.size ≤ g2 from hg_ ▸ Nat.le_refl _); have J1 := lh hb_; clear hb_ hl_ hg_) | (go_at_call 85; (with_reducible refine (HD.out _).mono ?_); rintro en w' ⟨rfl, rfl⟩) | (go_at_call 88; (with_reducible refine (HT.out _).mono ?_); rintro en w' ⟨rfl, rfl⟩) | (go_at_call 91; (with_reducible refine (begins_pairs k s b _ (hG.below B1.out) HB.out).mono ?_); rintro en w2 ⟨rfl, hd_⟩; have B2 := lh (Nac B1.out hd_.below); have J2 := lh (Nad J1.out hd_.below); clear hd_ B1 J1))
 rw [HN.out]
 by_cases hi0 : 0 ≤ i
 ·obtain rfl : n = 1 := by rw [hn1, if_pos hi0]
  have di : decide (0 ≤ i) = true := decide_eq_true hi0
  clear hi0 hn1
  go_upto_region 14 with (go_at_call 92; (with_reducible refine (HI.out _).mono ?_); rintro en w3 ⟨rfl, hd_⟩; have B3 := lh (Nac B2.out hd_.below); have J3 := lh (Nad J2.out hd_.below); clear hd_ B2 J2)
  have q1 : 1 ≤ s.size := HLE.out
  go_wp2_with ((with_reducible refine gate_ (.store 39 (.tmp 2) (.tmp 65)) rfl ?_); refine sE J3.out 39 (.tmp 2) (.tmp 65) 0 (.agg #[.int .i64 5, .string (s.extract 0 1), .int .i64 0]) #[.int .i64 5, .string (s.extract 0 1), .int .i64 0] ?_; intro w8 hb_ hp_; have J9 := lh hb_; have BE := lh (hp_.below w G2.out B3.out); clear hb_ hp_)
  refine bodyPost_ret (Nby rfl _ _ g2 39 #[.int .i64 5, .string (s.extract 0 1), .int .i64 0] (0, 0) _ rfl J9.out Tryz.underlying39 rfl (by kernel_rfl)) rfl ?_
  exact NxK.pos (by decide) ⟨rfl, BE.out⟩
 ·obtain rfl : n = 0 := by rw [hn1, if_neg hi0]
  have di : decide (0 ≤ i) = false := decide_eq_false hi0
  clear hi0 hn1
  go_upto_region 14 with (go_at_call 92; (with_reducible refine (HI.out _).mono ?_); rintro en w3 ⟨rfl, hd_⟩; have B3 := lh (Nac B2.out hd_.below); have J3 := lh (Nad J2.out hd_.below); clear hd_ B2 J2)
  go_wp2_with ((with_reducible refine gate_ (.store 39 (.tmp 2) (.tmp 60)) rfl ?_); refine sE J3.out 39 (.tmp 2) (.tmp 60) 0 (.agg #[.int .i64 0, .string ⟨#[]⟩, .int .i64 0]) #[.int .i64 0, .string ⟨#[]⟩, .int .i64 0] ?_; intro w8 hb_ hp_; have J9 := lh hb_; have BE := lh (hp_.below w G2.out B3.out); clear hb_ hp_)
  refine bodyPost_ret (Nby rfl _ _ g2 39 #[.int .i64 0, .string ⟨#[]⟩, .int .i64 0] (0, 0) _ rfl J9.out Tryz.underlying39 rfl (by kernel_rfl)) rfl ?_
  exact NxK.zero rfl ⟨rfl, BE.out⟩
end
def nxF (s : ByteArray) (kd : Int) (n : Nat) : Int × ByteArray × Int × Int × Int := if n = 0 then (0, ⟨#[]⟩, 0, 0, 40) else (kd, s.extract 0 n, 0, n, 0)
def markI (s : ByteArray) : Int := Lib.indexByte (ByteArray.data ⟨#[43, 45, 42, 47, 94, 38, 37, 40, 41, 44, 58, 33, 61, 60, 62]⟩).toList (bt s 0).toNat.toUInt8
def Nc4.f (s : ByteArray) : Option (Int × ByteArray × Int × Int × Int) :=
 if 0 < s.size ∧ s.size ≤ 100000 then
  if digB (bt s 0) = true then (if numN s ≤ s.size then some (nxF s 1 (numN s)) else none)
  else if bt s 0 = 34 then (Nak.f (2 * s.size + 10) s).map fun (t, n, c) => (2, t, 0, n, c)
  else if letB (bt s 0) = true then some (nxF s 3 (runN wordB s))
  else if bt s 0 = 36 then some (nxF s 3 (runN wordB s))
  else if bt s 0 = 35 then (Nba.f 12 s Nbx).bind fun b => if b.size ≤ s.size then some (nxF s 4 b.size) else none
  else (Nba.f 12 s Nej).bind fun b => if b.size = 0 then some (nxF s 5 (if 0 ≤ markI s then 1 else 0)) else if b.size ≤ s.size then some (nxF s 5 b.size) else none
 else none
theorem nxk {w : World} {s : ByteArray} {kd : Int} {n : Nat} {r1 : Int} {r2 : ByteArray} {r3 r4 r5 : Int} (h : nxF s kd n = (r1, r2, r3, r4, r5)) {en : Ending} {w' : World} (hh : NxK w s kd n en w') :
 en = .returned (.tuple #[.agg #[.int .i64 r1, .string r2, .int .i64 r3], .int .i64 r4, .int .i64 r5]) ∧ Below w.heap.size w w' := by
 unfold nxF at h
 unfold NxK at hh
 split at h
 ·rename_i h0
  rw [if_pos h0] at hh
  cases h
  exact hh
 ·rename_i h0
  rw [if_neg h0] at hh
  cases h
  exact hh
theorem Nc4.calls (a0 : ByteArray) (r1 : Int) (r2 : ByteArray) (r3 r4 r5 : Int) (w : World) (hG : GL w) (h : Nc4.f a0 = some (r1, r2, r3, r4, r5)) :
 Calls Tryz.prog 55 #[.string a0] w fun e w' => e = .returned (.tuple #[.agg #[.int .i64 r1, .string r2, .int .i64 r3], .int .i64 r4, .int .i64 r5]) ∧ Below w.heap.size w w' := by
 unfold Nc4.f at h
 split at h
 ·rename_i hz
  obtain ⟨hp, hs⟩ := hz
  split at h
  ·rename_i hd
   split at h
   ·rename_i hle
    exact (next_digit a0 w hp hs hd rfl hle).mono fun _ _ hh => nxk (sI h) hh
   ·cases h
  ·rename_i hd
   have hd' : digB (bt a0 0) = false := by simpa using hd
   split at h
   ·rename_i h34
    obtain ⟨⟨t, n, c⟩, hq, he⟩ := Option.map_eq_some_iff.1 h
    cases he
    exact next_quote a0 w hp hs hG hd' h34 hq
   ·rename_i h34
    split at h
    ·rename_i hl
     exact (next_letter a0 w hp hs hd' h34 hl rfl (runN_le _ _)).mono fun _ _ hh => nxk (sI h) hh
    ·rename_i hl
     have hl' : letB (bt a0 0) = false := by simpa using hl
     split at h
     ·rename_i h36
      exact (next_dollar a0 w hp hs hd' h34 hl' h36 rfl (runN_le _ _)).mono fun _ _ hh => nxk (sI h) hh
     ·rename_i h36
      split at h
      ·rename_i h35
       obtain ⟨b, hb, he⟩ := Option.bind_eq_some_iff.1 h
       split at he
       ·rename_i hle
        exact (next_fault a0 w hp hs hG hd' h34 hl' h36 h35 hb rfl hle).mono fun _ _ hh => nxk (sI he) hh
       ·cases he
      ·rename_i h35
       obtain ⟨b, hb, he⟩ := Option.bind_eq_some_iff.1 h
       split at he
       ·rename_i hb0
        exact (next_mark1 a0 w hp hs hG hd' h34 hl' h36 h35 hb hb0 rfl rfl).mono fun _ _ hh => nxk (sI he) hh
       ·rename_i hb0
        split at he
        ·rename_i hle
         exact (next_mark2 a0 w hp hs hG hd' h34 hl' h36 h35 hb rfl hle hb0).mono fun _ _ hh => nxk (sI he) hh
        ·cases he
 ·cases h
def Nbd.l0 : Nat → ByteArray → List (S39) → Int → Option ((List (S39)) × Int × Int)
 | 0, _, _, _ => none
 | k + 1, x0, x5, x6 => if x6 < (x0.size : Int) then (if 0 ≤ x6 then (if (bt x0 x6) = 32 then (Nbd.l0 k x0 x5 (wrap64 (x6 + 1))) else (if x6 ≤ (x0.size : Int) then ((Nc4.f (x0.extract (x6 : Int).toNat x0.size)).bind fun bt101 => (if bt101.2.2.2.2 = 0 then (if x5.length < 4398046511104 then (Nbd.l0 k x0 (x5 ++ [(⟨bt101.1, bt101.2.1, x6⟩ : S39)]) (wrap64 (x6 + bt101.2.2.2.1))) else (none)) else (some (([] : List (S39)), bt101.2.2.2.2, wrap64 (x6 + bt101.2.2.2.1))))) else (none))) else (none)) else (some (x5, 0, 0))
def Nbd.f (k : Nat) (a0 : ByteArray) : Option ((List (S39)) × Int × Int) := if (a0.size : Int) > 1024 then (some (([] : List (S39)), 2, 0)) else (Nbd.l0 k a0 ([] : List (S39)) 0)
theorem Nbd.calls (k : Nat) (a0 : ByteArray) (r1 : List (S39)) (r2 : Int) (r3 : Int) (w : World) (hG : GL w) (h : Nbd.f k a0 = some (r1, r2, r3)) :
 Calls Tryz.prog 31 #[.string a0] w fun e w' => ∃ v0_ : Value, e = .returned (.tuple #[v0_, .int .i64 r2, .int .i64 r3]) ∧ Kd.R k39 39 w' w.heap.size (fun _ => True) v0_ r1 ∧ Below w.heap.size w w' := by
 have hu39 := Tryz.underlying39
 have HB := aM (Below.refl w.heap.size w)
 have H := h
 unfold Nbd.f at H
 clear h
 by_cases c2 : (a0.size : Int) > 1024
 ·rw [if_pos c2] at H
  have c2b0 : decide (1024 < (a0.size : Int)) = true := decide_eq_true c2
  have c2b1 : decide (1024 < a0.size) = true := decide_eq_true (by omega)
  clear c2
  simp only [sJ, pJ] at H
  obtain ⟨rfl, rfl, rfl⟩ := H
  go_enter Tryz.func31, Tryz.ntmps31
  go_wp2
  go_ret3
  exact ⟨_, eR, by first | exact Kd.R_nil _ _ _ _ _ | exact Kd.N_nil _ _ _ _ _ | exact Kd.V_nil _ _ _ _ _ | exact Kd.Q_nil _ _ _ _ _ | exact Kd.S_nil _ _ _ _ _, bE⟩
 ·rw [if_neg c2] at H
  have c2b0 : decide (1024 < (a0.size : Int)) = false := decide_eq_false c2
  have c2b1 : decide (1024 < a0.size) = false := decide_eq_false (by omega)
  clear c2
  have H' := aM H
  clear H
  go_enter Tryz.func31, Tryz.ntmps31
  go_wp2
  go_loopg [5, 6] k (fun kq v5 v6 w' => ∃ (x5_1 : List (S39)) (x6_1 : Int), v6 = .int .i64 x6_1 ∧ Nai (Nbd.l0 kq a0 x5_1 x6_1 = some (r1, r2, r3)) ∧ Nai (kq ≤ k) ∧ Nai (Kd.R k39 39 w' w.heap.size (fun _ => True) v5 x5_1) ∧ Nai (Below w.heap.size w w'))
  case atStart => exact ⟨(([] : List (S39))), (0), (by first | rfl | (simp; done) | (simp [*]; done)), H', ⟨Nat.le_refl _⟩, ⟨by first | exact Kd.R_nil _ _ _ _ _ | exact Kd.N_nil _ _ _ _ _ | exact Kd.V_nil _ _ _ _ _ | exact Kd.Q_nil _ _ _ _ _ | exact Kd.S_nil _ _ _ _ _⟩, ⟨bE⟩⟩
  case round =>
   clear H'
   try clear c2
   try clear c2b0
   try clear c2b1
   try clear p2
   obtain ⟨x5_1, x6_1, rfl, HA, HK1, HO_5, HB⟩ := hrel
   cases gk with
   | zero => exact absurd HA.out (by simp [Nbd.l0])
   | succ k1 =>
    have H := HA.out
    clear HA
    simp only [Nbd.l0] at H
    by_cases c3 : x6_1 < (a0.size : Int)
    ·rw [if_pos c3] at H
     have c3b0 : decide (x6_1 < (a0.size : Int)) = true := decide_eq_true c3
     clear c3
     by_cases c4 : 0 ≤ x6_1
     ·rw [if_pos c4] at H
      have c4b0 : decide (0 ≤ x6_1) = true := decide_eq_true c4
      clear c4
      by_cases c6 : (bt a0 x6_1) = 32
      ·rw [if_pos c6] at H
       obtain ⟨c6b0, c6b1⟩ := bqT c6
       clear c6
       have H' := aM H
       clear H
       have p5 : 0 ≤ (x6_1 : Int) := of_decide_eq_true (by first | (with_reducible assumption) | assumption)
       have q5 : x6_1 < (a0.size : Int) := of_decide_eq_true (by first | (with_reducible assumption) | assumption)
       have hx5 := bt_at a0 x6_1
       replace p5 := eq_true p5
       replace q5 := eq_true q5
       go_wp2
       go_roundg k1
       case measure => have := HK1.out; omega
       case rel => exact ⟨(x5_1), (wrap64 (x6_1 + 1)), (by first | rfl | (simp; done) | (simp [*]; done)), H', ⟨by have := HK1.out; omega⟩, ⟨by (with_reducible repeat (first | apply Kd.R_alloc | apply Kd.R_drewN | apply Kd.R_drew)); exact HO_5.out⟩, ⟨bE⟩⟩
      ·rw [if_neg c6] at H
       obtain ⟨c6b0, c6b1⟩ := bqF c6
       have c7b0 := eq_true (of_decide_eq_true (by first | (with_reducible assumption) | assumption) : 0 ≤ x6_1)
       by_cases c8 : x6_1 ≤ (a0.size : Int)
       ·rw [if_pos c8] at H
        have c8b0 := eq_true c8
        have c8b1 : decide (x6_1 ≤ (a0.size : Int)) = true := decide_eq_true c8
        clear c8
        replace H := bS H
        obtain ⟨⟨t101, t102, t103, t104, t105⟩, A90, H⟩ := H
        try dsimp only at H
        have A9 := aM A90
        clear A90
        by_cases c10 : t105 = 0
        ·rw [if_pos c10] at H
         obtain ⟨c10b0, c10b1⟩ := bqT c10
         clear c10
         by_cases c11 : x5_1.length < 4398046511104
         ·rw [if_pos c11] at H
          have LMc11 := aM c11
          clear c11
          obtain ⟨y107, hy107⟩ : ∃ y_ : List (S39), y_ = (x5_1 ++ [(⟨t101, t102, x6_1⟩ : S39)]) := ⟨_, rfl⟩
          replace H : (Nbd.l0 k1 a0 y107 (wrap64 (x6_1 + t104))) = some (r1, r2, r3) := by first | (rw [hy107]; with_reducible exact H) | (have H2_ := (Option.bind_some _ _).symm.trans H; rw [hy107]; with_reducible exact H2_) | (have H2_ := (Option.bind_some _ _).symm.trans H; with_reducible exact H2_) | with_reducible exact H | (rw [hy107]; exact H) | exact H
          have Ny107 := aM hy107
          clear hy107
          have H' := aM H
          clear H
          have p5 : 0 ≤ (x6_1 : Int) := of_decide_eq_true (by first | (with_reducible assumption) | assumption)
          have q5 : x6_1 < (a0.size : Int) := of_decide_eq_true (by first | (with_reducible assumption) | assumption)
          have hx5 := bt_at a0 x6_1
          replace p5 := eq_true p5
          replace q5 := eq_true q5
          go_wp2_with (first | ((with_reducible refine gC 55 rfl ?_); refine gL 27 Tryz.func55 #[.string (a0.extract (x6_1 : Int).toNat a0.size)] ?_; (with_reducible refine (Nc4.calls (a0.extract (x6_1 : Int).toNat a0.size) t101 t102 t103 t104 t105 _ ?side1 A9.out).mono ?_); (case side1 => exact GL.below hG bE); rintro e w12 ⟨rfl, hb⟩; refine ⟨_, rfl, ?_⟩; replace HO_5 := aM (Kd.R_below (by (with_reducible repeat (first | apply Kd.R_alloc | apply Kd.R_drewN | apply Kd.R_drew)); exact HO_5.out) hb); replace HB := aM (Nac bE hb); (try clear hb)) | ((with_reducible refine gD 7 rfl ?_); refine bX 7 #[.int .i64 0, .string ⟨#[]⟩, .int .i64 0] 39 ?_; intro g7 hg_ w13 hb_ hl_; have zg : w12.heap.size ≤ g7 := hg_ ▸ Nat.le_refl _; have BL := aM hl_; have G7 := aM hb_; clear hb_ hl_ hg_) | ((with_reducible refine gate_ (.store 39 (.tmp 7) (.tmp 28)) rfl ?_); refine sE G7.out 39 (.tmp 7) (.tmp 28) 0 (.agg #[.int .i64 t101, .string t102, .int .i64 t103]) #[.int .i64 t101, .string t102, .int .i64 t103] ?_; intro w14 hb_ hp_; have J7 := aM hb_; have B7 := aM (hp_.below w12 zg BL.out); clear G7 BL; clear hb_ hp_) | ((with_reducible refine gate_ (.store 3 (.tmp 38) (.tmp 37)) rfl ?_); refine sE J7.out 3 (.tmp 38) (.tmp 37) 2 (.int .i64 x6_1) #[.int .i64 t101, .string t102, .int .i64 x6_1] ?_; intro w15 hb_ hp_; have J8 := aM hb_; have B8 := aM (hp_.below w12 zg B7.out); have HO8 := aM (Kd.R_below HO_5.out B8.out); have HB8 := aM (Nac HB.out B8.out); clear J7 B7 HO_5 HB; clear hb_ hp_) | ((with_reducible refine gD 40 rfl ?_); refine lA J8.out 39 (.tmp 7) hu39 ?_) | ((with_reducible refine Nch (b := .append) (xs := #[.tmp 39, .tmp 41]) rfl ?_); at_builtin; refine Kd.R_append k39 (w0 := w) w.heap.size rfl (.tmp 39) (.tmp 41) 34 39 (.agg #[(.int .i64 0), (.string ⟨#[]⟩), (.int .i64 0)]) 32 rfl Tryz.underlying34 info39 rfl (by decide) (by omega) u5 x5_1 (⟨t101, t102, x6_1⟩ : S39) [.int .i64 t101, .string t102, .int .i64 x6_1] (fun _ => True) (fun _ => False) rfl (by go_simp <;> rfl) (k39_mkM _ _ _ (⟨t101, t102, x6_1⟩ : S39)) (fun _ hk => hk.elim) (fun _ _ => trivial) HO8.out HB8.out HB8.out.size (by have := LMc11.out; omega) ?_; intro v108 w16 ho hb hg hat; rw [← Ny107.out] at ho; have HO109 := aM ho; have HB := aM hb; clear ho hb hg hat))
          go_roundg k1
          case measure => have := HK1.out; omega
          case rel => exact ⟨(y107), (wrap64 (x6_1 + t104)), (by first | rfl | (simp; done) | (simp [*]; done)), H', ⟨by have := HK1.out; omega⟩, ⟨HO109.out⟩, ⟨HB.out⟩⟩
         ·rw [if_neg c11] at H
          exact absurd H (by simp)
        ·rw [if_neg c10] at H
         obtain ⟨c10b0, c10b1⟩ := bqF c10
         simp only [sJ, pJ] at H
         obtain ⟨rfl, rfl, rfl⟩ := H
         have p5 : 0 ≤ (x6_1 : Int) := of_decide_eq_true (by first | (with_reducible assumption) | assumption)
         have q5 : x6_1 < (a0.size : Int) := of_decide_eq_true (by first | (with_reducible assumption) | assumption)
         have hx5 := bt_at a0 x6_1
         replace p5 := eq_true p5
         replace q5 := eq_true q5
         go_wp2_with (first | ((with_reducible refine gC 55 rfl ?_); refine gL 27 Tryz.func55 #[.string (a0.extract (x6_1 : Int).toNat a0.size)] ?_; (with_reducible refine (Nc4.calls (a0.extract (x6_1 : Int).toNat a0.size) t101 t102 t103 t104 t105 _ ?side1 A9.out).mono ?_); (case side1 => exact GL.below hG bE); rintro e w16 ⟨rfl, hb⟩; refine ⟨_, rfl, ?_⟩; replace HO_5 := aM (Kd.R_below (by (with_reducible repeat (first | apply Kd.R_alloc | apply Kd.R_drewN | apply Kd.R_drew)); exact HO_5.out) hb); replace HB := aM (Nac bE hb); (try clear hb)) | ((with_reducible refine gD 7 rfl ?_); refine bX 7 #[.int .i64 0, .string ⟨#[]⟩, .int .i64 0] 39 ?_; intro gb106 hg w17 hbox hb; have BK106 := aM (hbox); have GW106 := aM ((by rw [hg]; exact (Nbc bE) : w.heap.size ≤ gb106)); have GE106 := GW106; replace HO_5 := aM (Kd.R_below (Kd.R_elderB (by (with_reducible repeat (first | apply Kd.R_alloc | apply Kd.R_drewN | apply Kd.R_drew)); exact HO_5.out) gb106 (Nat.le_of_eq hg.symm)) hb); replace HB := aM (Nac bE hb); clear hb hbox hg; obtain ⟨hcz18_0, hcz18_1, hcz18_2, hfz18_0, hfz18_1, hfz18_2⟩ := bc3 BK106.out))
         go_ret3
         exact ⟨_, eR, by first | exact Kd.R_nil _ _ _ _ _ | exact Kd.N_nil _ _ _ _ _ | exact Kd.V_nil _ _ _ _ _ | exact Kd.Q_nil _ _ _ _ _ | exact Kd.S_nil _ _ _ _ _, bE⟩
       ·rw [if_neg c8] at H
        exact absurd H (by simp)
     ·rw [if_neg c4] at H
      exact absurd H (by simp)
    ·rw [if_neg c3] at H
     have c3b0 : decide (x6_1 < (a0.size : Int)) = false := decide_eq_false c3
     clear c3
     simp only [sJ, pJ] at H
     obtain ⟨rfl, rfl, rfl⟩ := H
     go_wp2
     go_ret3
     exact ⟨_, eR, by (with_reducible repeat (first | apply Kd.R_alloc | apply Kd.R_drewN | apply Kd.R_drew)); exact HO_5.out, bE⟩
end Go.Proofs.YtejbbceidnaloaaGreatDoor.P
