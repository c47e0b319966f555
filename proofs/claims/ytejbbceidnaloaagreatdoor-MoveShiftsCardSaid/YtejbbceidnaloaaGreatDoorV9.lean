import Derived.Test.YtejbbceidnaloaaGreatDoorV8
import Derived.Laws.Runes
import Derived.Test.YtejbbceidnaloaaGreatDoorV7
import Derived.Lib.AtoiAll
import Derived.Lib.AtoiErrMem
import Derived.Lib.AppendIntMem
import Derived.Lib.SmallJoins
import Derived.Lib.AtoiAllCases
import Derived.LoopN
import Derived.Deep.RegionWith
import Derived.Test.YtejbbceidnaloaaGreatDoorCards
import Derived.Test.YtejbbceidnaloaaGreatDoorTie
import Derived.ProofKit
import Derived.OpenShut
import Derived.ShutString
import Derived.Deep.DeepHandedRow
import Derived.Deep.DeepWitnessRowRef
import Derived.Lib.LaidTab
import Derived.Lib.LaidU8
import Derived.Deep.Fields
import Derived.Deep.Slices
import Derived.SizedLaws
import Derived.Lay
import Derived.Stop.LaidErr
set_option linter.unusedVariables false
set_option linter.unusedSimpArgs false
set_option maxRecDepth 100000
set_option maxHeartbeats 8000000
namespace Go.Proofs.YtejbbceidnaloaaGreatDoor.P
open Go.RowKit AW AL
theorem Nd1 (n : Int) (h0 : 0 ≤ n) (h1 : n < 128) : Utf8.encode n = ⟨#[UInt8.ofNat n.toNat]⟩ := by
 have hv : Utf8.valid n = true := by unfold Utf8.valid; simp; omega
 unfold Utf8.encode
 simp only [hv, if_true]
 rw [if_pos (by omega)]
def colB (n : Int) : ByteArray :=
 if n < 0 then ⟨#[]⟩ else if 256 ≤ n then ⟨#[]⟩ else if n < 26 then ⟨#[UInt8.ofNat (65 + n).toNat]⟩
 else ⟨#[UInt8.ofNat (65 + n / 26 - 1).toNat]⟩ ++ ⟨#[UInt8.ofNat (65 + n % 26).toNat]⟩
theorem Nfb (n : Int) (w : World) : Calls Tryz.prog 104 #[.int .i64 n] w fun e w' => e = .returned (.bool (decide (0 ≤ n ∧ n < 256))) ∧ w = w' := by
 by_cases h : 0 ≤ n
 ·have hd : decide (0 ≤ n) = true := decide_eq_true h
  have hx : decide (0 ≤ n ∧ n < 256) = decide (n < 256) := by simp [h]
  rw [hx]
  clear hx
  go_enter Tryz.func104, Tryz.ntmps104
  go_wp2
  go_ret
  exact ⟨rfl, rfl⟩
 ·have hd : decide (0 ≤ n) = false := decide_eq_false h
  have hx : decide (0 ≤ n ∧ n < 256) = false := by simp [h]
  rw [hx]
  clear hx
  go_enter Tryz.func104, Tryz.ntmps104
  go_wp2
  go_ret
  exact ⟨rfl, rfl⟩
theorem col_any (n : Int) (w : World) : Calls Tryz.prog 149 #[.int .i64 n] w fun e w' => e = .returned (.string (colB n)) ∧ w = w' := by
 by_cases h : 0 ≤ n ∧ n < 256
 ·have hd : decide (0 ≤ n ∧ n < 256) = true := decide_eq_true h
  obtain ⟨h0, h1⟩ := h
  by_cases h2 : n < 26
  ·have hd2 : decide (n < 26) = true := decide_eq_true h2
   have hc : colB n = Utf8.encode (65 + n) := by
    unfold colB; rw [Nd1 _ (by omega) (by omega), if_neg (by omega), if_neg (by omega), if_pos h2]
   rw [hc]
   clear hc
   go_enter Tryz.func149, Tryz.ntmps149
   go_wp2_with (go_at_call 104; refine (Nfb _ _).mono ?_; rintro e w' ⟨rfl, rfl⟩; rw [hd])
   go_ret
   exact ⟨rfl, rfl⟩
  ·have hd2 : decide (n < 26) = false := decide_eq_false h2
   have hc : colB n = Utf8.encode (65 + n / 26 - 1) ++ Utf8.encode (65 + n % 26) := by
    unfold colB; rw [Nd1 _ (by omega) (by omega), Nd1 _ (by omega) (by omega), if_neg (by omega), if_neg (by omega), if_neg h2]
   rw [hc]
   clear hc
   have hsz : (Utf8.encode (65 + n / 26 - 1)).size + (Utf8.encode (65 + n % 26)).size ≤ 9223372036854775807 := by
    rw [Nd1 _ (by omega) (by omega), Nd1 _ (by omega) (by omega)]; simp [ByteArray.size]
   go_enter Tryz.func149, Tryz.ntmps149
   go_wp2_with (go_at_call 104; refine (Nfb _ _).mono ?_; rintro e w' ⟨rfl, rfl⟩; rw [hd])
   go_ret
   exact ⟨rfl, rfl⟩
 ·have hd : decide (0 ≤ n ∧ n < 256) = false := decide_eq_false h
  have hc : colB n = ⟨#[]⟩ := by
   unfold colB
   by_cases h0 : n < 0
   ·rw [if_pos h0]
   ·rw [if_neg h0, if_pos (by omega)]
  rw [hc]
  clear hc
  go_enter Tryz.func149, Tryz.ntmps149
  go_wp2_with (go_at_call 104; refine (Nfb _ _).mono ?_; rintro e w' ⟨rfl, rfl⟩; rw [hd])
  go_ret
  exact ⟨rfl, rfl⟩
def Ne3.f (a0 : Int) : Option (ByteArray) := some (colB a0)
theorem Ne3.calls (a0 : Int) (r : ByteArray) (w : World) (h : Ne3.f a0 = some r) :
 Calls Tryz.prog 149 #[.int .i64 a0] w fun e w' => e = .returned (.string r) ∧ Na3 w w' := by
 obtain rfl := sI h
 exact (col_any a0 w).mono fun e w' ⟨he, hw⟩ => ⟨he, hw ▸ Na3.refl _⟩
theorem row_any (n : Int) (w : World) : Calls Tryz.prog 103 #[.int .i64 n] w fun e w' => e = .returned (.bool (decide (0 ≤ n ∧ n < 65536))) ∧ w = w' := by
 by_cases h : 0 ≤ n
 ·have hd : decide (0 ≤ n) = true := decide_eq_true h
  have hx : decide (0 ≤ n ∧ n < 65536) = decide (n < 65536) := by simp [h]
  rw [hx]
  clear hx
  go_enter Tryz.func103, Tryz.ntmps103
  go_wp2
  go_ret
  exact ⟨rfl, rfl⟩
 ·have hd : decide (0 ≤ n) = false := decide_eq_false h
  have hx : decide (0 ≤ n ∧ n < 65536) = false := by simp [h]
  rw [hx]
  clear hx
  go_enter Tryz.func103, Tryz.ntmps103
  go_wp2
  go_ret
  exact ⟨rfl, rfl⟩
def upAt (s : ByteArray) (i : Int) : Bool := decide (i < s.size) && decide (65 ≤ bt s i) && decide (bt s i ≤ 90)
def headN (s : ByteArray) : Nat := if upAt s 0 then (if upAt s 1 then 2 else 1) else 0
def headC (s : ByteArray) : Int := if upAt s 0 then (if upAt s 1 then 26 * (bt s 0 - 65 + 1) + (bt s 1 - 65) else bt s 0 - 65) else -1
def AtHead (s : ByteArray) (v5 v6 : Value) : Prop := v5 = .int .i64 (headN s : Nat) ∧ v6 = .int .i64 (headC s)
theorem head_two {s : ByteArray} (h0 : 65 ≤ bt s 0) (h1 : bt s 0 ≤ 90) (hl : 1 < (s.size : Int)) (h2 : 65 ≤ bt s 1) (h3 : bt s 1 ≤ 90) : headN s = 2 ∧ headC s = 26 * (bt s 0 - 65 + 1) + (bt s 1 - 65) := by
 have a : upAt s 0 = true := by unfold upAt; simp [h0, h1]; omega
 have b : upAt s 1 = true := by unfold upAt; simp [h2, h3]; omega
 simp [headN, headC, a, b]
theorem head_one {s : ByteArray} (h0 : 65 ≤ bt s 0) (h1 : bt s 0 ≤ 90) (hl : 0 < (s.size : Int)) (h : ¬ (1 < (s.size : Int) ∧ 65 ≤ bt s 1 ∧ bt s 1 ≤ 90)) : headN s = 1 ∧ headC s = bt s 0 - 65 := by
 have a : upAt s 0 = true := by unfold upAt; simp [h0, h1]; omega
 have b : upAt s 1 = false := by unfold upAt; simp; omega
 simp [headN, headC, a, b]
theorem head_none {s : ByteArray} (h : ¬ (0 < (s.size : Int) ∧ 65 ≤ bt s 0 ∧ bt s 0 ≤ 90)) : headN s = 0 ∧ headC s = -1 := by
 have a : upAt s 0 = false := by unfold upAt; simp; omega
 simp [headN, headC, a]
theorem head_le (s : ByteArray) : headN s ≤ 2 ∧ headN s ≤ s.size := by
 unfold headN
 by_cases a : upAt s 0 = true
 ·by_cases b : upAt s 1 = true
  ·rw [if_pos a, if_pos b]; unfold upAt at b; simp at b; omega
  ·rw [if_pos a, if_neg b]; unfold upAt at a; simp at a; omega
 ·rw [if_neg a]; omega
theorem headC_le (s : ByteArray) : -1 ≤ headC s ∧ headC s ≤ 5000 := by
 have r0 := bt_range s 0
 have r1 := bt_range s 1
 unfold headC
 by_cases a : upAt s 0 = true
 ·by_cases b : upAt s 1 = true
  ·rw [if_pos a, if_pos b]; unfold upAt at a b; simp at a b; omega
  ·rw [if_pos a, if_neg b]; unfold upAt at a; simp at a; omega
 ·rw [if_neg a]; omega
def Ncg : List ByteArray := [⟨#[35, 68, 73, 86, 47, 48, 33]⟩, ⟨#[35, 86, 65, 76, 85, 69, 33]⟩, ⟨#[35, 82, 69, 70, 33]⟩, ⟨#[35, 78, 85, 77, 33]⟩, ⟨#[35, 78, 47, 65]⟩, ⟨#[35, 67, 73, 82, 67, 76, 69, 33]⟩, ⟨#[35, 76, 79, 78, 71, 33]⟩, ⟨#[35, 65, 82, 71, 33]⟩]
def pairsL : List ByteArray := [⟨#[60, 62]⟩, ⟨#[60, 61]⟩, ⟨#[62, 61]⟩]
structure GL (w : World) : Prop where
 tab : Lib.TabIs Tryz.prog w "internal/strconv.uint64pow10" .u64 Lib.pow10Tab
 syn : ∃ t p, w.cell? ⟨10, 0, none⟩ = some (.iface t p)
 rng : ∃ t p, w.cell? ⟨11, 0, none⟩ = some (.iface t p)
 maxl : ∃ m, w.cell? ⟨3, 0, none⟩ = some (.int .i64 m)
 fau : Kd.C Kd.string w (some ⟨0, 0, none⟩) Ncg.length Ncg
 prs : Kd.C Kd.string w (some ⟨1, 0, none⟩) pairsL.length pairsL
 nms : Kd.C Kd.string w (some ⟨2, 0, none⟩) Ncg.length Ncg
theorem gTab : Tryz.prog.globalNamed "internal/strconv.uint64pow10" = some 7 := by kernel_rfl
theorem GL.below {w w' : World} (h : GL w) (hb : Below w.heap.size w w') : GL w' := by
 obtain ⟨ht, ⟨t1, p1, h1⟩, ⟨t2, p2, h2⟩, ⟨m, hm⟩, hf, hp, hn⟩ := h
 exact ⟨Joins.tab_stays gTab ht hb (Nat.le_refl _), ⟨t1, p1, (hb.cell (World.block_lt_of_cell? _ _ h1)).trans h1⟩, ⟨t2, p2, (hb.cell (World.block_lt_of_cell? _ _ h2)).trans h2⟩, ⟨m, (hb.cell (World.block_lt_of_cell? _ _ hm)).trans hm⟩, Kd.C_below hf hb, Kd.C_below hp hb, Kd.C_below hn hb⟩
theorem itoa_any (n : Int) (w : World) (h0 : -9223372036854775808 ≤ n) (h1 : n ≤ 9223372036854775807) (hG : (0 ≤ n ∧ n < 100) ∨ GL w) :
 Calls Tryz.prog 150 #[.int .i64 n] w fun e w' => e = .returned (.string ⟨(Lib.itoa n).toArray⟩) ∧ Below w.heap.size w w' := by
 rcases hG with ⟨a, b⟩ | hG
 ·obtain ⟨k, rfl⟩ := Int.eq_ofNat_of_zero_le a
  have e : Lib.itoa (k : Int) = Lib.decDigits k := by unfold Lib.itoa; rw [if_neg (by omega), Int.toNat_natCast]
  rw [e]
  exact (Tryz.strconv_Itoa_small k (by omega) w).mono fun e w' ⟨he, hw⟩ => ⟨he, by rw [hw]; exact Below.refl _ _⟩
 ·exact (Tryz.strconv_Itoa n h0 h1 w hG.tab).mono fun e w' ⟨he, k, os, hw⟩ => ⟨he, by rw [hw]; exact Lib.below_grow _ _ (Nat.le_refl _) _ _⟩
def tailF (T : ByteArray) (C : Int) : Int × Int × Bool :=
 match Lib.atoiAll T.data.toList with
 | .ok v => if Lib.itoa v = T.data.toList ∧ (0 ≤ v - 1 ∧ v - 1 < 65536) ∧ (0 ≤ C ∧ C < 256) then (v - 1, C, true) else (0, 0, false)
 | _ => (0, 0, false)
theorem bdN {B : Nat} {a w : World} (h : Below B a w) (n : Nat) : Below B a (w.drewN n) := ⟨h.os, h.tape, h.output, h.size, h.block⟩
theorem bnx {w a b : World} (h : Below w.heap.size w a) (k : Below a.heap.size a b) : Below w.heap.size w b := h.trans (k.mono h.size)
theorem bnxd {w a b : World} (h : Below w.heap.size w a) (k : Below a.drew.heap.size a.drew b) : Below w.heap.size w b := h.drew.trans (k.mono h.size)
def readF (s : ByteArray) : Int × Int × Bool := tailF (s.extract (headN s) s.size) (headC s)
theorem readF_eq (s : ByteArray) : readF s = tailF (s.extract (headN s) s.size) (headC s) := rfl
def readG (s : ByteArray) (w : World) : Prop := (∃ v, Lib.atoiAll (s.extract (headN s) s.size).data.toList = .ok v ∧ 0 ≤ v ∧ v < 100) ∨ GL w
theorem row_is (n : Int) (b : Bool) (w : World) (h : decide (0 ≤ n ∧ n < 65536) = b) : Calls Tryz.prog 103 #[.int .i64 n] w fun e w' => e = .returned (.bool b) ∧ w = w' := by
 have := row_any n w; rwa [h] at this
theorem column_is (n : Int) (b : Bool) (w : World) (h : decide (0 ≤ n ∧ n < 256) = b) : Calls Tryz.prog 104 #[.int .i64 n] w fun e w' => e = .returned (.bool b) ∧ w = w' := by
 have := Nfb n w; rwa [h] at this
def ReadPost (s : ByteArray) (w : World) (e : Ending) (w' : World) : Prop := e = .returned (.tuple #[.int .i64 (readF s).1, .int .i64 (readF s).2.1, .bool (readF s).2.2]) ∧ Below w.heap.size w w'
theorem read_any (s : ByteArray) (w : World) (hs : s.size ≤ 140737488351232) (hG : readG s w) : Calls Tryz.prog 221 #[.string s] w (ReadPost s w) := by
 have e0 : ∀ h : 0 < s.size, ((s[0]'h).toNat : Int) = bt s 0 := fun h => bt_at s 0 h
 have e1 : ∀ h : 1 < s.size, ((s[1]'h).toNat : Int) = bt s 1 := fun h => bt_at s 1 h
 have r0 := bt_range s 0
 have r1 := bt_range s 1
 have HG := lh hG
 clear hG
 go_enter Tryz.func221, Tryz.ntmps221
 go_upto_block 0 with (fail)
 go_cut [5, 6] (fun v5 v6 w' => AtHead s v5 v6 ∧ w = w')
 case first =>
  go_wp2
  refine wp_loop_rounds 3 ?_
  rw [rounds_succ]
  go_wp2_with fail
  all_goals try (rw [rounds_succ]; go_wp2_with fail)
  all_goals try (rw [rounds_succ]; go_wp2_with fail)
  all_goals
   go_meet
   refine ⟨?_, rfl⟩
   first
    | (have h := head_two (s := s) (by assumption) (by assumption) (by omega) (by assumption) (by assumption); exact ⟨by rw [h.1]; rfl, by rw [h.2]⟩)
    | (have h := head_one (s := s) (by assumption) (by assumption) (by omega) (by omega); exact ⟨by rw [h.1]; rfl, by rw [h.2]⟩)
    | (have h := head_none (s := s) (by omega); exact ⟨by rw [h.1]; rfl, by rw [h.2]⟩)
 case rest =>
  clear e0 e1 r0 r1
  obtain ⟨⟨rfl, rfl⟩, rfl⟩ := hcut
  have hl := head_le s
  have hc := headC_le s
  have HF := lh (readF_eq s)
  unfold readG at HG
  generalize headN s = k at *
  generalize headC s = C at *
  obtain ⟨hl1, hl2⟩ := hl
  obtain ⟨hc1, hc2⟩ := hc
  have hT : (s.extract k s.size).size ≤ 140737488351232 := by rw [ByteArray.size_extract]; omega
  cases hat : Lib.atoiAll (s.extract k s.size).data.toList with
  | range =>
   have hf : readF s = (0, 0, false) := by rw [HF.out]; unfold tailF; rw [hat]
   have hGL : GL w := by rcases HG.out with ⟨v, e, _⟩ | g; (· rw [hat] at e; cases e); exact g
   obtain ⟨t1, p1, hv⟩ := hGL.rng
   have HV := lh hv
   have HA := lh hat
   clear hv hat hGL
   have HF2 := lh hf
   clear hf HF HG
   go_wp2_with (go_at_call 234; refine (Tryz.strconv_Atoi_range _ (by omega) HA.out _ _ HV.out (.inr ⟨_, _, rfl⟩)).mono ?_; rintro e w' ⟨N, rfl, _, _, hb⟩)
   go_quiet (fail)
   go_wp2
   go_ret3
   exact ⟨by rw [HF2.out]; rfl, bdN hb _⟩
  | ok v =>
   have hv := Lib.atoiAll_bounds hat
   obtain ⟨hv0, hv1⟩ := hv
   have hf : readF s = if Lib.itoa v = (s.extract k s.size).data.toList ∧ (0 ≤ v - 1 ∧ v - 1 < 65536) ∧ (0 ≤ C ∧ C < 256) then (v - 1, C, true) else (0, 0, false) := by rw [HF.out]; unfold tailF; rw [hat]
   have hGL : (0 ≤ v ∧ v < 100) ∨ GL w := by
    rcases HG.out with ⟨v', e, h⟩ | g
    ·rw [hat] at e; injection e with e; subst e; exact .inl h
    ·exact .inr g
   have HGL := lh hGL
   have HA := lh hat
   clear hGL hat HG HF
   obtain ⟨R, hR⟩ : ∃ R : ByteArray, (⟨(Lib.itoa v).toArray⟩ : ByteArray) = R := ⟨_, rfl⟩
   have hRl : R.toList = Lib.itoa v := by rw [← hR]; exact ByteArray.toList_eq _
   have HC : ∀ W, Below w.heap.size w W → Calls Tryz.prog 150 #[.int .i64 v] W fun e w' => e = .returned (.string R) ∧ Below W.heap.size W w' := fun W hb => by
    rw [← hR]
    exact itoa_any v W hv0 hv1 (HGL.out.imp id fun g => g.below hb)
   have HIT := lh HC
   clear HC HGL hR
   by_cases c1 : Lib.itoa v = (s.extract k s.size).data.toList
   ·have ht : (R.toList == (s.extract k s.size).toList) = true := by rw [hRl, c1, ByteArray.toList_eq]; simp
    have ht2 : (R.toList != (s.extract k s.size).toList) = false := by rw [hRl, c1, ByteArray.toList_eq]; simp
    by_cases c2 : 0 ≤ v - 1 ∧ v - 1 < 65536
    ·have wv : IntKind.i64.wrap (v - 1) = v - 1 := by rw [IntKind.wrap_i64]; omega
     by_cases c3 : 0 ≤ C ∧ C < 256
     ·rw [if_pos ⟨c1, c2, c3⟩] at hf
      have HF2 := lh hf
      obtain ⟨c2a, c2b⟩ := c2
      obtain ⟨c3a, c3b⟩ := c3
      clear c1
      clear hf hRl
      go_wp2_with (go_at_call 234; refine (Tryz.strconv_Atoi_ok _ (by omega) v HA.out _).mono ?_; rintro e w' ⟨rfl, hw⟩)
      have hb0 : Below w.heap.size w w' := by rcases hw with rfl | ⟨t, rfl⟩; exact Below.refl _ _; exact Lib.bytesWorld_below _ _ _
      clear hw
      go_region_held3 (fun W => Below w.heap.size w W) (first | assumption | exact Below.drew (by assumption) | exact bdN (by assumption) _ | exact bnx (by assumption) (by assumption) | exact bnxd (by assumption) (by assumption)) (first | (go_at_call 150; refine (HIT.out _ (by first | assumption | exact Below.drew (by assumption) | exact bdN (by assumption) _)).mono ?_; rintro e w1 ⟨rfl, hw1⟩) | (go_at_call 103; refine (row_is _ true _ (decide_eq_true ⟨by omega, by omega⟩)).mono ?_; rintro e w2 ⟨rfl, rfl⟩) | (go_at_call 104; refine (column_is _ true _ (decide_eq_true ⟨by omega, by omega⟩)).mono ?_; rintro e w3 ⟨rfl, rfl⟩))
      all_goals go_wp2
      all_goals go_ret3
      all_goals exact ⟨by rw [HF2.out]; rfl, by first | assumption | exact Below.drew (by assumption) | exact bdN (by assumption) _⟩
     ·rw [if_neg (fun h => c3 h.2.2)] at hf
      have HF2 := lh hf
      obtain ⟨c2a, c2b⟩ := c2
      have d3 := decide_eq_false c3
      clear c1 c3
      clear hf hRl
      go_wp2_with (go_at_call 234; refine (Tryz.strconv_Atoi_ok _ (by omega) v HA.out _).mono ?_; rintro e w' ⟨rfl, hw⟩)
      have hb0 : Below w.heap.size w w' := by rcases hw with rfl | ⟨t, rfl⟩; exact Below.refl _ _; exact Lib.bytesWorld_below _ _ _
      clear hw
      go_region_held3 (fun W => Below w.heap.size w W) (first | assumption | exact Below.drew (by assumption) | exact bdN (by assumption) _ | exact bnx (by assumption) (by assumption) | exact bnxd (by assumption) (by assumption)) (first | (go_at_call 150; refine (HIT.out _ (by first | assumption | exact Below.drew (by assumption) | exact bdN (by assumption) _)).mono ?_; rintro e w1 ⟨rfl, hw1⟩) | (go_at_call 103; refine (row_is _ true _ (decide_eq_true ⟨by omega, by omega⟩)).mono ?_; rintro e w2 ⟨rfl, rfl⟩) | (go_at_call 104; refine (column_is _ false _ d3).mono ?_; rintro e w3 ⟨rfl, rfl⟩))
      all_goals go_wp2
      all_goals go_ret3
      all_goals exact ⟨by rw [HF2.out]; rfl, by first | assumption | exact Below.drew (by assumption) | exact bdN (by assumption) _⟩
    ·rw [if_neg (fun h => c2 h.2.1)] at hf
     have HF2 := lh hf
     have d2 : decide (0 ≤ wrap64 (v - 1) ∧ wrap64 (v - 1) < 65536) = false := decide_eq_false (by unfold wrap64; omega)
     clear c1 c2
     clear hf hRl
     go_wp2_with (go_at_call 234; refine (Tryz.strconv_Atoi_ok _ (by omega) v HA.out _).mono ?_; rintro e w' ⟨rfl, hw⟩)
     have hb0 : Below w.heap.size w w' := by rcases hw with rfl | ⟨t, rfl⟩; exact Below.refl _ _; exact Lib.bytesWorld_below _ _ _
     clear hw
     refine sP (n := 21) (S := fun w' => Below w.heap.size w w') (ds := []) (hb0.drew) (fun hHeld => ?_)
     refine pP 0 47 ?_
     refine pP 1 48 ?_
     refine pP 2 49 ?_
     refine pP 3 50 ?_
     refine pP 5 52 ?_
     refine pP 6 53 ?_
     refine pP 7 54 ?_
     refine oP 4 (some 51) fun K hK => ?_
     refine gP 150 Tryz.func150 #[.int .i64 v] ?_
     with_reducible refine (HIT.out _ (by first | exact hHeld | exact Below.drew hHeld | exact bdN hHeld _)).mono ?_
     rintro e w1 ⟨rfl, hw1⟩
     refine ⟨_, rfl, ?_⟩
     refine hK.out _ _ (bnx hHeld hw1) (fun hHeld => ?_)
     clear hK K
     refine nP 51 ?_
     refine pP 8 55 ?_
     refine pP 9 56 ?_
     refine pP 10 57 ?_
     refine pP 11 58 ?_
     refine pP 12 59 ?_
     refine oP 13 (some 60) fun K hK => ?_
     refine gP 103 Tryz.func103 #[.int .i64 (wrap64 (v - 1))] ?_
     with_reducible refine (row_is _ false _ d2).mono ?_
     rintro e w2 ⟨rfl, rfl⟩
     refine ⟨_, rfl, ?_⟩
     refine hK.out _ _ (hHeld) (fun hHeld => ?_)
     clear hK K
     refine nP 60 ?_
     refine pP 14 61 ?_
     refine pP 15 62 ?_
     refine pP 16 63 ?_
     refine uP 17 64 ?_
     refine uP 18 65 ?_
     refine uP 19 66 ?_
     refine pP 20 67 ?_
     refine done_ (by kernel_rfl) ?_
     all_goals go_wp2
     all_goals go_ret3
     all_goals exact ⟨by rw [HF2.out]; rfl, by first | assumption | exact Below.drew (by assumption) | exact bdN (by assumption) _⟩
   ·rw [if_neg (fun h => c1 h.1)] at hf
    have HF2 := lh hf
    have ht : (R.toList == (s.extract k s.size).toList) = false := by rw [hRl, ByteArray.toList_eq]; exact beq_eq_false_iff_ne.mpr c1
    have ht2 : (R.toList != (s.extract k s.size).toList) = true := by rw [hRl, ByteArray.toList_eq]; exact bne_iff_ne.mpr c1
    clear c1
    clear hf hRl
    go_wp2_with (go_at_call 234; refine (Tryz.strconv_Atoi_ok _ (by omega) v HA.out _).mono ?_; rintro e w' ⟨rfl, hw⟩)
    have hb0 : Below w.heap.size w w' := by rcases hw with rfl | ⟨t, rfl⟩; exact Below.refl _ _; exact Lib.bytesWorld_below _ _ _
    clear hw
    refine sP (n := 21) (S := fun w' => Below w.heap.size w w') (ds := []) (hb0.drew) (fun hHeld => ?_)
    refine pP 0 47 ?_
    refine pP 1 48 ?_
    refine pP 2 49 ?_
    refine pP 3 50 ?_
    refine pP 5 52 ?_
    refine pP 6 53 ?_
    refine pP 7 54 ?_
    refine oP 4 (some 51) fun K hK => ?_
    refine gP 150 Tryz.func150 #[.int .i64 v] ?_
    with_reducible refine (HIT.out _ (by first | exact hHeld | exact Below.drew hHeld | exact bdN hHeld _)).mono ?_
    rintro e w1 ⟨rfl, hw1⟩
    refine ⟨_, rfl, ?_⟩
    refine hK.out _ _ (bnx hHeld hw1) (fun hHeld => ?_)
    clear hK K
    refine nP 51 ?_
    refine pP 8 55 ?_
    refine pP 9 56 ?_
    refine pP 10 57 ?_
    refine uP 11 58 ?_
    refine uP 12 59 ?_
    refine uP 13 60 ?_
    refine uP 14 61 ?_
    refine pP 15 62 ?_
    refine pP 16 63 ?_
    refine uP 17 64 ?_
    refine uP 18 65 ?_
    refine uP 19 66 ?_
    refine pP 20 67 ?_
    refine done_ (by kernel_rfl) ?_
    all_goals go_wp2
    all_goals go_ret3
    all_goals exact ⟨by rw [HF2.out]; rfl, by first | assumption | exact Below.drew (by assumption) | exact bdN (by assumption) _⟩
  | _ =>
   have hf : readF s = (0, 0, false) := by rw [HF.out]; unfold tailF; rw [hat]
   have hGL : GL w := by rcases HG.out with ⟨v, e, _⟩ | g; (· rw [hat] at e; cases e); exact g
   obtain ⟨t1, p1, hv⟩ := hGL.syn
   have HV := lh hv
   have HA := lh hat
   clear hv hat hGL
   have HF2 := lh hf
   clear hf HF HG
   go_wp2_with (go_at_call 234; refine (Any.strconv_Atoi_syntax Tryz.laysC172 _ (by omega) HA.out _ _ HV.out (.inr ⟨_, _, rfl⟩)).mono ?_; rintro e w' ⟨N, rfl, _, _, hb⟩)
   go_quiet (fail)
   go_wp2
   go_ret3
   exact ⟨by rw [HF2.out]; rfl, bdN hb _⟩
end Go.Proofs.YtejbbceidnaloaaGreatDoor.P
namespace Go.Proofs.YtejbbceidnaloaaGreatDoor.R
open Go.ChangeShapes Go.WideShapes Go.ChangeAt Go.RowKit Go.Proofs.YtejbbceidnaloaaGreatDoor.P AW
section
theorem own : ownKnob Tryz.prog.godebug = none := by kernel_rfl
theorem laidOut : laidOutB Tryz.prog = true := by kernel_rfl
def laidList : List (String × DataW Unit) := [("math/bits.deBruijn32tab", Rows.laid_math_bits_deBruijn32tab), ("math/bits.deBruijn64tab", Rows.laid_math_bits_deBruijn64tab), ("internal/strconv.uint64pow10", Rows.laid_internal_strconv_uint64pow10), ("unicode/utf8.acceptRanges", Rows.laid_unicode_utf8_acceptRanges), ("strconv.ErrRange", Rows.laid_strconv_ErrRange), ("strconv.ErrSyntax", Rows.laid_strconv_ErrSyntax), ("whittle/lex.pairs", Rows.laid_whittle_lex_pairs), ("whittle/lex.faults", Rows.laid_whittle_lex_faults), ("whittle/value.names", Rows.laid_whittle_value_names), ("unicode.CaseRanges", Rows.laid_unicode_CaseRanges), ("unicode/utf8.first", Rows.laid_unicode_utf8_first)]
noncomputable abbrev laidWorld (os : Os) : World := World.laidAll Tryz.prog os laidList
theorem laid_met (os : Os) (args : Array Value) : laidMet Tryz.prog laidList ((laidWorld os).forCall (fun _ _ => 0) ⟨#[], args, []⟩).memory := laidMet_laidAll _ (by kernel_rfl) (by kernel_rfl)
theorem witness {H : Type} {enc : TypeId × Value → H} {os : Os} {f : FuncId} {fn : Func} {s : OpenSpec} {conds : List PathCond} {apart : Bool} {laid : List (String × DataW Unit)} (args : Array Value)
    (hok : Input.okWideB Tryz.prog ((laidWorld os).forCall (fun _ _ => 0) ⟨#[], args, []⟩) f ⟨#[], args, []⟩ = true)
    (hrow : s.preRow enc Tryz.prog fn conds apart laid ((laidWorld os).forCall (fun _ _ => 0) ⟨#[], args, []⟩).memory args) :
    ∃ (w : World) (tape : Tape) (i : Input), w.os = os ∧ (w.forCall tape i).Shaped Tryz.prog ∧ i.vars = [] ∧ Input.okWide Tryz.prog (w.forCall tape i) .any w.heap.size f i ∧
      s.preRow enc Tryz.prog fn conds apart laid (w.forCall tape i).memory i.args ∧ ({ modest := false } : Assume).holds Tryz.prog (lone (Frame.enter Tryz.prog f i.args .normal) [] (w.forCall tape i)) :=
  ⟨laidWorld os, fun _ _ => 0, ⟨#[], args, []⟩, World.laidAll_os _ _ _, World.shaped_of_ZipB (by kernel_rfl) (by kernel_rfl), (Input.okWide_of_okWideB (base := 0) hok).1, (Input.okWide_of_okWideB hok).2, hrow, by
    simp only [Assume.holds]
    exact ⟨by simp, by simp, fun h => by simp at h, by simp, by simp⟩⟩
theorem cells_of_strs {H : Type} {enc : TypeId × Value → H} {P : Program} {w : World} {base : Nat} {sp : Nat → Bool} {held : Bool} {fuel : Nat} {t e : TypeId} {n : Nat} {cs : List Value} {zs : List (List UInt8)} {p : List MemPlace}
    (ht : P.underlying t = some (.array n e)) (he : P.underlying e = some .string) (hce : P.cellsOf e = 1) (hct : P.cellsOf t = n)
    (h : DataW.trod enc P w base sp held fuel t cs = some (.agg (zs.map fun z => .lit (.string z)), p)) : cs = zs.map fun z => Value.string ⟨z.toArray⟩ := by
  cases fuel with
  | zero => simp [DataW.trod] at h
  | succ fuel =>
    simp only [DataW.trod, ht, hce, hct, Nat.mul_one] at h
    split at h
    · rename_i hl
      obtain ⟨xs, hm, hx⟩ := Option.map_eq_some_iff.1 h
      have hxs : xs.map (·.1) = zs.map fun z => (DataW.lit (.string z) : DataW H) := by
        have := congrArg Prod.fst hx
        simpa using this
      have hxl : xs.length = n := by simpa using Lib.mapM_length hm
      have hzl : zs.length = n := by
        have := congrArg List.length hxs
        simp at this
        omega
      apply List.ext_getElem?
      intro i
      by_cases hi : i < n
      · obtain ⟨b, hb, hf⟩ := Lib.mapM_at hm i i (by simp [hi])
        obtain ⟨s, hc, rfl, _⟩ := DataW.trod_string he hf
        have h1 : cs[i]? = some (.string s) := by
          have := congrArg (·[0]?) hc
          simpa [List.getElem?_take, List.getElem?_drop] using this
        have h2 : (xs.map (·.1))[i]? = some (DataW.lit (.string s.data.toList) : DataW H) := by simp [hb]
        rw [hxs] at h2
        simp only [List.getElem?_map, Option.map_eq_some_iff, DataW.lit.injEq, Lit.string.injEq] at h2
        obtain ⟨z', hz', e⟩ := h2
        rw [h1, List.getElem?_map, hz', e]
        rfl
      · rw [List.getElem?_eq_none (by omega), List.getElem?_eq_none (by simp; omega)]
    · cases h
theorem c_strs {W : World} {g : Nat} {nm : String} {t e : TypeId} {zs : List (List UInt8)} (hr : Lib.VarReads Tryz.prog W nm (.agg (zs.map fun z => .lit (.string z)))) (hg : Tryz.prog.globalNamed nm = some g) (hty : (Tryz.prog.globals[g]?).map (·.type) = some t)
    (ht : Tryz.prog.underlying t = some (.array zs.length e)) (he : Tryz.prog.underlying e = some .string) (hce : Tryz.prog.cellsOf e = 1) (hct : Tryz.prog.cellsOf t = zs.length) (hn : zs.length ≤ 100) {L : List ByteArray} (hL : zs.map (fun z => (⟨z.toArray⟩ : ByteArray)) = L) : Kd.C Kd.string W (some ⟨g, 0, none⟩) L.length L := by
  subst hL
  obtain ⟨g', t', cs, fuel, p, h1, h2, h3, h4⟩ := hr
  obtain rfl := Option.some.inj (hg.symm.trans h1)
  obtain rfl := Option.some.inj (hty.symm.trans h2)
  have hc := cells_of_strs ht he hce hct h4
  refine ⟨rfl, by simp; omega, fun _ => ⟨_, rfl, fun i x hx => ⟨[.string x], rfl, rfl, fun q u hq => ?_⟩⟩⟩
  match q with
  | 0 =>
    obtain rfl := Option.some.inj hq
    have hv := World.var?_cell h1 h3 i
    rw [show ((⟨g, 0, none⟩ : Addr).add (i * Kd.string.sz + 0)) = ⟨g, i, none⟩ by simp [Addr.add, Kd.string, Kd.scalar]; intro h; exact h.symm]
    rw [hv, ← Array.getElem?_toList, hc, List.getElem?_map]
    rw [List.getElem?_map] at hx
    cases hz : zs[i]? with
    | none => rw [hz] at hx; cases hx
    | some z => rw [hz] at hx; obtain rfl := Option.some.inj hx; rfl
  | q + 1 => simp at hq
theorem var_one {n nm : String} {d : DataW Unit} {W : World} {g : Nat} {ti : TypeId} {ms : Array (String × TypeId)}
    (h : Lib.VarReads Tryz.prog W n (.iface nm d)) (hg : Tryz.prog.globalNamed n = some g) (ht : (Tryz.prog.globals[g]?).map (·.type) = some ti) (hi : Tryz.prog.underlying ti = some (.interface ms)) (hc : Tryz.prog.cellsOf ti = 1) :
    ∃ t p, W.cell? ⟨g, 0, none⟩ = some (.iface t p) := by
  obtain ⟨g0, t0, cs0, f0, p0, hg0, ht0, hv0, hd0⟩ := h
  obtain rfl := Option.some.inj (hg.symm.trans hg0)
  obtain rfl := Option.some.inj (ht.symm.trans ht0)
  obtain ⟨l0⟩ := cs0
  have hv : W.cell? ⟨g, 0, none⟩ = l0[0]? := by simpa using World.var?_cell hg0 hv0 0
  cases f0 with
  | zero => simp [DataW.trod] at hd0
  | succ f0 =>
    simp only [DataW.trod, hi] at hd0
    rcases l0 with _ | ⟨x, _ | ⟨y, l⟩⟩
    · simp at hd0
    · cases x <;> first | (rw [hv]; exact ⟨_, _, rfl⟩) | (simp at hd0)
    · cases x <;> simp at hd0
theorem gl_of_laid {W : World} (h : laidMetH Tryz.prog laidList W) (hsh : W.ShapedOpen Tryz.prog) : GL W := by
  have h0 : laidMet Tryz.prog laidList W := by rw [MakeChecks.laidMetH_plain _ _ _ (by kernel_rfl)] at h; exact h
  have r : ∀ (j : Nat) n d, laidList[j]? = some (n, d) → Lib.VarReads Tryz.prog W n d := fun j n d hj => Lib.laidMet.reads h0 (List.mem_of_getElem? hj)
  have h2 := laidMet.tail (laidMet.tail h0)
  exact ⟨Lib.tabIs_of_head gTab (t := 233) (by kernel_rfl) Tryz.underlying233 Tryz.underlying175 (by kernel_rfl) (by kernel_rfl) h2,
    var_one (r 5 _ _ rfl) (by kernel_rfl) (ti := 99) (by kernel_rfl) Tryz.underlying99 (by kernel_rfl),
    var_one (r 4 _ _ rfl) (by kernel_rfl) (ti := 99) (by kernel_rfl) Tryz.underlying99 (by kernel_rfl),
    cell_of_shapedOpen_int (zero := #[.int .i64 0]) (t := 3) hsh (of_decide_eq_true (by kernel_rfl)) (by kernel_rfl) rfl (by kernel_rfl) (by kernel_rfl) Tryz.underlying3,
    c_strs (zs := [[35, 68, 73, 86, 47, 48, 33], [35, 86, 65, 76, 85, 69, 33], [35, 82, 69, 70, 33], [35, 78, 85, 77, 33], [35, 78, 47, 65], [35, 67, 73, 82, 67, 76, 69, 33], [35, 76, 79, 78, 71, 33], [35, 65, 82, 71, 33]]) (r 7 _ _ rfl) (by kernel_rfl) (t := 134) (by kernel_rfl) Tryz.underlying134 Tryz.underlying9 (by kernel_rfl) (by kernel_rfl) (by decide) rfl,
    c_strs (zs := [[60, 62], [60, 61], [62, 61]]) (r 6 _ _ rfl) (by kernel_rfl) (t := 135) (by kernel_rfl) Tryz.underlying135 Tryz.underlying9 (by kernel_rfl) (by kernel_rfl) (by decide) rfl,
    c_strs (zs := [[35, 68, 73, 86, 47, 48, 33], [35, 86, 65, 76, 85, 69, 33], [35, 82, 69, 70, 33], [35, 78, 85, 77, 33], [35, 78, 47, 65], [35, 67, 73, 82, 67, 76, 69, 33], [35, 76, 79, 78, 71, 33], [35, 65, 82, 71, 33]]) (r 8 _ _ rfl) (by kernel_rfl) (t := 134) (by kernel_rfl) Tryz.underlying134 Tryz.underlying9 (by kernel_rfl) (by kernel_rfl) (by decide) rfl⟩
section
variable {H : Type} {enc : TypeId × Value → H} {W : World} {b0 base : Nat} {sp : Nat → Bool} {held : Bool} {v : Value} {d : DataW H} {p : List MemPlace}
theorem open_i64 {t : TypeId} (ht : Tryz.prog.underlying t = some (.int .i64)) (hv : Value.okWide Tryz.prog W .any b0 t v) (h : DataW.Trod enc Tryz.prog W base sp held t v d p) :
    ∃ n : Int, (-9223372036854775808 ≤ n ∧ n ≤ 9223372036854775807) ∧ v = .int .i64 n := by
  obtain ⟨n, hn, _, _, hw⟩ := open_int ht hv h
  exact ⟨n, bounds_i64 hw, hn⟩
end
end
end Go.Proofs.YtejbbceidnaloaaGreatDoor.R
