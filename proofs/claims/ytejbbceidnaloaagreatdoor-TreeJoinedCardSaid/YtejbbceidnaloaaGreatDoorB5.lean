import Derived.Test.YtejbbceidnaloaaGreatDoorB4
import Derived.Laws.Runes
import Derived.Test.YtejbbceidnaloaaGreatDoorB3
import Derived.Lib.AtoiAll
import Derived.Lib.AtoiErrMem
import Derived.Lib.AppendIntMem
import Derived.Lib.SmallJoins
import Derived.Lib.AtoiAllCases
import Derived.LoopN
import Derived.Deep.RegionWith
set_option linter.unusedVariables false
set_option linter.unusedSimpArgs false
set_option maxRecDepth 100000
set_option maxHeartbeats 8000000
namespace Go.Proofs.YtejbbceidnaloaaGreatDoor.P
open Go.RowKit AW AL
theorem Ndm (n : Int) (h0 : 0 ≤ n) (h1 : n < 128) : Utf8.encode n = ⟨#[UInt8.ofNat n.toNat]⟩ := by
 have hv : Utf8.valid n = true := by unfold Utf8.valid; simp; omega
 unfold Utf8.encode
 simp only [hv, if_true]
 rw [if_pos (by omega)]
def colB (n : Int) : ByteArray :=
 if n < 0 then ⟨#[]⟩ else if 256 ≤ n then ⟨#[]⟩ else if n < 26 then ⟨#[UInt8.ofNat (65 + n).toNat]⟩
 else ⟨#[UInt8.ofNat (65 + n / 26 - 1).toNat]⟩ ++ ⟨#[UInt8.ofNat (65 + n % 26).toNat]⟩
theorem Nex (n : Int) (w : World) : Calls Tryz.prog 104 #[.int .i64 n] w fun e w' => e = .returned (.bool (decide (0 ≤ n ∧ n < 256))) ∧ w = w' := by
 by_cases h : 0 ≤ n
 ·have hd : decide (0 ≤ n) = true := decide_eq_true h
  have hx : decide (0 ≤ n ∧ n < 256) = decide (n < 256) := by simp [h]
  rw [hx]
  clear hx
  go_enter Tryz.func104, Tryz.ntmps104
  go_wp2
  go_ret
  exact ⟨rfl, rfl⟩
 ·have hd : decide (0 ≤ n) = false := decide_eq_false h
  have hx : decide (0 ≤ n ∧ n < 256) = false := by simp [h]
  rw [hx]
  clear hx
  go_enter Tryz.func104, Tryz.ntmps104
  go_wp2
  go_ret
  exact ⟨rfl, rfl⟩
theorem col_any (n : Int) (w : World) : Calls Tryz.prog 149 #[.int .i64 n] w fun e w' => e = .returned (.string (colB n)) ∧ w = w' := by
 by_cases h : 0 ≤ n ∧ n < 256
 ·have hd : decide (0 ≤ n ∧ n < 256) = true := decide_eq_true h
  obtain ⟨h0, h1⟩ := h
  by_cases h2 : n < 26
  ·have hd2 : decide (n < 26) = true := decide_eq_true h2
   have hc : colB n = Utf8.encode (65 + n) := by
    unfold colB; rw [Ndm _ (by omega) (by omega), if_neg (by omega), if_neg (by omega), if_pos h2]
   rw [hc]
   clear hc
   go_enter Tryz.func149, Tryz.ntmps149
   go_wp2_with (go_at_call 104; refine (Nex _ _).mono ?_; rintro e w' ⟨rfl, rfl⟩; rw [hd])
   go_ret
   exact ⟨rfl, rfl⟩
  ·have hd2 : decide (n < 26) = false := decide_eq_false h2
   have hc : colB n = Utf8.encode (65 + n / 26 - 1) ++ Utf8.encode (65 + n % 26) := by
    unfold colB; rw [Ndm _ (by omega) (by omega), Ndm _ (by omega) (by omega), if_neg (by omega), if_neg (by omega), if_neg h2]
   rw [hc]
   clear hc
   have hsz : (Utf8.encode (65 + n / 26 - 1)).size + (Utf8.encode (65 + n % 26)).size ≤ 9223372036854775807 := by
    rw [Ndm _ (by omega) (by omega), Ndm _ (by omega) (by omega)]; simp [ByteArray.size]
   go_enter Tryz.func149, Tryz.ntmps149
   go_wp2_with (go_at_call 104; refine (Nex _ _).mono ?_; rintro e w' ⟨rfl, rfl⟩; rw [hd])
   go_ret
   exact ⟨rfl, rfl⟩
 ·have hd : decide (0 ≤ n ∧ n < 256) = false := decide_eq_false h
  have hc : colB n = ⟨#[]⟩ := by
   unfold colB
   by_cases h0 : n < 0
   ·rw [if_pos h0]
   ·rw [if_neg h0, if_pos (by omega)]
  rw [hc]
  clear hc
  go_enter Tryz.func149, Tryz.ntmps149
  go_wp2_with (go_at_call 104; refine (Nex _ _).mono ?_; rintro e w' ⟨rfl, rfl⟩; rw [hd])
  go_ret
  exact ⟨rfl, rfl⟩
def Neq.f (a0 : Int) : Option (ByteArray) := some (colB a0)
theorem Neq.calls (a0 : Int) (r : ByteArray) (w : World) (h : Neq.f a0 = some r) :
 Calls Tryz.prog 149 #[.int .i64 a0] w fun e w' => e = .returned (.string r) ∧ Na9 w w' := by
 obtain rfl := sI h
 exact (col_any a0 w).mono fun e w' ⟨he, hw⟩ => ⟨he, hw ▸ Na9.refl _⟩
theorem row_any (n : Int) (w : World) : Calls Tryz.prog 103 #[.int .i64 n] w fun e w' => e = .returned (.bool (decide (0 ≤ n ∧ n < 65536))) ∧ w = w' := by
 by_cases h : 0 ≤ n
 ·have hd : decide (0 ≤ n) = true := decide_eq_true h
  have hx : decide (0 ≤ n ∧ n < 65536) = decide (n < 65536) := by simp [h]
  rw [hx]
  clear hx
  go_enter Tryz.func103, Tryz.ntmps103
  go_wp2
  go_ret
  exact ⟨rfl, rfl⟩
 ·have hd : decide (0 ≤ n) = false := decide_eq_false h
  have hx : decide (0 ≤ n ∧ n < 65536) = false := by simp [h]
  rw [hx]
  clear hx
  go_enter Tryz.func103, Tryz.ntmps103
  go_wp2
  go_ret
  exact ⟨rfl, rfl⟩
def upAt (s : ByteArray) (i : Int) : Bool := decide (i < s.size) && decide (65 ≤ bt s i) && decide (bt s i ≤ 90)
def headN (s : ByteArray) : Nat := if upAt s 0 then (if upAt s 1 then 2 else 1) else 0
def headC (s : ByteArray) : Int := if upAt s 0 then (if upAt s 1 then 26 * (bt s 0 - 65 + 1) + (bt s 1 - 65) else bt s 0 - 65) else -1
def AtHead (s : ByteArray) (v5 v6 : Value) : Prop := v5 = .int .i64 (headN s : Nat) ∧ v6 = .int .i64 (headC s)
theorem head_two {s : ByteArray} (h0 : 65 ≤ bt s 0) (h1 : bt s 0 ≤ 90) (hl : 1 < (s.size : Int)) (h2 : 65 ≤ bt s 1) (h3 : bt s 1 ≤ 90) : headN s = 2 ∧ headC s = 26 * (bt s 0 - 65 + 1) + (bt s 1 - 65) := by
 have a : upAt s 0 = true := by unfold upAt; simp [h0, h1]; omega
 have b : upAt s 1 = true := by unfold upAt; simp [h2, h3]; omega
 simp [headN, headC, a, b]
theorem head_one {s : ByteArray} (h0 : 65 ≤ bt s 0) (h1 : bt s 0 ≤ 90) (hl : 0 < (s.size : Int)) (h : ¬ (1 < (s.size : Int) ∧ 65 ≤ bt s 1 ∧ bt s 1 ≤ 90)) : headN s = 1 ∧ headC s = bt s 0 - 65 := by
 have a : upAt s 0 = true := by unfold upAt; simp [h0, h1]; omega
 have b : upAt s 1 = false := by unfold upAt; simp; omega
 simp [headN, headC, a, b]
theorem head_none {s : ByteArray} (h : ¬ (0 < (s.size : Int) ∧ 65 ≤ bt s 0 ∧ bt s 0 ≤ 90)) : headN s = 0 ∧ headC s = -1 := by
 have a : upAt s 0 = false := by unfold upAt; simp; omega
 simp [headN, headC, a]
theorem head_le (s : ByteArray) : headN s ≤ 2 ∧ headN s ≤ s.size := by
 unfold headN
 by_cases a : upAt s 0 = true
 ·by_cases b : upAt s 1 = true
  ·rw [if_pos a, if_pos b]; unfold upAt at b; simp at b; omega
  ·rw [if_pos a, if_neg b]; unfold upAt at a; simp at a; omega
 ·rw [if_neg a]; omega
theorem headC_le (s : ByteArray) : -1 ≤ headC s ∧ headC s ≤ 5000 := by
 have r0 := bt_range s 0
 have r1 := bt_range s 1
 unfold headC
 by_cases a : upAt s 0 = true
 ·by_cases b : upAt s 1 = true
  ·rw [if_pos a, if_pos b]; unfold upAt at a b; simp at a b; omega
  ·rw [if_pos a, if_neg b]; unfold upAt at a; simp at a; omega
 ·rw [if_neg a]; omega
def Nbx : List ByteArray := [⟨#[35, 68, 73, 86, 47, 48, 33]⟩, ⟨#[35, 86, 65, 76, 85, 69, 33]⟩, ⟨#[35, 82, 69, 70, 33]⟩, ⟨#[35, 78, 85, 77, 33]⟩, ⟨#[35, 78, 47, 65]⟩, ⟨#[35, 67, 73, 82, 67, 76, 69, 33]⟩, ⟨#[35, 76, 79, 78, 71, 33]⟩, ⟨#[35, 65, 82, 71, 33]⟩]
def Nej : List ByteArray := [⟨#[60, 62]⟩, ⟨#[60, 61]⟩, ⟨#[62, 61]⟩]
structure GL (w : World) : Prop where
 tab : Lib.TabIs Tryz.prog w "internal/strconv.uint64pow10" .u64 Lib.pow10Tab
 syn : ∃ t p, w.cell? ⟨10, 0, none⟩ = some (.iface t p)
 rng : ∃ t p, w.cell? ⟨11, 0, none⟩ = some (.iface t p)
 maxl : ∃ m, w.cell? ⟨3, 0, none⟩ = some (.int .i64 m)
 fau : Kd.C Kd.string w (some ⟨0, 0, none⟩) Nbx.length Nbx
 prs : Kd.C Kd.string w (some ⟨1, 0, none⟩) Nej.length Nej
 nms : Kd.C Kd.string w (some ⟨2, 0, none⟩) Nbx.length Nbx
theorem gTab : Tryz.prog.globalNamed "internal/strconv.uint64pow10" = some 7 := by kernel_rfl
theorem GL.below {w w' : World} (h : GL w) (hb : Below w.heap.size w w') : GL w' := by
 obtain ⟨ht, ⟨t1, p1, h1⟩, ⟨t2, p2, h2⟩, ⟨m, hm⟩, hf, hp, hn⟩ := h
 exact ⟨Joins.tab_stays gTab ht hb (Nat.le_refl _), ⟨t1, p1, (hb.cell (World.block_lt_of_cell? _ _ h1)).trans h1⟩, ⟨t2, p2, (hb.cell (World.block_lt_of_cell? _ _ h2)).trans h2⟩, ⟨m, (hb.cell (World.block_lt_of_cell? _ _ hm)).trans hm⟩, Kd.C_below hf hb, Kd.C_below hp hb, Kd.C_below hn hb⟩
theorem itoa_any (n : Int) (w : World) (h0 : -9223372036854775808 ≤ n) (h1 : n ≤ 9223372036854775807) (hG : (0 ≤ n ∧ n < 100) ∨ GL w) :
 Calls Tryz.prog 150 #[.int .i64 n] w fun e w' => e = .returned (.string ⟨(Lib.itoa n).toArray⟩) ∧ Below w.heap.size w w' := by
 rcases hG with ⟨a, b⟩ | hG
 ·obtain ⟨k, rfl⟩ := Int.eq_ofNat_of_zero_le a
  have e : Lib.itoa (k : Int) = Lib.decDigits k := by unfold Lib.itoa; rw [if_neg (by omega), Int.toNat_natCast]
  rw [e]
  exact (Tryz.strconv_Itoa_small k (by omega) w).mono fun e w' ⟨he, hw⟩ => ⟨he, by rw [hw]; exact Below.refl _ _⟩
 ·exact (Tryz.strconv_Itoa n h0 h1 w hG.tab).mono fun e w' ⟨he, k, os, hw⟩ => ⟨he, by rw [hw]; exact Lib.below_grow _ _ (Nat.le_refl _) _ _⟩
def tailF (T : ByteArray) (C : Int) : Int × Int × Bool :=
 match Lib.atoiAll T.data.toList with
 | .ok v => if Lib.itoa v = T.data.toList ∧ (0 ≤ v - 1 ∧ v - 1 < 65536) ∧ (0 ≤ C ∧ C < 256) then (v - 1, C, true) else (0, 0, false)
 | _ => (0, 0, false)
theorem bdN {B : Nat} {a w : World} (h : Below B a w) (n : Nat) : Below B a (w.drewN n) := ⟨h.os, h.tape, h.output, h.size, h.block⟩
theorem bnx {w a b : World} (h : Below w.heap.size w a) (k : Below a.heap.size a b) : Below w.heap.size w b := h.trans (k.mono h.size)
theorem bnxd {w a b : World} (h : Below w.heap.size w a) (k : Below a.drew.heap.size a.drew b) : Below w.heap.size w b := h.drew.trans (k.mono h.size)
def readF (s : ByteArray) : Int × Int × Bool := tailF (s.extract (headN s) s.size) (headC s)
theorem readF_eq (s : ByteArray) : readF s = tailF (s.extract (headN s) s.size) (headC s) := rfl
def readG (s : ByteArray) (w : World) : Prop := (∃ v, Lib.atoiAll (s.extract (headN s) s.size).data.toList = .ok v ∧ 0 ≤ v ∧ v < 100) ∨ GL w
theorem row_is (n : Int) (b : Bool) (w : World) (h : decide (0 ≤ n ∧ n < 65536) = b) : Calls Tryz.prog 103 #[.int .i64 n] w fun e w' => e = .returned (.bool b) ∧ w = w' := by
 have := row_any n w; rwa [h] at this
theorem column_is (n : Int) (b : Bool) (w : World) (h : decide (0 ≤ n ∧ n < 256) = b) : Calls Tryz.prog 104 #[.int .i64 n] w fun e w' => e = .returned (.bool b) ∧ w = w' := by
 have := Nex n w; rwa [h] at this
def ReadPost (s : ByteArray) (w : World) (e : Ending) (w' : World) : Prop := e = .returned (.tuple #[.int .i64 (readF s).1, .int .i64 (readF s).2.1, .bool (readF s).2.2]) ∧ Below w.heap.size w w'
theorem read_any (s : ByteArray) (w : World) (hs : s.size ≤ 140737488351232) (hG : readG s w) : Calls Tryz.prog 221 #[.string s] w (ReadPost s w) := by
 have e0 : ∀ h : 0 < s.size, ((s[0]'h).toNat : Int) = bt s 0 := fun h => bt_at s 0 h
 have e1 : ∀ h : 1 < s.size, ((s[1]'h).toNat : Int) = bt s 1 := fun h => bt_at s 1 h
 have r0 := bt_range s 0
 have r1 := bt_range s 1
 have HG := lh hG
 clear hG
 go_enter Tryz.func221, Tryz.ntmps221
 go_upto_block 0 with (fail)
 go_cut [5, 6] (fun v5 v6 w' => AtHead s v5 v6 ∧ w = w')
 case first =>
  go_wp2
  refine wp_loop_rounds 3 ?_
  rw [rounds_succ]
  go_wp2_with fail
  all_goals try (rw [rounds_succ]; go_wp2_with fail)
  all_goals try (rw [rounds_succ]; go_wp2_with fail)
  all_goals
   go_meet
   refine ⟨?_, rfl⟩
   first
    | (have h := head_two (s := s) (by assumption) (by assumption) (by omega) (by assumption) (by assumption); exact ⟨by rw [h.1]; rfl, by rw [h.2]⟩)
    | (have h := head_one (s := s) (by assumption) (by assumption) (by omega) (by omega); exact ⟨by rw [h.1]; rfl, by rw [h.2]⟩)
    | (have h := head_none (s := s) (by omega); exact ⟨by rw [h.1]; rfl, by rw [h.2]⟩)
 case rest =>
  clear e0 e1 r0 r1
  obtain ⟨⟨rfl, rfl⟩, rfl⟩ := hcut
  have hl := head_le s
  have hc := headC_le s
  have HF := lh (readF_eq s)
  unfold readG at HG
  generalize headN s = k at *
  generalize headC s = C at *
  obtain ⟨hl1, hl2⟩ := hl
  obtain ⟨hc1, hc2⟩ := hc
  have hT : (s.extract k s.size).size ≤ 140737488351232 := by rw [ByteArray.size_extract]; omega
  cases hat : Lib.atoiAll (s.extract k s.size).data.toList with
  | range =>
   have hf : readF s = (0, 0, false) := by rw [HF.out]; unfold tailF; rw [hat]
   have hGL : GL w := by rcases HG.out with ⟨v, e, _⟩ | g; (· rw [hat] at e; cases e); exact g
   obtain ⟨t1, p1, hv⟩ := hGL.rng
   have HV := lh hv
   have HA := lh hat
   clear hv hat hGL
   have HF2 := lh hf
   clear hf HF HG
   go_wp2_with (go_at_call 234; refine (Tryz.strconv_Atoi_range _ (by omega) HA.out _ _ HV.out (.inr ⟨_, _, rfl⟩)).mono ?_; rintro e w' ⟨N, rfl, _, _, hb⟩)
   go_quiet (fail)
   go_wp2
   go_ret3
   exact ⟨by rw [HF2.out]; rfl, bdN hb _⟩
  | ok v =>
   have hv := Lib.atoiAll_bounds hat
   obtain ⟨hv0, hv1⟩ := hv
   have hf : readF s = if Lib.itoa v = (s.extract k s.size).data.toList ∧ (0 ≤ v - 1 ∧ v - 1 < 65536) ∧ (0 ≤ C ∧ C < 256) then (v - 1, C, true) else (0, 0, false) := by rw [HF.out]; unfold tailF; rw [hat]
   have hGL : (0 ≤ v ∧ v < 100) ∨ GL w := by
    rcases HG.out with ⟨v', e, h⟩ | g
    ·rw [hat] at e; injection e with e; subst e; exact .inl h
    ·exact .inr g
   have HGL := lh hGL
   have HA := lh hat
   clear hGL hat HG HF
   obtain ⟨R, hR⟩ : ∃ R : ByteArray, (⟨(Lib.itoa v).toArray⟩ : ByteArray) = R := ⟨_, rfl⟩
   have hRl : R.toList = Lib.itoa v := by rw [← hR]; exact ByteArray.toList_eq _
   have HC : ∀ W, Below w.heap.size w W → Calls Tryz.prog 150 #[.int .i64 v] W fun e w' => e = .returned (.string R) ∧ Below W.heap.size W w' := fun W hb => by
    rw [← hR]
    exact itoa_any v W hv0 hv1 (HGL.out.imp id fun g => g.below hb)
   have HIT := lh HC
   clear HC HGL hR
   by_cases c1 : Lib.itoa v = (s.extract k s.size).data.toList
   ·have ht : (R.toList == (s.extract k s.size).toList) = true := by rw [hRl, c1, ByteArray.toList_eq]; simp
    have ht2 : (R.toList != (s.extract k s.size).toList) = false := by rw [hRl, c1, ByteArray.toList_eq]; simp
    by_cases c2 : 0 ≤ v - 1 ∧ v - 1 < 65536
    ·have wv : IntKind.i64.wrap (v - 1) = v - 1 := by rw [IntKind.wrap_i64]; omega
     by_cases c3 : 0 ≤ C ∧ C < 256
     ·rw [if_pos ⟨c1, c2, c3⟩] at hf
      have HF2 := lh hf
      obtain ⟨c2a, c2b⟩ := c2
      obtain ⟨c3a, c3b⟩ := c3
      clear c1
      clear hf hRl
      go_wp2_with (go_at_call 234; refine (Tryz.strconv_Atoi_ok _ (by omega) v HA.out _).mono ?_; rintro e w' ⟨rfl, hw⟩)
      have hb0 : Below w.heap.size w w' := by rcases hw with rfl | ⟨t, rfl⟩; exact Below.refl _ _; exact Lib.bytesWorld_below _ _ _
      clear hw
      go_region_held3 (fun W => Below w.heap.size w W) (first | assumption | exact Below.drew (by assumption) | exact bdN (by assumption) _ | exact bnx (by assumption) (by assumption) | exact bnxd (by assumption) (by assumption)) (first | (go_at_call 150; refine (HIT.out _ (by first | assumption | exact Below.drew (by assumption) | exact bdN (by assumption) _)).mono ?_; rintro e w1 ⟨rfl, hw1⟩) | (go_at_call 103; refine (row_is _ true _ (decide_eq_true ⟨by omega, by omega⟩)).mono ?_; rintro e w2 ⟨rfl, rfl⟩) | (go_at_call 104; refine (column_is _ true _ (decide_eq_true ⟨by omega, by omega⟩)).mono ?_; rintro e w3 ⟨rfl, rfl⟩))
      all_goals go_wp2
      all_goals go_ret3
      all_goals exact ⟨by rw [HF2.out]; rfl, by first | assumption | exact Below.drew (by assumption) | exact bdN (by assumption) _⟩
     ·rw [if_neg (fun h => c3 h.2.2)] at hf
      have HF2 := lh hf
      obtain ⟨c2a, c2b⟩ := c2
      have d3 := decide_eq_false c3
      clear c1 c3
      clear hf hRl
      go_wp2_with (go_at_call 234; refine (Tryz.strconv_Atoi_ok _ (by omega) v HA.out _).mono ?_; rintro e w' ⟨rfl, hw⟩)
      have hb0 : Below w.heap.size w w' := by rcases hw with rfl | ⟨t, rfl⟩; exact Below.refl _ _; exact Lib.bytesWorld_below _ _ _
      clear hw
      go_region_held3 (fun W => Below w.heap.size w W) (first | assumption | exact Below.drew (by assumption) | exact bdN (by assumption) _ | exact bnx (by assumption) (by assumption) | exact bnxd (by assumption) (by assumption)) (first | (go_at_call 150; refine (HIT.out _ (by first | assumption | exact Below.drew (by assumption) | exact bdN (by assumption) _)).mono ?_; rintro e w1 ⟨rfl, hw1⟩) | (go_at_call 103; refine (row_is _ true _ (decide_eq_true ⟨by omega, by omega⟩)).mono ?_; rintro e w2 ⟨rfl, rfl⟩) | (go_at_call 104; refine (column_is _ false _ d3).mono ?_; rintro e w3 ⟨rfl, rfl⟩))
      all_goals go_wp2
      all_goals go_ret3
      all_goals exact ⟨by rw [HF2.out]; rfl, by first | assumption | exact Below.drew (by assumption) | exact bdN (by assumption) _⟩
    ·rw [if_neg (fun h => c2 h.2.1)] at hf
     have HF2 := lh hf
     have d2 : decide (0 ≤ wrap64 (v - 1) ∧ wrap64 (v - 1) < 65536) = false := decide_eq_false (by unfold wrap64; omega)
     clear c1 c2
     clear hf hRl
     go_wp2_with (go_at_call 234; refine (Tryz.strconv_Atoi_ok _ (by omega) v HA.out _).mono ?_; rintro e w' ⟨rfl, hw⟩)
     have hb0 : Below w.heap.size w w' := by rcases hw with rfl | ⟨t, rfl⟩; exact Below.refl _ _; exact Lib.bytesWorld_below _ _ _
     clear hw
     refine sP (n := 21) (S := fun w' => Below w.heap.size w w') (ds := []) (hb0.drew) (fun hHeld => ?_)
     refine pP 0 47 ?_
     refine pP 1 48 ?_
     refine pP 2 49 ?_
     refine pP 3 50 ?_
     refine pP 5 52 ?_
     refine pP 6 53 ?_
     refine pP 7 54 ?_
     refine oP 4 (some 51) fun K hK => ?_
     refine gP 150 Tryz.func150 #[.int .i64 v] ?_
     with_reducible refine (HIT.out _ (by first | exact hHeld | exact Below.drew hHeld | exact bdN hHeld _)).mono ?_
     rintro e w1 ⟨rfl, hw1⟩
     refine ⟨_, rfl, ?_⟩
     refine hK.out _ _ (bnx hHeld hw1) (fun hHeld => ?_)
     clear hK K
     refine nP 51 ?_
     refine pP 8 55 ?_
     refine pP 9 56 ?_
     refine pP 10 57 ?_
     refine pP 11 58 ?_
     refine pP 12 59 ?_
     refine oP 13 (some 60) fun K hK => ?_
     refine gP 103 Tryz.func103 #[.int .i64 (wrap64 (v - 1))] ?_
     with_reducible refine (row_is _ false _ d2).mono ?_
     rintro e w2 ⟨rfl, rfl⟩
     refine ⟨_, rfl, ?_⟩
     refine hK.out _ _ (hHeld) (fun hHeld => ?_)
     clear hK K
     refine nP 60 ?_
     refine pP 14 61 ?_
     refine pP 15 62 ?_
     refine pP 16 63 ?_
     refine uP 17 64 ?_
     refine uP 18 65 ?_
     refine uP 19 66 ?_
     refine pP 20 67 ?_
     refine done_ (by kernel_rfl) ?_
     all_goals go_wp2
     all_goals go_ret3
     all_goals exact ⟨by rw [HF2.out]; rfl, by first | assumption | exact Below.drew (by assumption) | exact bdN (by assumption) _⟩
   ·rw [if_neg (fun h => c1 h.1)] at hf
    have HF2 := lh hf
    have ht : (R.toList == (s.extract k s.size).toList) = false := by rw [hRl, ByteArray.toList_eq]; exact beq_eq_false_iff_ne.mpr c1
    have ht2 : (R.toList != (s.extract k s.size).toList) = true := by rw [hRl, ByteArray.toList_eq]; exact bne_iff_ne.mpr c1
    clear c1
    clear hf hRl
    go_wp2_with (go_at_call 234; refine (Tryz.strconv_Atoi_ok _ (by omega) v HA.out _).mono ?_; rintro e w' ⟨rfl, hw⟩)
    have hb0 : Below w.heap.size w w' := by rcases hw with rfl | ⟨t, rfl⟩; exact Below.refl _ _; exact Lib.bytesWorld_below _ _ _
    clear hw
    refine sP (n := 21) (S := fun w' => Below w.heap.size w w') (ds := []) (hb0.drew) (fun hHeld => ?_)
    refine pP 0 47 ?_
    refine pP 1 48 ?_
    refine pP 2 49 ?_
    refine pP 3 50 ?_
    refine pP 5 52 ?_
    refine pP 6 53 ?_
    refine pP 7 54 ?_
    refine oP 4 (some 51) fun K hK => ?_
    refine gP 150 Tryz.func150 #[.int .i64 v] ?_
    with_reducible refine (HIT.out _ (by first | exact hHeld | exact Below.drew hHeld | exact bdN hHeld _)).mono ?_
    rintro e w1 ⟨rfl, hw1⟩
    refine ⟨_, rfl, ?_⟩
    refine hK.out _ _ (bnx hHeld hw1) (fun hHeld => ?_)
    clear hK K
    refine nP 51 ?_
    refine pP 8 55 ?_
    refine pP 9 56 ?_
    refine pP 10 57 ?_
    refine uP 11 58 ?_
    refine uP 12 59 ?_
    refine uP 13 60 ?_
    refine uP 14 61 ?_
    refine pP 15 62 ?_
    refine pP 16 63 ?_
    refine uP 17 64 ?_
    refine uP 18 65 ?_
    refine uP 19 66 ?_
    refine pP 20 67 ?_
    refine done_ (by kernel_rfl) ?_
    all_goals go_wp2
    all_goals go_ret3
    all_goals exact ⟨by rw [HF2.out]; rfl, by first | assumption | exact Below.drew (by assumption) | exact bdN (by assumption) _⟩
  | _ =>
   have hf : readF s = (0, 0, false) := by rw [HF.out]; unfold tailF; rw [hat]
   have hGL : GL w := by rcases HG.out with ⟨v, e, _⟩ | g; (· rw [hat] at e; cases e); exact g
   obtain ⟨t1, p1, hv⟩ := hGL.syn
   have HV := lh hv
   have HA := lh hat
   clear hv hat hGL
   have HF2 := lh hf
   clear hf HF HG
   go_wp2_with (go_at_call 234; refine (Any.strconv_Atoi_syntax Tryz.laysC172 _ (by omega) HA.out _ _ HV.out (.inr ⟨_, _, rfl⟩)).mono ?_; rintro e w' ⟨N, rfl, _, _, hb⟩)
   go_quiet (fail)
   go_wp2
   go_ret3
   exact ⟨by rw [HF2.out]; rfl, bdN hb _⟩
end Go.Proofs.YtejbbceidnaloaaGreatDoor.P
namespace Go.Proofs.YtejbbceidnaloaaGreatDoor.P
open Go.RowKit AW AL AM
def setRun (cur : Array Value) (o : Nat) : List Value → Array Value
 | [] => cur
 | v :: vs => setRun (cur.setIfInBounds o v) (o + 1) vs
theorem Nen {g : Nat} {e : TypeId} : ∀ (seg : List Value) (o : Nat) (cur : Array Value) (w : World), w.heap[g]? = some (.cells cur e (0, 0)) → (w.setCells g o seg).heap[g]? = some (.cells (setRun cur o seg) e (0, 0))
 | [], o, cur, w, h => h
 | v :: vs, o, cur, w, h => Nen vs (o + 1) (cur.setIfInBounds o v) (w.setCell ⟨g, o, none⟩ v) (blk_set h o v)
theorem setCells_size {g : Nat} : ∀ (seg : List Value) (o : Nat) (w : World), (w.setCells g o seg).heap.size = w.heap.size
 | [], o, w => rfl
 | v :: vs, o, w => (setCells_size vs (o + 1) (w.setCell ⟨g, o, none⟩ v)).trans (by simp [World.setCell])
theorem Nd9 {g : Nat} {w0 : World} (hg : w0.heap.size ≤ g) : ∀ (seg : List Value) (o : Nat) (w : World), Below w0.heap.size w0 w → Below w0.heap.size w0 (w.setCells g o seg)
 | [], o, w, h => h
 | v :: vs, o, w, h => Nd9 hg vs (o + 1) (w.setCell ⟨g, o, none⟩ v) (h.setCell hg v)
theorem setCells_far' {g k : Nat} (hk : k ≠ g) : ∀ (seg : List Value) (o : Nat) (w : World), (w.setCells g o seg).heap[k]? = w.heap[k]?
 | [], o, w => rfl
 | v :: vs, o, w => (setCells_far' hk vs (o + 1) (w.setCell ⟨g, o, none⟩ v)).trans (Below.heap_setCell w ⟨g, o, none⟩ v k hk)
structure Put (g : Nat) (W w1 : World) : Prop where
 size : w1.heap.size = W.heap.size
 far : ∀ k, k ≠ g → w1.heap[k]? = W.heap[k]?
 below : ∀ w0 : World, w0.heap.size ≤ g → Below w0.heap.size w0 W → Below w0.heap.size w0 w1
theorem Put.blk {g g' : Nat} {W w1 : World} {o : Obj} (h : Put g W w1) (hb : W.heap[g']? = some o) (hne : g' ≠ g) : w1.heap[g']? = some o := (h.far g' hne).trans hb
theorem Nca {P : Program} {ops : Array Oper} {rest : List Oper} {o : Oper} {a : Act} {Q : Exit → Act → World → Prop} {W : World} (hN : o.dst = none) (hgd : o.guard = none) {t : TypeId} {p x : Operand} (ho : o.op = .store t p x) {g o' : Nat} {e : TypeId} {cur : Array Value} {u : Value} {seg : List Value}
 (haddr : a.eval p = .pointer (some ⟨g, o', none⟩)) (hx : a.eval x = u) (hu : u.cells.toList = seg) (ht : (P.info? t).map (·.size) = some seg.length) (hh : W.heap[g]? = some (.cells cur e (0, 0))) (hfit : o' + seg.length ≤ cur.size) (h1 : seg.all (·.oneCell') = true)
 {new : Array Value} (hnew : setRun cur o' seg = new)
 (h : ∀ w1, w1.heap[g]? = some (.cells new e (0, 0)) → Put g W w1 → wpList P ops Q rest a w1) : wpList P ops Q (o :: rest) a W := by
 refine wpList_plain hgd fun K hK => ?_
 have hrun := run_store_run (P := P) t u seg hh hu ht hfit (fun q hq => List.all_eq_true.mp h1 q hq)
 unfold Oper.wp execOp
 simp only [ho, haddr, hx, Sem.run_bind, Sem.run_pure, Result.andThen_ok, hrun]
 show K (a.put o.dst undef) _
 rw [hN]
 exact hK a _ (h _ (hnew ▸ Nen seg o' cur W hh) ⟨setCells_size seg o' W, fun k hk => setCells_far' hk seg o' W, fun w0 hg hb => Nd9 hg seg o' W hb⟩)
theorem Nec {P : Program} {ops : Array Oper} {rest : List Oper} {o : Oper} {a : Act} {Q : Exit → Act → World → Prop} {W : World} (hgd : o.guard = none) {t : TypeId} {p : Operand} (ho : o.op = .load t p) {g o' : Nat} {e : TypeId} {cur : Array Value} {cs : List Value} {d : TypeDesc}
 (haddr : a.eval p = .pointer (some ⟨g, o', none⟩)) (hh : W.heap[g]? = some (.cells cur e (0, 0))) (hcs : (cur.toList.drop o').take cs.length = cs)
 (hu : P.underlying t = some d) (hd : (match d with | .struct _ | .array _ _ => true | _ => false) = true) (hi : (P.info? t).map (·.size) = some cs.length)
 (h : wpList P ops Q rest (a.put o.dst (.agg cs.toArray)) W) : wpList P ops Q (o :: rest) a W := by
 refine wpList_plain hgd fun K hK => ?_
 refine wp_load_mid t p ho g o' haddr cs d (fun j v hv => ?_) hu (by cases d <;> simp_all [TypeDesc.isRow]) hi (hK _ _ h)
 rw [Naa hh, ← Array.getElem?_toList]
 rw [← hcs, List.getElem?_take] at hv
 split at hv
 ·rw [List.getElem?_drop] at hv
  exact hv
 ·cases hv
theorem sE {P : Program} {ops : Array Oper} {rest : List Oper} {o : Oper} {a : Act} {Q : Exit → Act → World → Prop} {W : World} {g : Nat} {e : TypeId} {cur : Array Value} (hh : W.heap[g]? = some (.cells cur e (0, 0))) (t : TypeId) (p x : Operand) (o' : Nat) (u : Value) (new : Array Value)
 (h : ∀ w1, w1.heap[g]? = some (.cells new e (0, 0)) → Put g W w1 → wpList P ops Q rest a w1) (hN : o.dst = none := by exact rfl) (hgd : o.guard = none := by exact rfl) (ho : o.op = .store t p x := by exact rfl) (ha : a.eval p = .pointer (some ⟨g, o', none⟩) := by exact rfl) (hx : a.eval x = u := by exact rfl) (ht : (P.info? t).map (·.size) = some u.cells.toList.length := by kernel_rfl) (hf : Nat.ble (o' + u.cells.toList.length) cur.size = true := by kernel_rfl) (h1 : u.cells.toList.all (·.oneCell') = true := by exact rfl) (hn : setRun cur o' u.cells.toList = new := by kernel_rfl) : wpList P ops Q (o :: rest) a W :=
 Nca hN hgd ho ha hx rfl ht hh (Nat.le_of_ble_eq_true hf) h1 hn h
def IsS72 (w0 W : World) (g : Nat) (f0 : List (S39)) (f1 : Int) (f2 : Int) : Prop := ∃ A0 c0, W.heap[g]? = some (.cells #[.slice A0 f0.length c0, .int .i64 f1, .int .i64 f2] 72 (0, 0)) ∧ w0.heap.size ≤ g ∧ Kd.C k39 w0 A0 f0.length f0
theorem IsS72.grown {w0 W : World} {g : Nat} {f0 : List (S39)} {f1 : Int} {f2 : Int} {W1 : World} {row : Option Nat} (h : IsS72 w0 W g f0 f1 f2) (hw : W.grownBy W1 row) (hne : some g ≠ row) : IsS72 w0 W1 g f0 f1 f2 := by
 obtain ⟨A0, c0, hb, hg, hr0⟩ := h
 exact ⟨A0, c0, blk_grown hb hw hne, hg, hr0⟩
theorem IsS72.below {w0 W : World} {g : Nat} {f0 : List (S39)} {f1 : Int} {f2 : Int} {W1 : World} (h : IsS72 w0 W g f0 f1 f2) (hw : Below W.heap.size W W1) : IsS72 w0 W1 g f0 f1 f2 := h.grown (grown_of_below hw none) (by simp)
theorem IsS72.alloc {w0 W : World} {g : Nat} {f0 : List (S39)} {f1 : Int} {f2 : Int} (h : IsS72 w0 W g f0 f1 f2) (o : Obj) : IsS72 w0 (W.alloc o) g f0 f1 f2 := h.below (Nae (Below.refl _ _) o)
theorem IsS72.drewN {w0 W : World} {g : Nat} {f0 : List (S39)} {f1 : Int} {f2 : Int} (h : IsS72 w0 W g f0 f1 f2) (m : Nat) : IsS72 w0 (W.drewN m) g f0 f1 f2 := h
theorem IsS72.drew {w0 W : World} {g : Nat} {f0 : List (S39)} {f1 : Int} {f2 : Int} (h : IsS72 w0 W g f0 f1 f2) : IsS72 w0 W.drew g f0 f1 f2 := h
theorem IsS72.lt {w0 W : World} {g : Nat} {f0 : List (S39)} {f1 : Int} {f2 : Int} (h : IsS72 w0 W g f0 f1 f2) : g < W.heap.size := by
 obtain ⟨A0, c0, hb, hg, hr0⟩ := h
 exact Nbe hb
theorem IsS72.ge {w0 W : World} {g : Nat} {f0 : List (S39)} {f1 : Int} {f2 : Int} (h : IsS72 w0 W g f0 f1 f2) : w0.heap.size ≤ g := by
 obtain ⟨A0, c0, hb, hg, hr0⟩ := h
 exact hg
theorem Nbm {W : World} {g : Nat} {A0 : Option Addr} {c0 : Nat} {f0 : List (S39)} {f1 : Int} {f2 : Int} (h : W.heap[g]? = some (.cells #[.slice A0 f0.length c0, .int .i64 f1, .int .i64 f2] 72 (0, 0))) : W.cell? ⟨g, 0, none⟩ = some (.slice A0 f0.length c0) := (Naa h 0).trans rfl
theorem Na0 {W : World} {g : Nat} {A0 : Option Addr} {c0 : Nat} {f0 : List (S39)} {f1 : Int} {f2 : Int} (h : W.heap[g]? = some (.cells #[.slice A0 f0.length c0, .int .i64 f1, .int .i64 f2] 72 (0, 0))) : W.cell? ⟨g, 1, none⟩ = some (.int .i64 f1) := (Naa h 1).trans rfl
theorem IsS72.set_1 {w0 W : World} {g : Nat} {f0 : List (S39)} {f1 : Int} {f2 : Int} (h : IsS72 w0 W g f0 f1 f2) (x : Int) : IsS72 w0 (W.setCell ⟨g, 1, none⟩ (.int .i64 x)) g f0 x f2 := by
 obtain ⟨A0, c0, hb, hg, hr0⟩ := h
 exact ⟨A0, c0, by simpa using blk_set hb 1 (.int .i64 x), hg, hr0⟩
theorem Nes {W : World} {g : Nat} {A0 : Option Addr} {c0 : Nat} {f0 : List (S39)} {f1 : Int} {f2 : Int} (h : W.heap[g]? = some (.cells #[.slice A0 f0.length c0, .int .i64 f1, .int .i64 f2] 72 (0, 0))) : W.cell? ⟨g, 2, none⟩ = some (.int .i64 f2) := (Naa h 2).trans rfl
theorem IsS72.set_2 {w0 W : World} {g : Nat} {f0 : List (S39)} {f1 : Int} {f2 : Int} (h : IsS72 w0 W g f0 f1 f2) (x : Int) : IsS72 w0 (W.setCell ⟨g, 2, none⟩ (.int .i64 x)) g f0 f1 x := by
 obtain ⟨A0, c0, hb, hg, hr0⟩ := h
 exact ⟨A0, c0, by simpa using blk_set hb 2 (.int .i64 x), hg, hr0⟩
theorem IsS72.new (w0 W : World) (A0 : Option Addr) (c0 : Nat) (f0 : List (S39)) (f1 : Int) (f2 : Int) (hB : Below w0.heap.size w0 W) (hr0 : Kd.C k39 w0 A0 f0.length f0) : IsS72 w0 (W.alloc (.cells #[.slice A0 f0.length c0, .int .i64 f1, .int .i64 f2] 72)) W.heap.size f0 f1 f2 := ⟨A0, c0, by simpa using heap_alloc_new W _, hB.size, hr0⟩
def Nbj.f (s0_0 : List (S39)) (s0_1 : Int) (s0_2 : Int) : Option (ByteArray × Int × Int) := if s0_1 < (s0_0.length : Int) then (if 0 ≤ s0_1 then (if ((Nbq s0_0 s0_1).f0) = 5 then (some ((Nbq s0_0 s0_1).f1, s0_1, s0_2)) else (some ((⟨#[]⟩ : ByteArray), s0_1, s0_2))) else (none)) else (some ((⟨#[]⟩ : ByteArray), s0_1, s0_2))
theorem Nbj.calls (g : Nat) (s0_0 : List (S39)) (s0_1 : Int) (s0_2 : Int) (r1 : ByteArray) (r2 : Int) (r3 : Int) (w0 w : World) (hI : IsS72 w0 w g s0_0 s0_1 s0_2) (hB : Below w0.heap.size w0 w) (h : Nbj.f s0_0 s0_1 s0_2 = some (r1, r2, r3)) :
 Calls Tryz.prog 107 #[.pointer (some ⟨g, 0, none⟩)] w fun e w' => e = .returned (.string r1) ∧ IsS72 w0 w' g s0_0 r2 r3 ∧ Below w0.heap.size w0 w' ∧ Nax w w' g none := by
 have HI0 := aM hI
 have HK := aM (Nax.refl w g none)
 have HL := aM hB.size
 clear hI
 have HW0 := aM hB.size
 have HB := aM hB
 clear hB
 have H := h
 unfold Nbj.f at H
 clear h
 by_cases c2 : s0_1 < (s0_0.length : Int)
 ·rw [if_pos c2] at H
  have c2b0 : decide (s0_1 < (s0_0.length : Int)) = true := decide_eq_true c2
  clear c2
  by_cases c3 : 0 ≤ s0_1
  ·rw [if_pos c3] at H
   have c3b0 : decide (0 ≤ s0_1) = true := decide_eq_true c3
   clear c3
   by_cases c4 : ((Nbq s0_0 s0_1).f0) = 5
   ·rw [if_pos c4] at H
    obtain ⟨c4b0, c4b1⟩ := bqT c4
    clear c4
    simp only [sJ, pJ] at H
    obtain ⟨rfl, rfl, rfl⟩ := H
    obtain ⟨ASz5_0, cSz5_0, HGz5, hgz5, HSz5_0⟩ := HI0.out
    have hcz5_0 := Nbm HGz5
    have hcz5_1 := Na0 HGz5
    have hcz5_2 := Nes HGz5
    have hfz5_1 := Naf HGz5 1
    have hfz5_2 := Naf HGz5 2
    clear HGz5 hgz5
    have p101 : 0 ≤ (s0_1 : Int) := of_decide_eq_true (by first | (with_reducible assumption) | assumption)
    have q101 : s0_1 < (s0_0.length : Int) := of_decide_eq_true (by first | (with_reducible assumption) | assumption)
    obtain ⟨ad101, e101, hx101_0, hx101_1, hx101_2⟩ := Nd1 HSz5_0 s0_1 p101 q101
    cases e101
    replace hx101_0 := Nab HB.out hx101_0
    replace hx101_1 := Nab HB.out hx101_1
    replace hx101_2 := Nab HB.out hx101_2
    replace p101 := eq_true p101
    replace q101 := eq_true q101
    have p102 : 0 ≤ (s0_1 : Int) := of_decide_eq_true (by first | (with_reducible assumption) | assumption)
    have q102 : s0_1 < (s0_0.length : Int) := of_decide_eq_true (by first | (with_reducible assumption) | assumption)
    obtain ⟨ad102, e102, hx102_0, hx102_1, hx102_2⟩ := Nd1 HSz5_0 s0_1 p102 q102
    obtain rfl : ad101 = ad102 := (by injection e102)
    replace hx102_0 := Nab HB.out hx102_0
    replace hx102_1 := Nab HB.out hx102_1
    replace hx102_2 := Nab HB.out hx102_2
    replace p102 := eq_true p102
    replace q102 := eq_true q102
    go_enter Tryz.func107, Tryz.ntmps107
    go_wp2
    repeat (go_quiet (fail); try go_wp2)
    go_ret
    exact ⟨eR, by repeat (first | (with_reducible first | exact HI0.out | apply IsS72.alloc | apply IsS72.drewN | apply IsS72.drew | apply IsS72.set_1 | apply IsS72.set_2) | exact HI0.out), by repeat (first | (with_reducible first | exact HB.out | apply Nae | apply Nas | apply Nbp | refine Ndc ?_ (IsS72.ge HI0.out)) | exact HB.out), by repeat (first | (with_reducible first | exact HK.out | apply Nax.set_ | apply Nc7 | apply Ndz | apply Ndg) | exact HK.out)⟩
   ·rw [if_neg c4] at H
    obtain ⟨c4b0, c4b1⟩ := bqF c4
    simp only [sJ, pJ] at H
    obtain ⟨rfl, rfl, rfl⟩ := H
    obtain ⟨ASz6_0, cSz6_0, HGz6, hgz6, HSz6_0⟩ := HI0.out
    have hcz6_0 := Nbm HGz6
    have hcz6_1 := Na0 HGz6
    have hcz6_2 := Nes HGz6
    have hfz6_1 := Naf HGz6 1
    have hfz6_2 := Naf HGz6 2
    clear HGz6 hgz6
    have p101 : 0 ≤ (s0_1 : Int) := of_decide_eq_true (by first | (with_reducible assumption) | assumption)
    have q101 : s0_1 < (s0_0.length : Int) := of_decide_eq_true (by first | (with_reducible assumption) | assumption)
    obtain ⟨ad101, e101, hx101_0, hx101_1, hx101_2⟩ := Nd1 HSz6_0 s0_1 p101 q101
    cases e101
    replace hx101_0 := Nab HB.out hx101_0
    replace hx101_1 := Nab HB.out hx101_1
    replace hx101_2 := Nab HB.out hx101_2
    replace p101 := eq_true p101
    replace q101 := eq_true q101
    go_enter Tryz.func107, Tryz.ntmps107
    go_wp2
    repeat (go_quiet (fail); try go_wp2)
    go_ret
    exact ⟨eR, by repeat (first | (with_reducible first | exact HI0.out | apply IsS72.alloc | apply IsS72.drewN | apply IsS72.drew | apply IsS72.set_1 | apply IsS72.set_2) | exact HI0.out), by repeat (first | (with_reducible first | exact HB.out | apply Nae | apply Nas | apply Nbp | refine Ndc ?_ (IsS72.ge HI0.out)) | exact HB.out), by repeat (first | (with_reducible first | exact HK.out | apply Nax.set_ | apply Nc7 | apply Ndz | apply Ndg) | exact HK.out)⟩
  ·rw [if_neg c3] at H
   exact absurd H (by simp)
 ·rw [if_neg c2] at H
  have c2b0 : decide (s0_1 < (s0_0.length : Int)) = false := decide_eq_false c2
  clear c2
  simp only [sJ, pJ] at H
  obtain ⟨rfl, rfl, rfl⟩ := H
  obtain ⟨ASz7_0, cSz7_0, HGz7, hgz7, HSz7_0⟩ := HI0.out
  have hcz7_0 := Nbm HGz7
  have hcz7_1 := Na0 HGz7
  have hcz7_2 := Nes HGz7
  have hfz7_1 := Naf HGz7 1
  have hfz7_2 := Naf HGz7 2
  clear HGz7 hgz7
  go_enter Tryz.func107, Tryz.ntmps107
  go_wp2
  repeat (go_quiet (fail); try go_wp2)
  go_ret
  exact ⟨eR, by repeat (first | (with_reducible first | exact HI0.out | apply IsS72.alloc | apply IsS72.drewN | apply IsS72.drew | apply IsS72.set_1 | apply IsS72.set_2) | exact HI0.out), by repeat (first | (with_reducible first | exact HB.out | apply Nae | apply Nas | apply Nbp | refine Ndc ?_ (IsS72.ge HI0.out)) | exact HB.out), by repeat (first | (with_reducible first | exact HK.out | apply Nax.set_ | apply Nc7 | apply Ndz | apply Ndg) | exact HK.out)⟩
def Nbs.f (s0_0 : List (S39)) (s0_1 : Int) (s0_2 : Int) (a1 : ByteArray) : Option (Bool × Int × Int) := (Nbj.f s0_0 s0_1 s0_2).bind fun bt101 => (if bt101.1.toList = a1.toList then (some (true, wrap64 (bt101.2.1 + 1), bt101.2.2)) else (some (false, bt101.2.1, bt101.2.2)))
theorem Nbs.calls (g : Nat) (s0_0 : List (S39)) (s0_1 : Int) (s0_2 : Int) (a1 : ByteArray) (r1 : Bool) (r2 : Int) (r3 : Int) (w0 w : World) (hI : IsS72 w0 w g s0_0 s0_1 s0_2) (hB : Below w0.heap.size w0 w) (h : Nbs.f s0_0 s0_1 s0_2 a1 = some (r1, r2, r3)) :
 Calls Tryz.prog 143 #[.pointer (some ⟨g, 0, none⟩), .string a1] w fun e w' => e = .returned (.bool r1) ∧ IsS72 w0 w' g s0_0 r2 r3 ∧ Below w0.heap.size w0 w' ∧ Nax w w' g none := by
 have HI0 := aM hI
 have HK := aM (Nax.refl w g none)
 have HL := aM hB.size
 clear hI
 have HW0 := aM hB.size
 have HB := aM hB
 clear hB
 have H := h
 unfold Nbs.f at H
 clear h
 replace H := bS H
 obtain ⟨⟨t101, t102, t103⟩, A30, H⟩ := H
 try dsimp only at H
 have A3 := aM A30
 clear A30
 by_cases c4 : t101.toList = a1.toList
 ·rw [if_pos c4] at H
  obtain ⟨c4b0, c4b1⟩ := bqT c4
  clear c4
  simp only [sJ, pJ] at H
  obtain ⟨rfl, rfl, rfl⟩ := H
  go_enter Tryz.func143, Tryz.ntmps143
  go_wp2_with (first | ((with_reducible refine gC 107 rfl ?_); refine gL 6 Tryz.func107 #[.pointer (some ⟨g, 0, none⟩)] ?_; (with_reducible refine (Nbj.calls g s0_0 s0_1 s0_2 t101 t102 t103 w0 _ ?side1 ?side2 A3.out).mono ?_); (case side1 => repeat (first | (with_reducible first | exact HI0.out | apply IsS72.alloc | apply IsS72.drewN | apply IsS72.drew | apply IsS72.set_1 | apply IsS72.set_2) | exact HI0.out)); (case side2 => repeat (first | (with_reducible first | exact HB.out | apply Nae | apply Nas | apply Nbp | refine Ndc ?_ (IsS72.ge HI0.out)) | exact HB.out)); rintro e w5 ⟨rfl, hi, hb, hk⟩; refine ⟨_, rfl, ?_⟩; replace HK := aM (Nax.trans (by repeat (first | (with_reducible first | exact HK.out | apply Nax.set_ | apply Nc7 | apply Ndz | apply Ndg) | exact HK.out)) hk (.inl rfl)); replace HB := aM (hb); replace HI0 := aM (hi); (try clear hb); obtain ⟨ASz6_0, cSz6_0, HGz6, hgz6, HSz6_0⟩ := HI0.out; have hcz6_0 := Nbm HGz6; have hcz6_1 := Na0 HGz6; have hcz6_2 := Nes HGz6; have hfz6_1 := Naf HGz6 1; have hfz6_2 := Naf HGz6 2; clear HGz6 hgz6))
  go_ret
  exact ⟨eR, by repeat (first | (with_reducible first | exact HI0.out | apply IsS72.alloc | apply IsS72.drewN | apply IsS72.drew | apply IsS72.set_1 | apply IsS72.set_2) | exact HI0.out), by repeat (first | (with_reducible first | exact HB.out | apply Nae | apply Nas | apply Nbp | refine Ndc ?_ (IsS72.ge HI0.out)) | exact HB.out), by repeat (first | (with_reducible first | exact HK.out | apply Nax.set_ | apply Nc7 | apply Ndz | apply Ndg) | exact HK.out)⟩
 ·rw [if_neg c4] at H
  obtain ⟨c4b0, c4b1⟩ := bqF c4
  simp only [sJ, pJ] at H
  obtain ⟨rfl, rfl, rfl⟩ := H
  go_enter Tryz.func143, Tryz.ntmps143
  go_wp2_with (first | ((with_reducible refine gC 107 rfl ?_); refine gL 6 Tryz.func107 #[.pointer (some ⟨g, 0, none⟩)] ?_; (with_reducible refine (Nbj.calls g s0_0 s0_1 s0_2 t101 t102 t103 w0 _ ?side1 ?side2 A3.out).mono ?_); (case side1 => repeat (first | (with_reducible first | exact HI0.out | apply IsS72.alloc | apply IsS72.drewN | apply IsS72.drew | apply IsS72.set_1 | apply IsS72.set_2) | exact HI0.out)); (case side2 => repeat (first | (with_reducible first | exact HB.out | apply Nae | apply Nas | apply Nbp | refine Ndc ?_ (IsS72.ge HI0.out)) | exact HB.out)); rintro e w7 ⟨rfl, hi, hb, hk⟩; refine ⟨_, rfl, ?_⟩; replace HK := aM (Nax.trans (by repeat (first | (with_reducible first | exact HK.out | apply Nax.set_ | apply Nc7 | apply Ndz | apply Ndg) | exact HK.out)) hk (.inl rfl)); replace HB := aM (hb); replace HI0 := aM (hi); (try clear hb)))
  go_ret
  exact ⟨eR, by repeat (first | (with_reducible first | exact HI0.out | apply IsS72.alloc | apply IsS72.drewN | apply IsS72.drew | apply IsS72.set_1 | apply IsS72.set_2) | exact HI0.out), by repeat (first | (with_reducible first | exact HB.out | apply Nae | apply Nas | apply Nbp | refine Ndc ?_ (IsS72.ge HI0.out)) | exact HB.out), by repeat (first | (with_reducible first | exact HK.out | apply Nax.set_ | apply Nc7 | apply Ndz | apply Ndg) | exact HK.out)⟩
end Go.Proofs.YtejbbceidnaloaaGreatDoor.P
