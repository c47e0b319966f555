import Derived.Test.YtejbbceidnaloaaGreatDoorL8
import Derived.Laws.Runes
import Derived.Test.YtejbbceidnaloaaGreatDoorL7
import Derived.Lib.AtoiAll
import Derived.Lib.AtoiErrMem
import Derived.Lib.AppendIntMem
import Derived.Lib.SmallJoins
import Derived.Lib.AtoiAllCases
import Derived.LoopN
import Derived.Deep.RegionWith
namespace Go.Proofs.YtejbbceidnaloaaGreatDoor.P
open Go.RowKit Go.Proofs.YtejbbceidnaloaaGreatDoorW.PrintWords Go.Proofs.YtejbbceidnaloaaGreatDoorW.PrintLast
set_option linter.unusedVariables false
set_option linter.unusedSimpArgs false
theorem encode_ascii (n : Int) (h0 : 0 ≤ n) (h1 : n < 128) : Utf8.encode n = ⟨#[UInt8.ofNat n.toNat]⟩ := by
 have hv : Utf8.valid n = true := by unfold Utf8.valid; simp; omega
 unfold Utf8.encode
 simp only [hv, if_true]
 rw [if_pos (by omega)]
def colB (n : Int) : ByteArray :=
 if n < 0 then ⟨#[]⟩ else if 256 ≤ n then ⟨#[]⟩ else if n < 26 then ⟨#[UInt8.ofNat (65 + n).toNat]⟩
 else ⟨#[UInt8.ofNat (65 + n / 26 - 1).toNat]⟩ ++ ⟨#[UInt8.ofNat (65 + n % 26).toNat]⟩
theorem column_any (n : Int) (w : World) : Calls Tryz.prog 104 #[.int .i64 n] w fun e w' => e = .returned (.bool (decide (0 ≤ n ∧ n < 256))) ∧ w = w' := by
 by_cases h : 0 ≤ n
 ·have hd : decide (0 ≤ n) = true := decide_eq_true h
  have hx : decide (0 ≤ n ∧ n < 256) = decide (n < 256) := by simp [h]
  rw [hx]
  clear hx
  go_enter Tryz.func104, Tryz.ntmps104
  go_wp2
  go_ret
  exact ⟨rfl, rfl⟩
 ·have hd : decide (0 ≤ n) = false := decide_eq_false h
  have hx : decide (0 ≤ n ∧ n < 256) = false := by simp [h]
  rw [hx]
  clear hx
  go_enter Tryz.func104, Tryz.ntmps104
  go_wp2
  go_ret
  exact ⟨rfl, rfl⟩
theorem col_any (n : Int) (w : World) : Calls Tryz.prog 149 #[.int .i64 n] w fun e w' => e = .returned (.string (colB n)) ∧ w = w' := by
 by_cases h : 0 ≤ n ∧ n < 256
 ·have hd : decide (0 ≤ n ∧ n < 256) = true := decide_eq_true h
  obtain ⟨h0, h1⟩ := h
  by_cases h2 : n < 26
  ·have hd2 : decide (n < 26) = true := decide_eq_true h2
   have hc : colB n = Utf8.encode (65 + n) := by
    unfold colB; rw [encode_ascii _ (by omega) (by omega), if_neg (by omega), if_neg (by omega), if_pos h2]
   rw [hc]
   clear hc
   go_enter Tryz.func149, Tryz.ntmps149
   go_wp2_with (go_at_call 104; refine (column_any _ _).mono ?_; rintro e w' ⟨rfl, rfl⟩; rw [hd])
   go_ret
   exact ⟨rfl, rfl⟩
  ·have hd2 : decide (n < 26) = false := decide_eq_false h2
   have hc : colB n = Utf8.encode (65 + n / 26 - 1) ++ Utf8.encode (65 + n % 26) := by
    unfold colB; rw [encode_ascii _ (by omega) (by omega), encode_ascii _ (by omega) (by omega), if_neg (by omega), if_neg (by omega), if_neg h2]
   rw [hc]
   clear hc
   have hsz : (Utf8.encode (65 + n / 26 - 1)).size + (Utf8.encode (65 + n % 26)).size ≤ 9223372036854775807 := by
    rw [encode_ascii _ (by omega) (by omega), encode_ascii _ (by omega) (by omega)]; simp [ByteArray.size]
   go_enter Tryz.func149, Tryz.ntmps149
   go_wp2_with (go_at_call 104; refine (column_any _ _).mono ?_; rintro e w' ⟨rfl, rfl⟩; rw [hd])
   go_ret
   exact ⟨rfl, rfl⟩
 ·have hd : decide (0 ≤ n ∧ n < 256) = false := decide_eq_false h
  have hc : colB n = ⟨#[]⟩ := by
   unfold colB
   by_cases h0 : n < 0
   ·rw [if_pos h0]
   ·rw [if_neg h0, if_pos (by omega)]
  rw [hc]
  clear hc
  go_enter Tryz.func149, Tryz.ntmps149
  go_wp2_with (go_at_call 104; refine (column_any _ _).mono ?_; rintro e w' ⟨rfl, rfl⟩; rw [hd])
  go_ret
  exact ⟨rfl, rfl⟩
def place_Col.f (a0 : Int) : Option (ByteArray) := some (colB a0)
theorem place_Col.calls (a0 : Int) (r : ByteArray) (w : World) (h : place_Col.f a0 = some r) :
 Calls Tryz.prog 149 #[.int .i64 a0] w fun e w' => e = .returned (.string r) ∧ Drawn0 w w' := by
 obtain rfl := Option.some.inj h
 exact (col_any a0 w).mono fun e w' ⟨he, hw⟩ => ⟨he, hw ▸ Drawn0.refl _⟩
theorem row_any (n : Int) (w : World) : Calls Tryz.prog 103 #[.int .i64 n] w fun e w' => e = .returned (.bool (decide (0 ≤ n ∧ n < 65536))) ∧ w = w' := by
 by_cases h : 0 ≤ n
 ·have hd : decide (0 ≤ n) = true := decide_eq_true h
  have hx : decide (0 ≤ n ∧ n < 65536) = decide (n < 65536) := by simp [h]
  rw [hx]
  clear hx
  go_enter Tryz.func103, Tryz.ntmps103
  go_wp2
  go_ret
  exact ⟨rfl, rfl⟩
 ·have hd : decide (0 ≤ n) = false := decide_eq_false h
  have hx : decide (0 ≤ n ∧ n < 65536) = false := by simp [h]
  rw [hx]
  clear hx
  go_enter Tryz.func103, Tryz.ntmps103
  go_wp2
  go_ret
  exact ⟨rfl, rfl⟩
def upAt (s : ByteArray) (i : Int) : Bool := decide (i < s.size) && decide (65 ≤ bt s i) && decide (bt s i ≤ 90)
def headN (s : ByteArray) : Nat := if upAt s 0 then (if upAt s 1 then 2 else 1) else 0
def headC (s : ByteArray) : Int := if upAt s 0 then (if upAt s 1 then 26 * (bt s 0 - 65 + 1) + (bt s 1 - 65) else bt s 0 - 65) else -1
def AtHead (s : ByteArray) (v5 v6 : Value) : Prop := v5 = .int .i64 (headN s : Nat) ∧ v6 = .int .i64 (headC s)
theorem head_two {s : ByteArray} (h0 : 65 ≤ bt s 0) (h1 : bt s 0 ≤ 90) (hl : 1 < (s.size : Int)) (h2 : 65 ≤ bt s 1) (h3 : bt s 1 ≤ 90) : headN s = 2 ∧ headC s = 26 * (bt s 0 - 65 + 1) + (bt s 1 - 65) := by
 have a : upAt s 0 = true := by unfold upAt; simp [h0, h1]; omega
 have b : upAt s 1 = true := by unfold upAt; simp [h2, h3]; omega
 simp [headN, headC, a, b]
theorem head_one {s : ByteArray} (h0 : 65 ≤ bt s 0) (h1 : bt s 0 ≤ 90) (hl : 0 < (s.size : Int)) (h : ¬ (1 < (s.size : Int) ∧ 65 ≤ bt s 1 ∧ bt s 1 ≤ 90)) : headN s = 1 ∧ headC s = bt s 0 - 65 := by
 have a : upAt s 0 = true := by unfold upAt; simp [h0, h1]; omega
 have b : upAt s 1 = false := by unfold upAt; simp; omega
 simp [headN, headC, a, b]
theorem head_none {s : ByteArray} (h : ¬ (0 < (s.size : Int) ∧ 65 ≤ bt s 0 ∧ bt s 0 ≤ 90)) : headN s = 0 ∧ headC s = -1 := by
 have a : upAt s 0 = false := by unfold upAt; simp; omega
 simp [headN, headC, a]
theorem head_le (s : ByteArray) : headN s ≤ 2 ∧ headN s ≤ s.size := by
 unfold headN
 by_cases a : upAt s 0 = true
 ·by_cases b : upAt s 1 = true
  ·rw [if_pos a, if_pos b]; unfold upAt at b; simp at b; omega
  ·rw [if_pos a, if_neg b]; unfold upAt at a; simp at a; omega
 ·rw [if_neg a]; omega
theorem headC_le (s : ByteArray) : -1 ≤ headC s ∧ headC s ≤ 5000 := by
 have r0 := bt_range s 0
 have r1 := bt_range s 1
 unfold headC
 by_cases a : upAt s 0 = true
 ·by_cases b : upAt s 1 = true
  ·rw [if_pos a, if_pos b]; unfold upAt at a b; simp at a b; omega
  ·rw [if_pos a, if_neg b]; unfold upAt at a; simp at a; omega
 ·rw [if_neg a]; omega
def faultsL : List ByteArray := [⟨#[35, 68, 73, 86, 47, 48, 33]⟩, ⟨#[35, 86, 65, 76, 85, 69, 33]⟩, ⟨#[35, 82, 69, 70, 33]⟩, ⟨#[35, 78, 85, 77, 33]⟩, ⟨#[35, 78, 47, 65]⟩, ⟨#[35, 67, 73, 82, 67, 76, 69, 33]⟩, ⟨#[35, 76, 79, 78, 71, 33]⟩, ⟨#[35, 65, 82, 71, 33]⟩]
def pairsL : List ByteArray := [⟨#[60, 62]⟩, ⟨#[60, 61]⟩, ⟨#[62, 61]⟩]
structure GL (w : World) : Prop where
 tab : Lib.TabIs Tryz.prog w "internal/strconv.uint64pow10" .u64 Lib.pow10Tab
 syn : ∃ t p, w.cell? ⟨10, 0, none⟩ = some (.iface t p)
 rng : ∃ t p, w.cell? ⟨11, 0, none⟩ = some (.iface t p)
 maxl : ∃ m, w.cell? ⟨3, 0, none⟩ = some (.int .i64 m)
 fau : Kd.C Kd.string w (some ⟨0, 0, none⟩) faultsL.length faultsL
 prs : Kd.C Kd.string w (some ⟨1, 0, none⟩) pairsL.length pairsL
 nms : Kd.C Kd.string w (some ⟨2, 0, none⟩) faultsL.length faultsL
theorem gTab : Tryz.prog.globalNamed "internal/strconv.uint64pow10" = some 7 := by kernel_rfl
theorem GL.below {w w' : World} (h : GL w) (hb : Below w.heap.size w w') : GL w' := by
 obtain ⟨ht, ⟨t1, p1, h1⟩, ⟨t2, p2, h2⟩, ⟨m, hm⟩, hf, hp, hn⟩ := h
 exact ⟨Joins.tab_stays gTab ht hb (Nat.le_refl _), ⟨t1, p1, (hb.cell (World.block_lt_of_cell? _ _ h1)).trans h1⟩, ⟨t2, p2, (hb.cell (World.block_lt_of_cell? _ _ h2)).trans h2⟩, ⟨m, (hb.cell (World.block_lt_of_cell? _ _ hm)).trans hm⟩, Kd.C_below hf hb, Kd.C_below hp hb, Kd.C_below hn hb⟩
theorem itoa_any (n : Int) (w : World) (h0 : -9223372036854775808 ≤ n) (h1 : n ≤ 9223372036854775807) (hG : (0 ≤ n ∧ n < 100) ∨ GL w) :
 Calls Tryz.prog 150 #[.int .i64 n] w fun e w' => e = .returned (.string ⟨(Lib.itoa n).toArray⟩) ∧ Below w.heap.size w w' := by
 rcases hG with ⟨a, b⟩ | hG
 ·obtain ⟨k, rfl⟩ := Int.eq_ofNat_of_zero_le a
  have e : Lib.itoa (k : Int) = Lib.decDigits k := by unfold Lib.itoa; rw [if_neg (by omega), Int.toNat_natCast]
  rw [e]
  exact (Tryz.strconv_Itoa_small k (by omega) w).mono fun e w' ⟨he, hw⟩ => ⟨he, by rw [hw]; exact Below.refl _ _⟩
 ·exact (Tryz.strconv_Itoa n h0 h1 w hG.tab).mono fun e w' ⟨he, k, os, hw⟩ => ⟨he, by rw [hw]; exact Lib.below_grow _ _ (Nat.le_refl _) _ _⟩
def tailF (T : ByteArray) (C : Int) : Int × Int × Bool :=
 match Lib.atoiAll T.data.toList with
 | .ok v => if Lib.itoa v = T.data.toList ∧ (0 ≤ v - 1 ∧ v - 1 < 65536) ∧ (0 ≤ C ∧ C < 256) then (v - 1, C, true) else (0, 0, false)
 | _ => (0, 0, false)
theorem bdN {B : Nat} {a w : World} (h : Below B a w) (n : Nat) : Below B a (w.drewN n) := ⟨h.os, h.tape, h.output, h.size, h.block⟩
theorem bnx {w a b : World} (h : Below w.heap.size w a) (k : Below a.heap.size a b) : Below w.heap.size w b := h.trans (k.mono h.size)
theorem bnxd {w a b : World} (h : Below w.heap.size w a) (k : Below a.drew.heap.size a.drew b) : Below w.heap.size w b := h.drew.trans (k.mono h.size)
def readF (s : ByteArray) : Int × Int × Bool := tailF (s.extract (headN s) s.size) (headC s)
theorem readF_eq (s : ByteArray) : readF s = tailF (s.extract (headN s) s.size) (headC s) := rfl
def readG (s : ByteArray) (w : World) : Prop := (∃ v, Lib.atoiAll (s.extract (headN s) s.size).data.toList = .ok v ∧ 0 ≤ v ∧ v < 100) ∨ GL w
theorem row_is (n : Int) (b : Bool) (w : World) (h : decide (0 ≤ n ∧ n < 65536) = b) : Calls Tryz.prog 103 #[.int .i64 n] w fun e w' => e = .returned (.bool b) ∧ w = w' := by
 have := row_any n w; rwa [h] at this
theorem column_is (n : Int) (b : Bool) (w : World) (h : decide (0 ≤ n ∧ n < 256) = b) : Calls Tryz.prog 104 #[.int .i64 n] w fun e w' => e = .returned (.bool b) ∧ w = w' := by
 have := column_any n w; rwa [h] at this
def ReadPost (s : ByteArray) (w : World) (e : Ending) (w' : World) : Prop := e = .returned (.tuple #[.int .i64 (readF s).1, .int .i64 (readF s).2.1, .bool (readF s).2.2]) ∧ Below w.heap.size w w'
set_option maxRecDepth 100000 in
set_option maxHeartbeats 4000000 in
theorem read_any (s : ByteArray) (w : World) (hs : s.size ≤ 140737488351232) (hG : readG s w) : Calls Tryz.prog 221 #[.string s] w (ReadPost s w) := by
 have e0 : ∀ h : 0 < s.size, ((s[0]'h).toNat : Int) = bt s 0 := fun h => bt_at s 0 h
 have e1 : ∀ h : 1 < s.size, ((s[1]'h).toNat : Int) = bt s 1 := fun h => bt_at s 1 h
 have r0 := bt_range s 0
 have r1 := bt_range s 1
 have HG := Lib.hid hG
 clear hG
 go_enter Tryz.func221, Tryz.ntmps221
 go_upto_block 0 with (fail)
 go_cut [5, 6] (fun v5 v6 w' => AtHead s v5 v6 ∧ w = w')
 case first =>
  go_wp2
  refine wp_loop_rounds 3 ?_
  rw [rounds_succ]
  go_wp2_with fail
  all_goals try (rw [rounds_succ]; go_wp2_with fail)
  all_goals try (rw [rounds_succ]; go_wp2_with fail)
  all_goals
   go_meet
   refine ⟨?_, rfl⟩
   first
    | (have h := head_two (s := s) (by assumption) (by assumption) (by omega) (by assumption) (by assumption); exact ⟨by rw [h.1]; rfl, by rw [h.2]⟩)
    | (have h := head_one (s := s) (by assumption) (by assumption) (by omega) (by omega); exact ⟨by rw [h.1]; rfl, by rw [h.2]⟩)
    | (have h := head_none (s := s) (by omega); exact ⟨by rw [h.1]; rfl, by rw [h.2]⟩)
 case rest =>
  clear e0 e1 r0 r1
  obtain ⟨⟨rfl, rfl⟩, rfl⟩ := hcut
  have hl := head_le s
  have hc := headC_le s
  have HF := Lib.hid (readF_eq s)
  unfold readG at HG
  generalize headN s = k at *
  generalize headC s = C at *
  obtain ⟨hl1, hl2⟩ := hl
  obtain ⟨hc1, hc2⟩ := hc
  have hT : (s.extract k s.size).size ≤ 140737488351232 := by rw [ByteArray.size_extract]; omega
  cases hat : Lib.atoiAll (s.extract k s.size).data.toList with
  | range =>
   have hf : readF s = (0, 0, false) := by rw [HF.out]; unfold tailF; rw [hat]
   have hGL : GL w := by rcases HG.out with ⟨v, e, _⟩ | g; (· rw [hat] at e; cases e); exact g
   obtain ⟨t1, p1, hv⟩ := hGL.rng
   have HV := Lib.hid hv
   have HA := Lib.hid hat
   clear hv hat hGL
   have HF2 := Lib.hid hf
   clear hf HF HG
   go_wp2_with (go_at_call 234; refine (Tryz.strconv_Atoi_range _ (by omega) HA.out _ _ HV.out (.inr ⟨_, _, rfl⟩)).mono ?_; rintro e w' ⟨N, rfl, _, _, hb⟩)
   go_quiet (fail)
   go_wp2
   go_ret3
   exact ⟨by rw [HF2.out]; rfl, bdN hb _⟩
  | ok v =>
   have hv := Lib.atoiAll_bounds hat
   obtain ⟨hv0, hv1⟩ := hv
   have hf : readF s = if Lib.itoa v = (s.extract k s.size).data.toList ∧ (0 ≤ v - 1 ∧ v - 1 < 65536) ∧ (0 ≤ C ∧ C < 256) then (v - 1, C, true) else (0, 0, false) := by rw [HF.out]; unfold tailF; rw [hat]
   have hGL : (0 ≤ v ∧ v < 100) ∨ GL w := by
    rcases HG.out with ⟨v', e, h⟩ | g
    ·rw [hat] at e; injection e with e; subst e; exact .inl h
    ·exact .inr g
   have HGL := Lib.hid hGL
   have HA := Lib.hid hat
   clear hGL hat HG HF
   obtain ⟨R, hR⟩ : ∃ R : ByteArray, (⟨(Lib.itoa v).toArray⟩ : ByteArray) = R := ⟨_, rfl⟩
   have hRl : R.toList = Lib.itoa v := by rw [← hR]; exact ByteArray.toList_eq _
   have HC : ∀ W, Below w.heap.size w W → Calls Tryz.prog 150 #[.int .i64 v] W fun e w' => e = .returned (.string R) ∧ Below W.heap.size W w' := fun W hb => by
    rw [← hR]
    exact itoa_any v W hv0 hv1 (HGL.out.imp id fun g => g.below hb)
   have HIT := Lib.hid HC
   clear HC HGL hR
   by_cases c1 : Lib.itoa v = (s.extract k s.size).data.toList
   ·have ht : (R.toList == (s.extract k s.size).toList) = true := by rw [hRl, c1, ByteArray.toList_eq]; simp
    have ht2 : (R.toList != (s.extract k s.size).toList) = false := by rw [hRl, c1, ByteArray.toList_eq]; simp
    by_cases c2 : 0 ≤ v - 1 ∧ v - 1 < 65536
    ·have wv : IntKind.i64.wrap (v - 1) = v - 1 := by rw [IntKind.wrap_i64]; omega
     by_cases c3 : 0 ≤ C ∧ C < 256
     ·rw [if_pos ⟨c1, c2, c3⟩] at hf
      have HF2 := Lib.hid hf
      obtain ⟨c2a, c2b⟩ := c2
      obtain ⟨c3a, c3b⟩ := c3
      clear c1
      clear hf hRl
      go_wp2_with (go_at_call 234; refine (Tryz.strconv_Atoi_ok _ (by omega) v HA.out _).mono ?_; rintro e w' ⟨rfl, hw⟩)
      have hb0 : Below w.heap.size w w' := by rcases hw with rfl | ⟨t, rfl⟩; exact Below.refl _ _; exact Lib.bytesWorld_below _ _ _
      clear hw
      go_region_held3 (fun W => Below w.heap.size w W) (first | assumption | exact Below.drew (by assumption) | exact bdN (by assumption) _ | exact bnx (by assumption) (by assumption) | exact bnxd (by assumption) (by assumption)) (first | (go_at_call 150; refine (HIT.out _ (by first | assumption | exact Below.drew (by assumption) | exact bdN (by assumption) _)).mono ?_; rintro e w1 ⟨rfl, hw1⟩) | (go_at_call 103; refine (row_is _ true _ (decide_eq_true ⟨by omega, by omega⟩)).mono ?_; rintro e w2 ⟨rfl, rfl⟩) | (go_at_call 104; refine (column_is _ true _ (decide_eq_true ⟨by omega, by omega⟩)).mono ?_; rintro e w3 ⟨rfl, rfl⟩))
      all_goals go_wp2
      all_goals go_ret3
      all_goals exact ⟨by rw [HF2.out]; rfl, by first | assumption | exact Below.drew (by assumption) | exact bdN (by assumption) _⟩
     ·rw [if_neg (fun h => c3 h.2.2)] at hf
      have HF2 := Lib.hid hf
      obtain ⟨c2a, c2b⟩ := c2
      have d3 := decide_eq_false c3
      clear c1 c3
      clear hf hRl
      go_wp2_with (go_at_call 234; refine (Tryz.strconv_Atoi_ok _ (by omega) v HA.out _).mono ?_; rintro e w' ⟨rfl, hw⟩)
      have hb0 : Below w.heap.size w w' := by rcases hw with rfl | ⟨t, rfl⟩; exact Below.refl _ _; exact Lib.bytesWorld_below _ _ _
      clear hw
      go_region_held3 (fun W => Below w.heap.size w W) (first | assumption | exact Below.drew (by assumption) | exact bdN (by assumption) _ | exact bnx (by assumption) (by assumption) | exact bnxd (by assumption) (by assumption)) (first | (go_at_call 150; refine (HIT.out _ (by first | assumption | exact Below.drew (by assumption) | exact bdN (by assumption) _)).mono ?_; rintro e w1 ⟨rfl, hw1⟩) | (go_at_call 103; refine (row_is _ true _ (decide_eq_true ⟨by omega, by omega⟩)).mono ?_; rintro e w2 ⟨rfl, rfl⟩) | (go_at_call 104; refine (column_is _ false _ d3).mono ?_; rintro e w3 ⟨rfl, rfl⟩))
      all_goals go_wp2
      all_goals go_ret3
      all_goals exact ⟨by rw [HF2.out]; rfl, by first | assumption | exact Below.drew (by assumption) | exact bdN (by assumption) _⟩
    ·rw [if_neg (fun h => c2 h.2.1)] at hf
     have HF2 := Lib.hid hf
     have d2 : decide (0 ≤ wrap64 (v - 1) ∧ wrap64 (v - 1) < 65536) = false := decide_eq_false (by unfold wrap64; omega)
     clear c1 c2
     clear hf hRl
     go_wp2_with (go_at_call 234; refine (Tryz.strconv_Atoi_ok _ (by omega) v HA.out _).mono ?_; rintro e w' ⟨rfl, hw⟩)
     have hb0 : Below w.heap.size w w' := by rcases hw with rfl | ⟨t, rfl⟩; exact Below.refl _ _; exact Lib.bytesWorld_below _ _ _
     clear hw
     refine start_ (n := 21) (S := fun w' => Below w.heap.size w w') (ds := []) #[false, false, false, false, false, false, false, false, false, false, false, false, false, false, false, false, false, false, false, false, false] (by kernel_rfl) rfl rfl (hb0.drew) (fun hHeld => ?_)
     refine pP 0 47 ?_
     refine pP 1 48 ?_
     refine pP 2 49 ?_
     refine pP 3 50 ?_
     refine pP 5 52 ?_
     refine pP 6 53 ?_
     refine pP 7 54 ?_
     refine one_ (i := 4) (N := some 51) #[true, true, true, true, true, true, true, true, false, false, false, false, false, false, false, false, false, false, false, false, false] rfl rfl (by kernel_rfl) (by decide) (fun K hK => ?_)
     refine goes_ Tryz.func150 (by kernel_rfl) rfl #[.int .i64 v] (by rfl) rfl rfl (by simp only [List.map_toArray, List.map_cons, List.map_nil]; rfl) ?_
     with_reducible refine (HIT.out _ (by first | exact hHeld | exact Below.drew hHeld | exact bdN hHeld _)).mono ?_
     rintro e w1 ⟨rfl, hw1⟩
     refine ⟨_, rfl, ?_⟩
     refine hK.out _ _ (bnx hHeld hw1) (fun hHeld => ?_)
     clear hK K
     refine norm_ (a' := ?_) ?_ ?_
     rotate_left
     ·show Act.put _ (some 51) _ = _
      simp only [Act.put, List.setIfInBounds_toArray, List.set_cons_zero, List.set_cons_succ, i64_w, i32_w]
      rfl
     refine pP 8 55 ?_
     refine pP 9 56 ?_
     refine pP 10 57 ?_
     refine pP 11 58 ?_
     refine pP 12 59 ?_
     refine one_ (i := 13) (N := some 60) #[true, true, true, true, true, true, true, true, true, true, true, true, true, true, false, false, false, false, false, false, false] rfl rfl (by kernel_rfl) (by decide) (fun K hK => ?_)
     refine goes_ Tryz.func103 (by kernel_rfl) rfl #[.int .i64 (wrap64 (v - 1))] (by rfl) rfl rfl (by simp only [List.map_toArray, List.map_cons, List.map_nil]; rfl) ?_
     with_reducible refine (row_is _ false _ d2).mono ?_
     rintro e w2 ⟨rfl, rfl⟩
     refine ⟨_, rfl, ?_⟩
     refine hK.out _ _ (hHeld) (fun hHeld => ?_)
     clear hK K
     refine norm_ (a' := ?_) ?_ ?_
     rotate_left
     ·show Act.put _ (some 60) _ = _
      simp only [Act.put, List.setIfInBounds_toArray, List.set_cons_zero, List.set_cons_succ, i64_w, i32_w]
      rfl
     refine pP 14 61 ?_
     refine pP 15 62 ?_
     refine pP 16 63 ?_
     refine uP 17 64 ?_
     refine uP 18 65 ?_
     refine uP 19 66 ?_
     refine pP 20 67 ?_
     refine done_ (by kernel_rfl) ?_
     all_goals go_wp2
     all_goals go_ret3
     all_goals exact ⟨by rw [HF2.out]; rfl, by first | assumption | exact Below.drew (by assumption) | exact bdN (by assumption) _⟩
   ·rw [if_neg (fun h => c1 h.1)] at hf
    have HF2 := Lib.hid hf
    have ht : (R.toList == (s.extract k s.size).toList) = false := by rw [hRl, ByteArray.toList_eq]; exact beq_eq_false_iff_ne.mpr c1
    have ht2 : (R.toList != (s.extract k s.size).toList) = true := by rw [hRl, ByteArray.toList_eq]; exact bne_iff_ne.mpr c1
    clear c1
    clear hf hRl
    go_wp2_with (go_at_call 234; refine (Tryz.strconv_Atoi_ok _ (by omega) v HA.out _).mono ?_; rintro e w' ⟨rfl, hw⟩)
    have hb0 : Below w.heap.size w w' := by rcases hw with rfl | ⟨t, rfl⟩; exact Below.refl _ _; exact Lib.bytesWorld_below _ _ _
    clear hw
    refine start_ (n := 21) (S := fun w' => Below w.heap.size w w') (ds := []) #[false, false, false, false, false, false, false, false, false, false, false, false, false, false, false, false, false, false, false, false, false] (by kernel_rfl) rfl rfl (hb0.drew) (fun hHeld => ?_)
    refine pP 0 47 ?_
    refine pP 1 48 ?_
    refine pP 2 49 ?_
    refine pP 3 50 ?_
    refine pP 5 52 ?_
    refine pP 6 53 ?_
    refine pP 7 54 ?_
    refine one_ (i := 4) (N := some 51) #[true, true, true, true, true, true, true, true, false, false, false, false, false, false, false, false, false, false, false, false, false] rfl rfl (by kernel_rfl) (by decide) (fun K hK => ?_)
    refine goes_ Tryz.func150 (by kernel_rfl) rfl #[.int .i64 v] (by rfl) rfl rfl (by simp only [List.map_toArray, List.map_cons, List.map_nil]; rfl) ?_
    with_reducible refine (HIT.out _ (by first | exact hHeld | exact Below.drew hHeld | exact bdN hHeld _)).mono ?_
    rintro e w1 ⟨rfl, hw1⟩
    refine ⟨_, rfl, ?_⟩
    refine hK.out _ _ (bnx hHeld hw1) (fun hHeld => ?_)
    clear hK K
    refine norm_ (a' := ?_) ?_ ?_
    rotate_left
    ·show Act.put _ (some 51) _ = _
     simp only [Act.put, List.setIfInBounds_toArray, List.set_cons_zero, List.set_cons_succ, i64_w, i32_w]
     rfl
    refine pP 8 55 ?_
    refine pP 9 56 ?_
    refine pP 10 57 ?_
    refine uP 11 58 ?_
    refine uP 12 59 ?_
    refine uP 13 60 ?_
    refine uP 14 61 ?_
    refine pP 15 62 ?_
    refine pP 16 63 ?_
    refine uP 17 64 ?_
    refine uP 18 65 ?_
    refine uP 19 66 ?_
    refine pP 20 67 ?_
    refine done_ (by kernel_rfl) ?_
    all_goals go_wp2
    all_goals go_ret3
    all_goals exact ⟨by rw [HF2.out]; rfl, by first | assumption | exact Below.drew (by assumption) | exact bdN (by assumption) _⟩
  | _ =>
   have hf : readF s = (0, 0, false) := by rw [HF.out]; unfold tailF; rw [hat]
   have hGL : GL w := by rcases HG.out with ⟨v, e, _⟩ | g; (· rw [hat] at e; cases e); exact g
   obtain ⟨t1, p1, hv⟩ := hGL.syn
   have HV := Lib.hid hv
   have HA := Lib.hid hat
   clear hv hat hGL
   have HF2 := Lib.hid hf
   clear hf HF HG
   go_wp2_with (go_at_call 234; refine (Any.strconv_Atoi_syntax Tryz.laysC172 _ (by omega) HA.out _ _ HV.out (.inr ⟨_, _, rfl⟩)).mono ?_; rintro e w' ⟨N, rfl, _, _, hb⟩)
   go_quiet (fail)
   go_wp2
   go_ret3
   exact ⟨by rw [HF2.out]; rfl, bdN hb _⟩
end Go.Proofs.YtejbbceidnaloaaGreatDoor.P
