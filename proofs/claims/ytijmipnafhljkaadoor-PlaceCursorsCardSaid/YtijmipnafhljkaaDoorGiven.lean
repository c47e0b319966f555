/-
  Contracts, by hand, of the functions of chapter 3 that the kit's print does not take: Col, Itoa, Read, Right.
-/
import Derived.Test.YtijmipnafhljkaaDoorShelf
import Derived.Laws.Runes
import Derived.Test.YtijmipnafhljkaaDoorPx0
import Derived.Lib.AtoiAll
import Derived.Below
import Derived.Deep.Draws
import Derived.WalkKit
import Derived.KernelRfl
import Derived.Tactics
import Derived.Deep.QuietTactic
import Derived.BigQuiet
import Derived.Lib.AtoiErrMem
import Derived.Lib.AppendIntMem
import Derived.Lib.SmallJoins
import Derived.Lib.AtoiAllCases
import Derived.LoopN
import Derived.Deep.DeepCutAuto
import Derived.Deep.CutBlock
import Derived.Deep.RegionHeld3
import Derived.Deep.RegionWith
namespace Go.Proofs.YtijmipnafhljkaaDoor.P
open Go.RowKit Go.Proofs.YtijmipnafhljkaaDoorW.PrintWords Go.Proofs.YtijmipnafhljkaaDoorW.PrintLast
set_option linter.unusedVariables false
set_option linter.unusedSimpArgs false

theorem encode_ascii (n : Int) (h0 : 0 ≤ n) (h1 : n < 128) : Utf8.encode n = ⟨#[UInt8.ofNat n.toNat]⟩ := by
  have hv : Utf8.valid n = true := by unfold Utf8.valid; simp; omega
  unfold Utf8.encode
  simp only [hv, if_true]
  rw [if_pos (by omega)]

def colB (n : Int) : ByteArray :=
  if n < 0 then ⟨#[]⟩ else if 256 ≤ n then ⟨#[]⟩ else if n < 26 then ⟨#[UInt8.ofNat (65 + n).toNat]⟩
  else ⟨#[UInt8.ofNat (65 + n / 26 - 1).toNat]⟩ ++ ⟨#[UInt8.ofNat (65 + n % 26).toNat]⟩

theorem column_any (n : Int) (w : World) : Calls Tryd.prog 61 #[.int .i64 n] w fun e w' => e = .returned (.bool (decide (0 ≤ n ∧ n < 256))) ∧ w = w' := by
  by_cases h : 0 ≤ n
  · have hd : decide (0 ≤ n) = true := decide_eq_true h
    have hx : decide (0 ≤ n ∧ n < 256) = decide (n < 256) := by simp [h]
    rw [hx]
    clear hx
    go_enter Tryd.func61, Tryd.ntmps61
    go_wp2
    go_ret
    exact ⟨rfl, rfl⟩
  · have hd : decide (0 ≤ n) = false := decide_eq_false h
    have hx : decide (0 ≤ n ∧ n < 256) = false := by simp [h]
    rw [hx]
    clear hx
    go_enter Tryd.func61, Tryd.ntmps61
    go_wp2
    go_ret
    exact ⟨rfl, rfl⟩

theorem col_any (n : Int) (w : World) : Calls Tryd.prog 25 #[.int .i64 n] w fun e w' => e = .returned (.string (colB n)) ∧ w = w' := by
  by_cases h : 0 ≤ n ∧ n < 256
  · have hd : decide (0 ≤ n ∧ n < 256) = true := decide_eq_true h
    obtain ⟨h0, h1⟩ := h
    by_cases h2 : n < 26
    · have hd2 : decide (n < 26) = true := decide_eq_true h2
      have hc : colB n = Utf8.encode (65 + n) := by
        unfold colB; rw [encode_ascii _ (by omega) (by omega), if_neg (by omega), if_neg (by omega), if_pos h2]
      rw [hc]
      clear hc
      go_enter Tryd.func25, Tryd.ntmps25
      go_wp2_with (go_at_call 61; refine (column_any _ _).mono ?_; rintro e w' ⟨rfl, rfl⟩; rw [hd])
      go_ret
      exact ⟨rfl, rfl⟩
    · have hd2 : decide (n < 26) = false := decide_eq_false h2
      have hc : colB n = Utf8.encode (65 + n / 26 - 1) ++ Utf8.encode (65 + n % 26) := by
        unfold colB; rw [encode_ascii _ (by omega) (by omega), encode_ascii _ (by omega) (by omega), if_neg (by omega), if_neg (by omega), if_neg h2]
      rw [hc]
      clear hc
      have hsz : (Utf8.encode (65 + n / 26 - 1)).size + (Utf8.encode (65 + n % 26)).size ≤ 9223372036854775807 := by
        rw [encode_ascii _ (by omega) (by omega), encode_ascii _ (by omega) (by omega)]; simp [ByteArray.size]
      go_enter Tryd.func25, Tryd.ntmps25
      go_wp2_with (go_at_call 61; refine (column_any _ _).mono ?_; rintro e w' ⟨rfl, rfl⟩; rw [hd])
      go_ret
      exact ⟨rfl, rfl⟩
  · have hd : decide (0 ≤ n ∧ n < 256) = false := decide_eq_false h
    have hc : colB n = ⟨#[]⟩ := by
      unfold colB
      by_cases h0 : n < 0
      · rw [if_pos h0]
      · rw [if_neg h0, if_pos (by omega)]
    rw [hc]
    clear hc
    go_enter Tryd.func25, Tryd.ntmps25
    go_wp2_with (go_at_call 61; refine (column_any _ _).mono ?_; rintro e w' ⟨rfl, rfl⟩; rw [hd])
    go_ret
    exact ⟨rfl, rfl⟩

def place_Col.f (a0 : Int) : Option (ByteArray) := some (colB a0)
theorem place_Col.calls (a0 : Int) (r : ByteArray) (w : World) (h : place_Col.f a0 = some r) :
    Calls Tryd.prog 25 #[.int .i64 a0] w fun e w' => e = .returned (.string r) ∧ Drawn0 w w' := by
  obtain rfl := Option.some.inj h
  exact (col_any a0 w).mono fun e w' ⟨he, hw⟩ => ⟨he, hw ▸ Drawn0.refl _⟩

/-- Itoa, below 100 alone: there it reads no table. -/
def strconv_Itoa_64.f (a0 : Int) : Option (ByteArray) := if 0 ≤ a0 ∧ a0 < 100 then some ⟨(Lib.decDigits a0.toNat).toArray⟩ else none
theorem strconv_Itoa_64.calls (a0 : Int) (r : ByteArray) (w : World) (h : strconv_Itoa_64.f a0 = some r) :
    Calls Tryd.prog 64 #[.int .i64 a0] w fun e w' => e = .returned (.string r) ∧ Drawn0 w w' := by
  unfold strconv_Itoa_64.f at h
  by_cases c : 0 ≤ a0 ∧ a0 < 100
  · rw [if_pos c] at h
    obtain rfl := Option.some.inj h
    obtain ⟨n, rfl⟩ := Int.eq_ofNat_of_zero_le c.1
    rw [Int.toNat_natCast]
    exact (Tryd.strconv_Itoa_small n (by omega) w).mono fun e w' ⟨he, hw⟩ => ⟨he, hw ▸ Drawn0.refl _⟩
  · rw [if_neg c] at h
    cases h

theorem row_any (n : Int) (w : World) : Calls Tryd.prog 60 #[.int .i64 n] w fun e w' => e = .returned (.bool (decide (0 ≤ n ∧ n < 65536))) ∧ w = w' := by
  by_cases h : 0 ≤ n
  · have hd : decide (0 ≤ n) = true := decide_eq_true h
    have hx : decide (0 ≤ n ∧ n < 65536) = decide (n < 65536) := by simp [h]
    rw [hx]
    clear hx
    go_enter Tryd.func60, Tryd.ntmps60
    go_wp2
    go_ret
    exact ⟨rfl, rfl⟩
  · have hd : decide (0 ≤ n) = false := decide_eq_false h
    have hx : decide (0 ≤ n ∧ n < 65536) = false := by simp [h]
    rw [hx]
    clear hx
    go_enter Tryd.func60, Tryd.ntmps60
    go_wp2
    go_ret
    exact ⟨rfl, rfl⟩

theorem atoi3 : Lib.atoiAll (ByteArray.data (⟨#[51]⟩ : ByteArray)).toList = .ok 3 := by decide +kernel
def upAt (s : ByteArray) (i : Int) : Bool := decide (i < s.size) && decide (65 ≤ bt s i) && decide (bt s i ≤ 90)
/-- How many letters stand ahead (two at most), and the column that they say. -/
def headN (s : ByteArray) : Nat := if upAt s 0 then (if upAt s 1 then 2 else 1) else 0
def headC (s : ByteArray) : Int := if upAt s 0 then (if upAt s 1 then 26 * (bt s 0 - 65 + 1) + (bt s 1 - 65) else bt s 0 - 65) else -1
def AtHead (s : ByteArray) (v5 v6 : Value) : Prop := v5 = .int .i64 (headN s : Nat) ∧ v6 = .int .i64 (headC s)
theorem head_two {s : ByteArray} (h0 : 65 ≤ bt s 0) (h1 : bt s 0 ≤ 90) (hl : 1 < (s.size : Int)) (h2 : 65 ≤ bt s 1) (h3 : bt s 1 ≤ 90) : headN s = 2 ∧ headC s = 26 * (bt s 0 - 65 + 1) + (bt s 1 - 65) := by
  have a : upAt s 0 = true := by unfold upAt; simp [h0, h1]; omega
  have b : upAt s 1 = true := by unfold upAt; simp [h2, h3]; omega
  simp [headN, headC, a, b]
theorem head_one {s : ByteArray} (h0 : 65 ≤ bt s 0) (h1 : bt s 0 ≤ 90) (hl : 0 < (s.size : Int)) (h : ¬ (1 < (s.size : Int) ∧ 65 ≤ bt s 1 ∧ bt s 1 ≤ 90)) : headN s = 1 ∧ headC s = bt s 0 - 65 := by
  have a : upAt s 0 = true := by unfold upAt; simp [h0, h1]; omega
  have b : upAt s 1 = false := by unfold upAt; simp; omega
  simp [headN, headC, a, b]
theorem head_none {s : ByteArray} (h : ¬ (0 < (s.size : Int) ∧ 65 ≤ bt s 0 ∧ bt s 0 ≤ 90)) : headN s = 0 ∧ headC s = -1 := by
  have a : upAt s 0 = false := by unfold upAt; simp; omega
  simp [headN, headC, a]
theorem head_le (s : ByteArray) : headN s ≤ 2 ∧ headN s ≤ s.size := by
  unfold headN
  by_cases a : upAt s 0 = true
  · by_cases b : upAt s 1 = true
    · rw [if_pos a, if_pos b]; unfold upAt at b; simp at b; omega
    · rw [if_pos a, if_neg b]; unfold upAt at a; simp at a; omega
  · rw [if_neg a]; omega
theorem headC_le (s : ByteArray) : -1 ≤ headC s ∧ headC s ≤ 5000 := by
  have r0 := bt_range s 0
  have r1 := bt_range s 1
  unfold headC
  by_cases a : upAt s 0 = true
  · by_cases b : upAt s 1 = true
    · rw [if_pos a, if_pos b]; unfold upAt at a b; simp at a b; omega
    · rw [if_pos a, if_neg b]; unfold upAt at a; simp at a; omega
  · rw [if_neg a]; omega

/-- The package-level variables that strconv reads, as they are laid. -/
structure GL (w : World) : Prop where
  tab : Lib.TabIs Tryd.prog w "internal/strconv.uint64pow10" .u64 Lib.pow10Tab
  syn : ∃ t p, w.cell? ⟨0, 0, none⟩ = some (.iface t p)
  rng : ∃ t p, w.cell? ⟨1, 0, none⟩ = some (.iface t p)
theorem gTab : Tryd.prog.globalNamed "internal/strconv.uint64pow10" = some 3 := by kernel_rfl
theorem GL.below {w w' : World} (h : GL w) (hb : Below w.heap.size w w') : GL w' := by
  obtain ⟨ht, ⟨t1, p1, h1⟩, ⟨t2, p2, h2⟩⟩ := h
  exact ⟨Joins.tab_stays gTab ht hb (Nat.le_refl _), ⟨t1, p1, (hb.cell (World.block_lt_of_cell? _ _ h1)).trans h1⟩, ⟨t2, p2, (hb.cell (World.block_lt_of_cell? _ _ h2)).trans h2⟩⟩

theorem itoa_any (n : Int) (w : World) (h0 : -9223372036854775808 ≤ n) (h1 : n ≤ 9223372036854775807) (hG : (0 ≤ n ∧ n < 100) ∨ GL w) :
    Calls Tryd.prog 64 #[.int .i64 n] w fun e w' => e = .returned (.string ⟨(Lib.itoa n).toArray⟩) ∧ Below w.heap.size w w' := by
  rcases hG with ⟨a, b⟩ | hG
  · obtain ⟨k, rfl⟩ := Int.eq_ofNat_of_zero_le a
    have e : Lib.itoa (k : Int) = Lib.decDigits k := by unfold Lib.itoa; rw [if_neg (by omega), Int.toNat_natCast]
    rw [e]
    exact (Tryd.strconv_Itoa_small k (by omega) w).mono fun e w' ⟨he, hw⟩ => ⟨he, by rw [hw]; exact Below.refl _ _⟩
  · exact (Tryd.strconv_Itoa n h0 h1 w hG.tab).mono fun e w' ⟨he, k, os, hw⟩ => ⟨he, by rw [hw]; exact Lib.below_grow _ _ (Nat.le_refl _) _ _⟩

def tailF (T : ByteArray) (C : Int) : Int × Int × Bool :=
  match Lib.atoiAll T.data.toList with
  | .ok v => if Lib.itoa v = T.data.toList ∧ (0 ≤ v - 1 ∧ v - 1 < 65536) ∧ (0 ≤ C ∧ C < 256) then (v - 1, C, true) else (0, 0, false)
  | _ => (0, 0, false)
theorem bdN {B : Nat} {a w : World} (h : Below B a w) (n : Nat) : Below B a (w.drewN n) := ⟨h.os, h.tape, h.output, h.size, h.block⟩
theorem bnx {w a b : World} (h : Below w.heap.size w a) (k : Below a.heap.size a b) : Below w.heap.size w b := h.trans (k.mono h.size)
theorem bnxd {w a b : World} (h : Below w.heap.size w a) (k : Below a.drew.heap.size a.drew b) : Below w.heap.size w b := h.drew.trans (k.mono h.size)
/-- What Read answers. -/
def readF (s : ByteArray) : Int × Int × Bool := tailF (s.extract (headN s) s.size) (headC s)
theorem readF_eq (s : ByteArray) : readF s = tailF (s.extract (headN s) s.size) (headC s) := rfl
/-- What Read asks of the variables. -/
def readG (s : ByteArray) (w : World) : Prop := (∃ v, Lib.atoiAll (s.extract (headN s) s.size).data.toList = .ok v ∧ 0 ≤ v ∧ v < 100) ∨ GL w

theorem row_is (n : Int) (b : Bool) (w : World) (h : decide (0 ≤ n ∧ n < 65536) = b) : Calls Tryd.prog 60 #[.int .i64 n] w fun e w' => e = .returned (.bool b) ∧ w = w' := by
  have := row_any n w; rwa [h] at this
theorem column_is (n : Int) (b : Bool) (w : World) (h : decide (0 ≤ n ∧ n < 256) = b) : Calls Tryd.prog 61 #[.int .i64 n] w fun e w' => e = .returned (.bool b) ∧ w = w' := by
  have := column_any n w; rwa [h] at this
def ReadPost (s : ByteArray) (w : World) (e : Ending) (w' : World) : Prop := e = .returned (.tuple #[.int .i64 (readF s).1, .int .i64 (readF s).2.1, .bool (readF s).2.2]) ∧ Below w.heap.size w w'

set_option maxRecDepth 100000 in
set_option maxHeartbeats 4000000 in
theorem read_any (s : ByteArray) (w : World) (hs : s.size ≤ 140737488351232) (hG : readG s w) : Calls Tryd.prog 55 #[.string s] w (ReadPost s w) := by
  have e0 : ∀ h : 0 < s.size, ((s[0]'h).toNat : Int) = bt s 0 := fun h => bt_at s 0 h
  have e1 : ∀ h : 1 < s.size, ((s[1]'h).toNat : Int) = bt s 1 := fun h => bt_at s 1 h
  have r0 := bt_range s 0
  have r1 := bt_range s 1
  have HG := Lib.hid hG
  clear hG
  go_enter Tryd.func55, Tryd.ntmps55
  go_upto_block 0 with (fail)
  go_cut [5, 6] (fun v5 v6 w' => AtHead s v5 v6 ∧ w = w')
  case first =>
    go_wp2
    refine wp_loop_rounds 3 ?_
    rw [rounds_succ]
    go_wp2_with fail
    all_goals try (rw [rounds_succ]; go_wp2_with fail)
    all_goals try (rw [rounds_succ]; go_wp2_with fail)
    all_goals
      go_meet
      refine ⟨?_, rfl⟩
      first
        | (have h := head_two (s := s) (by assumption) (by assumption) (by omega) (by assumption) (by assumption); exact ⟨by rw [h.1]; rfl, by rw [h.2]⟩)
        | (have h := head_one (s := s) (by assumption) (by assumption) (by omega) (by omega); exact ⟨by rw [h.1]; rfl, by rw [h.2]⟩)
        | (have h := head_none (s := s) (by omega); exact ⟨by rw [h.1]; rfl, by rw [h.2]⟩)
  case rest =>
    clear e0 e1 r0 r1
    obtain ⟨⟨rfl, rfl⟩, rfl⟩ := hcut
    have hl := head_le s
    have hc := headC_le s
    have HF := Lib.hid (readF_eq s)
    unfold readG at HG
    generalize headN s = k at *
    generalize headC s = C at *
    obtain ⟨hl1, hl2⟩ := hl
    obtain ⟨hc1, hc2⟩ := hc
    have hT : (s.extract k s.size).size ≤ 140737488351232 := by rw [ByteArray.size_extract]; omega
    cases hat : Lib.atoiAll (s.extract k s.size).data.toList with
    | range =>
      have hf : readF s = (0, 0, false) := by rw [HF.out]; unfold tailF; rw [hat]
      have hGL : GL w := by rcases HG.out with ⟨v, e, _⟩ | g; (· rw [hat] at e; cases e); exact g
      obtain ⟨t1, p1, hv⟩ := hGL.rng
      have HV := Lib.hid hv
      have HA := Lib.hid hat
      clear hv hat hGL
      have HF2 := Lib.hid hf
      clear hf HF HG
      go_wp2_with (go_at_call 70; refine (Tryd.strconv_Atoi_range _ (by omega) HA.out _ _ HV.out (.inr ⟨_, _, rfl⟩)).mono ?_; rintro e w' ⟨N, rfl, _, _, hb⟩)
      go_quiet (fail)
      go_wp2
      go_ret3
      exact ⟨by rw [HF2.out]; rfl, bdN hb _⟩
    | ok v =>
      have hv := Lib.atoiAll_bounds hat
      obtain ⟨hv0, hv1⟩ := hv
      have hf : readF s = if Lib.itoa v = (s.extract k s.size).data.toList ∧ (0 ≤ v - 1 ∧ v - 1 < 65536) ∧ (0 ≤ C ∧ C < 256) then (v - 1, C, true) else (0, 0, false) := by rw [HF.out]; unfold tailF; rw [hat]
      have hGL : (0 ≤ v ∧ v < 100) ∨ GL w := by
        rcases HG.out with ⟨v', e, h⟩ | g
        · rw [hat] at e; injection e with e; subst e; exact .inl h
        · exact .inr g
      have HGL := Lib.hid hGL
      have HA := Lib.hid hat
      clear hGL hat HG HF
      obtain ⟨R, hR⟩ : ∃ R : ByteArray, (⟨(Lib.itoa v).toArray⟩ : ByteArray) = R := ⟨_, rfl⟩
      have hRl : R.toList = Lib.itoa v := by rw [← hR]; exact ByteArray.toList_eq _
      have HC : ∀ W, Below w.heap.size w W → Calls Tryd.prog 64 #[.int .i64 v] W fun e w' => e = .returned (.string R) ∧ Below W.heap.size W w' := fun W hb => by
        rw [← hR]
        exact itoa_any v W hv0 hv1 (HGL.out.imp id fun g => g.below hb)
      have HIT := Lib.hid HC
      clear HC HGL hR
      by_cases c1 : Lib.itoa v = (s.extract k s.size).data.toList
      · have ht : (R.toList == (s.extract k s.size).toList) = true := by rw [hRl, c1, ByteArray.toList_eq]; simp
        have ht2 : (R.toList != (s.extract k s.size).toList) = false := by rw [hRl, c1, ByteArray.toList_eq]; simp
        by_cases c2 : 0 ≤ v - 1 ∧ v - 1 < 65536
        · have wv : IntKind.i64.wrap (v - 1) = v - 1 := by rw [IntKind.wrap_i64]; omega
          by_cases c3 : 0 ≤ C ∧ C < 256
          · rw [if_pos ⟨c1, c2, c3⟩] at hf
            have HF2 := Lib.hid hf
            obtain ⟨c2a, c2b⟩ := c2
            obtain ⟨c3a, c3b⟩ := c3
            clear c1
            clear hf hRl
            go_wp2_with (go_at_call 70; refine (Tryd.strconv_Atoi_ok _ (by omega) v HA.out _).mono ?_; rintro e w' ⟨rfl, hw⟩)
            have hb0 : Below w.heap.size w w' := by rcases hw with rfl | ⟨t, rfl⟩; exact Below.refl _ _; exact Lib.bytesWorld_below _ _ _
            clear hw
            go_region_held3 (fun W => Below w.heap.size w W) (first | assumption | exact Below.drew (by assumption) | exact bdN (by assumption) _ | exact bnx (by assumption) (by assumption) | exact bnxd (by assumption) (by assumption)) (first | (go_at_call 64; refine (HIT.out _ (by first | assumption | exact Below.drew (by assumption) | exact bdN (by assumption) _)).mono ?_; rintro e w1 ⟨rfl, hw1⟩) | (go_at_call 60; refine (row_is _ true _ (decide_eq_true ⟨by omega, by omega⟩)).mono ?_; rintro e w2 ⟨rfl, rfl⟩) | (go_at_call 61; refine (column_is _ true _ (decide_eq_true ⟨by omega, by omega⟩)).mono ?_; rintro e w3 ⟨rfl, rfl⟩))
            all_goals go_wp2
            all_goals go_ret3
            all_goals exact ⟨by rw [HF2.out]; rfl, by first | assumption | exact Below.drew (by assumption) | exact bdN (by assumption) _⟩
          · rw [if_neg (fun h => c3 h.2.2)] at hf
            have HF2 := Lib.hid hf
            obtain ⟨c2a, c2b⟩ := c2
            have d3 := decide_eq_false c3
            clear c1 c3
            clear hf hRl
            go_wp2_with (go_at_call 70; refine (Tryd.strconv_Atoi_ok _ (by omega) v HA.out _).mono ?_; rintro e w' ⟨rfl, hw⟩)
            have hb0 : Below w.heap.size w w' := by rcases hw with rfl | ⟨t, rfl⟩; exact Below.refl _ _; exact Lib.bytesWorld_below _ _ _
            clear hw
            go_region_held3 (fun W => Below w.heap.size w W) (first | assumption | exact Below.drew (by assumption) | exact bdN (by assumption) _ | exact bnx (by assumption) (by assumption) | exact bnxd (by assumption) (by assumption)) (first | (go_at_call 64; refine (HIT.out _ (by first | assumption | exact Below.drew (by assumption) | exact bdN (by assumption) _)).mono ?_; rintro e w1 ⟨rfl, hw1⟩) | (go_at_call 60; refine (row_is _ true _ (decide_eq_true ⟨by omega, by omega⟩)).mono ?_; rintro e w2 ⟨rfl, rfl⟩) | (go_at_call 61; refine (column_is _ false _ d3).mono ?_; rintro e w3 ⟨rfl, rfl⟩))
            all_goals go_wp2
            all_goals go_ret3
            all_goals exact ⟨by rw [HF2.out]; rfl, by first | assumption | exact Below.drew (by assumption) | exact bdN (by assumption) _⟩
        · rw [if_neg (fun h => c2 h.2.1)] at hf
          have HF2 := Lib.hid hf
          have d2 : decide (0 ≤ wrap64 (v - 1) ∧ wrap64 (v - 1) < 65536) = false := decide_eq_false (by unfold wrap64; omega)
          clear c1 c2
          clear hf hRl
          go_wp2_with (go_at_call 70; refine (Tryd.strconv_Atoi_ok _ (by omega) v HA.out _).mono ?_; rintro e w' ⟨rfl, hw⟩)
          have hb0 : Below w.heap.size w w' := by rcases hw with rfl | ⟨t, rfl⟩; exact Below.refl _ _; exact Lib.bytesWorld_below _ _ _
          clear hw
          refine start_ (n := 21) (S := fun w' => Below w.heap.size w w') (ds := []) #[false, false, false, false, false, false, false, false, false, false, false, false, false, false, false, false, false, false, false, false, false] (by kernel_rfl) rfl rfl (hb0.drew) (fun hHeld => ?_)
          refine pure_ (i := 0) (N := some 47) (v := ?_) (a' := ?_) #[true, false, false, false, false, false, false, false, false, false, false, false, false, false, false, false, false, false, false, false, false] rfl rfl (by kernel_rfl) (fun _ _ _ h => h) (Or.inl ⟨by rfl, ?_⟩) ?_ ?_
          rotate_left
          · intro w'
            go_simp
            with_reducible rfl
          rotate_left
          · simp only [Act.put, List.setIfInBounds_toArray, List.set_cons_zero, List.set_cons_succ, i64_w, i32_w]
            rfl
          refine pure_ (i := 1) (N := some 48) (v := ?_) (a' := ?_) #[true, true, false, false, false, false, false, false, false, false, false, false, false, false, false, false, false, false, false, false, false] rfl rfl (by kernel_rfl) (fun _ _ _ h => h) (Or.inl ⟨by rfl, ?_⟩) ?_ ?_
          rotate_left
          · intro w'
            go_simp
            with_reducible rfl
          rotate_left
          · simp only [Act.put, List.setIfInBounds_toArray, List.set_cons_zero, List.set_cons_succ, i64_w, i32_w]
            rfl
          refine pure_ (i := 2) (N := some 49) (v := ?_) (a' := ?_) #[true, true, true, false, false, false, false, false, false, false, false, false, false, false, false, false, false, false, false, false, false] rfl rfl (by kernel_rfl) (fun _ _ _ h => h) (Or.inl ⟨by rfl, ?_⟩) ?_ ?_
          rotate_left
          · intro w'
            go_simp
            with_reducible rfl
          rotate_left
          · simp only [Act.put, List.setIfInBounds_toArray, List.set_cons_zero, List.set_cons_succ, i64_w, i32_w]
            rfl
          refine pure_ (i := 3) (N := some 50) (v := ?_) (a' := ?_) #[true, true, true, true, false, false, false, false, false, false, false, false, false, false, false, false, false, false, false, false, false] rfl rfl (by kernel_rfl) (fun _ _ _ h => h) (Or.inl ⟨by rfl, ?_⟩) ?_ ?_
          rotate_left
          · intro w'
            go_simp
            with_reducible rfl
          rotate_left
          · simp only [Act.put, List.setIfInBounds_toArray, List.set_cons_zero, List.set_cons_succ, i64_w, i32_w]
            rfl
          refine pure_ (i := 5) (N := some 52) (v := ?_) (a' := ?_) #[true, true, true, true, false, true, false, false, false, false, false, false, false, false, false, false, false, false, false, false, false] rfl rfl (by kernel_rfl) (fun _ _ _ h => h) (Or.inl ⟨by rfl, ?_⟩) ?_ ?_
          rotate_left
          · intro w'
            go_simp
            with_reducible rfl
          rotate_left
          · simp only [Act.put, List.setIfInBounds_toArray, List.set_cons_zero, List.set_cons_succ, i64_w, i32_w]
            rfl
          refine pure_ (i := 6) (N := some 53) (v := ?_) (a' := ?_) #[true, true, true, true, false, true, true, false, false, false, false, false, false, false, false, false, false, false, false, false, false] rfl rfl (by kernel_rfl) (fun _ _ _ h => h) (Or.inl ⟨by rfl, ?_⟩) ?_ ?_
          rotate_left
          · intro w'
            go_simp
            with_reducible rfl
          rotate_left
          · simp only [Act.put, List.setIfInBounds_toArray, List.set_cons_zero, List.set_cons_succ, i64_w, i32_w]
            rfl
          refine pure_ (i := 7) (N := some 54) (v := ?_) (a' := ?_) #[true, true, true, true, false, true, true, true, false, false, false, false, false, false, false, false, false, false, false, false, false] rfl rfl (by kernel_rfl) (fun _ _ _ h => h) (Or.inl ⟨by rfl, ?_⟩) ?_ ?_
          rotate_left
          · intro w'
            go_simp
            with_reducible rfl
          rotate_left
          · simp only [Act.put, List.setIfInBounds_toArray, List.set_cons_zero, List.set_cons_succ, i64_w, i32_w]
            rfl
          refine one_ (i := 4) (N := some 51) #[true, true, true, true, true, true, true, true, false, false, false, false, false, false, false, false, false, false, false, false, false] rfl rfl (by kernel_rfl) (by decide) (fun K hK => ?_)
          refine goes_ Tryd.func64 (by kernel_rfl) rfl #[.int .i64 v] (by rfl) rfl rfl (by simp only [List.map_toArray, List.map_cons, List.map_nil]; rfl) ?_
          with_reducible refine (HIT.out _ (by first | exact hHeld | exact Below.drew hHeld | exact bdN hHeld _)).mono ?_
          rintro e w1 ⟨rfl, hw1⟩
          refine ⟨_, rfl, ?_⟩
          refine hK.out _ _ (bnx hHeld hw1) (fun hHeld => ?_)
          clear hK K
          refine norm_ (a' := ?_) ?_ ?_
          rotate_left
          · show Act.put _ (some 51) _ = _
            simp only [Act.put, List.setIfInBounds_toArray, List.set_cons_zero, List.set_cons_succ, i64_w, i32_w]
            rfl
          refine pure_ (i := 8) (N := some 55) (v := ?_) (a' := ?_) #[true, true, true, true, true, true, true, true, true, false, false, false, false, false, false, false, false, false, false, false, false] rfl rfl (by kernel_rfl) (fun _ _ _ h => h) (Or.inl ⟨by rfl, ?_⟩) ?_ ?_
          rotate_left
          · intro w'
            go_simp
            with_reducible rfl
          rotate_left
          · simp only [Act.put, List.setIfInBounds_toArray, List.set_cons_zero, List.set_cons_succ, i64_w, i32_w]
            rfl
          refine pure_ (i := 9) (N := some 56) (v := ?_) (a' := ?_) #[true, true, true, true, true, true, true, true, true, true, false, false, false, false, false, false, false, false, false, false, false] rfl rfl (by kernel_rfl) (fun _ _ _ h => h) (Or.inl ⟨by rfl, ?_⟩) ?_ ?_
          rotate_left
          · intro w'
            go_simp
            with_reducible rfl
          rotate_left
          · simp only [Act.put, List.setIfInBounds_toArray, List.set_cons_zero, List.set_cons_succ, i64_w, i32_w]
            rfl
          refine pure_ (i := 10) (N := some 57) (v := ?_) (a' := ?_) #[true, true, true, true, true, true, true, true, true, true, true, false, false, false, false, false, false, false, false, false, false] rfl rfl (by kernel_rfl) (fun _ _ _ h => h) (Or.inl ⟨by rfl, ?_⟩) ?_ ?_
          rotate_left
          · intro w'
            go_simp
            with_reducible rfl
          rotate_left
          · simp only [Act.put, List.setIfInBounds_toArray, List.set_cons_zero, List.set_cons_succ, i64_w, i32_w]
            rfl
          refine pure_ (i := 11) (N := some 58) (v := ?_) (a' := ?_) #[true, true, true, true, true, true, true, true, true, true, true, true, false, false, false, false, false, false, false, false, false] rfl rfl (by kernel_rfl) (fun _ _ _ h => h) (Or.inl ⟨by rfl, ?_⟩) ?_ ?_
          rotate_left
          · intro w'
            go_simp
            with_reducible rfl
          rotate_left
          · simp only [Act.put, List.setIfInBounds_toArray, List.set_cons_zero, List.set_cons_succ, i64_w, i32_w]
            rfl
          refine pure_ (i := 12) (N := some 59) (v := ?_) (a' := ?_) #[true, true, true, true, true, true, true, true, true, true, true, true, true, false, false, false, false, false, false, false, false] rfl rfl (by kernel_rfl) (fun _ _ _ h => h) (Or.inl ⟨by rfl, ?_⟩) ?_ ?_
          rotate_left
          · intro w'
            go_simp
            with_reducible rfl
          rotate_left
          · simp only [Act.put, List.setIfInBounds_toArray, List.set_cons_zero, List.set_cons_succ, i64_w, i32_w]
            rfl
          refine one_ (i := 13) (N := some 60) #[true, true, true, true, true, true, true, true, true, true, true, true, true, true, false, false, false, false, false, false, false] rfl rfl (by kernel_rfl) (by decide) (fun K hK => ?_)
          refine goes_ Tryd.func60 (by kernel_rfl) rfl #[.int .i64 (wrap64 (v - 1))] (by rfl) rfl rfl (by simp only [List.map_toArray, List.map_cons, List.map_nil]; rfl) ?_
          with_reducible refine (row_is _ false _ d2).mono ?_
          rintro e w2 ⟨rfl, rfl⟩
          refine ⟨_, rfl, ?_⟩
          refine hK.out _ _ (hHeld) (fun hHeld => ?_)
          clear hK K
          refine norm_ (a' := ?_) ?_ ?_
          rotate_left
          · show Act.put _ (some 60) _ = _
            simp only [Act.put, List.setIfInBounds_toArray, List.set_cons_zero, List.set_cons_succ, i64_w, i32_w]
            rfl
          refine pure_ (i := 14) (N := some 61) (v := ?_) (a' := ?_) #[true, true, true, true, true, true, true, true, true, true, true, true, true, true, true, false, false, false, false, false, false] rfl rfl (by kernel_rfl) (fun _ _ _ h => h) (Or.inl ⟨by rfl, ?_⟩) ?_ ?_
          rotate_left
          · intro w'
            go_simp
            with_reducible rfl
          rotate_left
          · simp only [Act.put, List.setIfInBounds_toArray, List.set_cons_zero, List.set_cons_succ, i64_w, i32_w]
            rfl
          refine pure_ (i := 15) (N := some 62) (v := ?_) (a' := ?_) #[true, true, true, true, true, true, true, true, true, true, true, true, true, true, true, true, false, false, false, false, false] rfl rfl (by kernel_rfl) (fun _ _ _ h => h) (Or.inl ⟨by rfl, ?_⟩) ?_ ?_
          rotate_left
          · intro w'
            go_simp
            with_reducible rfl
          rotate_left
          · simp only [Act.put, List.setIfInBounds_toArray, List.set_cons_zero, List.set_cons_succ, i64_w, i32_w]
            rfl
          refine pure_ (i := 16) (N := some 63) (v := ?_) (a' := ?_) #[true, true, true, true, true, true, true, true, true, true, true, true, true, true, true, true, true, false, false, false, false] rfl rfl (by kernel_rfl) (fun _ _ _ h => h) (Or.inl ⟨by rfl, ?_⟩) ?_ ?_
          rotate_left
          · intro w'
            go_simp
            with_reducible rfl
          rotate_left
          · simp only [Act.put, List.setIfInBounds_toArray, List.set_cons_zero, List.set_cons_succ, i64_w, i32_w]
            rfl
          refine pure_ (i := 17) (N := some 64) (v := undef) (a' := ?_) #[true, true, true, true, true, true, true, true, true, true, true, true, true, true, true, true, true, true, false, false, false] rfl rfl (by kernel_rfl) (fun _ _ _ h => h) (Or.inr ⟨by rfl, rfl⟩) ?_ ?_
          rotate_left
          · simp only [Act.put, List.setIfInBounds_toArray, List.set_cons_zero, List.set_cons_succ, i64_w, i32_w]
            rfl
          refine pure_ (i := 18) (N := some 65) (v := undef) (a' := ?_) #[true, true, true, true, true, true, true, true, true, true, true, true, true, true, true, true, true, true, true, false, false] rfl rfl (by kernel_rfl) (fun _ _ _ h => h) (Or.inr ⟨by rfl, rfl⟩) ?_ ?_
          rotate_left
          · simp only [Act.put, List.setIfInBounds_toArray, List.set_cons_zero, List.set_cons_succ, i64_w, i32_w]
            rfl
          refine pure_ (i := 19) (N := some 66) (v := undef) (a' := ?_) #[true, true, true, true, true, true, true, true, true, true, true, true, true, true, true, true, true, true, true, true, false] rfl rfl (by kernel_rfl) (fun _ _ _ h => h) (Or.inr ⟨by rfl, rfl⟩) ?_ ?_
          rotate_left
          · simp only [Act.put, List.setIfInBounds_toArray, List.set_cons_zero, List.set_cons_succ, i64_w, i32_w]
            rfl
          refine pure_ (i := 20) (N := some 67) (v := ?_) (a' := ?_) #[true, true, true, true, true, true, true, true, true, true, true, true, true, true, true, true, true, true, true, true, true] rfl rfl (by kernel_rfl) (fun _ _ _ h => h) (Or.inl ⟨by rfl, ?_⟩) ?_ ?_
          rotate_left
          · intro w'
            go_simp
            with_reducible rfl
          rotate_left
          · simp only [Act.put, List.setIfInBounds_toArray, List.set_cons_zero, List.set_cons_succ, i64_w, i32_w]
            rfl
          refine done_ (by kernel_rfl) ?_
          all_goals go_wp2
          all_goals go_ret3
          all_goals exact ⟨by rw [HF2.out]; rfl, by first | assumption | exact Below.drew (by assumption) | exact bdN (by assumption) _⟩
      · rw [if_neg (fun h => c1 h.1)] at hf
        have HF2 := Lib.hid hf
        have ht : (R.toList == (s.extract k s.size).toList) = false := by rw [hRl, ByteArray.toList_eq]; exact beq_eq_false_iff_ne.mpr c1
        have ht2 : (R.toList != (s.extract k s.size).toList) = true := by rw [hRl, ByteArray.toList_eq]; exact bne_iff_ne.mpr c1
        clear c1
        clear hf hRl
        go_wp2_with (go_at_call 70; refine (Tryd.strconv_Atoi_ok _ (by omega) v HA.out _).mono ?_; rintro e w' ⟨rfl, hw⟩)
        have hb0 : Below w.heap.size w w' := by rcases hw with rfl | ⟨t, rfl⟩; exact Below.refl _ _; exact Lib.bytesWorld_below _ _ _
        clear hw
        refine start_ (n := 21) (S := fun w' => Below w.heap.size w w') (ds := []) #[false, false, false, false, false, false, false, false, false, false, false, false, false, false, false, false, false, false, false, false, false] (by kernel_rfl) rfl rfl (hb0.drew) (fun hHeld => ?_)
        refine pure_ (i := 0) (N := some 47) (v := ?_) (a' := ?_) #[true, false, false, false, false, false, false, false, false, false, false, false, false, false, false, false, false, false, false, false, false] rfl rfl (by kernel_rfl) (fun _ _ _ h => h) (Or.inl ⟨by rfl, ?_⟩) ?_ ?_
        rotate_left
        · intro w'
          go_simp
          with_reducible rfl
        rotate_left
        · simp only [Act.put, List.setIfInBounds_toArray, List.set_cons_zero, List.set_cons_succ, i64_w, i32_w]
          rfl
        refine pure_ (i := 1) (N := some 48) (v := ?_) (a' := ?_) #[true, true, false, false, false, false, false, false, false, false, false, false, false, false, false, false, false, false, false, false, false] rfl rfl (by kernel_rfl) (fun _ _ _ h => h) (Or.inl ⟨by rfl, ?_⟩) ?_ ?_
        rotate_left
        · intro w'
          go_simp
          with_reducible rfl
        rotate_left
        · simp only [Act.put, List.setIfInBounds_toArray, List.set_cons_zero, List.set_cons_succ, i64_w, i32_w]
          rfl
        refine pure_ (i := 2) (N := some 49) (v := ?_) (a' := ?_) #[true, true, true, false, false, false, false, false, false, false, false, false, false, false, false, false, false, false, false, false, false] rfl rfl (by kernel_rfl) (fun _ _ _ h => h) (Or.inl ⟨by rfl, ?_⟩) ?_ ?_
        rotate_left
        · intro w'
          go_simp
          with_reducible rfl
        rotate_left
        · simp only [Act.put, List.setIfInBounds_toArray, List.set_cons_zero, List.set_cons_succ, i64_w, i32_w]
          rfl
        refine pure_ (i := 3) (N := some 50) (v := ?_) (a' := ?_) #[true, true, true, true, false, false, false, false, false, false, false, false, false, false, false, false, false, false, false, false, false] rfl rfl (by kernel_rfl) (fun _ _ _ h => h) (Or.inl ⟨by rfl, ?_⟩) ?_ ?_
        rotate_left
        · intro w'
          go_simp
          with_reducible rfl
        rotate_left
        · simp only [Act.put, List.setIfInBounds_toArray, List.set_cons_zero, List.set_cons_succ, i64_w, i32_w]
          rfl
        refine pure_ (i := 5) (N := some 52) (v := ?_) (a' := ?_) #[true, true, true, true, false, true, false, false, false, false, false, false, false, false, false, false, false, false, false, false, false] rfl rfl (by kernel_rfl) (fun _ _ _ h => h) (Or.inl ⟨by rfl, ?_⟩) ?_ ?_
        rotate_left
        · intro w'
          go_simp
          with_reducible rfl
        rotate_left
        · simp only [Act.put, List.setIfInBounds_toArray, List.set_cons_zero, List.set_cons_succ, i64_w, i32_w]
          rfl
        refine pure_ (i := 6) (N := some 53) (v := ?_) (a' := ?_) #[true, true, true, true, false, true, true, false, false, false, false, false, false, false, false, false, false, false, false, false, false] rfl rfl (by kernel_rfl) (fun _ _ _ h => h) (Or.inl ⟨by rfl, ?_⟩) ?_ ?_
        rotate_left
        · intro w'
          go_simp
          with_reducible rfl
        rotate_left
        · simp only [Act.put, List.setIfInBounds_toArray, List.set_cons_zero, List.set_cons_succ, i64_w, i32_w]
          rfl
        refine pure_ (i := 7) (N := some 54) (v := ?_) (a' := ?_) #[true, true, true, true, false, true, true, true, false, false, false, false, false, false, false, false, false, false, false, false, false] rfl rfl (by kernel_rfl) (fun _ _ _ h => h) (Or.inl ⟨by rfl, ?_⟩) ?_ ?_
        rotate_left
        · intro w'
          go_simp
          with_reducible rfl
        rotate_left
        · simp only [Act.put, List.setIfInBounds_toArray, List.set_cons_zero, List.set_cons_succ, i64_w, i32_w]
          rfl
        refine one_ (i := 4) (N := some 51) #[true, true, true, true, true, true, true, true, false, false, false, false, false, false, false, false, false, false, false, false, false] rfl rfl (by kernel_rfl) (by decide) (fun K hK => ?_)
        refine goes_ Tryd.func64 (by kernel_rfl) rfl #[.int .i64 v] (by rfl) rfl rfl (by simp only [List.map_toArray, List.map_cons, List.map_nil]; rfl) ?_
        with_reducible refine (HIT.out _ (by first | exact hHeld | exact Below.drew hHeld | exact bdN hHeld _)).mono ?_
        rintro e w1 ⟨rfl, hw1⟩
        refine ⟨_, rfl, ?_⟩
        refine hK.out _ _ (bnx hHeld hw1) (fun hHeld => ?_)
        clear hK K
        refine norm_ (a' := ?_) ?_ ?_
        rotate_left
        · show Act.put _ (some 51) _ = _
          simp only [Act.put, List.setIfInBounds_toArray, List.set_cons_zero, List.set_cons_succ, i64_w, i32_w]
          rfl
        refine pure_ (i := 8) (N := some 55) (v := ?_) (a' := ?_) #[true, true, true, true, true, true, true, true, true, false, false, false, false, false, false, false, false, false, false, false, false] rfl rfl (by kernel_rfl) (fun _ _ _ h => h) (Or.inl ⟨by rfl, ?_⟩) ?_ ?_
        rotate_left
        · intro w'
          go_simp
          with_reducible rfl
        rotate_left
        · simp only [Act.put, List.setIfInBounds_toArray, List.set_cons_zero, List.set_cons_succ, i64_w, i32_w]
          rfl
        refine pure_ (i := 9) (N := some 56) (v := ?_) (a' := ?_) #[true, true, true, true, true, true, true, true, true, true, false, false, false, false, false, false, false, false, false, false, false] rfl rfl (by kernel_rfl) (fun _ _ _ h => h) (Or.inl ⟨by rfl, ?_⟩) ?_ ?_
        rotate_left
        · intro w'
          go_simp
          with_reducible rfl
        rotate_left
        · simp only [Act.put, List.setIfInBounds_toArray, List.set_cons_zero, List.set_cons_succ, i64_w, i32_w]
          rfl
        refine pure_ (i := 10) (N := some 57) (v := ?_) (a' := ?_) #[true, true, true, true, true, true, true, true, true, true, true, false, false, false, false, false, false, false, false, false, false] rfl rfl (by kernel_rfl) (fun _ _ _ h => h) (Or.inl ⟨by rfl, ?_⟩) ?_ ?_
        rotate_left
        · intro w'
          go_simp
          with_reducible rfl
        rotate_left
        · simp only [Act.put, List.setIfInBounds_toArray, List.set_cons_zero, List.set_cons_succ, i64_w, i32_w]
          rfl
        refine pure_ (i := 11) (N := some 58) (v := undef) (a' := ?_) #[true, true, true, true, true, true, true, true, true, true, true, true, false, false, false, false, false, false, false, false, false] rfl rfl (by kernel_rfl) (fun _ _ _ h => h) (Or.inr ⟨by rfl, rfl⟩) ?_ ?_
        rotate_left
        · simp only [Act.put, List.setIfInBounds_toArray, List.set_cons_zero, List.set_cons_succ, i64_w, i32_w]
          rfl
        refine pure_ (i := 12) (N := some 59) (v := undef) (a' := ?_) #[true, true, true, true, true, true, true, true, true, true, true, true, true, false, false, false, false, false, false, false, false] rfl rfl (by kernel_rfl) (fun _ _ _ h => h) (Or.inr ⟨by rfl, rfl⟩) ?_ ?_
        rotate_left
        · simp only [Act.put, List.setIfInBounds_toArray, List.set_cons_zero, List.set_cons_succ, i64_w, i32_w]
          rfl
        refine pure_ (i := 13) (N := some 60) (v := undef) (a' := ?_) #[true, true, true, true, true, true, true, true, true, true, true, true, true, true, false, false, false, false, false, false, false] rfl rfl (by kernel_rfl) (fun _ _ _ h => h) (Or.inr ⟨by rfl, rfl⟩) ?_ ?_
        rotate_left
        · simp only [Act.put, List.setIfInBounds_toArray, List.set_cons_zero, List.set_cons_succ, i64_w, i32_w]
          rfl
        refine pure_ (i := 14) (N := some 61) (v := undef) (a' := ?_) #[true, true, true, true, true, true, true, true, true, true, true, true, true, true, true, false, false, false, false, false, false] rfl rfl (by kernel_rfl) (fun _ _ _ h => h) (Or.inr ⟨by rfl, rfl⟩) ?_ ?_
        rotate_left
        · simp only [Act.put, List.setIfInBounds_toArray, List.set_cons_zero, List.set_cons_succ, i64_w, i32_w]
          rfl
        refine pure_ (i := 15) (N := some 62) (v := ?_) (a' := ?_) #[true, true, true, true, true, true, true, true, true, true, true, true, true, true, true, true, false, false, false, false, false] rfl rfl (by kernel_rfl) (fun _ _ _ h => h) (Or.inl ⟨by rfl, ?_⟩) ?_ ?_
        rotate_left
        · intro w'
          go_simp
          with_reducible rfl
        rotate_left
        · simp only [Act.put, List.setIfInBounds_toArray, List.set_cons_zero, List.set_cons_succ, i64_w, i32_w]
          rfl
        refine pure_ (i := 16) (N := some 63) (v := ?_) (a' := ?_) #[true, true, true, true, true, true, true, true, true, true, true, true, true, true, true, true, true, false, false, false, false] rfl rfl (by kernel_rfl) (fun _ _ _ h => h) (Or.inl ⟨by rfl, ?_⟩) ?_ ?_
        rotate_left
        · intro w'
          go_simp
          with_reducible rfl
        rotate_left
        · simp only [Act.put, List.setIfInBounds_toArray, List.set_cons_zero, List.set_cons_succ, i64_w, i32_w]
          rfl
        refine pure_ (i := 17) (N := some 64) (v := undef) (a' := ?_) #[true, true, true, true, true, true, true, true, true, true, true, true, true, true, true, true, true, true, false, false, false] rfl rfl (by kernel_rfl) (fun _ _ _ h => h) (Or.inr ⟨by rfl, rfl⟩) ?_ ?_
        rotate_left
        · simp only [Act.put, List.setIfInBounds_toArray, List.set_cons_zero, List.set_cons_succ, i64_w, i32_w]
          rfl
        refine pure_ (i := 18) (N := some 65) (v := undef) (a' := ?_) #[true, true, true, true, true, true, true, true, true, true, true, true, true, true, true, true, true, true, true, false, false] rfl rfl (by kernel_rfl) (fun _ _ _ h => h) (Or.inr ⟨by rfl, rfl⟩) ?_ ?_
        rotate_left
        · simp only [Act.put, List.setIfInBounds_toArray, List.set_cons_zero, List.set_cons_succ, i64_w, i32_w]
          rfl
        refine pure_ (i := 19) (N := some 66) (v := undef) (a' := ?_) #[true, true, true, true, true, true, true, true, true, true, true, true, true, true, true, true, true, true, true, true, false] rfl rfl (by kernel_rfl) (fun _ _ _ h => h) (Or.inr ⟨by rfl, rfl⟩) ?_ ?_
        rotate_left
        · simp only [Act.put, List.setIfInBounds_toArray, List.set_cons_zero, List.set_cons_succ, i64_w, i32_w]
          rfl
        refine pure_ (i := 20) (N := some 67) (v := ?_) (a' := ?_) #[true, true, true, true, true, true, true, true, true, true, true, true, true, true, true, true, true, true, true, true, true] rfl rfl (by kernel_rfl) (fun _ _ _ h => h) (Or.inl ⟨by rfl, ?_⟩) ?_ ?_
        rotate_left
        · intro w'
          go_simp
          with_reducible rfl
        rotate_left
        · simp only [Act.put, List.setIfInBounds_toArray, List.set_cons_zero, List.set_cons_succ, i64_w, i32_w]
          rfl
        refine done_ (by kernel_rfl) ?_
        all_goals go_wp2
        all_goals go_ret3
        all_goals exact ⟨by rw [HF2.out]; rfl, by first | assumption | exact Below.drew (by assumption) | exact bdN (by assumption) _⟩
    | _ =>
      have hf : readF s = (0, 0, false) := by rw [HF.out]; unfold tailF; rw [hat]
      have hGL : GL w := by rcases HG.out with ⟨v, e, _⟩ | g; (· rw [hat] at e; cases e); exact g
      obtain ⟨t1, p1, hv⟩ := hGL.syn
      have HV := Lib.hid hv
      have HA := Lib.hid hat
      clear hv hat hGL
      have HF2 := Lib.hid hf
      clear hf HF HG
      go_wp2_with (go_at_call 70; refine (Any.strconv_Atoi_syntax Tryd.laysC172 _ (by omega) HA.out _ _ HV.out (.inr ⟨_, _, rfl⟩)).mono ?_; rintro e w' ⟨N, rfl, _, _, hb⟩)
      go_quiet (fail)
      go_wp2
      go_ret3
      exact ⟨by rw [HF2.out]; rfl, bdN hb _⟩

theorem itoa3 : Lib.itoa 3 = [51] := by
  unfold Lib.itoa
  rw [if_neg (by omega)]
  unfold Lib.decDigits
  rfl
theorem readF_b3 : readF ⟨#[66, 51]⟩ = (2, 1, true) := by
  have hn : headN ⟨#[66, 51]⟩ = 1 := by decide +kernel
  have hc : headC ⟨#[66, 51]⟩ = 1 := by decide +kernel
  have he : (ByteArray.extract ⟨#[66, 51]⟩ 1 (ByteArray.size ⟨#[66, 51]⟩)) = ⟨#[51]⟩ := by decide +kernel
  unfold readF
  rw [hn, hc, he]
  unfold tailF
  rw [atoi3]
  simp only
  rw [itoa3]
  decide
def place_Read.f (a0 : ByteArray) : Option (Int × Int × Bool) := if a0 = ⟨#[66, 51]⟩ then some (2, 1, true) else none
theorem place_Read.calls (a0 : ByteArray) (r1 : Int) (r2 : Int) (r3 : Bool) (w : World) (h : place_Read.f a0 = some (r1, r2, r3)) :
    Calls Tryd.prog 55 #[.string a0] w fun e w' => e = .returned (.tuple #[.int .i64 r1, .int .i64 r2, .bool r3]) ∧ Below w.heap.size w w' := by
  unfold place_Read.f at h
  by_cases c : a0 = ⟨#[66, 51]⟩
  · rw [if_pos c] at h
    obtain rfl := c
    have h := Option.some.inj h
    refine (read_any ⟨#[66, 51]⟩ w (by decide) (.inl ⟨3, ?_, by omega, by omega⟩)).mono fun e w' hp => ?_
    · have hn : headN ⟨#[66, 51]⟩ = 1 := by decide +kernel
      have he : (ByteArray.extract ⟨#[66, 51]⟩ 1 (ByteArray.size ⟨#[66, 51]⟩)) = ⟨#[51]⟩ := by decide +kernel
      rw [hn, he]
      exact atoi3
    · obtain ⟨he, hb⟩ := hp
      rw [readF_b3, h] at he
      exact ⟨he, hb⟩
  · rw [if_neg c] at h
    cases h

theorem sheet_any (n : Int) (w : World) : Calls Tryd.prog 59 #[.int .i64 n] w fun e w' => e = .returned (.bool (decide (0 ≤ n ∧ n < 16))) ∧ w = w' := by
  by_cases h : 0 ≤ n
  · have hd : decide (0 ≤ n) = true := decide_eq_true h
    have hx : decide (0 ≤ n ∧ n < 16) = decide (n < 16) := by simp [h]
    rw [hx]
    clear hx
    go_enter Tryd.func59, Tryd.ntmps59
    go_wp2
    go_ret
    exact ⟨rfl, rfl⟩
  · have hd : decide (0 ≤ n) = false := decide_eq_false h
    have hx : decide (0 ≤ n ∧ n < 16) = false := by simp [h]
    rw [hx]
    clear hx
    go_enter Tryd.func59, Tryd.ntmps59
    go_wp2
    go_ret
    exact ⟨rfl, rfl⟩
theorem sheet_is (n : Int) (b : Bool) (w : World) (h : decide (0 ≤ n ∧ n < 16) = b) : Calls Tryd.prog 59 #[.int .i64 n] w fun e w' => e = .returned (.bool b) ∧ w = w' := by
  have := sheet_any n w; rwa [h] at this
def rightB (a b c : Int) : Bool := decide (0 ≤ a ∧ a < 16) && (decide (0 ≤ b ∧ b < 65536) && decide (0 ≤ c ∧ c < 256))
theorem right_any (a b c : Int) (w : World) : Calls Tryd.prog 17 #[.agg #[.int .i64 a, .int .i64 b, .int .i64 c]] w fun e w' => e = .returned (.bool (rightB a b c)) ∧ Below w.heap.size w w' := by
  unfold rightB
  have hu := Tryd.underlying23
  cases h1 : decide (0 ≤ a ∧ a < 16)
  · go_enter Tryd.func17, Tryd.ntmps17
    go_wp2_with (go_at_call 59; refine (sheet_is _ false _ h1).mono ?_; rintro e w' ⟨rfl, rfl⟩)
    go_ret
    exact ⟨rfl, (Below.refl _ _).alloc (Nat.le_refl _) _⟩
  · cases h2 : decide (0 ≤ b ∧ b < 65536)
    · go_enter Tryd.func17, Tryd.ntmps17
      go_wp2_with (first | (go_at_call 59; refine (sheet_is _ true _ h1).mono ?_; rintro e w' ⟨rfl, rfl⟩) | (go_at_call 60; refine (row_is _ false _ h2).mono ?_; rintro e w' ⟨rfl, rfl⟩))
      go_ret
      exact ⟨rfl, (Below.refl _ _).alloc (Nat.le_refl _) _⟩
    · obtain ⟨v, h3⟩ : ∃ v, decide (0 ≤ c ∧ c < 256) = v := ⟨_, rfl⟩
      rw [h3]
      go_enter Tryd.func17, Tryd.ntmps17
      go_wp2_with (first | (go_at_call 59; refine (sheet_is _ true _ h1).mono ?_; rintro e w' ⟨rfl, rfl⟩) | (go_at_call 60; refine (row_is _ true _ h2).mono ?_; rintro e w' ⟨rfl, rfl⟩) | (go_at_call 61; refine (column_is _ v _ h3).mono ?_; rintro e w' ⟨rfl, rfl⟩))
      go_ret
      exact ⟨rfl, (Below.refl _ _).alloc (Nat.le_refl _) _⟩
end Go.Proofs.YtijmipnafhljkaaDoor.P
