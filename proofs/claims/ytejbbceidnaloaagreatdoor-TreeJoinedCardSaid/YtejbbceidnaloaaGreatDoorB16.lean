import Derived.Test.YtejbbceidnaloaaGreatDoorB14
import Derived.Test.YtejbbceidnaloaaGreatDoorB15
set_option linter.unusedVariables false
set_option linter.unusedSimpArgs false
set_option maxRecDepth 100000
set_option maxHeartbeats 8000000
namespace Go.Proofs.YtejbbceidnaloaaGreatDoor.P
open Go.RowKit AW AL AM
section
set_option maxHeartbeats 4000000
theorem joined_call (m : ByteArray) (n : Int) (A1 : Option Addr) (c1 : Nat) (l1 : List (List S50)) (w : World) (hr1 : Kd.C (Kd.slice 50 k50) w A1 l1.length l1) (hl1 : l1.length ≤ 1000) (hl : l1.flatten.length ≤ 1000000000) :
 Calls Tryz.prog 108 #[.agg #[.int .i64 6, .int .i64 0, .int .i64 0, .int .i64 0, .string ⟨#[]⟩, .bool false, .int .i64 0, .int .i64 0, .string m, .int .i64 n, .string ⟨#[]⟩, .int .i64 0, .int .i64 0, .bool false, .bool false, .string ⟨#[]⟩, .int .i64 0, .int .i64 0, .bool false, .bool false], .slice A1 l1.length c1] w fun e w' => ∃ v0_ : Value, e = .returned v0_ ∧ Kd.R k50 50 w' w.heap.size (fun _ => True) v0_ (nCall m n :: l1.flatten) ∧ Below w.heap.size w w' :=
 joined_any (nCall m n) A1 c1 l1 w hr1 hl1 hl
theorem info22 : (Tryz.prog.info? 22).map (fun i => (i.zero, i.size, i.bytes)) = some (some (.slice none 0 0), 1, 24) := by kernel_rfl
abbrev kL : Kd (List S50) := Kd.slice 50 k50
theorem l_keep {w1 w2 : World} {B g : Nat} {v : Value} {l : List (List S50)} (h : Kd.R kL 22 w1 B (fun _ => True) v l) (hk : Nax w1 w2 g none) (hg : g < B) : Kd.R kL 22 w2 B (fun _ => True) v l :=
 Kd.R_mono (Kd.R_keep (Kd.R_bound h) hk (fun k hk => by have := hk.2.1; omega)) (fun _ _ => trivial)
theorem l_own {w1 : World} {B : Nat} {v : Value} {l : List (List S50)} (h : Kd.R kL 22 w1 B (fun _ => True) v l) (k : Nat) (hk : v.ownBlock = some k) : k < w1.heap.size := by
 obtain ⟨_, inner, ho, _⟩ := h
 exact own_lt ho k hk
theorem St.fresh {w0 w W w1 : World} {g : Nat} {ts : List S39} {a e : Int} (h : St w0 w W g ts a e) (hb : Below w.heap.size W w1) (hg : g < w.heap.size) (hw : w0.heap.size ≤ w.heap.size) : St w0 w w1 g ts a e := by
 obtain ⟨A0, c0, hh, hge, hC⟩ := h.is
 exact ⟨⟨A0, c0, (hb.block g hg).trans hh, hge, hC⟩, h.bel.trans (hb.mono hw), ⟨Nat.le_trans h.keep.1 hb.size, fun i hi hg' hr => (hb.block i hi).trans (h.keep.2 i hi hg' hr)⟩⟩
section
variable {O : Ops} {ts : List S39} {e : Int} {w0 : World}
def LoopRel (O : Ops) (ts : List S39) (e : Int) (m : ByteArray) (y : Except (Int × Int) (List S50 × Int)) (kq : Nat) (ls : List (List S50)) (b : Int) (v6 : Value) : Prop :=
 (v6 = .bool true ∧ argF O ts e kq m ls.flatten ls.length b = some y) ∨ (v6 = .bool false ∧ y = .ok (nCall m ls.length :: ls.flatten, b))
theorem call_no {k : Nat} (ih : Parts O ts e w0 k) (hG : GL w0) (pe : PEnv O ts) (hts : ts.length ≤ 100000) {w : World} {g : Nat} {m : ByteArray} {at_ : Int} (hI : IsS72 w0 w g ts at_ e) (hB : Below w0.heap.size w0 w) (h0 : 0 ≤ at_) (h1 : at_ + 1 < ts.length) (hm : m.size ≤ 100000) (hf : O.fn m = false) :
 Calls Tryz.prog 205 #[.pointer (some ⟨g, 0, none⟩), .string m] w (Ans w0 w g ts e (.error (50, Nbl ts e at_))) := by
 have HP := lh (pe.fn m w (hG.below hB) hm)
 have HS := lh (St.start hI hB)
 have H0 := lh h0
 rw [hf] at HP
 clear hI hB h0 h1 hf hm
 go_enter Tryz.func205, Tryz.ntmps205
 go_wp2_with (first
  | (go_at_call 96; (with_reducible refine (HP.out).mono ?_); rintro en w1 ⟨rfl, hb⟩; have HS1 := lh (HS.out.below hb); clear hb)
  | (go_at_call 69; (with_reducible refine (Nb8 HS1.out.is HS1.out.bel H0.out 50).mono ?_); rintro en w8 ⟨rfl, hs⟩; have HS8 := lh (HS1.out.trans hs); clear hs))
 exact ⟨rfl, rfl, _, HS8.out⟩
theorem call_yes {k : Nat} (ih : Parts O ts e w0 k) (hG : GL w0) (pe : PEnv O ts) (hts : ts.length ≤ 100000) {w : World} {g : Nat} {m : ByteArray} {at_ : Int} (hI : IsS72 w0 w g ts at_ e) (hB : Below w0.heap.size w0 w) (h0 : 0 ≤ at_) (h1 : at_ + 1 < ts.length) (hm : m.size ≤ 100000) {y} (hf : O.fn m = true) (hy : (if markA ts (at_ + 2) = mB [41] then okR ([nCall m 0], at_ + 3) else argF O ts e k m [] 0 (at_ + 2)) = some y) :
 Calls Tryz.prog 205 #[.pointer (some ⟨g, 0, none⟩), .string m] w (Ans w0 w g ts e y) := by
 have HP := lh (pe.fn m w (hG.below hB) hm)
 have HS := lh (St.start hI hB)
 have HB0 := lh hB.size
 have HG := lh hI.lt
 have H0 := lh (show 0 ≤ at_ + 2 ∧ at_ + 2 ≤ ts.length by omega)
 have q0 : 0 ≤ at_ := h0
 have q1 : at_ ≤ 1000000 := by omega
 have HY := lh hy
 rw [hf] at HP
 clear hI hB h0 h1 hf hm hy
 go_enter Tryz.func205, Tryz.ntmps205
 go_upto_region 3 with (go_at_call 96; (with_reducible refine (HP.out).mono ?_); rintro en w1 ⟨rfl, hb⟩; have HS1 := lh (HS.out.below hb); clear hb HP HS)
 obtain ⟨A9, c9, hg, hge, -⟩ := HS1.out.is
 have k1 := Na0 hg
 have f1 := Naf hg 1
 clear hg hge
 go_upto_region 4 with (fail)
 obtain ⟨w2, hw_⟩ : ∃ x_ : World, x_ = w1.setCell ⟨g, 1, none⟩ (.int .i64 (at_ + 2)) := ⟨_, rfl⟩
 rw [← hw_]
 have HS2 := lh (show St w0 w w2 g ts (at_ + 2) e by rw [hw_]; exact HS1.out.set (at_ + 2))
 clear hw_ k1 f1 HS1
 have main : ∀ (w3 : World) (b : Int) (more : Bool), Hid (St w0 w w3 g ts b e) → Hid (0 ≤ b ∧ b ≤ ts.length) → Hid (LoopRel O ts e m y k [] b (.bool more)) → True := fun _ _ _ _ _ _ => trivial
 clear main
 by_cases hc : markA ts (at_ + 2) = mB [41]
 all_goals
  first
   | (have HT := lh (Nc9 (m := ⟨#[41]⟩) HS2.out.is HS2.out.bel H0.out.1 (by have := H0.out; omega) hc)
      have HL := lh (show LoopRel O ts e m y k [] (at_ + 2 + 1) (.bool false) from .inr ⟨rfl, by have hy := HY.out; rw [if_pos hc] at hy; rw [← sI hy, show at_ + 3 = at_ + 2 + 1 by omega]; rfl⟩)
      have HBd := lh (show 0 ≤ at_ + 2 + 1 ∧ at_ + 2 + 1 ≤ ts.length by have := Nbb ts hc (by decide); have := H0.out; omega)
      clear hc HY
      go_wp2_with (go_at_call 143; (with_reducible refine (HT.out).mono ?_); rintro en w3 ⟨rfl, hs⟩; have HS3 := lh (HS2.out.trans hs); clear hs HT HS2))
   | (have HT := lh (Nb7 (m := ⟨#[41]⟩) HS2.out.is HS2.out.bel H0.out.1 (by have := H0.out; omega) hc)
      have HL := lh (show LoopRel O ts e m y k [] (at_ + 2) (.bool true) from .inl ⟨rfl, by have hy := HY.out; rw [if_neg hc] at hy; exact hy⟩)
      have HBd := lh (show 0 ≤ at_ + 2 ∧ at_ + 2 ≤ ts.length from H0.out)
      clear hc HY
      go_wp2_with (go_at_call 143; (with_reducible refine (HT.out).mono ?_); rintro en w3 ⟨rfl, hs⟩; have HS3 := lh (HS2.out.trans hs); clear hs HT HS2))
  go_loopg [5, 6] (k + 1) (fun kq v5 v6 w' => ∃ (ls : List (List S50)) (b : Int), Hid (LoopRel O ts e m y (kq - 1) ls b v6) ∧ Hid (kq ≤ k + 1) ∧ Hid (Kd.R kL 22 w' w.heap.size (fun _ => True) v5 ls) ∧ Hid (St w0 w w' g ts b e) ∧ Hid (0 ≤ b ∧ b ≤ ts.length ∧ (ls.flatten.length : Int) ≤ b ∧ ls.length ≤ 30 ∧ (v6 = .bool true → ls.length < 30)))
  case atStart => exact ⟨[], _, HL, lh (Nat.le_refl _), lh (Kd.R_nil _ _ _ _ _), HS3, lh ⟨HBd.out.1, HBd.out.2, by have := HBd.out; simp; omega, by simp, fun _ => by simp⟩⟩
  case round =>
   clear HL HBd HS3
   obtain ⟨ls, b, HRel, HK, HR, HS, HC⟩ := hrel
   obtain ⟨A5, c5, rfl, hle5, -⟩ := Kd.R_reads HR.out
   clear hle5
   rcases HRel.out with ⟨rfl, hrel⟩ | ⟨rfl, rfl⟩
   ·have H29 := lh (show ls.length < 30 from HC.out.2.2.2.2 rfl)
    obtain ⟨k1, rfl⟩ : ∃ k1, gk = k1 + 2 := by
     rcases gk with _ | _ | k1
     ·rw [show 0 - 1 = 0 from rfl, argF] at hrel; cases hrel
     ·rw [show 0 + 1 - 1 = 0 from rfl, argF] at hrel; cases hrel
     ·exact ⟨k1, rfl⟩
    rw [show k1 + 2 - 1 = k1 + 1 by omega, argF] at hrel
    cases hz : binF O ts e k1 1 b with
    | none => rw [hz] at hrel; cases hrel
    | some z =>
     have HX := lh (binF_le O ts e (show k1 ≤ k by have := HK.out; omega) hz)
     have HP := lh (show Res.bnd (some z) _ = some y by rw [← hz]; exact hrel)
     have HCC := lh (ih.bin wr g 1 b z HS.out.is HS.out.bel HC.out.1 HC.out.2.1 (by omega) (by omega) HX.out)
     clear hz hrel HRel
     cases z with
     | error p =>
      obtain ⟨c_, p⟩ := p
      obtain rfl := sI HP.out
      go_wp2_with (fail)
      (with_reducible refine (HCC.out).mono ?_)
      rintro en w4 ⟨rfl, a, hs⟩
      go_wp2
      exact ⟨rfl, rfl, a, HS.out.trans hs⟩
     | ok p =>
      obtain ⟨r, a⟩ := p
      have HA := lh (Ncf O ts e HC.out.1 HC.out.2.1 (by omega) (by omega) HX.out)
      have HN := lh ((len_all O ts e k).1 _ _ _ _ HX.out)
      obtain ⟨w3, hw3⟩ : ∃ x_ : World, x_ = wr := ⟨_, rfl⟩
      go_wp2_with (fail)
      (with_reducible refine (HCC.out).mono ?_)
      rintro en w4 ⟨v4, rfl, hr, hs⟩
      obtain ⟨A4, c4, rfl, hle4, -⟩ := Kd.R_reads hr
      have HAP := lh (show ∀ k, wr.heap.size ≤ k → True ∧ some k ≠ (Value.slice A5 ls.length c5).ownBlock from fun k hk => ⟨trivial, fun hh => by have := l_own HR.out k hh.symm; omega⟩)
      have HRr := lh (Kd.R_lower (Kd.R_mono (Kd.R_bound hr) (fun k hk => hk.2.1)) HS.out.size)
      have HR4 := lh (l_keep HR.out hs.keep HG.out)
      have HS4 := lh (HS.out.trans hs)
      have HSz := lh HS4.out.size
      clear hr hs hle4 HR HCC hw3 w3
      go_upto_region 8 with (first | ((with_reducible refine Nch (b := .append) (xs := #[.tmp 23, .tmp 26]) rfl ?_); at_builtin; refine Kd.R_append kL (w0 := w4) w.heap.size rfl (.tmp 23) (.tmp 26) 166 22 (.slice none 0 0) 24 rfl Tryz.underlying166 info22 rfl (by decide) (by decide) _ ls r [.slice A4 r.length c4] (fun _ => True) (fun k => wr.heap.size ≤ k) rfl rfl ⟨_, rfl, HRr.out⟩ HAP.out (fun _ _ => trivial) HR4.out (Below.refl _ _) HSz.out (by have := HC.out; omega) ?_; intro v5 w5 ho_ hb_ hg_ hat_; have HR5 := lh ho_; have HS5 := lh (HS4.out.fresh hb_ HG.out HB0.out); clear ho_ hb_ hg_ hat_))
      obtain ⟨n, hn⟩ : ∃ n, (ls ++ [r]).length = n := ⟨_, rfl⟩
      obtain ⟨A6, c6, rfl, hle6, -⟩ := Kd.R_reads HR5.out
      rw [hn]
      have HNn := lh hn
      have hn1 : n = ls.length + 1 := by rw [← hn]; simp
      have HN1 := lh hn1
      have HFl := lh (show (ls ++ [r]).flatten = ls.flatten ++ r by simp)
      clear hle6 hn hn1 HR4 HS4 HAP HRr
      have hp := HP.out
      simp only [Res.bnd] at hp
      have a0 : 0 ≤ a := by have := HA.out; have := HC.out; omega
      have A0 := lh a0
      clear a0
      by_cases hm44 : markA ts a = mB [44]
      ·rw [if_pos hm44] at hp
       have HM := lh (mark_any HS5.out.is HS5.out.bel A0.out ⟨#[44]⟩ hm44)
       by_cases h30 : (ls.length : Int) + 1 = 30
       ·rw [if_pos h30] at hp
        obtain rfl := sI hp
        have d30 : ((n : Int) == 30) = true := by rw [beq_iff_eq]; have := HN1.out; omega
        clear hp hm44 h30 HP
        go_wp2_with (first
         | (go_at_call 107; (with_reducible refine (HM.out).mono ?_); rintro en w6 ⟨rfl, hs⟩; have HS6 := lh (HS5.out.trans hs); clear hs)
         | (go_at_call 69; (with_reducible refine (Nb8 HS6.out.is HS6.out.bel A0.out 3).mono ?_); rintro en w8 ⟨rfl, hs⟩; have HS8 := lh (HS6.out.trans hs); clear hs))
        exact ⟨rfl, rfl, _, HS8.out⟩
       ·rw [if_neg h30] at hp
        have d30 : ((n : Int) == 30) = false := by rw [beq_eq_false_iff_ne]; have := HN1.out; omega
        have HM44 := lh (show markA ts a = ⟨#[44]⟩ from hm44)
        have HL := lh (Nbb ts hm44 (by decide))
        have H30 := lh h30
        have HP2 := lh (show argF O ts e k1 m (ls ++ [r]).flatten (ls ++ [r]).length (a + 1) = some y by rw [HFl.out, HNn.out, HN1.out]; push_cast; exact hp)
        clear hp hm44 h30 HP
        go_wp2_with (first
         | (go_at_call 107; (with_reducible refine (HM.out).mono ?_); rintro en w6 ⟨rfl, hs⟩; have HS6 := lh (HS5.out.trans hs); have HR6 := lh (l_keep HR5.out hs.keep HG.out); clear hs HR5)
         | (go_at_call 143; (with_reducible refine (Nc9 HS6.out.is HS6.out.bel A0.out (by have := HA.out; omega) HM44.out).mono ?_); rintro en w7 ⟨rfl, hs⟩; have HS7 := lh (HS6.out.trans hs); have HR7 := lh (l_keep HR6.out hs.keep HG.out); clear hs HR6))
        go_roundg (k1 + 1)
        case measure => omega
        case rel => exact ⟨ls ++ [r], a + 1, lh (.inl ⟨rfl, HP2.out⟩), lh (by have := HK.out; omega), lh (by have := HR7.out; rw [HNn.out] at this; exact this), HS7, lh ⟨by have := A0.out; omega, by have := HL.out; omega, by rw [HFl.out, List.length_append]; have := HC.out; have := HN.out; push_cast; omega, by rw [HNn.out, HN1.out]; have := H29.out; have := H30.out; omega, fun _ => by rw [HNn.out, HN1.out]; have := H29.out; have := H30.out; omega⟩⟩
      ·rw [if_neg hm44] at hp
       obtain ⟨m2, hm2⟩ : ∃ m2, markA ts a = m2 := ⟨_, rfl⟩
       have b44 : (m2.toList == [44]) = false := tl_no (by rw [← hm2]; exact hm44)
       have HM := lh (mark_any HS5.out.is HS5.out.bel A0.out m2 hm2)
       have HM44 := lh (show markA ts a ≠ ⟨#[44]⟩ from hm44)
       by_cases hm41 : markA ts a = mB [41]
       ·rw [if_pos hm41] at hp
        obtain rfl := sI hp
        have HM41 := lh (show markA ts a = ⟨#[41]⟩ from hm41)
        have HL := lh (Nbb ts hm41 (by decide))
        clear hp hm44 hm41 hm2 HP
        go_wp2_with (first
         | (go_at_call 107; (with_reducible refine (HM.out).mono ?_); rintro en w6 ⟨rfl, hs⟩; have HS6 := lh (HS5.out.trans hs); have HR6 := lh (l_keep HR5.out hs.keep HG.out); clear hs HR5)
         | (go_at_call 143; (with_reducible refine (Nb7 HS6.out.is HS6.out.bel A0.out (by have := HA.out; omega) HM44.out).mono ?_); rintro en w7 ⟨rfl, hs⟩; have HS7 := lh (HS6.out.trans hs); have HR7 := lh (l_keep HR6.out hs.keep HG.out); clear hs HR6)
         | (go_at_call 177; (with_reducible refine (must_yes HS7.out.is HS7.out.bel A0.out (by have := HA.out; omega) HM41.out).mono ?_); rintro en w8 ⟨rfl, hs⟩; have HS8 := lh (HS7.out.trans hs); have HR8 := lh (l_keep HR7.out hs.keep HG.out); clear hs HR7))
        go_roundg (k1 + 1)
        case measure => omega
        case rel => exact ⟨ls ++ [r], a + 1, lh (.inr ⟨rfl, by rw [HFl.out, HNn.out, HN1.out]; push_cast; rfl⟩), lh (by have := HK.out; omega), lh (by have := HR8.out; rw [HNn.out] at this; exact this), HS8, lh ⟨by have := A0.out; omega, by have := HL.out; omega, by rw [HFl.out, List.length_append]; have := HC.out; have := HN.out; push_cast; omega, by rw [HNn.out, HN1.out]; have := H29.out; omega, fun h => by cases h⟩⟩
       ·rw [if_neg hm41] at hp
        obtain rfl := sI hp
        have HM41 := lh (show markA ts a ≠ ⟨#[41]⟩ from hm41)
        clear hp hm44 hm41 hm2 HP
        go_wp2_with (first
         | (go_at_call 107; (with_reducible refine (HM.out).mono ?_); rintro en w6 ⟨rfl, hs⟩; have HS6 := lh (HS5.out.trans hs); clear hs)
         | (go_at_call 143; (with_reducible refine (Nb7 HS6.out.is HS6.out.bel A0.out (by have := HA.out; omega) HM44.out).mono ?_); rintro en w7 ⟨rfl, hs⟩; have HS7 := lh (HS6.out.trans hs); clear hs)
         | (go_at_call 177; (with_reducible refine (must_no HS7.out.is HS7.out.bel A0.out (by have := HA.out; omega) HM41.out).mono ?_); rintro en w8 ⟨rfl, hs⟩; have HS8 := lh (HS7.out.trans hs); clear hs))
        exact ⟨rfl, rfl, _, HS8.out⟩
   ·clear HRel
    go_wp2_with (fail)
    (with_reducible refine (joined_call m (ls.length : Int) _ _ ls _ (Kd.R_reads' HR.out).2.2 (by have := HC.out; omega) (by have := HC.out; omega)).mono ?_)
    rintro en w9 ⟨v9, rfl, hr, hb⟩
    have HR9 := lh (Kd.R_lower hr HS.out.size)
    have HS9 := lh (HS.out.below hb)
    clear hr hb
    go_wp2
    go_ret
    exact ⟨_, rfl, HR9.out, HS9.out⟩
theorem call_any {k : Nat} (ih : Parts O ts e w0 k) (hG : GL w0) (pe : PEnv O ts) (hts : ts.length ≤ 100000) (w : World) (g : Nat) (m : ByteArray) (at_ : Int) (x) (hI : IsS72 w0 w g ts at_ e) (hB : Below w0.heap.size w0 w) (h0 : 0 ≤ at_) (h1 : at_ + 1 < ts.length) (hm : m = (tokA ts at_).f1) (h : calF O ts e (k + 1) m at_ = some x) :
 Calls Tryz.prog 205 #[.pointer (some ⟨g, 0, none⟩), .string m] w (Ans w0 w g ts e x) := by
 rw [calF] at h
 have hz : m.size ≤ 100000 := by rw [hm]; exact pe.size at_
 cases hf : O.fn m with
 | false =>
  rw [hf] at h
  obtain rfl := sI h
  exact call_no ih hG pe hts hI hB h0 h1 hz hf
 | true =>
  rw [hf, if_pos rfl] at h
  exact call_yes ih hG pe hts hI hB h0 h1 hz hf h
end
end
end Go.Proofs.YtejbbceidnaloaaGreatDoor.P
