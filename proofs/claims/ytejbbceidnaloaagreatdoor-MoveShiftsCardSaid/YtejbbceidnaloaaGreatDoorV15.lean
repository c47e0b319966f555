import Derived.Test.YtejbbceidnaloaaGreatDoorV14
import Derived.Test.YtejbbceidnaloaaGreatDoorV12
import Derived.WalkLawsBesides
import Derived.RegionTactic
import Derived.Deep.RegionWith
set_option linter.unusedVariables false
set_option linter.unusedSimpArgs false
set_option maxRecDepth 100000
set_option maxHeartbeats 8000000
namespace Go.Proofs.YtejbbceidnaloaaGreatDoor.P
open Go.RowKit AW AL AM
section
structure St (w0 w w' : World) (g : Nat) (ts : List S39) (at_ e : Int) : Prop where
 is : IsS72 w0 w' g ts at_ e
 bel : Below w0.heap.size w0 w'
 keep : Na6 w w' g none
theorem St.start {w0 w : World} {g : Nat} {ts : List S39} {at_ e : Int} (hI : IsS72 w0 w g ts at_ e) (hB : Below w0.heap.size w0 w) : St w0 w w g ts at_ e := ⟨hI, hB, Na6.refl w g none⟩
theorem St.trans {w0 w w1 w2 : World} {g : Nat} {ts : List S39} {a e a' e' : Int} (h : St w0 w w1 g ts a e) (k : St w0 w1 w2 g ts a' e') : St w0 w w2 g ts a' e' := ⟨k.is, k.bel, h.keep.trans k.keep (.inl rfl)⟩
theorem St.drewN {w0 w w1 : World} {g : Nat} {ts : List S39} {a e : Int} (h : St w0 w w1 g ts a e) (n : Nat) : St w0 w (w1.drewN n) g ts a e := ⟨h.is.drewN n, Nax h.bel n, Ndk h.keep n⟩
theorem St.drew {w0 w w1 : World} {g : Nat} {ts : List S39} {a e : Int} (h : St w0 w w1 g ts a e) : St w0 w w1.drew g ts a e := ⟨h.is.drew, Ndu h.bel, h.keep⟩
theorem St.below {w0 w w1 w2 : World} {g : Nat} {ts : List S39} {a e : Int} (h : St w0 w w1 g ts a e) (hb : Below w1.heap.size w1 w2) : St w0 w w2 g ts a e := ⟨h.is.below hb, Nab h.bel hb, h.keep.trans (Na6.of_below hb g none) (.inl rfl)⟩
theorem St.set {w0 w w1 : World} {g : Nat} {ts : List S39} {a e : Int} (h : St w0 w w1 g ts a e) (x : Int) : St w0 w (w1.setCell ⟨g, 1, none⟩ (.int .i64 x)) g ts x e := ⟨h.is.set_1 x, h.bel.setCell h.is.ge _, h.keep.set_ 1 _⟩
theorem St.size {w0 w w1 : World} {g : Nat} {ts : List S39} {a e : Int} (h : St w0 w w1 g ts a e) : w.heap.size ≤ w1.heap.size := h.keep.1
theorem mark_f (ts : List S39) (at_ e : Int) (h0 : 0 ≤ at_) : Nbu.f ts at_ e = some (markA ts at_, at_, e) := by
 unfold Nbu.f markA
 by_cases h1 : at_ < (ts.length : Int)
 ·rw [if_pos h1, if_pos h0]
  by_cases h2 : (Nb6 ts at_).f0 = 5
  ·rw [if_pos h2, if_pos ⟨h1, h2⟩]; rfl
  ·rw [if_neg h2, if_neg (fun h => h2 h.2)]; rfl
 ·rw [if_neg h1, if_neg (fun h => h1 h.1)]; rfl
theorem mark_any {w0 w : World} {g : Nat} {ts : List S39} {at_ e : Int} (hI : IsS72 w0 w g ts at_ e) (hB : Below w0.heap.size w0 w) (h0 : 0 ≤ at_) (m : ByteArray) (hm : markA ts at_ = m) :
 Calls Tryz.prog 107 #[.pointer (some ⟨g, 0, none⟩)] w fun en w' => en = .returned (.string m) ∧ St w0 w w' g ts at_ e :=
 (Nbu.calls g ts at_ e m at_ e w0 w hI hB (by rw [mark_f ts at_ e h0, hm])).mono fun _ _ ⟨a, b, c, d⟩ => ⟨a, b, c, d⟩
theorem tl_eq (a b : ByteArray) : a.toList = b.toList ↔ a = b := by
 rw [ByteArray.toList_eq, ByteArray.toList_eq]
 constructor
 ·intro h
  cases a with | mk x => cases b with | mk y =>
  cases x with | mk l => cases y with | mk m =>
  simp only at h
  rw [h]
 ·rintro rfl; rfl
theorem takes_f (ts : List S39) (at_ e : Int) (m : ByteArray) (h0 : 0 ≤ at_) (h1 : at_ ≤ 1000000) : Ncb.f ts at_ e m = some (if markA ts at_ = m then (true, at_ + 1, e) else (false, at_, e)) := by
 unfold Ncb.f
 rw [mark_f ts at_ e h0]
 have hw : wrap64 (at_ + 1) = at_ + 1 := by unfold wrap64; omega
 simp only [Option.bind_some, tl_eq, hw]
 split <;> rfl
theorem Ndm {w0 w : World} {g : Nat} {ts : List S39} {at_ e : Int} (hI : IsS72 w0 w g ts at_ e) (hB : Below w0.heap.size w0 w) (h0 : 0 ≤ at_) (h1 : at_ ≤ 1000000) {m : ByteArray} (hm : markA ts at_ = m) :
 Calls Tryz.prog 143 #[.pointer (some ⟨g, 0, none⟩), .string m] w fun en w' => en = .returned (.bool true) ∧ St w0 w w' g ts (at_ + 1) e :=
 (Ncb.calls g ts at_ e m true (at_ + 1) e w0 w hI hB (by rw [takes_f ts at_ e m h0 h1, if_pos hm])).mono fun _ _ ⟨a, b, c, d⟩ => ⟨a, b, c, d⟩
theorem Nco {w0 w : World} {g : Nat} {ts : List S39} {at_ e : Int} (hI : IsS72 w0 w g ts at_ e) (hB : Below w0.heap.size w0 w) (h0 : 0 ≤ at_) (h1 : at_ ≤ 1000000) {m : ByteArray} (hm : markA ts at_ ≠ m) :
 Calls Tryz.prog 143 #[.pointer (some ⟨g, 0, none⟩), .string m] w fun en w' => en = .returned (.bool false) ∧ St w0 w w' g ts at_ e :=
 (Ncb.calls g ts at_ e m false at_ e w0 w hI hB (by rw [takes_f ts at_ e m h0 h1, if_neg hm])).mono fun _ _ ⟨a, b, c, d⟩ => ⟨a, b, c, d⟩
def Bad (en : Ending) (c p : Int) : Prop := en = .panicked [{ v := .iface 74 (.agg #[.int .i64 c, .int .i64 p]), recovered := false }]
theorem Ncp {w0 w : World} {g : Nat} {ts : List S39} {at_ e : Int} (hI : IsS72 w0 w g ts at_ e) (hB : Below w0.heap.size w0 w) (h0 : 0 ≤ at_) (c : Int) :
 Calls Tryz.prog 69 #[.pointer (some ⟨g, 0, none⟩), .int .i64 c] w fun en w' => Bad en c (Nby ts e at_) ∧ St w0 w w' g ts at_ e := by
 have HS := lh (St.start hI hB)
 obtain ⟨A0, c0, hg, hge, hC⟩ := hI
 have k0 := Nbz hg
 have k1 := Nba hg
 have k2 := Ne6 hg
 by_cases h1 : at_ < (ts.length : Int)
 ·obtain ⟨ad, ea, x0, x1, x2⟩ := Nef hC at_ h0 h1
  cases ea
  replace x2 := Nad hB x2
  have HF := lh (show Nby ts e at_ = (Nb6 ts at_).f2 by unfold Nby; rw [if_pos h1]; rfl)
  clear hg hge hC hB x0 x1
  go_enter Tryz.func69, Tryz.ntmps69
  go_wp2
  go_quiet (fail)
  go_wp2
  refine sP (n := 15) (S := fun w' => w'.cell? ⟨g, 0, none⟩ = some (.slice (some ad) ts.length c0) ∧ w'.cell? ⟨g, 1, none⟩ = some (.int .i64 at_) ∧ w'.cell? ⟨(ad.add (at_.toNat * 3)).block, (ad.add (at_.toNat * 3)).off + 2, none⟩ = some (.int .i64 (Nb6 ts at_).f2)) (ds := []) ⟨k0, k1, x2⟩ (fun hHeld => ?_)
  refine pP 0 14 ?_
  refine pP 1 15 ?_
  refine pP 2 16 ?_
  refine pP 3 17 ?_
  refine pP 5 19 ?_
  refine pP 6 20 ?_
  refine pP 7 21 ?_
  refine tP 4 18 hHeld ?_
  refine tP 8 22 hHeld ?_
  refine pP 9 23 ?_
  refine pP 10 24 ?_
  refine tP 11 25 hHeld ?_
  refine pP 12 26 ?_
  refine pP 13 27 ?_
  refine oP 14 none fun K hK => ?_
  go_simp
  exact ⟨rfl, by rw [HF.out]; rfl, by first | exact HS.out.drewN _ | exact (HS.out.drewN _).drew⟩
 ·have HF := lh (show Nby ts e at_ = e by unfold Nby; rw [if_neg h1])
  clear hg hge hC hB
  go_enter Tryz.func69, Tryz.ntmps69
  go_wp2
  go_quiet (fail)
  go_wp2
  exact ⟨rfl, by rw [HF.out]; rfl, HS.out.drewN _⟩
theorem must_yes {w0 w : World} {g : Nat} {ts : List S39} {at_ e : Int} (hI : IsS72 w0 w g ts at_ e) (hB : Below w0.heap.size w0 w) (h0 : 0 ≤ at_) (h1 : at_ ≤ 1000000) {m : ByteArray} (hm : markA ts at_ = m) :
 Calls Tryz.prog 177 #[.pointer (some ⟨g, 0, none⟩), .string m] w fun en w' => en = .returned (.tuple #[]) ∧ St w0 w w' g ts (at_ + 1) e := by
 have HT := lh (Ndm hI hB h0 h1 hm)
 clear hI hB hm
 go_enter Tryz.func177, Tryz.ntmps177
 go_wp2_with (go_at_call 143; (with_reducible refine (HT.out).mono ?_); rintro en w1 ⟨rfl, hs⟩; have HS := lh hs; clear hs)
 go_end0
 exact ⟨rfl, HS.out⟩
theorem must_no {w0 w : World} {g : Nat} {ts : List S39} {at_ e : Int} (hI : IsS72 w0 w g ts at_ e) (hB : Below w0.heap.size w0 w) (h0 : 0 ≤ at_) (h1 : at_ ≤ 1000000) {m : ByteArray} (hm : markA ts at_ ≠ m) :
 Calls Tryz.prog 177 #[.pointer (some ⟨g, 0, none⟩), .string m] w fun en w' => Bad en 50 (Nby ts e at_) ∧ St w0 w w' g ts at_ e := by
 have HT := lh (Nco hI hB h0 h1 hm)
 have H0 := lh h0
 clear hI hB hm h0
 go_enter Tryz.func177, Tryz.ntmps177
 go_wp2_with (first
  | (go_at_call 143; (with_reducible refine (HT.out).mono ?_); rintro en w1 ⟨rfl, hs⟩; have HS := lh hs; clear hs)
  | (go_at_call 69; (with_reducible refine (Ncp HS.out.is HS.out.bel H0.out 50).mono ?_); rintro en w2 ⟨rfl, hs⟩; have HS2 := lh hs; clear hs))
 exact ⟨rfl, rfl, HS.out.trans HS2.out⟩
theorem st_new {w0 w w1 w2 : World} {g g1 : Nat} {ts ts1 : List S39} {at_ e a1 e1 : Int} (h : St w0 w w g ts at_ e) (hb : Below w.heap.size w w1) (hg : w.heap.size ≤ g1) (k : St w0 w1 w2 g1 ts1 a1 e1) : St w0 w w2 g ts at_ e := by
 have hk : ∀ i, i < w.heap.size → w2.heap[i]? = w.heap[i]? := fun i hi => (k.keep.2 i (Nat.lt_of_lt_of_le hi hb.size) (by omega) (by simp)).trans (hb.block i hi)
 obtain ⟨A0, c0, hh, hge, hC⟩ := h.is
 exact ⟨⟨A0, c0, (hk g (Nbh hh)).trans hh, hge, hC⟩, k.bel, ⟨Nat.le_trans hb.size k.keep.1, fun i hi _ _ => hk i hi⟩⟩
theorem st_new' {w0 w w1 w2 : World} {g g1 : Nat} {ts ts1 : List S39} {at_ e a1 e1 : Int} (h : St w0 w w g ts at_ e) (hb : Below w.heap.size w w1) (hg : w.heap.size ≤ g1) (k : St w0 w1 w2 g1 ts1 a1 e1) : Below w.heap.size w w2 :=
 ⟨k.bel.os.trans h.bel.os.symm, k.bel.tape.trans h.bel.tape.symm, k.bel.output.trans h.bel.output.symm, Nat.le_trans hb.size k.keep.1, fun i hi => (k.keep.2 i (Nat.lt_of_lt_of_le hi hb.size) (by omega) (by simp)).trans (hb.block i hi)⟩
theorem Nbp {w0 w : World} {g : Nat} {ts : List S39} {at_ e : Int} (hI : IsS72 w0 w g ts at_ e) (hB : Below w0.heap.size w0 w) (h0 : 0 ≤ at_) (h1 : at_ ≤ 1000000) (m : ByteArray) (hm : markA ts (at_ + 1) = m) :
 Calls Tryz.prog 204 #[.pointer (some ⟨g, 0, none⟩)] w fun en w' => en = .returned (.string m) ∧ St w0 w w' g ts at_ e ∧ Below w.heap.size w w' := by
 have HS := lh (St.start hI hB)
 obtain ⟨A0, c0, hg, hge, hC⟩ := hI
 have HC := lh hC
 have HM := lh hm
 have hlt := Nbh hg
 have k0 := Nbz hg
 have k1 := Nba hg
 have hw : wrap64 (at_ + 1) = at_ + 1 := by unfold wrap64; omega
 have HW := lh hw
 clear hg hge hC hB hm hw
 go_enter Tryz.func204, Tryz.ntmps204
 go_wp2
 refine sP (n := 12) (S := fun w' => w'.cell? ⟨g, 0, none⟩ = some (.slice A0 ts.length c0) ∧ w'.cell? ⟨g, 1, none⟩ = some (.int .i64 at_)) (ds := [11]) ⟨k0, k1⟩ (fun hHeld => ?_)
 refine pP 0 4 ?_
 refine pP 1 5 ?_
 refine pP 2 6 ?_
 refine pP 4 8 ?_
 refine pP 5 9 ?_
 refine pP 6 10 ?_
 refine tP 3 7 hHeld ?_
 refine tP 7 11 hHeld ?_
 refine pP 8 12 ?_
 refine pP 9 13 ?_
 refine oP 10 (some 3) fun K hK => ?_
 refine Nfc (w1 := ?_) (v := ?_) (by rfl) rfl ?_ ?_
 rotate_left 2
 ·go_simp
  constructor
  ·rfl
  ·rfl
 refine hK.out _ _ ⟨Nad (Naf (Below.refl _ _) _) hHeld.1, Nad (Naf (Below.refl _ _) _) hHeld.2⟩ (fun hHeld => ?_)
 clear hK K
 refine nP 3 ?_
 refine lP 11 none fun K hK => ?_
 refine skip_ (w1 := ?_) (by rfl) rfl ?_ ?_
 rotate_left
 ·go_simp
  rfl
 refine hK.out _ _ ?_
 clear hK K
 refine done_ (by kernel_rfl) ?_
 rw [HW.out]
 go_wp2_with (fail)
 have HI1 := IsS72.drew (IsS72.new w0 w A0 c0 ts (at_ + 1) 0 HS.out.bel HC.out)
 have HB1 : Below w0.heap.size w0 (w.alloc (.cells #[.slice A0 ts.length c0, .int .i64 (at_ + 1), .int .i64 0] 72)).drew := Ndu (HS.out.bel.alloc HS.out.bel.size _)
 (with_reducible refine (mark_any HI1 HB1 (by omega) m HM.out).mono ?_)
 rintro en w2 ⟨rfl, hs⟩
 have HS2 := lh (st_new HS.out (Ndu (Naf (Below.refl _ _) _)) (Nat.le_refl _) hs)
 have HB2 := lh (st_new' HS.out (Ndu (Naf (Below.refl _ _) _)) (Nat.le_refl _) hs)
 clear hs HI1 HB1
 go_wp2
 go_ret
 exact ⟨rfl, HS2.out, HB2.out⟩
end
mutual
def Nbf.j0 : Nat → Int → Bool → Option (ByteArray × Int)
 | 0, _, _ => none
 | k + 1, x4, x7 => if x7 = true then (some ((⟨#[43]⟩ : ByteArray), 3)) else (if x4 = 12 then (Nbf.j1 k x4 (x4 == 12)) else (Nbf.j1 k x4 (x4 == 1)))
def Nbf.j1 : Nat → Int → Bool → Option (ByteArray × Int)
 | 0, _, _ => none
 | k + 1, x4, x10 => if x10 = true then (some ((⟨#[45]⟩ : ByteArray), 3)) else (if x4 = 13 then (some ((⟨#[42]⟩ : ByteArray), 4)) else (if x4 = 14 then (some ((⟨#[47]⟩ : ByteArray), 4)) else (if x4 = 15 then (some ((⟨#[94]⟩ : ByteArray), 5)) else (if x4 = 21 then (some ((⟨#[61]⟩ : ByteArray), 1)) else (if x4 = 22 then (some ((⟨#[60, 62]⟩ : ByteArray), 1)) else (if x4 = 23 then (some ((⟨#[60]⟩ : ByteArray), 1)) else (if x4 = 24 then (some ((⟨#[60, 61]⟩ : ByteArray), 1)) else (if x4 = 25 then (some ((⟨#[62]⟩ : ByteArray), 1)) else (some ((⟨#[62, 61]⟩ : ByteArray), 1))))))))))
end
def Nbf.f (k : Nat) (a0 : Int) : Option (ByteArray × Int) := if a0 = 16 then (some ((⟨#[38]⟩ : ByteArray), 2)) else (if a0 = 11 then (Nbf.j0 k a0 (a0 == 11)) else (Nbf.j0 k a0 (a0 == 2)))
theorem Nbf.calls (k : Nat) (a0 : Int) (r1 : ByteArray) (r2 : Int) (w : World) (h : Nbf.f k a0 = some (r1, r2)) :
 Calls Tryz.prog 74 #[.int .i64 a0] w fun e w' => e = .returned (.tuple #[.string r1, .int .i64 r2]) ∧ Na3 w w' := by
 have H := h
 unfold Nbf.f at H
 clear h
 by_cases c2 : a0 = 16
 ·rw [if_pos c2] at H
  obtain ⟨c2b0, c2b1⟩ := bqT c2
  clear c2
  simp only [sJ, pJ] at H
  obtain ⟨rfl, rfl⟩ := H
  go_enter Tryz.func74, Tryz.ntmps74
  go_wp2
  go_ret2
  exact ⟨eR, dE⟩
 ·rw [if_neg c2] at H
  obtain ⟨c2b0, c2b1⟩ := bqF c2
  have HC3 := aM H
  clear H
  go_enter Tryz.func74, Tryz.ntmps74
  go_upto_if 7 with (fail)
  go_cut [7] (fun v7 wc => ∃ (kq : Nat) (x7_2 : Bool), v7 = .bool x7_2 ∧ Nah (Nbf.j0 kq a0 x7_2 = some (r1, r2)) ∧ Nah (kq ≤ k) ∧ Na3 w wc)
  case first =>
   have H := HC3.out
   clear HC3
   by_cases c4 : a0 = 11
   ·rw [if_pos c4] at H
    obtain ⟨c4b0, c4b1⟩ := bqT c4
    clear c4
    (first | rw [c4b0] | (simp only [i64_w, i32_w]; rw [c4b0]) | skip)
    have H' := aM H
    clear H
    go_wp2
    go_meet
    case rel => exact ⟨_, ((a0 == 11)), (by first | rfl | (simp; done) | (simp [*]; done)), H', ⟨by first | omega | exact Nat.le_refl _⟩, dE⟩
   ·rw [if_neg c4] at H
    obtain ⟨c4b0, c4b1⟩ := bqF c4
    (first | rw [c4b0] | (simp only [i64_w, i32_w]; rw [c4b0]) | skip)
    have H' := aM H
    clear H
    go_wp2
    go_meet
    case rel => exact ⟨_, ((a0 == 2)), (by first | rfl | (simp; done) | (simp [*]; done)), H', ⟨by first | omega | exact Nat.le_refl _⟩, dE⟩
  case rest =>
   clear HC3
   try clear c2
   try clear c2b0
   try clear c2b1
   try clear p2
   try clear c4
   try clear c4b0
   try clear c4b1
   obtain ⟨kq, x7_2, rfl, HA, HJ2, ⟨mc2, rfl⟩⟩ := hcut
   cases kq with
   | zero => exact absurd HA.out (by simp [Nbf.j0])
   | succ kj2 =>
    have H := HA.out
    clear HA
    simp only [Nbf.j0] at H
    by_cases c5 : x7_2 = true
    ·subst c5
     rw [if_pos rfl] at H
     simp only [sJ, pJ] at H
     obtain ⟨rfl, rfl⟩ := H
     go_wp2
     go_ret2
     exact ⟨eR, dE⟩
    ·replace c5 := Bool.eq_false_iff.mpr c5
     subst c5
     rw [if_neg fT] at H
     have HC6 := aM H
     clear H
     go_upto_if 10 with (fail)
     go_cut [10] (fun v10 wc => ∃ (kq : Nat) (x10_5 : Bool), v10 = .bool x10_5 ∧ Nah (Nbf.j1 kq a0 x10_5 = some (r1, r2)) ∧ Nah (kq ≤ kj2) ∧ Na3 w wc)
     case first =>
      have H := HC6.out
      clear HC6
      by_cases c7 : a0 = 12
      ·rw [if_pos c7] at H
       obtain ⟨c7b0, c7b1⟩ := bqT c7
       clear c7
       (first | rw [c7b0] | (simp only [i64_w, i32_w]; rw [c7b0]) | skip)
       have H' := aM H
       clear H
       go_wp2
       go_meet
       case rel => exact ⟨_, ((a0 == 12)), (by first | rfl | (simp; done) | (simp [*]; done)), H', ⟨by have := HJ2.out; first | omega | exact Nat.le_refl _⟩, dE⟩
      ·rw [if_neg c7] at H
       obtain ⟨c7b0, c7b1⟩ := bqF c7
       (first | rw [c7b0] | (simp only [i64_w, i32_w]; rw [c7b0]) | skip)
       have H' := aM H
       clear H
       go_wp2
       go_meet
       case rel => exact ⟨_, ((a0 == 1)), (by first | rfl | (simp; done) | (simp [*]; done)), H', ⟨by have := HJ2.out; first | omega | exact Nat.le_refl _⟩, dE⟩
     case rest =>
      clear HC6
      try clear c2
      try clear c2b0
      try clear c2b1
      try clear p2
      try clear c4
      try clear c4b0
      try clear c4b1
      try clear c5
      try clear c7
      try clear c7b0
      try clear c7b1
      try clear p2
      obtain ⟨kq, x10_5, rfl, HA, HJ5, ⟨mc5, rfl⟩⟩ := hcut
      cases kq with
      | zero => exact absurd HA.out (by simp [Nbf.j1])
      | succ kj5 =>
       have H := HA.out
       clear HA
       simp only [Nbf.j1] at H
       by_cases c8 : x10_5 = true
       ·subst c8
        rw [if_pos rfl] at H
        simp only [sJ, pJ] at H
        obtain ⟨rfl, rfl⟩ := H
        go_wp2
        go_ret2
        exact ⟨eR, dE⟩
       ·replace c8 := Bool.eq_false_iff.mpr c8
        subst c8
        rw [if_neg fT] at H
        by_cases c9 : a0 = 13
        ·rw [if_pos c9] at H
         obtain ⟨c9b0, c9b1⟩ := bqT c9
         clear c9
         simp only [sJ, pJ] at H
         obtain ⟨rfl, rfl⟩ := H
         go_wp2
         go_ret2
         exact ⟨eR, dE⟩
        ·rw [if_neg c9] at H
         obtain ⟨c9b0, c9b1⟩ := bqF c9
         by_cases c10 : a0 = 14
         ·rw [if_pos c10] at H
          obtain ⟨c10b0, c10b1⟩ := bqT c10
          clear c10
          simp only [sJ, pJ] at H
          obtain ⟨rfl, rfl⟩ := H
          go_wp2
          go_ret2
          exact ⟨eR, dE⟩
         ·rw [if_neg c10] at H
          obtain ⟨c10b0, c10b1⟩ := bqF c10
          by_cases c11 : a0 = 15
          ·rw [if_pos c11] at H
           obtain ⟨c11b0, c11b1⟩ := bqT c11
           clear c11
           simp only [sJ, pJ] at H
           obtain ⟨rfl, rfl⟩ := H
           go_wp2
           go_ret2
           exact ⟨eR, dE⟩
          ·rw [if_neg c11] at H
           obtain ⟨c11b0, c11b1⟩ := bqF c11
           by_cases c12 : a0 = 21
           ·rw [if_pos c12] at H
            obtain ⟨c12b0, c12b1⟩ := bqT c12
            clear c12
            simp only [sJ, pJ] at H
            obtain ⟨rfl, rfl⟩ := H
            go_wp2
            go_ret2
            exact ⟨eR, dE⟩
           ·rw [if_neg c12] at H
            obtain ⟨c12b0, c12b1⟩ := bqF c12
            by_cases c13 : a0 = 22
            ·rw [if_pos c13] at H
             obtain ⟨c13b0, c13b1⟩ := bqT c13
             clear c13
             simp only [sJ, pJ] at H
             obtain ⟨rfl, rfl⟩ := H
             go_wp2
             go_ret2
             exact ⟨eR, dE⟩
            ·rw [if_neg c13] at H
             obtain ⟨c13b0, c13b1⟩ := bqF c13
             by_cases c14 : a0 = 23
             ·rw [if_pos c14] at H
              obtain ⟨c14b0, c14b1⟩ := bqT c14
              clear c14
              simp only [sJ, pJ] at H
              obtain ⟨rfl, rfl⟩ := H
              go_wp2
              go_ret2
              exact ⟨eR, dE⟩
             ·rw [if_neg c14] at H
              obtain ⟨c14b0, c14b1⟩ := bqF c14
              by_cases c15 : a0 = 24
              ·rw [if_pos c15] at H
               obtain ⟨c15b0, c15b1⟩ := bqT c15
               clear c15
               simp only [sJ, pJ] at H
               obtain ⟨rfl, rfl⟩ := H
               go_wp2
               go_ret2
               exact ⟨eR, dE⟩
              ·rw [if_neg c15] at H
               obtain ⟨c15b0, c15b1⟩ := bqF c15
               by_cases c16 : a0 = 25
               ·rw [if_pos c16] at H
                obtain ⟨c16b0, c16b1⟩ := bqT c16
                clear c16
                simp only [sJ, pJ] at H
                obtain ⟨rfl, rfl⟩ := H
                go_wp2
                go_ret2
                exact ⟨eR, dE⟩
               ·rw [if_neg c16] at H
                obtain ⟨c16b0, c16b1⟩ := bqF c16
                simp only [sJ, pJ] at H
                obtain ⟨rfl, rfl⟩ := H
                go_wp2
                go_ret2
                exact ⟨eR, dE⟩
def Na9.l0 : Nat → ByteArray → Int → Option (Int)
 | 0, _, _ => none
 | k + 1, x0, x3 => if x3 ≤ 26 then ((Nbf.f k x3).bind fun bt101 => ((Nb2.f x3).bind fun t103 => (if t103 = true then (if bt101.1.toList = x0.toList then (some x3) else (Na9.l0 k x0 (wrap64 (x3 + 1)))) else (Na9.l0 k x0 (wrap64 (x3 + 1)))))) else (some 0)
def Na9.f (k : Nat) (a0 : ByteArray) : Option (Int) := if a0.toList = ([] : List UInt8) then (some 0) else (Na9.l0 k a0 11)
theorem Na9.calls (k : Nat) (a0 : ByteArray) (r : Int) (w : World) (h : Na9.f k a0 = some r) :
 Calls Tryz.prog 106 #[.string a0] w fun e w' => e = .returned (.int .i64 r) ∧ Na3 w w' := by
 have H := h
 unfold Na9.f at H
 clear h
 by_cases c2 : a0.toList = ([] : List UInt8)
 ·rw [if_pos c2] at H
  obtain ⟨c2b0, c2b1⟩ := bqT c2
  clear c2
  obtain rfl := sI H
  go_enter Tryz.func106, Tryz.ntmps106
  go_wp2
  go_ret
  exact ⟨eR, dE⟩
 ·rw [if_neg c2] at H
  obtain ⟨c2b0, c2b1⟩ := bqF c2
  have H' := aM H
  clear H
  go_enter Tryz.func106, Tryz.ntmps106
  go_wp2
  go_loopg [3] k (fun kq v3 w' => ∃ (x3_1 : Int), v3 = .int .i64 x3_1 ∧ Nah (Na9.l0 kq a0 x3_1 = some r) ∧ Nah (kq ≤ k) ∧ Na3 w w')
  case atStart => exact ⟨(11), (by first | rfl | (simp; done) | (simp [*]; done)), H', ⟨Nat.le_refl _⟩, dE⟩
  case round =>
   clear H'
   try clear c1
   try clear c2
   try clear c2b0
   try clear c2b1
   try clear p2
   obtain ⟨x3_1, rfl, HA, HK1, ⟨m1, rfl⟩⟩ := hrel
   cases gk with
   | zero => exact absurd HA.out (by simp [Na9.l0])
   | succ k1 =>
    have H := HA.out
    clear HA
    simp only [Na9.l0] at H
    by_cases c3 : x3_1 ≤ 26
    ·rw [if_pos c3] at H
     have c3b0 : decide (x3_1 ≤ 26) = true := decide_eq_true c3
     clear c3
     replace H := bS H
     obtain ⟨⟨t101, t102⟩, A40, H⟩ := H
     try dsimp only at H
     have A4 := aM A40
     clear A40
     replace H := bS H
     obtain ⟨t103, A50, H⟩ := H
     try dsimp only at H
     have A5 := aM A50
     clear A50
     by_cases c6 : t103 = true
     ·subst c6
      rw [if_pos rfl] at H
      by_cases c7 : t101.toList = a0.toList
      ·rw [if_pos c7] at H
       obtain ⟨c7b0, c7b1⟩ := bqT c7
       clear c7
       obtain rfl := sI H
       go_wp2_with (first | ((with_reducible refine gC 74 rfl ?_); refine gL 14 Tryz.func74 #[.int .i64 x3_1] ?_; (with_reducible refine (Nbf.calls k1 x3_1 t101 t102 _ A4.out).mono ?_); rintro e w' ⟨rfl, ⟨nd, rfl⟩⟩; refine ⟨_, rfl, ?_⟩) | ((with_reducible refine gC 95 rfl ?_); refine gL 18 Tryz.func95 #[.int .i64 x3_1] ?_; (with_reducible refine (Nb2.calls x3_1 true _ A5.out).mono ?_); rintro e w' ⟨rfl, ⟨nd, rfl⟩⟩; refine ⟨_, rfl, ?_⟩))
       go_ret
       exact ⟨eR, dE⟩
      ·rw [if_neg c7] at H
       obtain ⟨c7b0, c7b1⟩ := bqF c7
       have H' := aM H
       clear H
       go_wp2_with (first | ((with_reducible refine gC 74 rfl ?_); refine gL 14 Tryz.func74 #[.int .i64 x3_1] ?_; (with_reducible refine (Nbf.calls k1 x3_1 t101 t102 _ A4.out).mono ?_); rintro e w' ⟨rfl, ⟨nd, rfl⟩⟩; refine ⟨_, rfl, ?_⟩) | ((with_reducible refine gC 95 rfl ?_); refine gL 18 Tryz.func95 #[.int .i64 x3_1] ?_; (with_reducible refine (Nb2.calls x3_1 true _ A5.out).mono ?_); rintro e w' ⟨rfl, ⟨nd, rfl⟩⟩; refine ⟨_, rfl, ?_⟩))
       go_roundg k1
       case measure => have := HK1.out; omega
       case rel => exact ⟨(wrap64 (x3_1 + 1)), (by first | rfl | (simp; done) | (simp [*]; done)), H', ⟨by have := HK1.out; omega⟩, dE⟩
     ·replace c6 := Bool.eq_false_iff.mpr c6
      subst c6
      rw [if_neg fT] at H
      have H' := aM H
      clear H
      go_wp2_with (first | ((with_reducible refine gC 74 rfl ?_); refine gL 14 Tryz.func74 #[.int .i64 x3_1] ?_; (with_reducible refine (Nbf.calls k1 x3_1 t101 t102 _ A4.out).mono ?_); rintro e w' ⟨rfl, ⟨nd, rfl⟩⟩; refine ⟨_, rfl, ?_⟩) | ((with_reducible refine gC 95 rfl ?_); refine gL 18 Tryz.func95 #[.int .i64 x3_1] ?_; (with_reducible refine (Nb2.calls x3_1 false _ A5.out).mono ?_); rintro e w' ⟨rfl, ⟨nd, rfl⟩⟩; refine ⟨_, rfl, ?_⟩))
      go_roundg k1
      case measure => have := HK1.out; omega
      case rel => exact ⟨(wrap64 (x3_1 + 1)), (by first | rfl | (simp; done) | (simp [*]; done)), H', ⟨by have := HK1.out; omega⟩, dE⟩
    ·rw [if_neg c3] at H
     have c3b0 : decide (x3_1 ≤ 26) = false := decide_eq_false c3
     clear c3
     obtain rfl := sI H
     go_wp2
     go_ret
     exact ⟨eR, dE⟩
def Ndd.f (k : Nat) (a0_0 a0_1 a0_2 a0_3 : Int) (a0_4 : ByteArray) (a0_5 : Bool) (a0_6 a0_7 : Int) (a0_8 : ByteArray) (a0_9 : Int) (a0_10 : ByteArray) (a0_11 a0_12 : Int) (a0_13 a0_14 : Bool) (a0_15 : ByteArray) (a0_16 a0_17 : Int) (a0_18 a0_19 : Bool) : Option (Int) := if a0_0 = 5 then ((Nbf.f k a0_7).bind fun bt102 => (some bt102.2)) else (if a0_0 = 4 then (if a0_7 = 3 then (some 7) else (some 6)) else (some 7))
theorem Ndd.calls (k : Nat) (a0_0 a0_1 a0_2 a0_3 : Int) (a0_4 : ByteArray) (a0_5 : Bool) (a0_6 a0_7 : Int) (a0_8 : ByteArray) (a0_9 : Int) (a0_10 : ByteArray) (a0_11 a0_12 : Int) (a0_13 a0_14 : Bool) (a0_15 : ByteArray) (a0_16 a0_17 : Int) (a0_18 a0_19 : Bool) (r : Int) (w : World) (h : Ndd.f k a0_0 a0_1 a0_2 a0_3 a0_4 a0_5 a0_6 a0_7 a0_8 a0_9 a0_10 a0_11 a0_12 a0_13 a0_14 a0_15 a0_16 a0_17 a0_18 a0_19 = some r) :
 Calls Tryz.prog 73 #[.agg #[.int .i64 a0_0, .int .i64 a0_1, .int .i64 a0_2, .int .i64 a0_3, .string a0_4, .bool a0_5, .int .i64 a0_6, .int .i64 a0_7, .string a0_8, .int .i64 a0_9, .string a0_10, .int .i64 a0_11, .int .i64 a0_12, .bool a0_13, .bool a0_14, .string a0_15, .int .i64 a0_16, .int .i64 a0_17, .bool a0_18, .bool a0_19]] w fun e w' => e = .returned (.int .i64 r) ∧ Below w.heap.size w w' := by
 have hu50 := Tryz.underlying50
 have HB := aM (Below.refl w.heap.size w)
 have H := h
 unfold Ndd.f at H
 clear h
 by_cases c2 : a0_0 = 5
 ·rw [if_pos c2] at H
  obtain ⟨c2b0, c2b1⟩ := bqT c2
  clear c2
  replace H := bS H
  obtain ⟨⟨t102, t103⟩, A30, H⟩ := H
  try dsimp only at H
  have A3 := aM A30
  clear A30
  obtain rfl := sI H
  go_enter Tryz.func73, Tryz.ntmps73
  go_wp2_with (first | ((with_reducible refine gD 1 rfl ?_); refine bX 1 #[.int .i64 a0_0, .int .i64 a0_1, .int .i64 a0_2, .int .i64 a0_3, .string a0_4, .bool a0_5, .int .i64 a0_6, .int .i64 a0_7, .string a0_8, .int .i64 a0_9, .string a0_10, .int .i64 a0_11, .int .i64 a0_12, .bool a0_13, .bool a0_14, .string a0_15, .int .i64 a0_16, .int .i64 a0_17, .bool a0_18, .bool a0_19] 50 ?_; intro gb101 hg w4 hbox hb; replace HB := bK w hbox hg hb; obtain ⟨BK101, GW101, HB⟩ := HB; have GE101 := GW101; clear hb hbox hg; obtain ⟨hcz5_0, hcz5_1, hcz5_2, hcz5_3, hcz5_4, hcz5_5, hcz5_6, hcz5_7, hcz5_8, hcz5_9, hcz5_10, hcz5_11, hcz5_12, hcz5_13, hcz5_14, hcz5_15, hcz5_16, hcz5_17, hcz5_18, hcz5_19, hfz5_0, hfz5_1, hfz5_2, hfz5_3, hfz5_4, hfz5_5, hfz5_6, hfz5_7, hfz5_8, hfz5_9, hfz5_10, hfz5_11, hfz5_12, hfz5_13, hfz5_14, hfz5_15, hfz5_16, hfz5_17, hfz5_18, hfz5_19⟩ := bc20 BK101.out) | ((with_reducible refine gC 74 rfl ?_); refine gL 12 Tryz.func74 #[.int .i64 a0_7] ?_; (with_reducible refine (Nbf.calls k a0_7 t102 t103 _ A3.out).mono ?_); rintro e w' ⟨rfl, ⟨nd, rfl⟩⟩; refine ⟨_, rfl, ?_⟩))
  go_ret
  exact ⟨eR, bE⟩
 ·rw [if_neg c2] at H
  obtain ⟨c2b0, c2b1⟩ := bqF c2
  by_cases c6 : a0_0 = 4
  ·rw [if_pos c6] at H
   obtain ⟨c6b0, c6b1⟩ := bqT c6
   clear c6
   by_cases c7 : a0_7 = 3
   ·rw [if_pos c7] at H
    obtain ⟨c7b0, c7b1⟩ := bqT c7
    clear c7
    obtain rfl := sI H
    go_enter Tryz.func73, Tryz.ntmps73
    go_wp2_with (first | ((with_reducible refine gD 1 rfl ?_); refine bX 1 #[.int .i64 a0_0, .int .i64 a0_1, .int .i64 a0_2, .int .i64 a0_3, .string a0_4, .bool a0_5, .int .i64 a0_6, .int .i64 a0_7, .string a0_8, .int .i64 a0_9, .string a0_10, .int .i64 a0_11, .int .i64 a0_12, .bool a0_13, .bool a0_14, .string a0_15, .int .i64 a0_16, .int .i64 a0_17, .bool a0_18, .bool a0_19] 50 ?_; intro gb101 hg w8 hbox hb; replace HB := bK w hbox hg hb; obtain ⟨BK101, GW101, HB⟩ := HB; have GE101 := GW101; clear hb hbox hg; obtain ⟨hcz9_0, hcz9_1, hcz9_2, hcz9_3, hcz9_4, hcz9_5, hcz9_6, hcz9_7, hcz9_8, hcz9_9, hcz9_10, hcz9_11, hcz9_12, hcz9_13, hcz9_14, hcz9_15, hcz9_16, hcz9_17, hcz9_18, hcz9_19, hfz9_0, hfz9_1, hfz9_2, hfz9_3, hfz9_4, hfz9_5, hfz9_6, hfz9_7, hfz9_8, hfz9_9, hfz9_10, hfz9_11, hfz9_12, hfz9_13, hfz9_14, hfz9_15, hfz9_16, hfz9_17, hfz9_18, hfz9_19⟩ := bc20 BK101.out))
    go_ret
    exact ⟨eR, bE⟩
   ·rw [if_neg c7] at H
    obtain ⟨c7b0, c7b1⟩ := bqF c7
    obtain rfl := sI H
    go_enter Tryz.func73, Tryz.ntmps73
    go_wp2_with (first | ((with_reducible refine gD 1 rfl ?_); refine bX 1 #[.int .i64 a0_0, .int .i64 a0_1, .int .i64 a0_2, .int .i64 a0_3, .string a0_4, .bool a0_5, .int .i64 a0_6, .int .i64 a0_7, .string a0_8, .int .i64 a0_9, .string a0_10, .int .i64 a0_11, .int .i64 a0_12, .bool a0_13, .bool a0_14, .string a0_15, .int .i64 a0_16, .int .i64 a0_17, .bool a0_18, .bool a0_19] 50 ?_; intro gb101 hg w10 hbox hb; replace HB := bK w hbox hg hb; obtain ⟨BK101, GW101, HB⟩ := HB; have GE101 := GW101; clear hb hbox hg; obtain ⟨hcz11_0, hcz11_1, hcz11_2, hcz11_3, hcz11_4, hcz11_5, hcz11_6, hcz11_7, hcz11_8, hcz11_9, hcz11_10, hcz11_11, hcz11_12, hcz11_13, hcz11_14, hcz11_15, hcz11_16, hcz11_17, hcz11_18, hcz11_19, hfz11_0, hfz11_1, hfz11_2, hfz11_3, hfz11_4, hfz11_5, hfz11_6, hfz11_7, hfz11_8, hfz11_9, hfz11_10, hfz11_11, hfz11_12, hfz11_13, hfz11_14, hfz11_15, hfz11_16, hfz11_17, hfz11_18, hfz11_19⟩ := bc20 BK101.out))
    go_ret
    exact ⟨eR, bE⟩
  ·rw [if_neg c6] at H
   obtain ⟨c6b0, c6b1⟩ := bqF c6
   obtain rfl := sI H
   go_enter Tryz.func73, Tryz.ntmps73
   go_wp2_with (first | ((with_reducible refine gD 1 rfl ?_); refine bX 1 #[.int .i64 a0_0, .int .i64 a0_1, .int .i64 a0_2, .int .i64 a0_3, .string a0_4, .bool a0_5, .int .i64 a0_6, .int .i64 a0_7, .string a0_8, .int .i64 a0_9, .string a0_10, .int .i64 a0_11, .int .i64 a0_12, .bool a0_13, .bool a0_14, .string a0_15, .int .i64 a0_16, .int .i64 a0_17, .bool a0_18, .bool a0_19] 50 ?_; intro gb101 hg w12 hbox hb; replace HB := bK w hbox hg hb; obtain ⟨BK101, GW101, HB⟩ := HB; have GE101 := GW101; clear hb hbox hg; obtain ⟨hcz13_0, hcz13_1, hcz13_2, hcz13_3, hcz13_4, hcz13_5, hcz13_6, hcz13_7, hcz13_8, hcz13_9, hcz13_10, hcz13_11, hcz13_12, hcz13_13, hcz13_14, hcz13_15, hcz13_16, hcz13_17, hcz13_18, hcz13_19, hfz13_0, hfz13_1, hfz13_2, hfz13_3, hfz13_4, hfz13_5, hfz13_6, hfz13_7, hfz13_8, hfz13_9, hfz13_10, hfz13_11, hfz13_12, hfz13_13, hfz13_14, hfz13_15, hfz13_16, hfz13_17, hfz13_18, hfz13_19⟩ := bc20 BK101.out))
   go_ret
   exact ⟨eR, bE⟩
end Go.Proofs.YtejbbceidnaloaaGreatDoor.P
namespace Go.Proofs.YtejbbceidnaloaaGreatDoor.P
section
variable (O : Ops) (ts : List S39) (e : Int)
theorem le_of_step {α : Type} {f : Nat → Option α} (h : ∀ k x, f k = some x → f (k + 1) = some x) {k m : Nat} (hkm : k ≤ m) {x : α} (hx : f k = some x) : f m = some x := by
 induction hkm with
 | refl => exact hx
 | step _ ih => exact h _ _ ih
theorem Fine.range {at_ a : Int} {l : List S50} (h : Fine ts at_ (okR (l, a))) : at_ < a ∧ a ≤ ts.length := by
 obtain ⟨x, e, hx⟩ := h
 exact hx l a (Option.some.inj e).symm
theorem Neq {k : Nat} {least at_ a : Int} {l : List S50} (h0 : 0 ≤ at_) (h1 : at_ ≤ ts.length) (h2 : 1 ≤ least) (h3 : least ≤ 6) (h : binF O ts e k least at_ = okR (l, a)) : at_ < a ∧ a ≤ ts.length := by
 have hf := (enough O ts e ts.length).1 (k + 16 * ts.length + 12) least at_ h0 h1 (by omega) h2 h3 (by omega)
 rw [le_of_step (f := fun k => binF O ts e k least at_) (fun k x => (mono_all O ts e k).1 least at_ x) (by omega : k ≤ k + 16 * ts.length + 12) h] at hf
 exact Fine.range ts hf
theorem sgnF_range {k : Nat} {at_ a : Int} {l : List S50} (h0 : 0 ≤ at_) (h1 : at_ ≤ ts.length) (h : sgnF O ts e k at_ = okR (l, a)) : at_ < a ∧ a ≤ ts.length := by
 have hf := (enough O ts e ts.length).2.2.1 (k + 16 * ts.length + 12) at_ h0 h1 (by omega) (by omega)
 rw [le_of_step (f := fun k => sgnF O ts e k at_) (fun k x => (mono_all O ts e k).2.2.1 at_ x) (by omega : k ≤ k + 16 * ts.length + 12) h] at hf
 exact Fine.range ts hf
theorem parF_range {k : Nat} {at_ a : Int} {l : List S50} (h0 : 0 ≤ at_) (h1 : at_ ≤ ts.length) (h : parF O ts e k at_ = okR (l, a)) : at_ < a ∧ a ≤ ts.length := by
 have hf := (enough O ts e ts.length).2.2.2.1 (k + 16 * ts.length + 12) at_ h0 h1 (by omega) (by omega)
 rw [le_of_step (f := fun k => parF O ts e k at_) (fun k x => (mono_all O ts e k).2.2.2.1 at_ x) (by omega : k ≤ k + 16 * ts.length + 12) h] at hf
 exact Fine.range ts hf
theorem bnd_ok {α β : Type} {r : Res α} {f : α → Res β} {b : β} (h : r.bnd f = okR b) : ∃ a, r = okR a ∧ f a = okR b := by
 cases r with
 | none => cases h
 | some x => cases x with
  | error p => cases h
  | ok a => exact ⟨a, rfl, h⟩
variable {ts}
theorem celF_range {i a : Int} {r : S48} (hc : celF O ts e i = okR (r, a)) : i < a ∧ a ≤ ts.length := by
 obtain ⟨x, hx, h⟩ := celF_fine O ts e i
 rw [hc] at hx
 exact h r a (Option.some.inj hx).symm
end
section
variable (O : Ops) (ts : List S39) (e : Int)
theorem celF_lt {i a : Int} {r : S48} (h : celF O ts e i = okR (r, a)) : a = i + 1 := by
 unfold celF at h
 split at h
 ·split at h
  ·cases h; rfl
  ·cases h
 ·cases h
theorem refF_len {sheet : ByteArray} {i a : Int} {l : List S50} (h : refF O ts e sheet i = okR (l, a)) : (l.length : Int) ≤ a - i := by
 unfold refF at h
 obtain ⟨⟨r, b⟩, h1, h2⟩ := bnd_ok h
 have hb := celF_lt O ts e h1
 simp only at h2
 split at h2
 ·obtain ⟨⟨s, c⟩, h3, h4⟩ := bnd_ok h2
  have hc := celF_lt O ts e h3
  cases h4
  simp; omega
 ·cases h2
  simp; omega
theorem perF_len : ∀ (k : Nat) (out : List S50) (i a : Int) (l : List S50), perF ts k out i = okR (l, a) → (l.length : Int) ≤ out.length + (a - i)
 | 0, _, _, _, _, h => by cases h
 | k + 1, out, i, a, l, h => by
  rw [perF] at h
  split at h
  ·have := perF_len k _ _ _ _ h
   simp at this; omega
  ·cases h; omega
theorem len_all : ∀ k : Nat,
 (∀ (least i a : Int) (l : List S50), binF O ts e k least i = okR (l, a) → (l.length : Int) ≤ a - i) ∧
 (∀ (least : Int) (left : List S50) (i a : Int) (l : List S50), lopF O ts e k least left i = okR (l, a) → (l.length : Int) ≤ left.length + (a - i)) ∧
 (∀ (i a : Int) (l : List S50), sgnF O ts e k i = okR (l, a) → (l.length : Int) ≤ a - i) ∧
 (∀ (i a : Int) (l : List S50), parF O ts e k i = okR (l, a) → (l.length : Int) ≤ a - i) ∧
 (∀ (m : ByteArray) (i a : Int) (l : List S50), worF O ts e k m i = okR (l, a) → (l.length : Int) ≤ a - i) ∧
 (∀ (m : ByteArray) (i a : Int) (l : List S50), calF O ts e k m i = okR (l, a) → (l.length : Int) ≤ a - i) ∧
 (∀ (m : ByteArray) (acc : List S50) (n i a : Int) (l : List S50), argF O ts e k m acc n i = okR (l, a) → (l.length : Int) ≤ acc.length + (a - i)) := by
 intro k
 induction k with
 | zero =>
  refine ⟨?_, ?_, ?_, ?_, ?_, ?_, ?_⟩
  ·intro _ _ _ _ h; rw [binF] at h; cases h
  ·intro _ _ _ _ _ h; rw [lopF] at h; cases h
  ·intro _ _ _ h; rw [sgnF] at h; cases h
  ·intro _ _ _ h; rw [parF] at h; cases h
  ·intro _ _ _ _ h; rw [worF] at h; cases h
  ·intro _ _ _ _ h; rw [calF] at h; cases h
  ·intro _ _ _ _ _ _ h; rw [argF] at h; cases h
 | succ k ih =>
  obtain ⟨g1, g2, g3, g4, g5, g6, g7⟩ := ih
  refine ⟨?_, ?_, ?_, ?_, ?_, ?_, ?_⟩
  ·intro least i a l h
   rw [binF] at h
   split at h
   ·exact g3 _ _ _ h
   ·obtain ⟨⟨x, b⟩, h1, h2⟩ := bnd_ok h
    have := g1 _ _ _ _ h1
    have := g2 _ _ _ _ _ h2
    omega
  ·intro least left i a l h
   rw [lopF] at h
   split at h
   ·cases h; omega
   ·obtain ⟨⟨x, b⟩, h1, h2⟩ := bnd_ok h
    have := g1 _ _ _ _ h1
    have := g2 _ _ _ _ _ h2
    simp at this; omega
  ·intro i a l h
   rw [sgnF] at h
   split at h
   ·obtain ⟨⟨x, b⟩, h1, h2⟩ := bnd_ok h
    have := g3 _ _ _ h1
    cases h2; simp; omega
   ·split at h
    ·obtain ⟨⟨x, b⟩, h1, h2⟩ := bnd_ok h
     have := g3 _ _ _ h1
     cases h2; simp; omega
    ·obtain ⟨⟨x, b⟩, h1, h2⟩ := bnd_ok h
     have := g4 _ _ _ h1
     have := perF_len ts _ _ _ _ _ h2
     omega
  ·intro i a l h
   rw [parF] at h
   split at h
   ·obtain ⟨⟨x, b⟩, h1, h2⟩ := bnd_ok h
    have := g1 _ _ _ _ h1
    simp only at h2
    split at h2
    ·cases h2; omega
    ·cases h2
   ·split at h
    ·split at h
     ·exact g5 _ _ _ _ h
     ·split at h
      ·split at h
       ·cases h; simp; omega
       ·cases h
      ·split at h
       ·split at h
        ·cases h; simp; omega
        ·cases h
       ·split at h
        ·cases h; simp; omega
        ·cases h
    ·cases h
  ·intro m i a l h
   rw [worF] at h
   split at h
   ·exact g6 _ _ _ _ h
   ·split at h
    ·split at h
     ·have := refF_len O ts e h; omega
     ·cases h
    ·split at h
     ·cases h; simp; omega
     ·split at h
      ·cases h; simp; omega
      ·exact refF_len O ts e h
  ·intro m i a l h
   rw [calF] at h
   split at h
   ·split at h
    ·cases h; simp; omega
    ·have := g7 _ _ _ _ _ _ h; simp at this; omega
   ·cases h
  ·intro m acc n i a l h
   rw [argF] at h
   obtain ⟨⟨x, b⟩, h1, h2⟩ := bnd_ok h
   have := g1 _ _ _ _ h1
   simp only at h2
   split at h2
   ·split at h2
    ·cases h2
    ·have := g7 _ _ _ _ _ _ h2
     simp at this; omega
   ·split at h2
    ·cases h2; simp; omega
    ·cases h2
end
abbrev Tk := Int × ByteArray
structure Lf where
 val : S46 → Tk
 cel : S48 → ByteArray
def mk (l : List UInt8) : Tk := (5, mB l)
def signB (o : Int) : ByteArray :=
 if o = 16 then mB [38] else if o = 11 then mB [43] else if o = 2 then mB [43] else if o = 12 then mB [45] else if o = 1 then mB [45] else if o = 13 then mB [42] else if o = 14 then mB [47] else if o = 15 then mB [94]
 else if o = 21 then mB [61] else if o = 22 then mB [60, 62] else if o = 23 then mB [60] else if o = 24 then mB [60, 61] else if o = 25 then mB [62] else mB [62, 61]
def Nea (n : S50) : Int := if n.f0 = 5 then Nct n.f2 else if n.f0 = 4 ∧ n.f2 ≠ 3 then 6 else 7
def bra (b : Bool) (T : List Tk) : List Tk := if b then mk [40] :: (T ++ [mk [41]]) else T
def refT (L : Lf) (r : S48) : List Tk := if r.f0 = eB then [(3, L.cel r)] else [(3, r.f0), mk [33], (3, L.cel r)]
section
variable (L : Lf)
mutual
def tkF : Nat → Int → List S50 → Option (List Tk × List S50)
 | 0, _, _ => none
 | _ + 1, _, [] => none
 | k + 1, least, n :: r =>
  (if n.f0 = 1 then some ([L.val n.f1], r)
    else if n.f0 = 2 then some (refT L n.f5, r)
    else if n.f0 = 3 then some (refT L n.f5 ++ [mk [58], (3, L.cel n.f6)], r)
    else if n.f0 = 6 then (atkF k true n.f4 r).map fun (T, q) => ((3, n.f3) :: mk [40] :: (T ++ [mk [41]]), q)
    else if n.f0 = 5 then (tkF k (Nct n.f2) r).bind fun (T, q) => (tkF k (Nct n.f2 + 1) q).map fun (U, p) => (T ++ (5, signB n.f2) :: U, p)
    else if n.f2 = 3 then (tkF k 7 r).map fun (T, q) => (T ++ [mk [37]], q)
    else (tkF k 6 r).map fun (T, q) => ((5, signB n.f2) :: T, q)).map fun (T, q) => (bra (decide (Nea n < least)) T, q)
def atkF : Nat → Bool → Int → List S50 → Option (List Tk × List S50)
 | 0, _, _, _ => none
 | k + 1, first, m, r => if m ≤ 0 then some ([], r) else (tkF k 1 r).bind fun (T, q) => (atkF k false (m - 1) q).map fun (U, p) => ((if first then T else mk [44] :: T) ++ U, p)
end
end
section
variable (O : Ops) (L : Lf) (ts : List S39) (e : Int)
theorem opOf_cases (m : ByteArray) : opOf m = 0 ∨ opOf m = 11 ∨ opOf m = 12 ∨ opOf m = 13 ∨ opOf m = 14 ∨ opOf m = 15 ∨ opOf m = 16 ∨ opOf m = 21 ∨ opOf m = 22 ∨ opOf m = 23 ∨ opOf m = 24 ∨ opOf m = 25 ∨ opOf m = 26 := by
 unfold opOf
 by_cases h1 : m = mB [43]
 ·rw [if_pos h1]; decide
 rw [if_neg h1]
 by_cases h2 : m = mB [45]
 ·rw [if_pos h2]; decide
 rw [if_neg h2]
 by_cases h3 : m = mB [42]
 ·rw [if_pos h3]; decide
 rw [if_neg h3]
 by_cases h4 : m = mB [47]
 ·rw [if_pos h4]; decide
 rw [if_neg h4]
 by_cases h5 : m = mB [94]
 ·rw [if_pos h5]; decide
 rw [if_neg h5]
 by_cases h6 : m = mB [38]
 ·rw [if_pos h6]; decide
 rw [if_neg h6]
 by_cases h7 : m = mB [61]
 ·rw [if_pos h7]; decide
 rw [if_neg h7]
 by_cases h8 : m = mB [60, 62]
 ·rw [if_pos h8]; decide
 rw [if_neg h8]
 by_cases h9 : m = mB [60]
 ·rw [if_pos h9]; decide
 rw [if_neg h9]
 by_cases h10 : m = mB [60, 61]
 ·rw [if_pos h10]; decide
 rw [if_neg h10]
 by_cases h11 : m = mB [62]
 ·rw [if_pos h11]; decide
 rw [if_neg h11]
 by_cases h12 : m = mB [62, 61]
 ·rw [if_pos h12]; decide
 rw [if_neg h12]
 decide
end
end Go.Proofs.YtejbbceidnaloaaGreatDoor.P
