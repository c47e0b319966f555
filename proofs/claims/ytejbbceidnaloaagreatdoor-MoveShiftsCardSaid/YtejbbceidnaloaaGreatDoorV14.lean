import Derived.Test.YtejbbceidnaloaaGreatDoorV7
set_option linter.unusedVariables false
set_option linter.unusedSimpArgs false
set_option maxRecDepth 100000
set_option maxHeartbeats 8000000
namespace Go.Proofs.YtejbbceidnaloaaGreatDoor.P
open Go.RowKit AW AL AM
def IsS72 (w0 W : World) (g : Nat) (f0 : List (S39)) (f1 : Int) (f2 : Int) : Prop := ∃ A0 c0, W.heap[g]? = some (.cells #[.slice A0 f0.length c0, .int .i64 f1, .int .i64 f2] 72 (0, 0)) ∧ w0.heap.size ≤ g ∧ Kd.C k39 w0 A0 f0.length f0
theorem IsS72.grown {w0 W : World} {g : Nat} {f0 : List (S39)} {f1 : Int} {f2 : Int} {W1 : World} {row : Option Nat} (h : IsS72 w0 W g f0 f1 f2) (hw : W.grownBy W1 row) (hne : some g ≠ row) : IsS72 w0 W1 g f0 f1 f2 := by
 obtain ⟨A0, c0, hb, hg, hr0⟩ := h
 exact ⟨A0, c0, blk_grown hb hw hne, hg, hr0⟩
theorem IsS72.below {w0 W : World} {g : Nat} {f0 : List (S39)} {f1 : Int} {f2 : Int} {W1 : World} (h : IsS72 w0 W g f0 f1 f2) (hw : Below W.heap.size W W1) : IsS72 w0 W1 g f0 f1 f2 := h.grown (grown_of_below hw none) (by simp)
theorem IsS72.alloc {w0 W : World} {g : Nat} {f0 : List (S39)} {f1 : Int} {f2 : Int} (h : IsS72 w0 W g f0 f1 f2) (o : Obj) : IsS72 w0 (W.alloc o) g f0 f1 f2 := h.below (Naf (Below.refl _ _) o)
theorem IsS72.drewN {w0 W : World} {g : Nat} {f0 : List (S39)} {f1 : Int} {f2 : Int} (h : IsS72 w0 W g f0 f1 f2) (m : Nat) : IsS72 w0 (W.drewN m) g f0 f1 f2 := h
theorem IsS72.drew {w0 W : World} {g : Nat} {f0 : List (S39)} {f1 : Int} {f2 : Int} (h : IsS72 w0 W g f0 f1 f2) : IsS72 w0 W.drew g f0 f1 f2 := h
theorem IsS72.lt {w0 W : World} {g : Nat} {f0 : List (S39)} {f1 : Int} {f2 : Int} (h : IsS72 w0 W g f0 f1 f2) : g < W.heap.size := by
 obtain ⟨A0, c0, hb, hg, hr0⟩ := h
 exact Nbh hb
theorem IsS72.ge {w0 W : World} {g : Nat} {f0 : List (S39)} {f1 : Int} {f2 : Int} (h : IsS72 w0 W g f0 f1 f2) : w0.heap.size ≤ g := by
 obtain ⟨A0, c0, hb, hg, hr0⟩ := h
 exact hg
theorem Nbz {W : World} {g : Nat} {A0 : Option Addr} {c0 : Nat} {f0 : List (S39)} {f1 : Int} {f2 : Int} (h : W.heap[g]? = some (.cells #[.slice A0 f0.length c0, .int .i64 f1, .int .i64 f2] 72 (0, 0))) : W.cell? ⟨g, 0, none⟩ = some (.slice A0 f0.length c0) := (Naa h 0).trans rfl
theorem Nba {W : World} {g : Nat} {A0 : Option Addr} {c0 : Nat} {f0 : List (S39)} {f1 : Int} {f2 : Int} (h : W.heap[g]? = some (.cells #[.slice A0 f0.length c0, .int .i64 f1, .int .i64 f2] 72 (0, 0))) : W.cell? ⟨g, 1, none⟩ = some (.int .i64 f1) := (Naa h 1).trans rfl
theorem IsS72.set_1 {w0 W : World} {g : Nat} {f0 : List (S39)} {f1 : Int} {f2 : Int} (h : IsS72 w0 W g f0 f1 f2) (x : Int) : IsS72 w0 (W.setCell ⟨g, 1, none⟩ (.int .i64 x)) g f0 x f2 := by
 obtain ⟨A0, c0, hb, hg, hr0⟩ := h
 exact ⟨A0, c0, by simpa using blk_set hb 1 (.int .i64 x), hg, hr0⟩
theorem Ne6 {W : World} {g : Nat} {A0 : Option Addr} {c0 : Nat} {f0 : List (S39)} {f1 : Int} {f2 : Int} (h : W.heap[g]? = some (.cells #[.slice A0 f0.length c0, .int .i64 f1, .int .i64 f2] 72 (0, 0))) : W.cell? ⟨g, 2, none⟩ = some (.int .i64 f2) := (Naa h 2).trans rfl
theorem IsS72.set_2 {w0 W : World} {g : Nat} {f0 : List (S39)} {f1 : Int} {f2 : Int} (h : IsS72 w0 W g f0 f1 f2) (x : Int) : IsS72 w0 (W.setCell ⟨g, 2, none⟩ (.int .i64 x)) g f0 f1 x := by
 obtain ⟨A0, c0, hb, hg, hr0⟩ := h
 exact ⟨A0, c0, by simpa using blk_set hb 2 (.int .i64 x), hg, hr0⟩
theorem IsS72.new (w0 W : World) (A0 : Option Addr) (c0 : Nat) (f0 : List (S39)) (f1 : Int) (f2 : Int) (hB : Below w0.heap.size w0 W) (hr0 : Kd.C k39 w0 A0 f0.length f0) : IsS72 w0 (W.alloc (.cells #[.slice A0 f0.length c0, .int .i64 f1, .int .i64 f2] 72)) W.heap.size f0 f1 f2 := ⟨A0, c0, by simpa using heap_alloc_new W _, hB.size, hr0⟩
def Nbu.f (s0_0 : List (S39)) (s0_1 : Int) (s0_2 : Int) : Option (ByteArray × Int × Int) := if s0_1 < (s0_0.length : Int) then (if 0 ≤ s0_1 then (if ((Nb6 s0_0 s0_1).f0) = 5 then (some ((Nb6 s0_0 s0_1).f1, s0_1, s0_2)) else (some ((⟨#[]⟩ : ByteArray), s0_1, s0_2))) else (none)) else (some ((⟨#[]⟩ : ByteArray), s0_1, s0_2))
theorem Nbu.calls (g : Nat) (s0_0 : List (S39)) (s0_1 : Int) (s0_2 : Int) (r1 : ByteArray) (r2 : Int) (r3 : Int) (w0 w : World) (hI : IsS72 w0 w g s0_0 s0_1 s0_2) (hB : Below w0.heap.size w0 w) (h : Nbu.f s0_0 s0_1 s0_2 = some (r1, r2, r3)) :
 Calls Tryz.prog 107 #[.pointer (some ⟨g, 0, none⟩)] w fun e w' => e = .returned (.string r1) ∧ IsS72 w0 w' g s0_0 r2 r3 ∧ Below w0.heap.size w0 w' ∧ Na6 w w' g none := by
 have HI0 := aM hI
 have HK := aM (Na6.refl w g none)
 have HL := aM hB.size
 clear hI
 have HW0 := aM hB.size
 have HB := aM hB
 clear hB
 have H := h
 unfold Nbu.f at H
 clear h
 by_cases c2 : s0_1 < (s0_0.length : Int)
 ·rw [if_pos c2] at H
  have c2b0 : decide (s0_1 < (s0_0.length : Int)) = true := decide_eq_true c2
  clear c2
  by_cases c3 : 0 ≤ s0_1
  ·rw [if_pos c3] at H
   have c3b0 : decide (0 ≤ s0_1) = true := decide_eq_true c3
   clear c3
   by_cases c4 : ((Nb6 s0_0 s0_1).f0) = 5
   ·rw [if_pos c4] at H
    obtain ⟨c4b0, c4b1⟩ := bqT c4
    clear c4
    simp only [sJ, pJ] at H
    obtain ⟨rfl, rfl, rfl⟩ := H
    obtain ⟨ASz5_0, cSz5_0, HGz5, hgz5, HSz5_0⟩ := HI0.out
    have hcz5_0 := Nbz HGz5
    have hcz5_1 := Nba HGz5
    have hcz5_2 := Ne6 HGz5
    have hfz5_1 := Nae HGz5 1
    have hfz5_2 := Nae HGz5 2
    clear HGz5 hgz5
    have p101 : 0 ≤ (s0_1 : Int) := of_decide_eq_true (by first | (with_reducible assumption) | assumption)
    have q101 : s0_1 < (s0_0.length : Int) := of_decide_eq_true (by first | (with_reducible assumption) | assumption)
    obtain ⟨ad101, e101, hx101_0, hx101_1, hx101_2⟩ := Nef HSz5_0 s0_1 p101 q101
    cases e101
    replace hx101_0 := Nad HB.out hx101_0
    replace hx101_1 := Nad HB.out hx101_1
    replace hx101_2 := Nad HB.out hx101_2
    replace p101 := eq_true p101
    replace q101 := eq_true q101
    have p102 : 0 ≤ (s0_1 : Int) := of_decide_eq_true (by first | (with_reducible assumption) | assumption)
    have q102 : s0_1 < (s0_0.length : Int) := of_decide_eq_true (by first | (with_reducible assumption) | assumption)
    obtain ⟨ad102, e102, hx102_0, hx102_1, hx102_2⟩ := Nef HSz5_0 s0_1 p102 q102
    obtain rfl : ad101 = ad102 := (by injection e102)
    replace hx102_0 := Nad HB.out hx102_0
    replace hx102_1 := Nad HB.out hx102_1
    replace hx102_2 := Nad HB.out hx102_2
    replace p102 := eq_true p102
    replace q102 := eq_true q102
    go_enter Tryz.func107, Tryz.ntmps107
    go_wp2
    repeat (go_quiet (fail); try go_wp2)
    go_ret
    exact ⟨eR, by repeat (first | (with_reducible first | exact HI0.out | apply IsS72.alloc | apply IsS72.drewN | apply IsS72.drew | apply IsS72.set_1 | apply IsS72.set_2) | exact HI0.out), by repeat (first | (with_reducible first | exact HB.out | apply Naf | apply Nax | apply Nb5 | refine Ndq ?_ (IsS72.ge HI0.out)) | exact HB.out), by repeat (first | (with_reducible first | exact HK.out | apply Na6.set_ | apply Ndk | apply Neb | apply Ndt) | exact HK.out)⟩
   ·rw [if_neg c4] at H
    obtain ⟨c4b0, c4b1⟩ := bqF c4
    simp only [sJ, pJ] at H
    obtain ⟨rfl, rfl, rfl⟩ := H
    obtain ⟨ASz6_0, cSz6_0, HGz6, hgz6, HSz6_0⟩ := HI0.out
    have hcz6_0 := Nbz HGz6
    have hcz6_1 := Nba HGz6
    have hcz6_2 := Ne6 HGz6
    have hfz6_1 := Nae HGz6 1
    have hfz6_2 := Nae HGz6 2
    clear HGz6 hgz6
    have p101 : 0 ≤ (s0_1 : Int) := of_decide_eq_true (by first | (with_reducible assumption) | assumption)
    have q101 : s0_1 < (s0_0.length : Int) := of_decide_eq_true (by first | (with_reducible assumption) | assumption)
    obtain ⟨ad101, e101, hx101_0, hx101_1, hx101_2⟩ := Nef HSz6_0 s0_1 p101 q101
    cases e101
    replace hx101_0 := Nad HB.out hx101_0
    replace hx101_1 := Nad HB.out hx101_1
    replace hx101_2 := Nad HB.out hx101_2
    replace p101 := eq_true p101
    replace q101 := eq_true q101
    go_enter Tryz.func107, Tryz.ntmps107
    go_wp2
    repeat (go_quiet (fail); try go_wp2)
    go_ret
    exact ⟨eR, by repeat (first | (with_reducible first | exact HI0.out | apply IsS72.alloc | apply IsS72.drewN | apply IsS72.drew | apply IsS72.set_1 | apply IsS72.set_2) | exact HI0.out), by repeat (first | (with_reducible first | exact HB.out | apply Naf | apply Nax | apply Nb5 | refine Ndq ?_ (IsS72.ge HI0.out)) | exact HB.out), by repeat (first | (with_reducible first | exact HK.out | apply Na6.set_ | apply Ndk | apply Neb | apply Ndt) | exact HK.out)⟩
  ·rw [if_neg c3] at H
   exact absurd H (by simp)
 ·rw [if_neg c2] at H
  have c2b0 : decide (s0_1 < (s0_0.length : Int)) = false := decide_eq_false c2
  clear c2
  simp only [sJ, pJ] at H
  obtain ⟨rfl, rfl, rfl⟩ := H
  obtain ⟨ASz7_0, cSz7_0, HGz7, hgz7, HSz7_0⟩ := HI0.out
  have hcz7_0 := Nbz HGz7
  have hcz7_1 := Nba HGz7
  have hcz7_2 := Ne6 HGz7
  have hfz7_1 := Nae HGz7 1
  have hfz7_2 := Nae HGz7 2
  clear HGz7 hgz7
  go_enter Tryz.func107, Tryz.ntmps107
  go_wp2
  repeat (go_quiet (fail); try go_wp2)
  go_ret
  exact ⟨eR, by repeat (first | (with_reducible first | exact HI0.out | apply IsS72.alloc | apply IsS72.drewN | apply IsS72.drew | apply IsS72.set_1 | apply IsS72.set_2) | exact HI0.out), by repeat (first | (with_reducible first | exact HB.out | apply Naf | apply Nax | apply Nb5 | refine Ndq ?_ (IsS72.ge HI0.out)) | exact HB.out), by repeat (first | (with_reducible first | exact HK.out | apply Na6.set_ | apply Ndk | apply Neb | apply Ndt) | exact HK.out)⟩
def Ncb.f (s0_0 : List (S39)) (s0_1 : Int) (s0_2 : Int) (a1 : ByteArray) : Option (Bool × Int × Int) := (Nbu.f s0_0 s0_1 s0_2).bind fun bt101 => (if bt101.1.toList = a1.toList then (some (true, wrap64 (bt101.2.1 + 1), bt101.2.2)) else (some (false, bt101.2.1, bt101.2.2)))
theorem Ncb.calls (g : Nat) (s0_0 : List (S39)) (s0_1 : Int) (s0_2 : Int) (a1 : ByteArray) (r1 : Bool) (r2 : Int) (r3 : Int) (w0 w : World) (hI : IsS72 w0 w g s0_0 s0_1 s0_2) (hB : Below w0.heap.size w0 w) (h : Ncb.f s0_0 s0_1 s0_2 a1 = some (r1, r2, r3)) :
 Calls Tryz.prog 143 #[.pointer (some ⟨g, 0, none⟩), .string a1] w fun e w' => e = .returned (.bool r1) ∧ IsS72 w0 w' g s0_0 r2 r3 ∧ Below w0.heap.size w0 w' ∧ Na6 w w' g none := by
 have HI0 := aM hI
 have HK := aM (Na6.refl w g none)
 have HL := aM hB.size
 clear hI
 have HW0 := aM hB.size
 have HB := aM hB
 clear hB
 have H := h
 unfold Ncb.f at H
 clear h
 replace H := bS H
 obtain ⟨⟨t101, t102, t103⟩, A30, H⟩ := H
 try dsimp only at H
 have A3 := aM A30
 clear A30
 by_cases c4 : t101.toList = a1.toList
 ·rw [if_pos c4] at H
  obtain ⟨c4b0, c4b1⟩ := bqT c4
  clear c4
  simp only [sJ, pJ] at H
  obtain ⟨rfl, rfl, rfl⟩ := H
  go_enter Tryz.func143, Tryz.ntmps143
  go_wp2_with (first | ((with_reducible refine gC 107 rfl ?_); refine gL 6 Tryz.func107 #[.pointer (some ⟨g, 0, none⟩)] ?_; (with_reducible refine (Nbu.calls g s0_0 s0_1 s0_2 t101 t102 t103 w0 _ ?side1 ?side2 A3.out).mono ?_); (case side1 => repeat (first | (with_reducible first | exact HI0.out | apply IsS72.alloc | apply IsS72.drewN | apply IsS72.drew | apply IsS72.set_1 | apply IsS72.set_2) | exact HI0.out)); (case side2 => repeat (first | (with_reducible first | exact HB.out | apply Naf | apply Nax | apply Nb5 | refine Ndq ?_ (IsS72.ge HI0.out)) | exact HB.out)); rintro e w5 ⟨rfl, hi, hb, hk⟩; refine ⟨_, rfl, ?_⟩; replace HK := aM (Na6.trans (by repeat (first | (with_reducible first | exact HK.out | apply Na6.set_ | apply Ndk | apply Neb | apply Ndt) | exact HK.out)) hk (.inl rfl)); replace HB := aM (hb); replace HI0 := aM (hi); (try clear hb); obtain ⟨ASz6_0, cSz6_0, HGz6, hgz6, HSz6_0⟩ := HI0.out; have hcz6_0 := Nbz HGz6; have hcz6_1 := Nba HGz6; have hcz6_2 := Ne6 HGz6; have hfz6_1 := Nae HGz6 1; have hfz6_2 := Nae HGz6 2; clear HGz6 hgz6))
  go_ret
  exact ⟨eR, by repeat (first | (with_reducible first | exact HI0.out | apply IsS72.alloc | apply IsS72.drewN | apply IsS72.drew | apply IsS72.set_1 | apply IsS72.set_2) | exact HI0.out), by repeat (first | (with_reducible first | exact HB.out | apply Naf | apply Nax | apply Nb5 | refine Ndq ?_ (IsS72.ge HI0.out)) | exact HB.out), by repeat (first | (with_reducible first | exact HK.out | apply Na6.set_ | apply Ndk | apply Neb | apply Ndt) | exact HK.out)⟩
 ·rw [if_neg c4] at H
  obtain ⟨c4b0, c4b1⟩ := bqF c4
  simp only [sJ, pJ] at H
  obtain ⟨rfl, rfl, rfl⟩ := H
  go_enter Tryz.func143, Tryz.ntmps143
  go_wp2_with (first | ((with_reducible refine gC 107 rfl ?_); refine gL 6 Tryz.func107 #[.pointer (some ⟨g, 0, none⟩)] ?_; (with_reducible refine (Nbu.calls g s0_0 s0_1 s0_2 t101 t102 t103 w0 _ ?side1 ?side2 A3.out).mono ?_); (case side1 => repeat (first | (with_reducible first | exact HI0.out | apply IsS72.alloc | apply IsS72.drewN | apply IsS72.drew | apply IsS72.set_1 | apply IsS72.set_2) | exact HI0.out)); (case side2 => repeat (first | (with_reducible first | exact HB.out | apply Naf | apply Nax | apply Nb5 | refine Ndq ?_ (IsS72.ge HI0.out)) | exact HB.out)); rintro e w7 ⟨rfl, hi, hb, hk⟩; refine ⟨_, rfl, ?_⟩; replace HK := aM (Na6.trans (by repeat (first | (with_reducible first | exact HK.out | apply Na6.set_ | apply Ndk | apply Neb | apply Ndt) | exact HK.out)) hk (.inl rfl)); replace HB := aM (hb); replace HI0 := aM (hi); (try clear hb)))
  go_ret
  exact ⟨eR, by repeat (first | (with_reducible first | exact HI0.out | apply IsS72.alloc | apply IsS72.drewN | apply IsS72.drew | apply IsS72.set_1 | apply IsS72.set_2) | exact HI0.out), by repeat (first | (with_reducible first | exact HB.out | apply Naf | apply Nax | apply Nb5 | refine Ndq ?_ (IsS72.ge HI0.out)) | exact HB.out), by repeat (first | (with_reducible first | exact HK.out | apply Na6.set_ | apply Ndk | apply Neb | apply Ndt) | exact HK.out)⟩
end Go.Proofs.YtejbbceidnaloaaGreatDoor.P
namespace Go.Proofs.YtejbbceidnaloaaGreatDoor.P
def eB : ByteArray := ⟨#[]⟩
def zV : S46 := ⟨0, ⟨0, 0⟩, eB, false, 0⟩
def zR : S48 := ⟨eB, 0, 0, false, false⟩
def nVal (v : S46) : S50 := ⟨1, v, 0, eB, 0, zR, zR⟩
def nCell (r : S48) : S50 := ⟨2, zV, 0, eB, 0, r, zR⟩
def nArea (r s : S48) : S50 := ⟨3, zV, 0, eB, 0, r, s⟩
def nUn (o : Int) : S50 := ⟨4, zV, o, eB, 0, zR, zR⟩
def nBin (o : Int) : S50 := ⟨5, zV, o, eB, 0, zR, zR⟩
def nCall (m : ByteArray) (n : Int) : S50 := ⟨6, zV, 0, m, n, zR, zR⟩
structure Ops where
 num : ByteArray → Option S46
 txt : ByteArray → S46
 flt : ByteArray → S46
 tru : Bool → S46
 cell : ByteArray → Option S48
 fn : ByteArray → Bool
 sh : ByteArray → Bool
abbrev Res (α : Type) := Option (Except (Int × Int) α)
def Res.bnd {α β : Type} (r : Res α) (f : α → Res β) : Res β := match r with
 | none => none
 | some (.error e) => some (.error e)
 | some (.ok a) => f a
def okR {α : Type} (a : α) : Res α := some (.ok a)
def erR {α : Type} (c p : Int) : Res α := some (.error (c, p))
section
variable (O : Ops) (ts : List S39) (e : Int)
def zT : S39 := ⟨0, eB, 0⟩
def tokA (at_ : Int) : S39 := ts.getD at_.toNat zT
def Nby (at_ : Int) : Int := if at_ < ts.length then (tokA ts at_).f2 else e
def markA (at_ : Int) : ByteArray := if at_ < ts.length ∧ (tokA ts at_).f0 = 5 then (tokA ts at_).f1 else eB
def mB (l : List UInt8) : ByteArray := ⟨l.toArray⟩
def opOf (m : ByteArray) : Int :=
 if m = mB [43] then 11 else if m = mB [45] then 12 else if m = mB [42] then 13 else if m = mB [47] then 14 else if m = mB [94] then 15 else if m = mB [38] then 16
 else if m = mB [61] then 21 else if m = mB [60, 62] then 22 else if m = mB [60] then 23 else if m = mB [60, 61] then 24 else if m = mB [62] then 25 else if m = mB [62, 61] then 26 else 0
def Nct (o : Int) : Int := if o = 16 then 2 else if o = 11 then 3 else if o = 12 then 3 else if o = 13 then 4 else if o = 14 then 4 else if o = 15 then 5 else 1
def celF (at_ : Int) : Res (S48 × Int) :=
 if at_ < ts.length ∧ (tokA ts at_).f0 = 3 ∧ markA ts (at_ + 1) ≠ mB [40] ∧ markA ts (at_ + 1) ≠ mB [33] then
  match O.cell (tokA ts at_).f1 with
  | some r => okR (r, at_ + 1)
  | none => erR 50 (Nby ts e at_)
 else erR 50 (Nby ts e at_)
def refF (sheet : ByteArray) (at_ : Int) : Res (List S50 × Int) :=
 (celF O ts e at_).bnd fun (r, a) =>
   if markA ts a = mB [58] then (celF O ts e (a + 1)).bnd fun (s, b) => okR ([nArea ⟨sheet, r.f1, r.f2, r.f3, r.f4⟩ s], b)
   else okR ([nCell ⟨sheet, r.f1, r.f2, r.f3, r.f4⟩], a)
def tTRUE : ByteArray := mB [84, 82, 85, 69]
def tFALSE : ByteArray := mB [70, 65, 76, 83, 69]
def perF : Nat → List S50 → Int → Res (List S50 × Int)
 | 0, _, _ => none
 | k + 1, out, at_ => if markA ts at_ = mB [37] then perF k (nUn 3 :: out) (at_ + 1) else okR (out, at_)
mutual
def binF : Nat → Int → Int → Res (List S50 × Int)
 | 0, _, _ => none
 | k + 1, least, at_ => if least = 6 then sgnF k at_ else (binF k (least + 1) at_).bnd fun (l, a) => lopF k least l a
def lopF : Nat → Int → List S50 → Int → Res (List S50 × Int)
 | 0, _, _, _ => none
 | k + 1, least, left, at_ =>
  if opOf (markA ts at_) = 0 ∨ Nct (opOf (markA ts at_)) ≠ least then okR (left, at_)
  else (binF k (least + 1) (at_ + 1)).bnd fun (r, a) => lopF k least (nBin (opOf (markA ts at_)) :: (left ++ r)) a
def sgnF : Nat → Int → Res (List S50 × Int)
 | 0, _ => none
 | k + 1, at_ =>
  if markA ts at_ = mB [45] then (sgnF k (at_ + 1)).bnd fun (r, a) => okR (nUn 1 :: r, a)
  else if markA ts at_ = mB [43] then (sgnF k (at_ + 1)).bnd fun (r, a) => okR (nUn 2 :: r, a)
  else (parF k at_).bnd fun (r, a) => perF ts k r a
def parF : Nat → Int → Res (List S50 × Int)
 | 0, _ => none
 | k + 1, at_ =>
  if markA ts at_ = mB [40] then (binF k 1 (at_ + 1)).bnd fun (r, a) => if markA ts a = mB [41] then okR (r, a + 1) else erR 50 (Nby ts e a)
  else if at_ < ts.length then
   if (tokA ts at_).f0 = 3 then worF k (tokA ts at_).f1 at_
   else if (tokA ts at_).f0 = 1 then match O.num (tokA ts at_).f1 with
    | some v => okR ([nVal v], at_ + 1)
    | none => erR 50 (Nby ts e at_)
   else if (tokA ts at_).f0 = 2 then if (tokA ts at_).f1.size ≤ 256 then okR ([nVal (O.txt (tokA ts at_).f1)], at_ + 1) else erR 50 (Nby ts e at_)
   else if (tokA ts at_).f0 = 4 then okR ([nVal (O.flt (tokA ts at_).f1)], at_ + 1)
   else erR 50 (Nby ts e at_)
  else erR 50 (Nby ts e at_)
def worF : Nat → ByteArray → Int → Res (List S50 × Int)
 | 0, _, _ => none
 | k + 1, w, at_ =>
  if markA ts (at_ + 1) = mB [40] then calF k w at_
  else if markA ts (at_ + 1) = mB [33] then if O.sh w then refF O ts e w (at_ + 2) else erR 50 (Nby ts e at_)
  else if w = tTRUE then okR ([nVal (O.tru true)], at_ + 1)
  else if w = tFALSE then okR ([nVal (O.tru false)], at_ + 1)
  else refF O ts e eB at_
def calF : Nat → ByteArray → Int → Res (List S50 × Int)
 | 0, _, _ => none
 | k + 1, m, at_ =>
  if O.fn m then if markA ts (at_ + 2) = mB [41] then okR ([nCall m 0], at_ + 3) else argF k m [] 0 (at_ + 2)
  else erR 50 (Nby ts e at_)
def argF : Nat → ByteArray → List S50 → Int → Int → Res (List S50 × Int)
 | 0, _, _, _, _ => none
 | k + 1, m, acc, n, at_ =>
  (binF k 1 at_).bnd fun (r, a) =>
    if markA ts a = mB [44] then if n + 1 = 30 then erR 3 (Nby ts e a) else argF k m (acc ++ r) (n + 1) (a + 1)
    else if markA ts a = mB [41] then okR (nCall m (n + 1) :: (acc ++ r), a + 1) else erR 50 (Nby ts e a)
end
def Neg (k : Nat) : Res (List S50) := (binF O ts e k 1 0).bnd fun (l, a) => if a < ts.length then erR 50 (Nby ts e a) else okR l
end
theorem Nel {α β : Type} {r r' : Res α} {f f' : α → Res β} {z : Except (Int × Int) β} (h1 : ∀ x, r = some x → r' = some x) (h2 : ∀ a y, f a = some y → f' a = some y) (h : r.bnd f = some z) : r'.bnd f' = some z := by
 cases r with
 | none => cases h
 | some x =>
  rw [h1 x rfl]
  cases x with
  | error e => exact h
  | ok a => exact h2 a z h
section
variable (O : Ops) (ts : List S39) (e : Int)
theorem perF_mono : ∀ (k : Nat) (out : List S50) (at_ : Int) (x), perF ts k out at_ = some x → perF ts (k + 1) out at_ = some x
 | 0, _, _, _, h => by cases h
 | k + 1, out, at_, x, h => by
  rw [perF] at h ⊢
  split at h
  ·rw [if_pos ‹_›]; exact perF_mono k _ _ x h
  ·rw [if_neg ‹_›]; exact h
theorem mono_all : ∀ k : Nat, (∀ least at_ x, binF O ts e k least at_ = some x → binF O ts e (k + 1) least at_ = some x) ∧
 (∀ least left at_ x, lopF O ts e k least left at_ = some x → lopF O ts e (k + 1) least left at_ = some x) ∧
 (∀ at_ x, sgnF O ts e k at_ = some x → sgnF O ts e (k + 1) at_ = some x) ∧
 (∀ at_ x, parF O ts e k at_ = some x → parF O ts e (k + 1) at_ = some x) ∧
 (∀ m at_ x, worF O ts e k m at_ = some x → worF O ts e (k + 1) m at_ = some x) ∧
 (∀ m at_ x, calF O ts e k m at_ = some x → calF O ts e (k + 1) m at_ = some x) ∧
 (∀ m acc n at_ x, argF O ts e k m acc n at_ = some x → argF O ts e (k + 1) m acc n at_ = some x) := by
 intro k
 induction k with
 | zero =>
  refine ⟨?_, ?_, ?_, ?_, ?_, ?_, ?_⟩
  ·intro _ _ _ h; rw [binF] at h; cases h
  ·intro _ _ _ _ h; rw [lopF] at h; cases h
  ·intro _ _ h; rw [sgnF] at h; cases h
  ·intro _ _ h; rw [parF] at h; cases h
  ·intro _ _ _ h; rw [worF] at h; cases h
  ·intro _ _ _ h; rw [calF] at h; cases h
  ·intro _ _ _ _ _ h; rw [argF] at h; cases h
 | succ k ih =>
  obtain ⟨h1, h2, h3, h4, h5, h6, h7⟩ := ih
  refine ⟨?_, ?_, ?_, ?_, ?_, ?_, ?_⟩
  ·intro least at_ x h
   rw [binF] at h ⊢
   split at h
   ·rw [if_pos ‹_›]; exact h3 _ _ h
   ·rw [if_neg ‹_›]; exact Nel (h1 _ _) (fun _ _ => h2 _ _ _ _) h
  ·intro least left at_ x h
   rw [lopF] at h ⊢
   split at h
   ·rw [if_pos ‹_›]; exact h
   ·rw [if_neg ‹_›]; exact Nel (h1 _ _) (fun _ _ => h2 _ _ _ _) h
  ·intro at_ x h
   rw [sgnF] at h ⊢
   split at h
   ·rw [if_pos ‹_›]; exact Nel (h3 _) (fun _ _ h => h) h
   ·rw [if_neg ‹_›]
    split at h
    ·rw [if_pos ‹_›]; exact Nel (h3 _) (fun _ _ h => h) h
    ·rw [if_neg ‹_›]; exact Nel (h4 _) (fun _ _ => perF_mono ts k _ _ _) h
  ·intro at_ x h
   rw [parF] at h ⊢
   split at h
   ·rw [if_pos ‹_›]; exact Nel (h1 _ _) (fun _ _ h => h) h
   ·rw [if_neg ‹_›]
    split at h
    ·rw [if_pos ‹_›]
     split at h
     ·rw [if_pos ‹_›]; exact h5 _ _ _ h
     ·rw [if_neg ‹_›]; exact h
    ·rw [if_neg ‹_›]; exact h
  ·intro m at_ x h
   rw [worF] at h ⊢
   split at h
   ·rw [if_pos ‹_›]; exact h6 _ _ _ h
   ·rw [if_neg ‹_›]; exact h
  ·intro m at_ x h
   rw [calF] at h ⊢
   split at h
   ·rw [if_pos ‹_›]
    split at h
    ·rw [if_pos ‹_›]; exact h
    ·rw [if_neg ‹_›]; exact h7 _ _ _ _ _ h
   ·rw [if_neg ‹_›]; exact h
  ·intro m acc n at_ x h
   rw [argF] at h ⊢
   refine Nel (h1 _ _) (fun a y hy => ?_) h
   obtain ⟨r, b⟩ := a
   simp only at hy ⊢
   split at hy
   ·rw [if_pos ‹_›]
    split at hy
    ·rw [if_pos ‹_›]; exact hy
    ·rw [if_neg ‹_›]; exact h7 _ _ _ _ _ hy
   ·rw [if_neg ‹_›]; exact hy
theorem binF_le {k m : Nat} (hkm : k ≤ m) {least at_ : Int} {x} (h : binF O ts e k least at_ = some x) : binF O ts e m least at_ = some x := by
 induction hkm with
 | refl => exact h
 | step _ ih => exact (mono_all O ts e _).1 _ _ _ ih
def Fine (at_ : Int) (r : Res (List S50 × Int)) : Prop := ∃ x, r = some x ∧ ∀ l a, x = .ok (l, a) → at_ < a ∧ a ≤ ts.length
theorem Fine.ok {at_ a : Int} {l : List S50} (h : at_ < a) (h1 : a ≤ ts.length) : Fine ts at_ (okR (l, a)) := ⟨_, rfl, fun l' a' e => by cases e; exact ⟨h, h1⟩⟩
theorem Fine.er {at_ c p : Int} : Fine ts at_ (erR c p) := ⟨_, rfl, fun l' a' e => by cases e⟩
theorem Fine.bnd {at0 at_ : Int} {r : Res (List S50 × Int)} {f : List S50 × Int → Res (List S50 × Int)} (h : Fine ts at_ r) (hf : ∀ l a, at_ < a → a ≤ ts.length → Fine ts at0 (f (l, a))) : Fine ts at0 (r.bnd f) := by
 obtain ⟨x, rfl, hx⟩ := h
 cases x with
 | error p => exact ⟨.error p, rfl, fun _ _ e => by cases e⟩
 | ok p => obtain ⟨l, a⟩ := p; obtain ⟨h1, h2⟩ := hx l a rfl; exact hf l a h1 h2
theorem Fine.less {at0 at_ : Int} {r : Res (List S50 × Int)} (h : Fine ts at_ r) (hl : at0 ≤ at_) : Fine ts at0 r := by
 obtain ⟨x, rfl, hx⟩ := h
 exact ⟨x, rfl, fun l a e => by have := hx l a e; omega⟩
theorem Nch {at_ : Int} {m : ByteArray} (h : markA ts at_ = m) (hm : m ≠ eB) : at_ < ts.length := by
 unfold markA at h
 split at h
 ·rename_i hh; exact hh.1
 ·exact absurd h.symm hm
theorem opOf_lt {at_ : Int} (h : opOf (markA ts at_) ≠ 0) : at_ < ts.length := by
 unfold markA at h
 split at h
 ·rename_i hh; exact hh.1
 ·exact absurd (by decide) h
theorem celF_fine (at_ : Int) : ∃ x, celF O ts e at_ = some x ∧ ∀ r a, x = .ok (r, a) → at_ < a ∧ a ≤ ts.length := by
 unfold celF
 split
 ·rename_i h
  split
  ·exact ⟨_, rfl, fun r a e => by cases e; omega⟩
  ·exact ⟨_, rfl, fun r a e => by cases e⟩
 ·exact ⟨_, rfl, fun r a e => by cases e⟩
theorem refF_fine (sheet : ByteArray) (at_ : Int) : Fine ts at_ (refF O ts e sheet at_) := by
 unfold refF
 obtain ⟨x, hx, h⟩ := celF_fine O ts e at_
 rw [hx]
 cases x with
 | error p => exact ⟨.error p, rfl, fun _ _ e => by cases e⟩
 | ok p =>
  obtain ⟨r, a⟩ := p
  have ha := h r a rfl
  simp only [Res.bnd]
  split
  ·obtain ⟨y, hy, g⟩ := celF_fine O ts e (a + 1)
   rw [hy]
   cases y with
   | error p => exact ⟨.error p, rfl, fun _ _ e => by cases e⟩
   | ok p => obtain ⟨s, b⟩ := p; have := g s b rfl; exact Fine.ok ts (by omega) (by omega)
  ·exact Fine.ok ts (by omega) (by omega)
theorem perF_fine : ∀ (k : Nat) (out : List S50) (at0 at_ : Int), at0 < at_ → at_ ≤ ts.length → (ts.length - at_).toNat < k → Fine ts at0 (perF ts k out at_)
 | 0, _, _, _, _, _, h => by omega
 | k + 1, out, at0, at_, h0, h1, h => by
  rw [perF]
  split
  ·have := Nch ts ‹_› (by decide)
   exact perF_fine k _ at0 _ (by omega) (by omega) (by omega)
  ·exact Fine.ok ts h0 h1
theorem enough : ∀ (n : Nat), (∀ (k : Nat) (least at_ : Int), 0 ≤ at_ → at_ ≤ ts.length → (ts.length - at_).toNat ≤ n → 1 ≤ least → least ≤ 6 → 16 * n + 12 - least.toNat ≤ k → Fine ts at_ (binF O ts e k least at_)) ∧
 (∀ (k : Nat) (least : Int) (left : List S50) (at0 at_ : Int), 0 ≤ at_ → at0 < at_ → at_ ≤ ts.length → (ts.length - at_).toNat ≤ n → 1 ≤ least → least < 6 → 16 * n + 15 ≤ k → Fine ts at0 (lopF O ts e k least left at_)) ∧
 (∀ (k : Nat) (at_ : Int), 0 ≤ at_ → at_ ≤ ts.length → (ts.length - at_).toNat ≤ n → 16 * n + 5 ≤ k → Fine ts at_ (sgnF O ts e k at_)) ∧
 (∀ (k : Nat) (at_ : Int), 0 ≤ at_ → at_ ≤ ts.length → (ts.length - at_).toNat ≤ n → 16 * n + 4 ≤ k → Fine ts at_ (parF O ts e k at_)) ∧
 (∀ (k : Nat) (m : ByteArray) (at_ : Int), 0 ≤ at_ → at_ < ts.length → (ts.length - at_).toNat ≤ n → 16 * n + 3 ≤ k → Fine ts at_ (worF O ts e k m at_)) ∧
 (∀ (k : Nat) (m : ByteArray) (at_ : Int), 0 ≤ at_ → at_ + 1 < ts.length → (ts.length - at_).toNat ≤ n → 16 * n + 2 ≤ k → Fine ts at_ (calF O ts e k m at_)) ∧
 (∀ (k : Nat) (m : ByteArray) (acc : List S50) (c at0 at_ : Int), 0 ≤ at_ → at0 ≤ at_ → at_ ≤ ts.length → (ts.length - at_).toNat ≤ n → 16 * n + 15 ≤ k → Fine ts at0 (argF O ts e k m acc c at_)) := by
 intro n
 induction n using Nat.strongRecOn with
 | ind n ih =>
  have ihn : ∀ a : Int, 0 ≤ a → (ts.length - a).toNat < n → a ≤ ts.length → (∀ k least, 1 ≤ least → least ≤ 6 → 16 * n - 4 - least.toNat ≤ k → Fine ts a (binF O ts e k least a)) ∧
   (∀ k least left at0, at0 < a → 1 ≤ least → least < 6 → 16 * n - 1 ≤ k → Fine ts at0 (lopF O ts e k least left a)) ∧ (∀ k, 16 * n - 11 ≤ k → Fine ts a (sgnF O ts e k a)) ∧
   (∀ k m acc c at0, at0 ≤ a → 16 * n - 1 ≤ k → Fine ts at0 (argF O ts e k m acc c a)) := by
   intro a h0 ha hl
   have h := ih (n - 1) (by omega)
   exact ⟨fun k least h1 h2 h3 => h.1 k least a h0 hl (by omega) h1 h2 (by omega), fun k least left at0 hh h1 h2 h3 => h.2.1 k least left at0 a h0 hh hl (by omega) h1 h2 (by omega),
    fun k h3 => h.2.2.1 k a h0 hl (by omega) (by omega), fun k m acc c at0 hh h3 => h.2.2.2.2.2.2 k m acc c at0 a h0 hh hl (by omega) (by omega)⟩
  have h6 : ∀ (k : Nat) (m : ByteArray) (at_ : Int), 0 ≤ at_ → at_ + 1 < ts.length → (ts.length - at_).toNat ≤ n → 16 * n + 2 ≤ k → Fine ts at_ (calF O ts e k m at_) := by
   intro k m at_ h0 h1 h2 h3
   obtain ⟨k, rfl⟩ : ∃ y, k = y + 1 := ⟨k - 1, by omega⟩
   rw [calF]
   split
   ·split
    ·have := Nch ts ‹markA ts (at_ + 2) = _› (by decide)
     exact Fine.ok ts (by omega) (by omega)
    ·exact (ihn (at_ + 2) (by omega) (by omega) (by omega)).2.2.2 _ _ _ _ _ (by omega) (by omega)
   ·exact Fine.er ts
  have h5 : ∀ (k : Nat) (m : ByteArray) (at_ : Int), 0 ≤ at_ → at_ < ts.length → (ts.length - at_).toNat ≤ n → 16 * n + 3 ≤ k → Fine ts at_ (worF O ts e k m at_) := by
   intro k m at_ h0 h1 h2 h3
   obtain ⟨k, rfl⟩ : ∃ y, k = y + 1 := ⟨k - 1, by omega⟩
   rw [worF]
   split
   ·have := Nch ts ‹markA ts (at_ + 1) = _› (by decide)
    exact h6 _ _ _ h0 (by omega) h2 (by omega)
   ·split
    ·split
     ·exact (refF_fine O ts e _ _).less ts (by omega)
     ·exact Fine.er ts
    ·split
     ·exact Fine.ok ts (by omega) (by omega)
     ·split
      ·exact Fine.ok ts (by omega) (by omega)
      ·exact refF_fine O ts e _ _
  have h4 : ∀ (k : Nat) (at_ : Int), 0 ≤ at_ → at_ ≤ ts.length → (ts.length - at_).toNat ≤ n → 16 * n + 4 ≤ k → Fine ts at_ (parF O ts e k at_) := by
   intro k at_ h0 h1 h2 h3
   obtain ⟨k, rfl⟩ : ∃ y, k = y + 1 := ⟨k - 1, by omega⟩
   rw [parF]
   split
   ·have hm := Nch ts ‹markA ts at_ = _› (by decide)
    refine Fine.bnd ts ((ihn (at_ + 1) (by omega) (by omega) (by omega)).1 _ _ (by omega) (by omega) (by omega)) (fun l a ha hl => ?_)
    simp only
    split
    ·have := Nch ts ‹markA ts a = _› (by decide)
     exact Fine.ok ts (by omega) (by omega)
    ·exact Fine.er ts
   ·split
    ·split
     ·exact h5 _ _ _ h0 ‹_› h2 (by omega)
     ·split
      ·split
       ·exact Fine.ok ts (by omega) (by omega)
       ·exact Fine.er ts
      ·split
       ·split
        ·exact Fine.ok ts (by omega) (by omega)
        ·exact Fine.er ts
       ·split
        ·exact Fine.ok ts (by omega) (by omega)
        ·exact Fine.er ts
    ·exact Fine.er ts
  have h3 : ∀ (k : Nat) (at_ : Int), 0 ≤ at_ → at_ ≤ ts.length → (ts.length - at_).toNat ≤ n → 16 * n + 5 ≤ k → Fine ts at_ (sgnF O ts e k at_) := by
   intro k at_ h0 h1 h2 hk
   obtain ⟨k, rfl⟩ : ∃ y, k = y + 1 := ⟨k - 1, by omega⟩
   rw [sgnF]
   split
   ·have hm := Nch ts ‹markA ts at_ = _› (by decide)
    exact Fine.bnd ts ((ihn (at_ + 1) (by omega) (by omega) (by omega)).2.2.1 _ (by omega)) (fun l a ha hl => Fine.ok ts (by omega) hl)
   ·split
    ·have hm := Nch ts ‹markA ts at_ = _› (by decide)
     exact Fine.bnd ts ((ihn (at_ + 1) (by omega) (by omega) (by omega)).2.2.1 _ (by omega)) (fun l a ha hl => Fine.ok ts (by omega) hl)
    ·exact Fine.bnd ts (h4 _ _ h0 h1 h2 (by omega)) (fun l a ha hl => perF_fine ts _ _ _ _ ha hl (by omega))
  have h1 : ∀ (d k : Nat) (least at_ : Int), 0 ≤ at_ → at_ ≤ ts.length → (ts.length - at_).toNat ≤ n → 1 ≤ least → least ≤ 6 → (6 - least).toNat = d → 16 * n + 12 - least.toNat ≤ k → Fine ts at_ (binF O ts e k least at_) := by
   intro d
   induction d with
   | zero =>
    intro k least at_ h0 h1 h2 h7 h8 hd hk
    obtain ⟨k, rfl⟩ : ∃ y, k = y + 1 := ⟨k - 1, by omega⟩
    obtain rfl : least = 6 := by omega
    rw [binF, if_pos rfl]
    exact h3 _ _ h0 h1 h2 (by omega)
   | succ d ihd =>
    intro k least at_ h0 h1 h2 h7 h8 hd hk
    obtain ⟨k, rfl⟩ : ∃ y, k = y + 1 := ⟨k - 1, by omega⟩
    rw [binF, if_neg (by omega)]
    refine Fine.bnd ts (ihd k (least + 1) at_ h0 h1 h2 (by omega) (by omega) (by omega) (by omega)) (fun l a ha hl => ?_)
    exact (ihn a (by omega) (by omega) hl).2.1 _ _ _ _ ha h7 (by omega) (by omega)
  have h1' : ∀ (k : Nat) (least at_ : Int), 0 ≤ at_ → at_ ≤ ts.length → (ts.length - at_).toNat ≤ n → 1 ≤ least → least ≤ 6 → 16 * n + 12 - least.toNat ≤ k → Fine ts at_ (binF O ts e k least at_) :=
   fun k least at_ a b c d e f => h1 _ k least at_ a b c d e rfl f
  refine ⟨h1', ?_, h3, h4, h5, h6, ?_⟩
  ·intro k least left at0 at_ h0 hh h1 h2 h7 h8 hk
   obtain ⟨k, rfl⟩ : ∃ y, k = y + 1 := ⟨k - 1, by omega⟩
   rw [lopF]
   split
   ·exact Fine.ok ts hh h1
   ·rename_i hc
    have hm := opOf_lt ts (fun h => hc (.inl h))
    refine Fine.bnd ts ((ihn (at_ + 1) (by omega) (by omega) (by omega)).1 _ _ (by omega) (by omega) (by omega)) (fun l a ha hl => ?_)
    exact (ihn a (by omega) (by omega) hl).2.1 _ _ _ _ (by omega) h7 h8 (by omega)
  ·intro k m acc c at0 at_ h0 hh h1 h2 hk
   obtain ⟨k, rfl⟩ : ∃ y, k = y + 1 := ⟨k - 1, by omega⟩
   rw [argF]
   refine Fine.bnd ts (h1' _ _ _ h0 h1 h2 (by omega) (by omega) (by omega)) (fun l a ha hl => ?_)
   simp only
   split
   ·have hm := Nch ts ‹markA ts a = _› (by decide)
    split
    ·exact Fine.er ts
    ·exact (ihn (a + 1) (by omega) (by omega) (by omega)).2.2.2 _ _ _ _ _ (by omega) (by omega)
   ·split
    ·have hm := Nch ts ‹markA ts a = _› (by decide)
     exact Fine.ok ts (by omega) (by omega)
    ·exact Fine.er ts
theorem wholeF_le {k m : Nat} (hkm : k ≤ m) {x} (h : Neg O ts e k = some x) : Neg O ts e m = some x := by
 unfold Neg at h ⊢
 exact Nel (fun _ => binF_le O ts e hkm) (fun _ _ h => h) h
end
end Go.Proofs.YtejbbceidnaloaaGreatDoor.P
