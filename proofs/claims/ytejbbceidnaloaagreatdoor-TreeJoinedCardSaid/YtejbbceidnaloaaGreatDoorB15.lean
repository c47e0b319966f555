import Derived.Test.YtejbbceidnaloaaGreatDoorB12
set_option linter.unusedVariables false
set_option linter.unusedSimpArgs false
set_option maxRecDepth 100000
set_option maxHeartbeats 8000000
namespace Go.Proofs.YtejbbceidnaloaaGreatDoor.P
open Go.RowKit AW AL AM
def Nau.f (a0 : Int) : Option (ByteArray) := if -9223372036854775808 ≤ a0 ∧ a0 ≤ 9223372036854775807 then some ⟨(Lib.itoa a0).toArray⟩ else none
theorem Nau.calls (a0 : Int) (r : ByteArray) (w : World) (hG : GL w) (h : Nau.f a0 = some r) :
 Calls Tryz.prog 150 #[.int .i64 a0] w fun e w' => e = .returned (.string r) ∧ Below w.heap.size w w' := by
 unfold Nau.f at h
 split at h
 ·rename_i hb
  obtain rfl := sI h
  exact itoa_any a0 w hb.1 hb.2 (.inr hG)
 ·cases h
def Ndl.f (a0 : ByteArray) : Option (Int × Int × Bool) := if a0.size ≤ 140737488351232 then some (readF a0) else none
theorem Ndl.calls (a0 : ByteArray) (r1 r2 : Int) (r3 : Bool) (w : World) (hG : GL w) (h : Ndl.f a0 = some (r1, r2, r3)) :
 Calls Tryz.prog 221 #[.string a0] w fun e w' => e = .returned (.tuple #[.int .i64 r1, .int .i64 r2, .bool r3]) ∧ Below w.heap.size w w' := by
 unfold Ndl.f at h
 split at h
 ·rename_i hb
  have e := sI h
  refine (read_any a0 w hb (.inr hG)).mono fun e w' hp => ?_
  obtain ⟨he, hw⟩ := hp
  rw [‹readF a0 = _›] at he
  exact ⟨he, hw⟩
 ·cases h
def strings_IndexByte.f (a0 : ByteArray) (a1 : Int) : Option (Int) := some (Lib.indexByte a0.data.toList a1.toNat.toUInt8)
theorem strings_IndexByte.calls (a0 : ByteArray) (a1 r : Int) (w : World) (h : strings_IndexByte.f a0 a1 = some r) :
 Calls Tryz.prog 92 #[.string a0, .int .u8 a1] w fun e w' => e = .returned (.int .i64 r) ∧ Na9 w w' := by
 obtain rfl := sI h
 exact (Tryz.strings_IndexByte a0 a1 w).mono fun e w' ⟨he, hw⟩ => ⟨he, hw ▸ Na9.refl _⟩
def Nav.f (a0 a1 a2 : ByteArray) : Option (ByteArray) := if a0.size < 4294967281 ∧ 1 ≤ a1.size ∧ a0.size + Lib.countB a0 a1 * a2.size ≤ 140737488355328 then some ⟨(Lib.replaceAll a0.data.toList a1.data.toList a2.data.toList).toArray⟩ else none
theorem Nav.calls (a0 a1 a2 r : ByteArray) (w : World) (hG : GL w) (h : Nav.f a0 a1 a2 = some r) :
 Calls Tryz.prog 60 #[.string a0, .string a1, .string a2] w fun e w' => e = .returned (.string r) ∧ Below w.heap.size w w' := by
 unfold Nav.f at h
 split at h
 ·rename_i hb
  obtain rfl := sI h
  obtain ⟨m, hm⟩ := hG.maxl
  exact Tryz.strings_ReplaceAll a0 a1 a2 m w hb.1 hm hb.2.1 hb.2.2
 ·cases h
def Nbt.f (a0 a1 : ByteArray) : Option (ByteArray) := if a1.size = 1 ∧ (a1.data.toList.headD 0).toNat < 128 ∧ a0.size ≤ 9223372036854775807 then some ⟨(Lib.trimRightB a0.data.toList (a1.data.toList.headD 0)).toArray⟩ else none
theorem Nbt.calls (a0 a1 r : ByteArray) (w : World) (h : Nbt.f a0 a1 = some r) :
 Calls Tryz.prog 213 #[.string a0, .string a1] w fun e w' => e = .returned (.string r) ∧ Na9 w w' := by
 unfold Nbt.f at h
 split at h
 ·rename_i hb
  obtain rfl := sI h
  obtain ⟨d⟩ := a1
  obtain ⟨l⟩ := d
  match l, hb with
  | [c], hb =>
   refine (Tryz.strings_TrimRight_one a0 c (by simpa using hb.2.1) w hb.2.2).mono fun e w' hp => ?_
   obtain ⟨he, rfl⟩ := hp
   exact ⟨he, Na9.refl _⟩
 ·cases h
def stringslite_HasPrefix.f (a0 a1 : ByteArray) : Option (Bool) := if (a0.size : Int) ≥ (a1.size : Int) then (if 0 ≤ (a1.size : Int) then (if (a1.size : Int) ≤ (a0.size : Int) then (some ((a0.extract 0 ((a1.size : Int) : Int).toNat).toList == a1.toList)) else (none)) else (none)) else (some false)
theorem stringslite_HasPrefix.calls (a0 a1 : ByteArray) (r : Bool) (w : World) (h : stringslite_HasPrefix.f a0 a1 = some r) :
 Calls Tryz.prog 142 #[.string a0, .string a1] w fun e w' => e = .returned (.bool r) ∧ Na9 w w' := by
 have H := h
 unfold stringslite_HasPrefix.f at H
 clear h
 by_cases c3 : (a0.size : Int) ≥ (a1.size : Int)
 ·rw [if_pos c3] at H
  have c3b0 : decide ((a1.size : Int) ≤ (a0.size : Int)) = true := decide_eq_true c3
  have c3b1 : decide (a1.size ≤ a0.size) = true := decide_eq_true (Int.ofNat_le.mp c3)
  clear c3
  by_cases c4 : 0 ≤ (a1.size : Int)
  ·rw [if_pos c4] at H
   have c4b0 := eq_true c4
   have c4b1 : decide (0 ≤ (a1.size : Int)) = true := decide_eq_true c4
   clear c4
   by_cases c5 : (a1.size : Int) ≤ (a0.size : Int)
   ·rw [if_pos c5] at H
    have c5b0 := eq_true c5
    have c5b1 : decide ((a1.size : Int) ≤ (a0.size : Int)) = true := decide_eq_true c5
    clear c5
    obtain rfl := sI H
    go_enter Tryz.func142, Tryz.ntmps142
    go_wp2
    go_ret
    exact ⟨eR, dE⟩
   ·rw [if_neg c5] at H
    exact absurd H (by simp)
  ·rw [if_neg c4] at H
   exact absurd H (by simp)
 ·rw [if_neg c3] at H
  have c3b0 : decide ((a1.size : Int) ≤ (a0.size : Int)) = false := decide_eq_false c3
  have c3b1 : decide (a1.size ≤ a0.size) = false := decide_eq_false (fun h => c3 (Int.ofNat_le.mpr h))
  clear c3
  obtain rfl := sI H
  go_enter Tryz.func142, Tryz.ntmps142
  go_wp2
  go_ret
  exact ⟨eR, dE⟩
def stringslite_CutPrefix.f (a0 a1 : ByteArray) : Option (ByteArray × Bool) := (stringslite_HasPrefix.f a0 a1).bind fun t101 => (if t101 = true then (if 0 ≤ (a1.size : Int) then (if (a1.size : Int) ≤ (a0.size : Int) then (some (a0.extract ((a1.size : Int) : Int).toNat a0.size, true)) else (none)) else (none)) else (some (a0, false)))
theorem stringslite_CutPrefix.calls (a0 a1 r1 : ByteArray) (r2 : Bool) (w : World) (h : stringslite_CutPrefix.f a0 a1 = some (r1, r2)) :
 Calls Tryz.prog 101 #[.string a0, .string a1] w fun e w' => e = .returned (.tuple #[.string r1, .bool r2]) ∧ Na9 w w' := by
 have H := h
 unfold stringslite_CutPrefix.f at H
 clear h
 replace H := bS H
 obtain ⟨t101, A30, H⟩ := H
 try dsimp only at H
 have A3 := aM A30
 clear A30
 by_cases c4 : t101 = true
 ·subst c4
  rw [if_pos rfl] at H
  by_cases c5 : 0 ≤ (a1.size : Int)
  ·rw [if_pos c5] at H
   have c5b0 := eq_true c5
   have c5b1 : decide (0 ≤ (a1.size : Int)) = true := decide_eq_true c5
   clear c5
   by_cases c6 : (a1.size : Int) ≤ (a0.size : Int)
   ·rw [if_pos c6] at H
    have c6b0 := eq_true c6
    have c6b1 : decide ((a1.size : Int) ≤ (a0.size : Int)) = true := decide_eq_true c6
    clear c6
    simp only [sJ, pJ] at H
    obtain ⟨rfl, rfl⟩ := H
    go_enter Tryz.func101, Tryz.ntmps101
    go_wp2_with (first | ((with_reducible refine gC 142 rfl ?_); refine gL 8 Tryz.func142 #[.string a0, .string a1] ?_; (with_reducible refine (stringslite_HasPrefix.calls a0 a1 true _ A3.out).mono ?_); rintro e w' ⟨rfl, ⟨nd, rfl⟩⟩; refine ⟨_, rfl, ?_⟩))
    go_ret2
    exact ⟨eR, dE⟩
   ·rw [if_neg c6] at H
    exact absurd H (by simp)
  ·rw [if_neg c5] at H
   exact absurd H (by simp)
 ·replace c4 := Bool.eq_false_iff.mpr c4
  subst c4
  rw [if_neg fT] at H
  simp only [sJ, pJ] at H
  obtain ⟨rfl, rfl⟩ := H
  go_enter Tryz.func101, Tryz.ntmps101
  go_wp2_with (first | ((with_reducible refine gC 142 rfl ?_); refine gL 8 Tryz.func142 #[.string a0, .string a1] ?_; (with_reducible refine (stringslite_HasPrefix.calls a0 a1 false _ A3.out).mono ?_); rintro e w' ⟨rfl, ⟨nd, rfl⟩⟩; refine ⟨_, rfl, ?_⟩))
  go_ret2
  exact ⟨eR, dE⟩
def strings_CutPrefix.f (a0 a1 : ByteArray) : Option (ByteArray × Bool) := (stringslite_CutPrefix.f a0 a1).bind fun bt101 => (some (bt101.1, bt101.2))
theorem strings_CutPrefix.calls (a0 a1 r1 : ByteArray) (r2 : Bool) (w : World) (h : strings_CutPrefix.f a0 a1 = some (r1, r2)) :
 Calls Tryz.prog 64 #[.string a0, .string a1] w fun e w' => e = .returned (.tuple #[.string r1, .bool r2]) ∧ Na9 w w' := by
 have H := h
 unfold strings_CutPrefix.f at H
 clear h
 replace H := bS H
 obtain ⟨⟨t101, t102⟩, A30, H⟩ := H
 try dsimp only at H
 have A3 := aM A30
 clear A30
 simp only [sJ, pJ] at H
 obtain ⟨rfl, rfl⟩ := H
 go_enter Tryz.func64, Tryz.ntmps64
 go_wp2_with (first | ((with_reducible refine gC 101 rfl ?_); refine gL 8 Tryz.func101 #[.string a0, .string a1] ?_; (with_reducible refine (stringslite_CutPrefix.calls a0 a1 t101 t102 _ A3.out).mono ?_); rintro e w' ⟨rfl, ⟨nd, rfl⟩⟩; refine ⟨_, rfl, ?_⟩))
 go_ret2
 exact ⟨eR, dE⟩
section
abbrev vR (r : S48) : Value := .agg #[.string r.f0, .int .i64 r.f1, .int .i64 r.f2, .bool r.f3, .bool r.f4]
def dolB (s : ByteArray) : Bool := decide ((s.size : Int) ≥ 1) && ((s.extract 0 1).toList == (⟨#[36]⟩ : ByteArray).toList)
def cutS (s : ByteArray) : ByteArray × Bool := if dolB s = true then (s.extract 1 s.size, true) else (s, false)
theorem cut_f (s : ByteArray) : strings_CutPrefix.f s ⟨#[36]⟩ = some (cutS s) := by
 unfold strings_CutPrefix.f stringslite_CutPrefix.f stringslite_HasPrefix.f cutS dolB
 have hz : (((⟨#[36]⟩ : ByteArray).size : Nat) : Int) = 1 := rfl
 rw [hz]
 by_cases h : (s.size : Int) ≥ 1
 ·have h2 : (1 : Int) ≤ s.size := h
  have ht : (1 : Int).toNat = 1 := rfl
  simp only [h, h2, if_true, show (0 : Int) ≤ 1 by omega, Option.bind_some, ht, decide_true, Bool.true_and]
  cases (s.extract 0 1).toList == (⟨#[36]⟩ : ByteArray).toList <;> simp
 ·simp [h]
theorem cut_any (s c : ByteArray) (b : Bool) (w : World) (h : cutS s = (c, b)) : Calls Tryz.prog 64 #[.string s, .string ⟨#[36]⟩] w fun e w' => e = .returned (.tuple #[.string c, .bool b]) ∧ Below w.heap.size w w' :=
 (strings_CutPrefix.calls s ⟨#[36]⟩ c b w (by rw [cut_f, h])).mono fun _ _ ⟨a, d⟩ => ⟨a, d.below⟩
def notUp (r : Nat) : Bool := decide ((r : Int) < 65) || decide ((r : Int) > 90)
theorem closure_any (r : Nat) (w : World) : Calls Tryz.prog 220 #[.int .i32 r] w fun e w' => e = .returned (.bool (notUp r)) ∧ w = w' := by
 unfold notUp
 cases h1 : decide ((r : Int) < 65) <;> cases h2 : decide ((r : Int) > 90)
 all_goals
  go_enter Tryz.func220, Tryz.ntmps220
  go_wp2
  go_ret
  exact ⟨rfl, rfl⟩
theorem runes_any (w : World) : PredAtRunes Tryz.prog 220 #[] notUp w := fun W x hx hb =>
 (closure_any x W).mono fun e w' ⟨a, b⟩ => ⟨a, 0, b.symm⟩
theorem index_any (s : ByteArray) (i : Int) (w : World) (h : Lib.idxFunc notUp true s = i) : Calls Tryz.prog 219 #[.string s, .func (.func 220) #[] #[]] w fun e w' => e = .returned (.int .i64 i) ∧ Below w.heap.size w w' := by
 subst h
 exact Tryz.strings_IndexFunc_runes 220 #[] (fun args w => enters_ Tryz.func220 (by kernel_rfl) rfl args w) notUp s w (runes_any w)
def cellO (s : ByteArray) : Option S48 :=
 let k := Lib.idxFunc notUp true (cutS s).1
 if k < 0 then none else
 let rs := cutS ((cutS s).1.extract k.toNat (cutS s).1.size)
 let rd := readF ((cutS s).1.extract 0 k.toNat ++ rs.1)
 if rd.2.2 = true ∧ 0 < rs.1.size ∧ 48 ≤ bt rs.1 0 ∧ bt rs.1 0 ≤ 57 then some ⟨eB, rd.1, rd.2.1, rs.2, (cutS s).2⟩ else none
theorem read_g (s : ByteArray) (r c : Int) (b : Bool) (w : World) (hG : GL w) (hs : s.size ≤ 140737488351232) (h : readF s = (r, c, b)) : Calls Tryz.prog 221 #[.string s] w fun e w' => e = .returned (.tuple #[.int .i64 r, .int .i64 c, .bool b]) ∧ Below w.heap.size w w' :=
 Ndl.calls s r c b w hG (by unfold Ndl.f; rw [if_pos hs, h])
def AnsC (w0 w : World) (g : Nat) (ts : List S39) (e : Int) (x : Except (Int × Int) (S48 × Int)) (en : Ending) (w' : World) : Prop :=
 match x with
 | .ok (r, a) => en = .returned (vR r) ∧ St w0 w w' g ts a e
 | .error (c, p) => Bad en c p ∧ ∃ a, St w0 w w' g ts a e
theorem tl_mB (l : List UInt8) : (mB l).toList = l := by rw [ByteArray.toList_eq]; simp [mB]
theorem tl_no {m : ByteArray} {l : List UInt8} (h : m ≠ mB l) : (m.toList == l) = false := by
 rw [beq_eq_false_iff_ne]
 intro hh
 exact h ((tl_eq m (mB l)).1 (by rw [hh, tl_mB]))
theorem cut_size (s : ByteArray) : (cutS s).1.size ≤ s.size := by
 unfold cutS
 split
 ·rw [ByteArray.size_extract]; omega
 ·exact Nat.le_refl _
theorem toList_nil0 {s : ByteArray} (h : s.size = 0) : s.toList = [] := by
 rw [ByteArray.toList_eq]
 exact List.eq_nil_of_length_eq_zero (by simpa using h)
theorem toList_ne0 {s : ByteArray} (h : 0 < s.size) : s.toList ≠ [] := by
 rw [ByteArray.toList_eq]
 intro hh
 have : s.data.toList.length = 0 := by rw [hh]; rfl
 have h2 : s.data.toList.length = s.size := by simp
 omega
theorem St.put {w0 w w1 w2 : World} {g g2 : Nat} {ts : List S39} {a e : Int} (h : St w0 w w1 g ts a e) (hp : Put g2 w1 w2) (hle : w0.heap.size ≤ g2) (hg : w.heap.size ≤ g2) (hne : g2 ≠ g) : St w0 w w2 g ts a e := by
 obtain ⟨A0, c0, hh, hge, hC⟩ := h.is
 exact ⟨⟨A0, c0, (hp.far g (fun e => hne e.symm)).trans hh, hge, hC⟩, hp.below w0 hle h.bel, ⟨by have := h.keep.1; have := hp.size; omega, fun i hi hg' hr => (hp.far i (by omega)).trans (h.keep.2 i hi hg' hr)⟩⟩
section
variable {ts : List S39} {e : Int} {w0 : World}
theorem cell_end (hts : ts.length ≤ 100000) {w : World} {g : Nat} {at_ : Int} (hI : IsS72 w0 w g ts at_ e) (hB : Below w0.heap.size w0 w) (h0 : 0 ≤ at_) (h1 : at_ ≤ ts.length) (he : ¬ at_ < ts.length) :
 Calls Tryz.prog 206 #[.pointer (some ⟨g, 0, none⟩)] w (AnsC w0 w g ts e (.error (50, Nbl ts e at_))) := by
 have be : (at_ == (ts.length : Int)) = true := by rw [beq_iff_eq]; omega
 have H0 := lh (show 0 ≤ at_ ∧ at_ ≤ 1000000 by omega)
 have HS := lh (St.start hI hB)
 clear h1 he
 clear hB hI
 go_enter Tryz.func206, Tryz.ntmps206
 go_upto_region 1 with (fail)
 obtain ⟨w1, hw_⟩ : ∃ x_ : World, x_ = w.alloc (.cells #[.string ⟨#[]⟩, .int .i64 0, .int .i64 0, .bool false, .bool false] 48) := ⟨_, rfl⟩
 obtain ⟨g2, hg2⟩ : ∃ x_ : Nat, x_ = w.heap.size := ⟨_, rfl⟩
 rw [← hw_, ← hg2]
 have HS1 := lh (show St w0 w w1 g ts at_ e by rw [hw_]; exact HS.out.below (Nae (Below.refl _ _) _))
 have J2 := lh (show w1.heap[g2]? = some (.cells #[.string ⟨#[]⟩, .int .i64 0, .int .i64 0, .bool false, .bool false] 48 (0, 0)) by rw [hw_, hg2]; exact Nce w _)
 have HNE := lh (show g2 ≠ g by have := HS.out.is.lt; omega)
 clear hw_ hg2 HS
 obtain ⟨A0, c0, hg, hge, hC⟩ := HS1.out.is
 have k0 := Nbm hg
 have k1 := Na0 hg
 clear hg hge hC
 refine sP (n := 34) (S := fun w' => w'.cell? ⟨g, 0, none⟩ = some (.slice A0 ts.length c0) ∧ w'.cell? ⟨g, 1, none⟩ = some (.int .i64 at_)) (ds := []) ⟨k0, k1⟩ (fun hHeld => ?_)
 refine pP 0 12 ?_
 refine pP 1 13 ?_
 refine pP 2 14 ?_
 refine pP 4 16 ?_
 refine pP 5 17 ?_
 refine pP 6 18 ?_
 refine tP 3 15 hHeld ?_
 refine tP 7 19 hHeld ?_
 refine pP 8 20 ?_
 refine pP 9 21 ?_
 refine pP 10 22 ?_
 refine uP 11 23 ?_
 refine uP 12 24 ?_
 refine uP 13 25 ?_
 refine uP 14 26 ?_
 refine uP 15 27 ?_
 refine uP 16 28 ?_
 refine uP 17 29 ?_
 refine uP 18 30 ?_
 refine uP 19 31 ?_
 refine uP 20 32 ?_
 refine uP 21 33 ?_
 refine uP 22 34 ?_
 refine pP 23 35 ?_
 refine pP 24 36 ?_
 refine uP 25 37 ?_
 refine uP 26 38 ?_
 refine uP 27 39 ?_
 refine pP 28 40 ?_
 refine pP 29 41 ?_
 refine uP 30 42 ?_
 refine uP 31 43 ?_
 refine uP 32 44 ?_
 refine pP 33 45 ?_
 refine done_ (by kernel_rfl) ?_
 have HSd := lh HS1.out.drew
 go_wp2_with (go_at_call 69; (with_reducible refine (Nb8 HSd.out.is HSd.out.bel H0.out.1 50).mono ?_); rintro en w8 ⟨rfl, hs⟩; have HS8 := lh (HSd.out.trans hs); clear hs)
 exact ⟨rfl, rfl, _, HS8.out⟩
theorem cell_kind (hts : ts.length ≤ 100000) {w : World} {g : Nat} {at_ : Int} (hI : IsS72 w0 w g ts at_ e) (hB : Below w0.heap.size w0 w) (h0 : 0 ≤ at_) (h1 : at_ ≤ ts.length) {kd : Int} {tx : ByteArray} (he : at_ < ts.length) (hk : (tokA ts at_).f0 = kd) (htx : (tokA ts at_).f1 = tx) (hne : kd ≠ 3) :
 Calls Tryz.prog 206 #[.pointer (some ⟨g, 0, none⟩)] w (AnsC w0 w g ts e (.error (50, Nbl ts e at_))) := by
 have be : (at_ == (ts.length : Int)) = false := by rw [beq_eq_false_iff_ne]; omega
 have bk : (kd != 3) = true := bne_iff_ne.mpr hne
 have H0 := lh (show 0 ≤ at_ ∧ at_ ≤ 1000000 by omega)
 have HS := lh (St.start hI hB)
 clear hne
 clear hB hI
 go_enter Tryz.func206, Tryz.ntmps206
 go_upto_region 1 with (fail)
 obtain ⟨w1, hw_⟩ : ∃ x_ : World, x_ = w.alloc (.cells #[.string ⟨#[]⟩, .int .i64 0, .int .i64 0, .bool false, .bool false] 48) := ⟨_, rfl⟩
 obtain ⟨g2, hg2⟩ : ∃ x_ : Nat, x_ = w.heap.size := ⟨_, rfl⟩
 rw [← hw_, ← hg2]
 have HS1 := lh (show St w0 w w1 g ts at_ e by rw [hw_]; exact HS.out.below (Nae (Below.refl _ _) _))
 have J2 := lh (show w1.heap[g2]? = some (.cells #[.string ⟨#[]⟩, .int .i64 0, .int .i64 0, .bool false, .bool false] 48 (0, 0)) by rw [hw_, hg2]; exact Nce w _)
 have HNE := lh (show g2 ≠ g by have := HS.out.is.lt; omega)
 clear hw_ hg2 HS
 obtain ⟨A0, c0, hg, hge, hC⟩ := HS1.out.is
 have k0 := Nbm hg
 have k1 := Na0 hg
 obtain ⟨ad, ea, x0, x1, -⟩ := Nd1 hC at_ h0 he
 cases ea
 replace x0 := Nab HS1.out.bel x0
 replace x1 := Nab HS1.out.bel x1
 rw [show (Nbq ts at_).f0 = kd from hk] at x0
 rw [show (Nbq ts at_).f1 = tx from htx] at x1
 have q0 : 0 ≤ at_ := H0.out.1
 have q1 : at_ < (ts.length : Int) := he
 clear hg hge hC hk htx
 refine sP (n := 34) (S := fun w' => w'.cell? ⟨g, 0, none⟩ = some (.slice (some ad) ts.length c0) ∧ w'.cell? ⟨g, 1, none⟩ = some (.int .i64 at_) ∧ w'.cell? (ad.add (at_.toNat * 3)) = some (.int .i64 kd) ∧ w'.cell? ⟨(ad.add (at_.toNat * 3)).block, (ad.add (at_.toNat * 3)).off + 1, none⟩ = some (.string tx)) (ds := []) ⟨k0, k1, x0, x1⟩ (fun hHeld => ?_)
 refine pP 0 12 ?_
 refine pP 1 13 ?_
 refine pP 2 14 ?_
 refine pP 4 16 ?_
 refine pP 5 17 ?_
 refine pP 6 18 ?_
 refine tP 3 15 hHeld ?_
 refine tP 7 19 hHeld ?_
 refine pP 8 20 ?_
 refine pP 9 21 ?_
 refine pP 10 22 ?_
 refine pP 11 23 ?_
 refine pP 12 24 ?_
 refine pP 13 25 ?_
 refine pP 15 27 ?_
 refine pP 16 28 ?_
 refine pP 17 29 ?_
 refine tP 14 26 hHeld ?_
 refine tP 18 30 hHeld ?_
 refine pP 19 31 ?_
 refine pP 20 32 ?_
 refine tP 21 33 hHeld ?_
 refine pP 22 34 ?_
 refine pP 23 35 ?_
 refine pP 24 36 ?_
 refine uP 25 37 ?_
 refine uP 26 38 ?_
 refine uP 27 39 ?_
 refine pP 28 40 ?_
 refine pP 29 41 ?_
 refine uP 30 42 ?_
 refine uP 31 43 ?_
 refine uP 32 44 ?_
 refine pP 33 45 ?_
 refine done_ (by kernel_rfl) ?_
 have HSd := lh HS1.out.drew
 go_wp2_with (go_at_call 69; (with_reducible refine (Nb8 HSd.out.is HSd.out.bel H0.out.1 50).mono ?_); rintro en w8 ⟨rfl, hs⟩; have HS8 := lh (HSd.out.trans hs); clear hs)
 exact ⟨rfl, rfl, _, HS8.out⟩
theorem cell_open (hts : ts.length ≤ 100000) {w : World} {g : Nat} {at_ : Int} (hI : IsS72 w0 w g ts at_ e) (hB : Below w0.heap.size w0 w) (h0 : 0 ≤ at_) (h1 : at_ ≤ ts.length) {tx : ByteArray} (he : at_ < ts.length) (hk : (tokA ts at_).f0 = 3) (htx : (tokA ts at_).f1 = tx) (hm : markA ts (at_ + 1) = mB [40]) :
 Calls Tryz.prog 206 #[.pointer (some ⟨g, 0, none⟩)] w (AnsC w0 w g ts e (.error (50, Nbl ts e at_))) := by
 have be : (at_ == (ts.length : Int)) = false := by rw [beq_eq_false_iff_ne]; omega
 have HM := lh (show markA ts (at_ + 1) = ⟨#[40]⟩ from hm)
 have H0 := lh (show 0 ≤ at_ ∧ at_ ≤ 1000000 by omega)
 have HS := lh (St.start hI hB)
 clear hm
 clear hB hI
 go_enter Tryz.func206, Tryz.ntmps206
 go_upto_region 1 with (fail)
 obtain ⟨w1, hw_⟩ : ∃ x_ : World, x_ = w.alloc (.cells #[.string ⟨#[]⟩, .int .i64 0, .int .i64 0, .bool false, .bool false] 48) := ⟨_, rfl⟩
 obtain ⟨g2, hg2⟩ : ∃ x_ : Nat, x_ = w.heap.size := ⟨_, rfl⟩
 rw [← hw_, ← hg2]
 have HS1 := lh (show St w0 w w1 g ts at_ e by rw [hw_]; exact HS.out.below (Nae (Below.refl _ _) _))
 have J2 := lh (show w1.heap[g2]? = some (.cells #[.string ⟨#[]⟩, .int .i64 0, .int .i64 0, .bool false, .bool false] 48 (0, 0)) by rw [hw_, hg2]; exact Nce w _)
 have HNE := lh (show g2 ≠ g by have := HS.out.is.lt; omega)
 clear hw_ hg2 HS
 obtain ⟨A0, c0, hg, hge, hC⟩ := HS1.out.is
 have k0 := Nbm hg
 have k1 := Na0 hg
 obtain ⟨ad, ea, x0, x1, -⟩ := Nd1 hC at_ h0 he
 cases ea
 replace x0 := Nab HS1.out.bel x0
 replace x1 := Nab HS1.out.bel x1
 rw [show (Nbq ts at_).f0 = 3 from hk] at x0
 rw [show (Nbq ts at_).f1 = tx from htx] at x1
 have q0 : 0 ≤ at_ := H0.out.1
 have q1 : at_ < (ts.length : Int) := he
 clear hg hge hC hk htx
 refine sP (n := 34) (S := fun w' => w'.cell? ⟨g, 0, none⟩ = some (.slice (some ad) ts.length c0) ∧ w'.cell? ⟨g, 1, none⟩ = some (.int .i64 at_) ∧ w'.cell? (ad.add (at_.toNat * 3)) = some (.int .i64 3) ∧ w'.cell? ⟨(ad.add (at_.toNat * 3)).block, (ad.add (at_.toNat * 3)).off + 1, none⟩ = some (.string tx)) (ds := []) ⟨k0, k1, x0, x1⟩ (fun hHeld => ?_)
 refine pP 0 12 ?_
 refine pP 1 13 ?_
 refine pP 2 14 ?_
 refine pP 4 16 ?_
 refine pP 5 17 ?_
 refine pP 6 18 ?_
 refine tP 3 15 hHeld ?_
 refine tP 7 19 hHeld ?_
 refine pP 8 20 ?_
 refine pP 9 21 ?_
 refine pP 10 22 ?_
 refine pP 11 23 ?_
 refine pP 12 24 ?_
 refine pP 13 25 ?_
 refine pP 15 27 ?_
 refine pP 16 28 ?_
 refine pP 17 29 ?_
 refine tP 14 26 hHeld ?_
 refine tP 18 30 hHeld ?_
 refine pP 19 31 ?_
 refine pP 20 32 ?_
 refine tP 21 33 hHeld ?_
 refine pP 22 34 ?_
 refine pP 23 35 ?_
 refine pP 24 36 ?_
 refine pP 25 37 ?_
 refine oP 26 (some 38) fun K hK => ?_
 refine gP 204 Tryz.func204 #[.pointer (some ⟨g, 0, none⟩)] ?_
 with_reducible refine (Nbf HS1.out.drew.is HS1.out.drew.bel H0.out.1 H0.out.2 ⟨#[40]⟩ HM.out).mono ?_
 rintro en w2 ⟨rfl, hs, hb⟩
 have HS2 := lh (HS1.out.drew.trans hs)
 have hqw20 := Nab hb (hHeld.1)
 have hqw21 := Nab hb (hHeld.2.1)
 have hqw22 := Nab hb (hHeld.2.2.1)
 have hqw23 := Nab hb (hHeld.2.2.2)
 clear hs hb
 refine ⟨_, rfl, ?_⟩
 refine hK.out _ _ ⟨hqw20, hqw21, hqw22, hqw23⟩ (fun hHeld => ?_)
 clear hK K
 refine nP 38 ?_
 refine pP 27 39 ?_
 refine pP 28 40 ?_
 refine pP 29 41 ?_
 refine uP 30 42 ?_
 refine uP 31 43 ?_
 refine uP 32 44 ?_
 refine pP 33 45 ?_
 refine done_ (by kernel_rfl) ?_
 go_wp2_with (go_at_call 69; (with_reducible refine (Nb8 HS2.out.is HS2.out.bel H0.out.1 50).mono ?_); rintro en w8 ⟨rfl, hs⟩; have HS8 := lh (HS2.out.trans hs); clear hs)
 exact ⟨rfl, rfl, _, HS8.out⟩
theorem cell_sheet (hts : ts.length ≤ 100000) {w : World} {g : Nat} {at_ : Int} (hI : IsS72 w0 w g ts at_ e) (hB : Below w0.heap.size w0 w) (h0 : 0 ≤ at_) (h1 : at_ ≤ ts.length) {tx : ByteArray} (he : at_ < ts.length) (hk : (tokA ts at_).f0 = 3) (htx : (tokA ts at_).f1 = tx) (hm : markA ts (at_ + 1) = mB [33]) :
 Calls Tryz.prog 206 #[.pointer (some ⟨g, 0, none⟩)] w (AnsC w0 w g ts e (.error (50, Nbl ts e at_))) := by
 have be : (at_ == (ts.length : Int)) = false := by rw [beq_eq_false_iff_ne]; omega
 have HM := lh (show markA ts (at_ + 1) = ⟨#[33]⟩ from hm)
 have H0 := lh (show 0 ≤ at_ ∧ at_ ≤ 1000000 by omega)
 have HS := lh (St.start hI hB)
 clear hm
 clear hB hI
 go_enter Tryz.func206, Tryz.ntmps206
 go_upto_region 1 with (fail)
 obtain ⟨w1, hw_⟩ : ∃ x_ : World, x_ = w.alloc (.cells #[.string ⟨#[]⟩, .int .i64 0, .int .i64 0, .bool false, .bool false] 48) := ⟨_, rfl⟩
 obtain ⟨g2, hg2⟩ : ∃ x_ : Nat, x_ = w.heap.size := ⟨_, rfl⟩
 rw [← hw_, ← hg2]
 have HS1 := lh (show St w0 w w1 g ts at_ e by rw [hw_]; exact HS.out.below (Nae (Below.refl _ _) _))
 have J2 := lh (show w1.heap[g2]? = some (.cells #[.string ⟨#[]⟩, .int .i64 0, .int .i64 0, .bool false, .bool false] 48 (0, 0)) by rw [hw_, hg2]; exact Nce w _)
 have HNE := lh (show g2 ≠ g by have := HS.out.is.lt; omega)
 clear hw_ hg2 HS
 obtain ⟨A0, c0, hg, hge, hC⟩ := HS1.out.is
 have k0 := Nbm hg
 have k1 := Na0 hg
 obtain ⟨ad, ea, x0, x1, -⟩ := Nd1 hC at_ h0 he
 cases ea
 replace x0 := Nab HS1.out.bel x0
 replace x1 := Nab HS1.out.bel x1
 rw [show (Nbq ts at_).f0 = 3 from hk] at x0
 rw [show (Nbq ts at_).f1 = tx from htx] at x1
 have q0 : 0 ≤ at_ := H0.out.1
 have q1 : at_ < (ts.length : Int) := he
 clear hg hge hC hk htx
 refine sP (n := 34) (S := fun w' => w'.cell? ⟨g, 0, none⟩ = some (.slice (some ad) ts.length c0) ∧ w'.cell? ⟨g, 1, none⟩ = some (.int .i64 at_) ∧ w'.cell? (ad.add (at_.toNat * 3)) = some (.int .i64 3) ∧ w'.cell? ⟨(ad.add (at_.toNat * 3)).block, (ad.add (at_.toNat * 3)).off + 1, none⟩ = some (.string tx)) (ds := []) ⟨k0, k1, x0, x1⟩ (fun hHeld => ?_)
 refine pP 0 12 ?_
 refine pP 1 13 ?_
 refine pP 2 14 ?_
 refine pP 4 16 ?_
 refine pP 5 17 ?_
 refine pP 6 18 ?_
 refine tP 3 15 hHeld ?_
 refine tP 7 19 hHeld ?_
 refine pP 8 20 ?_
 refine pP 9 21 ?_
 refine pP 10 22 ?_
 refine pP 11 23 ?_
 refine pP 12 24 ?_
 refine pP 13 25 ?_
 refine pP 15 27 ?_
 refine pP 16 28 ?_
 refine pP 17 29 ?_
 refine tP 14 26 hHeld ?_
 refine tP 18 30 hHeld ?_
 refine pP 19 31 ?_
 refine pP 20 32 ?_
 refine tP 21 33 hHeld ?_
 refine pP 22 34 ?_
 refine pP 23 35 ?_
 refine pP 24 36 ?_
 refine pP 25 37 ?_
 refine oP 26 (some 38) fun K hK => ?_
 refine gP 204 Tryz.func204 #[.pointer (some ⟨g, 0, none⟩)] ?_
 with_reducible refine (Nbf HS1.out.drew.is HS1.out.drew.bel H0.out.1 H0.out.2 ⟨#[33]⟩ HM.out).mono ?_
 rintro en w2 ⟨rfl, hs, hb⟩
 have HS2 := lh (HS1.out.drew.trans hs)
 have hqw20 := Nab hb (hHeld.1)
 have hqw21 := Nab hb (hHeld.2.1)
 have hqw22 := Nab hb (hHeld.2.2.1)
 have hqw23 := Nab hb (hHeld.2.2.2)
 clear hs hb
 refine ⟨_, rfl, ?_⟩
 refine hK.out _ _ ⟨hqw20, hqw21, hqw22, hqw23⟩ (fun hHeld => ?_)
 clear hK K
 refine nP 38 ?_
 refine pP 27 39 ?_
 refine pP 28 40 ?_
 refine pP 29 41 ?_
 refine pP 30 42 ?_
 refine oP 31 (some 43) fun K hK => ?_
 refine gP 204 Tryz.func204 #[.pointer (some ⟨g, 0, none⟩)] ?_
 with_reducible refine (Nbf HS2.out.is HS2.out.bel H0.out.1 H0.out.2 ⟨#[33]⟩ HM.out).mono ?_
 rintro en w3 ⟨rfl, hs, hb⟩
 have HS3 := lh (HS2.out.trans hs)
 have hqw30 := Nab hb (hHeld.1)
 have hqw31 := Nab hb (hHeld.2.1)
 have hqw32 := Nab hb (hHeld.2.2.1)
 have hqw33 := Nab hb (hHeld.2.2.2)
 clear hs hb
 refine ⟨_, rfl, ?_⟩
 refine hK.out _ _ ⟨hqw30, hqw31, hqw32, hqw33⟩ (fun hHeld => ?_)
 clear hK K
 refine nP 43 ?_
 refine pP 32 44 ?_
 refine pP 33 45 ?_
 refine done_ (by kernel_rfl) ?_
 go_wp2_with (go_at_call 69; (with_reducible refine (Nb8 HS3.out.is HS3.out.bel H0.out.1 50).mono ?_); rintro en w8 ⟨rfl, hs⟩; have HS8 := lh (HS3.out.trans hs); clear hs)
 exact ⟨rfl, rfl, _, HS8.out⟩
theorem cell_word (hts : ts.length ≤ 100000) {w : World} {g : Nat} {at_ : Int} (hI : IsS72 w0 w g ts at_ e) (hB : Below w0.heap.size w0 w) (h0 : 0 ≤ at_) (h1 : at_ ≤ ts.length) {tx : ByteArray} (hG : GL w0) (hz : tx.size ≤ 100000) (he : at_ < ts.length) (hk : (tokA ts at_).f0 = 3) (htx : (tokA ts at_).f1 = tx) (hm1 : markA ts (at_ + 1) ≠ mB [40]) (hm2 : markA ts (at_ + 1) ≠ mB [33]) {x} (hx : (match cellO tx with | some r => .ok (r, at_ + 1) | none => .error (50, Nbl ts e at_)) = x) :
 Calls Tryz.prog 206 #[.pointer (some ⟨g, 0, none⟩)] w (AnsC w0 w g ts e x) := by
 have be : (at_ == (ts.length : Int)) = false := by rw [beq_eq_false_iff_ne]; omega
 have HX := lh hx
 clear hx
 obtain ⟨m, hm⟩ : ∃ m, markA ts (at_ + 1) = m := ⟨_, rfl⟩
 rw [hm] at hm1 hm2
 have HM := lh hm
 have bm1 : (m.toList == [40]) = false := tl_no hm1
 have bm2 : (m.toList == [33]) = false := tl_no hm2
 have HE := lh he
 have HZ := lh hz
 have H0 := lh (show 0 ≤ at_ ∧ at_ ≤ 1000000 by omega)
 have HS := lh (St.start hI hB)
 clear hm hm1 hm2
 clear hB hI
 go_enter Tryz.func206, Tryz.ntmps206
 go_upto_region 1 with (fail)
 obtain ⟨w1, hw_⟩ : ∃ x_ : World, x_ = w.alloc (.cells #[.string ⟨#[]⟩, .int .i64 0, .int .i64 0, .bool false, .bool false] 48) := ⟨_, rfl⟩
 obtain ⟨g2, hg2⟩ : ∃ x_ : Nat, x_ = w.heap.size := ⟨_, rfl⟩
 rw [← hw_, ← hg2]
 have HS1 := lh (show St w0 w w1 g ts at_ e by rw [hw_]; exact HS.out.below (Nae (Below.refl _ _) _))
 have J2 := lh (show w1.heap[g2]? = some (.cells #[.string ⟨#[]⟩, .int .i64 0, .int .i64 0, .bool false, .bool false] 48 (0, 0)) by rw [hw_, hg2]; exact Nce w _)
 have HG2 := lh (show w0.heap.size ≤ g2 ∧ w.heap.size ≤ g2 from ⟨hg2 ▸ HS.out.bel.size, hg2 ▸ Nat.le_refl _⟩)
 have HNE := lh (show g2 ≠ g by have := HS.out.is.lt; omega)
 clear hw_ hg2 HS
 obtain ⟨A0, c0, hg, hge, hC⟩ := HS1.out.is
 have k0 := Nbm hg
 have k1 := Na0 hg
 obtain ⟨ad, ea, x0, x1, -⟩ := Nd1 hC at_ h0 he
 cases ea
 replace x0 := Nab HS1.out.bel x0
 replace x1 := Nab HS1.out.bel x1
 rw [show (Nbq ts at_).f0 = 3 from hk] at x0
 rw [show (Nbq ts at_).f1 = tx from htx] at x1
 have q0 : 0 ≤ at_ := H0.out.1
 have q1 : at_ < (ts.length : Int) := he
 clear hg hge hC hk htx hz
 refine sP (n := 34) (S := fun w' => w'.cell? ⟨g, 0, none⟩ = some (.slice (some ad) ts.length c0) ∧ w'.cell? ⟨g, 1, none⟩ = some (.int .i64 at_) ∧ w'.cell? (ad.add (at_.toNat * 3)) = some (.int .i64 3) ∧ w'.cell? ⟨(ad.add (at_.toNat * 3)).block, (ad.add (at_.toNat * 3)).off + 1, none⟩ = some (.string tx)) (ds := []) ⟨k0, k1, x0, x1⟩ (fun hHeld => ?_)
 refine pP 0 12 ?_
 refine pP 1 13 ?_
 refine pP 2 14 ?_
 refine pP 4 16 ?_
 refine pP 5 17 ?_
 refine pP 6 18 ?_
 refine tP 3 15 hHeld ?_
 refine tP 7 19 hHeld ?_
 refine pP 8 20 ?_
 refine pP 9 21 ?_
 refine pP 10 22 ?_
 refine pP 11 23 ?_
 refine pP 12 24 ?_
 refine pP 13 25 ?_
 refine pP 15 27 ?_
 refine pP 16 28 ?_
 refine pP 17 29 ?_
 refine tP 14 26 hHeld ?_
 refine tP 18 30 hHeld ?_
 refine pP 19 31 ?_
 refine pP 20 32 ?_
 refine tP 21 33 hHeld ?_
 refine pP 22 34 ?_
 refine pP 23 35 ?_
 refine pP 24 36 ?_
 refine pP 25 37 ?_
 refine oP 26 (some 38) fun K hK => ?_
 refine gP 204 Tryz.func204 #[.pointer (some ⟨g, 0, none⟩)] ?_
 with_reducible refine (Nbf HS1.out.drew.is HS1.out.drew.bel H0.out.1 H0.out.2 m HM.out).mono ?_
 rintro en w2 ⟨rfl, hs, hb⟩
 have HS2 := lh (HS1.out.drew.trans hs)
 have hqw20 := Nab hb (hHeld.1)
 have hqw21 := Nab hb (hHeld.2.1)
 have hqw22 := Nab hb (hHeld.2.2.1)
 have hqw23 := Nab hb (hHeld.2.2.2)
 have Jb := lh (Nad (Nag J2.out) hb)
 clear hs hb
 refine ⟨_, rfl, ?_⟩
 refine hK.out _ _ ⟨hqw20, hqw21, hqw22, hqw23⟩ (fun hHeld => ?_)
 clear hK K
 refine nP 38 ?_
 refine pP 27 39 ?_
 refine pP 28 40 ?_
 refine pP 29 41 ?_
 refine pP 30 42 ?_
 refine oP 31 (some 43) fun K hK => ?_
 refine gP 204 Tryz.func204 #[.pointer (some ⟨g, 0, none⟩)] ?_
 with_reducible refine (Nbf HS2.out.is HS2.out.bel H0.out.1 H0.out.2 m HM.out).mono ?_
 rintro en w3 ⟨rfl, hs, hb⟩
 have HS3 := lh (HS2.out.trans hs)
 have hqw30 := Nab hb (hHeld.1)
 have hqw31 := Nab hb (hHeld.2.1)
 have hqw32 := Nab hb (hHeld.2.2.1)
 have hqw33 := Nab hb (hHeld.2.2.2)
 have J3 := lh (Nad Jb.out hb)
 clear hs hb
 refine ⟨_, rfl, ?_⟩
 refine hK.out _ _ ⟨hqw30, hqw31, hqw32, hqw33⟩ (fun hHeld => ?_)
 clear hK K
 refine nP 43 ?_
 refine pP 32 44 ?_
 refine pP 33 45 ?_
 refine done_ (by kernel_rfl) ?_
 clear k0 k1 x0 x1 hHeld hqw20 hqw21 hqw22 hqw23 Jb J2 HS1 HS2
 go_upto_region 3 with (fail)
 go_quiet (fail)
 obtain ⟨⟨col, fc⟩, hcut⟩ : ∃ p, cutS tx = p := ⟨_, rfl⟩
 obtain ⟨i, hi⟩ : ∃ i, Lib.idxFunc notUp true col = i := ⟨_, rfl⟩
 have hir := Lib.idxFunc_range notUp true col
 rw [hi] at hir
 have HIR := lh hir
 have HCUT := lh hcut
 have HI := lh hi
 have HCS := lh (show col.size ≤ tx.size by have := cut_size tx; rw [hcut] at this; exact this)
 clear hir hcut hi
 go_upto_region 6 with (first
  | (go_at_call 64; (with_reducible refine (cut_any tx col fc _ HCUT.out).mono ?_); rintro en w4 ⟨rfl, hb⟩; have HS4 := lh ((HS3.out.drewN nq).below hb); have J4 := lh (Nad (Nam J3.out nq) hb); clear hb HS3 J3)
  | (go_at_call 219; (with_reducible refine (index_any col i _ HI.out).mono ?_); rintro en w5 ⟨rfl, hb⟩; have HS5 := lh (HS4.out.below hb); have J5 := lh (Nad J4.out hb); clear hb HS4 J4))
 clear hqw30 hqw31 hqw32 hqw33 hHeld
 by_cases hneg : i < 0
 ·have dn : decide (i < 0) = true := decide_eq_true hneg
  have hx : cellO tx = none := by unfold cellO; simp only [HCUT.out, HI.out]; rw [if_pos hneg]
  obtain rfl : x = .error (50, Nbl ts e at_) := by rw [← HX.out, hx]
  clear hx hneg HX
  go_wp2_with (go_at_call 69; (with_reducible refine (Nb8 HS5.out.is HS5.out.bel H0.out.1 50).mono ?_); rintro en w8 ⟨rfl, hs⟩; have HS8 := lh (HS5.out.trans hs); clear hs)
  exact ⟨rfl, rfl, _, HS8.out⟩
 ·have i0 : 0 ≤ i := by omega
  have i1 : i < col.size := by rcases HIR.out with h | h <;> omega
  obtain ⟨⟨row, fr⟩, hrow⟩ : ∃ p, cutS (col.extract i.toNat col.size) = p := ⟨_, rfl⟩
  obtain ⟨⟨r, c, ok⟩, hrd⟩ : ∃ p, readF (col.extract 0 i.toNat ++ row) = p := ⟨_, rfl⟩
  have hrs : row.size ≤ col.size := by have h := cut_size (col.extract i.toNat col.size); rw [hrow, ByteArray.size_extract] at h; simp only at h; omega
  have HROW := lh hrow
  have HRD := lh hrd
  have HRS := lh hrs
  have hsz : (col.extract 0 i.toNat).size + row.size ≤ 9223372036854775807 := by rw [ByteArray.size_extract]; have := HCS.out; have := HZ.out; omega
  have dn : decide (i < 0) = false := decide_eq_false hneg
  have HNN := lh hneg
  clear hneg hrow hrd hrs
  go_upto_region 10 with (first
   | (go_at_call 64; (with_reducible refine (cut_any (col.extract i.toNat col.size) row fr _ HROW.out).mono ?_); rintro en w6 ⟨rfl, hb⟩; have HS6 := lh (HS5.out.below hb); have J6 := lh (Nad J5.out hb); clear hb HS5 J5)
   | (go_at_call 221; (with_reducible refine (read_g _ r c ok _ (hG.below HS6.out.bel) (by rw [ByteArray.size_append, ByteArray.size_extract]; have := HCS.out; have := HZ.out; have := HRS.out; omega) HRD.out).mono ?_); rintro en w7 ⟨rfl, hb⟩; have HS7 := lh (HS6.out.below hb); have J7 := lh (Nad J6.out hb); clear hb HS6 J6))
  cases ok with
  | false =>
   have hx : cellO tx = none := by unfold cellO; simp only [HCUT.out, HI.out, HROW.out, HRD.out]; rw [if_neg (by have := HNN.out; omega), if_neg (fun h => by cases h.1)]
   obtain rfl : x = .error (50, Nbl ts e at_) := by rw [← HX.out, hx]
   clear hx HX
   go_wp2_with (go_at_call 69; (with_reducible refine (Nb8 HS7.out.is HS7.out.bel H0.out.1 50).mono ?_); rintro en w8 ⟨rfl, hs⟩; have HS8 := lh (HS7.out.trans hs); clear hs)
   exact ⟨rfl, rfl, _, HS8.out⟩
  | true =>
   by_cases hr0 : row.size = 0
   ·have rn : row.toList = [] := toList_nil0 hr0
    have HR0 := lh hr0
    have re1 : (row.toList == []) = true := by rw [rn]; rfl
    have re2 : row.toList.isEmpty = true := by rw [rn]; rfl
    clear rn hr0
    have hx : cellO tx = none := by unfold cellO; simp only [HCUT.out, HI.out, HROW.out, HRD.out]; rw [if_neg (by have := HNN.out; omega), if_neg (fun h => by have := HR0.out; omega)]
    obtain rfl : x = .error (50, Nbl ts e at_) := by rw [← HX.out, hx]
    clear hx HX
    go_wp2_with (go_at_call 69; (with_reducible refine (Nb8 HS7.out.is HS7.out.bel H0.out.1 50).mono ?_); rintro en w8 ⟨rfl, hs⟩; have HS8 := lh (HS7.out.trans hs); clear hs)
    exact ⟨rfl, rfl, _, HS8.out⟩
   ·have rp : 0 < row.size := by omega
    have HR0 := lh rp
    have rn : row.toList ≠ [] := toList_ne0 rp
    have re1 : (row.toList == []) = false := beq_eq_false_iff_ne.mpr rn
    have re2 : row.toList.isEmpty = false := by cases h : row.toList with
     | nil => exact absurd h rn
     | cons a b => rfl
    have e0 : ∀ h : 0 < row.size, ((row[0]'h).toNat : Int) = bt row 0 := fun h => bt_at row 0 h
    clear rn hr0
    by_cases h48 : bt row 0 < 48
    ·have d48 : decide (bt row 0 < 48) = true := decide_eq_true h48
     have H48 := lh h48
     clear h48
     have hx : cellO tx = none := by unfold cellO; simp only [HCUT.out, HI.out, HROW.out, HRD.out]; rw [if_neg (by have := HNN.out; omega), if_neg (fun h => by have := H48.out; omega)]
     obtain rfl : x = .error (50, Nbl ts e at_) := by rw [← HX.out, hx]
     clear hx HX
     go_wp2_with (go_at_call 69; (with_reducible refine (Nb8 HS7.out.is HS7.out.bel H0.out.1 50).mono ?_); rintro en w8 ⟨rfl, hs⟩; have HS8 := lh (HS7.out.trans hs); clear hs)
     exact ⟨rfl, rfl, _, HS8.out⟩
    ·by_cases h57 : bt row 0 > 57
     ·have d48 : decide (bt row 0 < 48) = false := decide_eq_false h48
      have d57 : decide (bt row 0 > 57) = true := decide_eq_true h57
      have H57 := lh h57
      clear h48 h57
      have hx : cellO tx = none := by unfold cellO; simp only [HCUT.out, HI.out, HROW.out, HRD.out]; rw [if_neg (by have := HNN.out; omega), if_neg (fun h => by have := H57.out; omega)]
      obtain rfl : x = .error (50, Nbl ts e at_) := by rw [← HX.out, hx]
      clear hx HX
      go_wp2_with (go_at_call 69; (with_reducible refine (Nb8 HS7.out.is HS7.out.bel H0.out.1 50).mono ?_); rintro en w8 ⟨rfl, hs⟩; have HS8 := lh (HS7.out.trans hs); clear hs)
      exact ⟨rfl, rfl, _, HS8.out⟩
     ·have d48 : decide (bt row 0 < 48) = false := decide_eq_false h48
      have d57 : decide (bt row 0 > 57) = false := decide_eq_false h57
      have hx : cellO tx = some ⟨eB, r, c, fr, fc⟩ := by unfold cellO; simp only [HCUT.out, HI.out, HROW.out, HRD.out]; rw [if_neg (by have := HNN.out; omega), if_pos ⟨trivial, HR0.out, by omega, by omega⟩]
      obtain rfl : x = .ok (⟨eB, r, c, fr, fc⟩, at_ + 1) := by rw [← HX.out, hx]
      clear hx HX h48 h57
      go_upto_region 12 with (fail)
      obtain ⟨A9, c9, hg, hge, -⟩ := HS7.out.is
      have k1 := Na0 hg
      have f1 := Naf hg 1
      have qq : at_ ≤ 1000000 := H0.out.2
      clear hg hge
      go_upto_region 13 with (fail)
      obtain ⟨w8, hw_⟩ : ∃ x_ : World, x_ = w7.setCell ⟨g, 1, none⟩ (.int .i64 (at_ + 1)) := ⟨_, rfl⟩
      rw [← hw_]
      have HS8 := lh (show St w0 w w8 g ts (at_ + 1) e by rw [hw_]; exact HS7.out.set (at_ + 1))
      have J8 := lh (show w8.heap[g2]? = some (.cells #[.string ⟨#[]⟩, .int .i64 0, .int .i64 0, .bool false, .bool false] 48 (0, 0)) by rw [hw_]; exact Nbk J7.out HNE.out _)
      clear hw_ k1 f1 HS7 J7
      go_wp2_with ((with_reducible refine gate_ (.store 48 (.tmp 2) (.tmp 116)) rfl ?_); refine sE J8.out 48 (.tmp 2) (.tmp 116) 0 (.agg #[.string ⟨#[]⟩, .int .i64 r, .int .i64 c, .bool fr, .bool fc]) #[.string ⟨#[]⟩, .int .i64 r, .int .i64 c, .bool fr, .bool fc] ?_; intro w9 hb_ hp_; have J9 := lh hb_; have HS9 := lh (HS8.out.put hp_ HG2.out.1 HG2.out.2 HNE.out); clear hb_ hp_ HS8 J8)
      refine bodyPost_ret (results_cell_row rfl _ _ g2 48 #[.string ⟨#[]⟩, .int .i64 r, .int .i64 c, .bool fr, .bool fc] (0, 0) _ rfl J9.out Tryz.underlying48 rfl (by kernel_rfl)) rfl ?_
      exact ⟨rfl, HS9.out⟩
theorem cel_any {O : Ops} (hcell : ∀ i, O.cell (tokA ts i).f1 = cellO (tokA ts i).f1) (hsize : ∀ i, (tokA ts i).f1.size ≤ 100000) (hG : GL w0) (hts : ts.length ≤ 100000) {w : World} {g : Nat} {at_ : Int} {x} (hI : IsS72 w0 w g ts at_ e) (hB : Below w0.heap.size w0 w) (h0 : 0 ≤ at_) (h1 : at_ ≤ ts.length) (h : celF O ts e at_ = some x) :
 Calls Tryz.prog 206 #[.pointer (some ⟨g, 0, none⟩)] w (AnsC w0 w g ts e x) := by
 unfold celF at h
 by_cases he : at_ < ts.length
 ·by_cases hk : (tokA ts at_).f0 = 3
  ·by_cases hm1 : markA ts (at_ + 1) = mB [40]
   ·rw [if_neg (fun hh => hh.2.2.1 hm1)] at h
    obtain rfl := sI h
    exact cell_open hts hI hB h0 h1 he hk rfl hm1
   ·by_cases hm2 : markA ts (at_ + 1) = mB [33]
    ·rw [if_neg (fun hh => hh.2.2.2 hm2)] at h
     obtain rfl := sI h
     exact cell_sheet hts hI hB h0 h1 he hk rfl hm2
    ·rw [if_pos ⟨he, hk, hm1, hm2⟩, hcell] at h
     refine cell_word hts hI hB h0 h1 hG (hsize at_) he hk rfl hm1 hm2 ?_
     cases hc : cellO (tokA ts at_).f1 with
     | none => rw [hc] at h; exact sI h
     | some r => rw [hc] at h; exact sI h
  ·rw [if_neg (fun hh => hk hh.2.1)] at h
   obtain rfl := sI h
   exact cell_kind hts hI hB h0 h1 he rfl rfl hk
 ·rw [if_neg (fun hh => he hh.1)] at h
  obtain rfl := sI h
  exact cell_end hts hI hB h0 h1 he
end
end
end Go.Proofs.YtejbbceidnaloaaGreatDoor.P
