import Derived.Test.YtejbbceidnaloaaGreatDoorU10
namespace Go.Proofs.YtejbbceidnaloaaGreatDoor.P
open Go.RowKit Go.Proofs.YtejbbceidnaloaaGreatDoorW.PrintWords Go.Proofs.YtejbbceidnaloaaGreatDoorW.PrintLast Go.Proofs.YtejbbceidnaloaaGreatDoorW.PrintMore
set_option linter.unusedVariables false
set_option linter.unusedSimpArgs false
section
set_option maxRecDepth 100000
abbrev vR (r : S48) : Value := .agg #[.string r.f0, .int .i64 r.f1, .int .i64 r.f2, .bool r.f3, .bool r.f4]
def dolB (s : ByteArray) : Bool := decide ((s.size : Int) ≥ 1) && ((s.extract 0 1).toList == (⟨#[36]⟩ : ByteArray).toList)
def cutS (s : ByteArray) : ByteArray × Bool := if dolB s = true then (s.extract 1 s.size, true) else (s, false)
theorem cut_f (s : ByteArray) : strings_CutPrefix.f s ⟨#[36]⟩ = some (cutS s) := by
 unfold strings_CutPrefix.f stringslite_CutPrefix.f stringslite_HasPrefix.f cutS dolB
 have hz : (((⟨#[36]⟩ : ByteArray).size : Nat) : Int) = 1 := rfl
 rw [hz]
 by_cases h : (s.size : Int) ≥ 1
 ·have h2 : (1 : Int) ≤ s.size := h
  have ht : (1 : Int).toNat = 1 := rfl
  simp only [h, h2, if_true, show (0 : Int) ≤ 1 by omega, Option.bind_some, ht, decide_true, Bool.true_and]
  cases (s.extract 0 1).toList == (⟨#[36]⟩ : ByteArray).toList <;> simp
 ·simp [h]
theorem cut_any (s : ByteArray) (c : ByteArray) (b : Bool) (w : World) (h : cutS s = (c, b)) : Calls Tryz.prog 64 #[.string s, .string ⟨#[36]⟩] w fun e w' => e = .returned (.tuple #[.string c, .bool b]) ∧ Below w.heap.size w w' :=
 (strings_CutPrefix.calls s ⟨#[36]⟩ c b w (by rw [cut_f, h])).mono fun _ _ ⟨a, d⟩ => ⟨a, d.below⟩
def notUp (r : Nat) : Bool := decide ((r : Int) < 65) || decide ((r : Int) > 90)
theorem closure_any (r : Nat) (w : World) : Calls Tryz.prog 220 #[.int .i32 r] w fun e w' => e = .returned (.bool (notUp r)) ∧ w = w' := by
 unfold notUp
 cases h1 : decide ((r : Int) < 65) <;> cases h2 : decide ((r : Int) > 90)
 all_goals
  go_enter Tryz.func220, Tryz.ntmps220
  go_wp2
  go_ret
  exact ⟨rfl, rfl⟩
theorem runes_any (w : World) : PredAtRunes Tryz.prog 220 #[] notUp w := fun W x hx hb =>
 (closure_any x W).mono fun e w' ⟨a, b⟩ => ⟨a, 0, b.symm⟩
theorem index_any (s : ByteArray) (i : Int) (w : World) (h : Lib.idxFunc notUp true s = i) : Calls Tryz.prog 219 #[.string s, .func (.func 220) #[] #[]] w fun e w' => e = .returned (.int .i64 i) ∧ Below w.heap.size w w' := by
 subst h
 exact Tryz.strings_IndexFunc_runes 220 #[] (fun args w => enters_ Tryz.func220 (by kernel_rfl) rfl args w) notUp s w (runes_any w)
def cellO (s : ByteArray) : Option S48 :=
 let k := Lib.idxFunc notUp true (cutS s).1
 if k < 0 then none else
 let rs := cutS ((cutS s).1.extract k.toNat (cutS s).1.size)
 let rd := readF ((cutS s).1.extract 0 k.toNat ++ rs.1)
 if rd.2.2 = true ∧ 0 < rs.1.size ∧ 48 ≤ bt rs.1 0 ∧ bt rs.1 0 ≤ 57 then some ⟨eB, rd.1, rd.2.1, rs.2, (cutS s).2⟩ else none
theorem read_g (s : ByteArray) (r c : Int) (b : Bool) (w : World) (hG : GL w) (hs : s.size ≤ 140737488351232) (h : readF s = (r, c, b)) : Calls Tryz.prog 221 #[.string s] w fun e w' => e = .returned (.tuple #[.int .i64 r, .int .i64 c, .bool b]) ∧ Below w.heap.size w w' :=
 place_Read_g.calls s r c b w hG (by unfold place_Read_g.f; rw [if_pos hs, h])
def AnsC (w0 w : World) (g : Nat) (ts : List S39) (e : Int) (x : Except (Int × Int) (S48 × Int)) (en : Ending) (w' : World) : Prop :=
 match x with
 | .ok (r, a) => en = .returned (vR r) ∧ St w0 w w' g ts a e
 | .error (c, p) => Bad en c p ∧ ∃ a, St w0 w w' g ts a e
theorem tl_mB (l : List UInt8) : (mB l).toList = l := by rw [ByteArray.toList_eq]; simp [mB]
theorem tl_no {m : ByteArray} {l : List UInt8} (h : m ≠ mB l) : (m.toList == l) = false := by
 rw [beq_eq_false_iff_ne]
 intro hh
 exact h ((tl_eq m (mB l)).1 (by rw [hh, tl_mB]))
theorem cut_size (s : ByteArray) : (cutS s).1.size ≤ s.size := by
 unfold cutS
 split
 ·rw [ByteArray.size_extract]; omega
 ·exact Nat.le_refl _
theorem toList_nil0 {s : ByteArray} (h : s.size = 0) : s.toList = [] := by
 rw [ByteArray.toList_eq]
 exact List.eq_nil_of_length_eq_zero (by simpa using h)
theorem toList_ne0 {s : ByteArray} (h : 0 < s.size) : s.toList ≠ [] := by
 rw [ByteArray.toList_eq]
 intro hh
 have : s.data.toList.length = 0 := by rw [hh]; rfl
 have h2 : s.data.toList.length = s.size := by simp
 omega
theorem St.put {w0 w w1 w2 : World} {g g2 : Nat} {ts : List S39} {a e : Int} (h : St w0 w w1 g ts a e) (hp : Put g2 w1 w2) (hle : w0.heap.size ≤ g2) (hg : w.heap.size ≤ g2) (hne : g2 ≠ g) : St w0 w w2 g ts a e := by
 obtain ⟨A0, c0, hh, hge, hC⟩ := h.is
 exact ⟨⟨A0, c0, (hp.far g (fun e => hne e.symm)).trans hh, hge, hC⟩, hp.below w0 hle h.bel, ⟨by have := h.keep.1; have := hp.size; omega, fun i hi hg' hr => (hp.far i (by omega)).trans (h.keep.2 i hi hg' hr)⟩⟩
section
variable {ts : List S39} {e : Int} {w0 : World}
theorem cell_end (hts : ts.length ≤ 100000) {w : World} {g : Nat} {at_ : Int} (hI : IsS72 w0 w g ts at_ e) (hB : Below w0.heap.size w0 w) (h0 : 0 ≤ at_) (h1 : at_ ≤ ts.length) (he : ¬ at_ < ts.length) :
 Calls Tryz.prog 206 #[.pointer (some ⟨g, 0, none⟩)] w (AnsC w0 w g ts e (.error (50, failAt ts e at_))) := by
 have be : (at_ == (ts.length : Int)) = true := by rw [beq_iff_eq]; omega
 have H0 := lh (show 0 ≤ at_ ∧ at_ ≤ 1000000 by omega)
 have HS := lh (St.start hI hB)
 clear h1 he
 clear hB hI
 go_enter Tryz.func206, Tryz.ntmps206
 go_upto_region 1 with (fail)
 obtain ⟨w1, hw_⟩ : ∃ x_ : World, x_ = w.alloc (.cells #[.string ⟨#[]⟩, .int .i64 0, .int .i64 0, .bool false, .bool false] 48) := ⟨_, rfl⟩
 obtain ⟨g2, hg2⟩ : ∃ x_ : Nat, x_ = w.heap.size := ⟨_, rfl⟩
 rw [← hw_, ← hg2]
 have HS1 := lh (show St w0 w w1 g ts at_ e by rw [hw_]; exact HS.out.below (below_alloc (Below.refl _ _) _))
 have J2 := lh (show w1.heap[g2]? = some (.cells #[.string ⟨#[]⟩, .int .i64 0, .int .i64 0, .bool false, .bool false] 48 (0, 0)) by rw [hw_, hg2]; exact blk_new w _)
 have HNE := lh (show g2 ≠ g by have := HS.out.is.lt; omega)
 clear hw_ hg2 HS
 obtain ⟨A0, c0, hg, hge, hC⟩ := HS1.out.is
 have k0 := Nbc hg
 have k1 := Nam hg
 clear hg hge hC
 refine start_ (n := 34) (S := fun w' => w'.cell? ⟨g, 0, none⟩ = some (.slice A0 ts.length c0) ∧ w'.cell? ⟨g, 1, none⟩ = some (.int .i64 at_)) (ds := []) #[false, false, false, false, false, false, false, false, false, false, false, false, false, false, false, false, false, false, false, false, false, false, false, false, false, false, false, false, false, false, false, false, false, false] (by kernel_rfl) rfl rfl ⟨k0, k1⟩ (fun hHeld => ?_)
 refine pP 0 12 ?_
 refine pP 1 13 ?_
 refine pP 2 14 ?_
 refine pP 4 16 ?_
 refine pP 5 17 ?_
 refine pP 6 18 ?_
 refine tP 3 15 hHeld ?_
 refine tP 7 19 hHeld ?_
 refine pP 8 20 ?_
 refine pP 9 21 ?_
 refine pP 10 22 ?_
 refine uP 11 23 ?_
 refine uP 12 24 ?_
 refine uP 13 25 ?_
 refine uP 14 26 ?_
 refine uP 15 27 ?_
 refine uP 16 28 ?_
 refine uP 17 29 ?_
 refine uP 18 30 ?_
 refine uP 19 31 ?_
 refine uP 20 32 ?_
 refine uP 21 33 ?_
 refine uP 22 34 ?_
 refine pP 23 35 ?_
 refine pP 24 36 ?_
 refine uP 25 37 ?_
 refine uP 26 38 ?_
 refine uP 27 39 ?_
 refine pP 28 40 ?_
 refine pP 29 41 ?_
 refine uP 30 42 ?_
 refine uP 31 43 ?_
 refine uP 32 44 ?_
 refine pP 33 45 ?_
 refine done_ (by kernel_rfl) ?_
 have HSd := lh HS1.out.drew
 go_wp2_with (go_at_call 69; (with_reducible refine (Nbt HSd.out.is HSd.out.bel H0.out.1 50).mono ?_); rintro en w8 ⟨rfl, hs⟩; have HS8 := lh (HSd.out.trans hs); clear hs)
 exact ⟨rfl, rfl, _, HS8.out⟩
theorem cell_kind (hts : ts.length ≤ 100000) {w : World} {g : Nat} {at_ : Int} (hI : IsS72 w0 w g ts at_ e) (hB : Below w0.heap.size w0 w) (h0 : 0 ≤ at_) (h1 : at_ ≤ ts.length) {kd : Int} {tx : ByteArray} (he : at_ < ts.length) (hk : (tokA ts at_).f0 = kd) (htx : (tokA ts at_).f1 = tx) (hne : kd ≠ 3) :
 Calls Tryz.prog 206 #[.pointer (some ⟨g, 0, none⟩)] w (AnsC w0 w g ts e (.error (50, failAt ts e at_))) := by
 have be : (at_ == (ts.length : Int)) = false := by rw [beq_eq_false_iff_ne]; omega
 have bk : (kd != 3) = true := bne_iff_ne.mpr hne
 have H0 := lh (show 0 ≤ at_ ∧ at_ ≤ 1000000 by omega)
 have HS := lh (St.start hI hB)
 clear hne
 clear hB hI
 go_enter Tryz.func206, Tryz.ntmps206
 go_upto_region 1 with (fail)
 obtain ⟨w1, hw_⟩ : ∃ x_ : World, x_ = w.alloc (.cells #[.string ⟨#[]⟩, .int .i64 0, .int .i64 0, .bool false, .bool false] 48) := ⟨_, rfl⟩
 obtain ⟨g2, hg2⟩ : ∃ x_ : Nat, x_ = w.heap.size := ⟨_, rfl⟩
 rw [← hw_, ← hg2]
 have HS1 := lh (show St w0 w w1 g ts at_ e by rw [hw_]; exact HS.out.below (below_alloc (Below.refl _ _) _))
 have J2 := lh (show w1.heap[g2]? = some (.cells #[.string ⟨#[]⟩, .int .i64 0, .int .i64 0, .bool false, .bool false] 48 (0, 0)) by rw [hw_, hg2]; exact blk_new w _)
 have HNE := lh (show g2 ≠ g by have := HS.out.is.lt; omega)
 clear hw_ hg2 HS
 obtain ⟨A0, c0, hg, hge, hC⟩ := HS1.out.is
 have k0 := Nbc hg
 have k1 := Nam hg
 obtain ⟨ad, ea, x0, x1, -⟩ := at_T39 hC at_ h0 he
 cases ea
 replace x0 := pw_cell_below HS1.out.bel x0
 replace x1 := pw_cell_below HS1.out.bel x1
 rw [show (rd_T39 ts at_).f0 = kd from hk] at x0
 rw [show (rd_T39 ts at_).f1 = tx from htx] at x1
 have q0 : 0 ≤ at_ := H0.out.1
 have q1 : at_ < (ts.length : Int) := he
 clear hg hge hC hk htx
 refine start_ (n := 34) (S := fun w' => w'.cell? ⟨g, 0, none⟩ = some (.slice (some ad) ts.length c0) ∧ w'.cell? ⟨g, 1, none⟩ = some (.int .i64 at_) ∧ w'.cell? (ad.add (at_.toNat * 3)) = some (.int .i64 kd) ∧ w'.cell? ⟨(ad.add (at_.toNat * 3)).block, (ad.add (at_.toNat * 3)).off + 1, none⟩ = some (.string tx)) (ds := []) #[false, false, false, false, false, false, false, false, false, false, false, false, false, false, false, false, false, false, false, false, false, false, false, false, false, false, false, false, false, false, false, false, false, false] (by kernel_rfl) rfl rfl ⟨k0, k1, x0, x1⟩ (fun hHeld => ?_)
 refine pP 0 12 ?_
 refine pP 1 13 ?_
 refine pP 2 14 ?_
 refine pP 4 16 ?_
 refine pP 5 17 ?_
 refine pP 6 18 ?_
 refine tP 3 15 hHeld ?_
 refine tP 7 19 hHeld ?_
 refine pP 8 20 ?_
 refine pP 9 21 ?_
 refine pP 10 22 ?_
 refine pP 11 23 ?_
 refine pP 12 24 ?_
 refine pP 13 25 ?_
 refine pP 15 27 ?_
 refine pP 16 28 ?_
 refine pP 17 29 ?_
 refine tP 14 26 hHeld ?_
 refine tP 18 30 hHeld ?_
 refine pP 19 31 ?_
 refine pP 20 32 ?_
 refine tP 21 33 hHeld ?_
 refine pP 22 34 ?_
 refine pP 23 35 ?_
 refine pP 24 36 ?_
 refine uP 25 37 ?_
 refine uP 26 38 ?_
 refine uP 27 39 ?_
 refine pP 28 40 ?_
 refine pP 29 41 ?_
 refine uP 30 42 ?_
 refine uP 31 43 ?_
 refine uP 32 44 ?_
 refine pP 33 45 ?_
 refine done_ (by kernel_rfl) ?_
 have HSd := lh HS1.out.drew
 go_wp2_with (go_at_call 69; (with_reducible refine (Nbt HSd.out.is HSd.out.bel H0.out.1 50).mono ?_); rintro en w8 ⟨rfl, hs⟩; have HS8 := lh (HSd.out.trans hs); clear hs)
 exact ⟨rfl, rfl, _, HS8.out⟩
theorem cell_open (hts : ts.length ≤ 100000) {w : World} {g : Nat} {at_ : Int} (hI : IsS72 w0 w g ts at_ e) (hB : Below w0.heap.size w0 w) (h0 : 0 ≤ at_) (h1 : at_ ≤ ts.length) {tx : ByteArray} (he : at_ < ts.length) (hk : (tokA ts at_).f0 = 3) (htx : (tokA ts at_).f1 = tx) (hm : markA ts (at_ + 1) = mB [40]) :
 Calls Tryz.prog 206 #[.pointer (some ⟨g, 0, none⟩)] w (AnsC w0 w g ts e (.error (50, failAt ts e at_))) := by
 have be : (at_ == (ts.length : Int)) = false := by rw [beq_eq_false_iff_ne]; omega
 have HM := lh (show markA ts (at_ + 1) = ⟨#[40]⟩ from hm)
 have H0 := lh (show 0 ≤ at_ ∧ at_ ≤ 1000000 by omega)
 have HS := lh (St.start hI hB)
 clear hm
 clear hB hI
 go_enter Tryz.func206, Tryz.ntmps206
 go_upto_region 1 with (fail)
 obtain ⟨w1, hw_⟩ : ∃ x_ : World, x_ = w.alloc (.cells #[.string ⟨#[]⟩, .int .i64 0, .int .i64 0, .bool false, .bool false] 48) := ⟨_, rfl⟩
 obtain ⟨g2, hg2⟩ : ∃ x_ : Nat, x_ = w.heap.size := ⟨_, rfl⟩
 rw [← hw_, ← hg2]
 have HS1 := lh (show St w0 w w1 g ts at_ e by rw [hw_]; exact HS.out.below (below_alloc (Below.refl _ _) _))
 have J2 := lh (show w1.heap[g2]? = some (.cells #[.string ⟨#[]⟩, .int .i64 0, .int .i64 0, .bool false, .bool false] 48 (0, 0)) by rw [hw_, hg2]; exact blk_new w _)
 have HNE := lh (show g2 ≠ g by have := HS.out.is.lt; omega)
 clear hw_ hg2 HS
 obtain ⟨A0, c0, hg, hge, hC⟩ := HS1.out.is
 have k0 := Nbc hg
 have k1 := Nam hg
 obtain ⟨ad, ea, x0, x1, -⟩ := at_T39 hC at_ h0 he
 cases ea
 replace x0 := pw_cell_below HS1.out.bel x0
 replace x1 := pw_cell_below HS1.out.bel x1
 rw [show (rd_T39 ts at_).f0 = 3 from hk] at x0
 rw [show (rd_T39 ts at_).f1 = tx from htx] at x1
 have q0 : 0 ≤ at_ := H0.out.1
 have q1 : at_ < (ts.length : Int) := he
 clear hg hge hC hk htx
 refine start_ (n := 34) (S := fun w' => w'.cell? ⟨g, 0, none⟩ = some (.slice (some ad) ts.length c0) ∧ w'.cell? ⟨g, 1, none⟩ = some (.int .i64 at_) ∧ w'.cell? (ad.add (at_.toNat * 3)) = some (.int .i64 3) ∧ w'.cell? ⟨(ad.add (at_.toNat * 3)).block, (ad.add (at_.toNat * 3)).off + 1, none⟩ = some (.string tx)) (ds := []) #[false, false, false, false, false, false, false, false, false, false, false, false, false, false, false, false, false, false, false, false, false, false, false, false, false, false, false, false, false, false, false, false, false, false] (by kernel_rfl) rfl rfl ⟨k0, k1, x0, x1⟩ (fun hHeld => ?_)
 refine pP 0 12 ?_
 refine pP 1 13 ?_
 refine pP 2 14 ?_
 refine pP 4 16 ?_
 refine pP 5 17 ?_
 refine pP 6 18 ?_
 refine tP 3 15 hHeld ?_
 refine tP 7 19 hHeld ?_
 refine pP 8 20 ?_
 refine pP 9 21 ?_
 refine pP 10 22 ?_
 refine pP 11 23 ?_
 refine pP 12 24 ?_
 refine pP 13 25 ?_
 refine pP 15 27 ?_
 refine pP 16 28 ?_
 refine pP 17 29 ?_
 refine tP 14 26 hHeld ?_
 refine tP 18 30 hHeld ?_
 refine pP 19 31 ?_
 refine pP 20 32 ?_
 refine tP 21 33 hHeld ?_
 refine pP 22 34 ?_
 refine pP 23 35 ?_
 refine pP 24 36 ?_
 refine pP 25 37 ?_
 refine one_ (i := 26) (N := some 38) #[true, true, true, true, true, true, true, true, true, true, true, true, true, true, true, true, true, true, true, true, true, true, true, true, true, true, true, false, false, false, false, false, false, false] rfl rfl (by kernel_rfl) (by decide) (fun K hK => ?_)
 refine goes_ Tryz.func204 (by kernel_rfl) rfl #[.pointer (some ⟨g, 0, none⟩)] (by rfl) rfl rfl (by simp only [List.map_toArray, List.map_cons, List.map_nil]; rfl) ?_
 with_reducible refine (Nax HS1.out.drew.is HS1.out.drew.bel H0.out.1 H0.out.2 ⟨#[40]⟩ HM.out).mono ?_
 rintro en w2 ⟨rfl, hs, hb⟩
 have HS2 := lh (HS1.out.drew.trans hs)
 have hqw20 := pw_cell_below hb (hHeld.1)
 have hqw21 := pw_cell_below hb (hHeld.2.1)
 have hqw22 := pw_cell_below hb (hHeld.2.2.1)
 have hqw23 := pw_cell_below hb (hHeld.2.2.2)
 clear hs hb
 refine ⟨_, rfl, ?_⟩
 refine hK.out _ _ ⟨hqw20, hqw21, hqw22, hqw23⟩ (fun hHeld => ?_)
 clear hK K
 refine nP 38 ?_
 refine pP 27 39 ?_
 refine pP 28 40 ?_
 refine pP 29 41 ?_
 refine uP 30 42 ?_
 refine uP 31 43 ?_
 refine uP 32 44 ?_
 refine pP 33 45 ?_
 refine done_ (by kernel_rfl) ?_
 go_wp2_with (go_at_call 69; (with_reducible refine (Nbt HS2.out.is HS2.out.bel H0.out.1 50).mono ?_); rintro en w8 ⟨rfl, hs⟩; have HS8 := lh (HS2.out.trans hs); clear hs)
 exact ⟨rfl, rfl, _, HS8.out⟩
theorem cell_sheet (hts : ts.length ≤ 100000) {w : World} {g : Nat} {at_ : Int} (hI : IsS72 w0 w g ts at_ e) (hB : Below w0.heap.size w0 w) (h0 : 0 ≤ at_) (h1 : at_ ≤ ts.length) {tx : ByteArray} (he : at_ < ts.length) (hk : (tokA ts at_).f0 = 3) (htx : (tokA ts at_).f1 = tx) (hm : markA ts (at_ + 1) = mB [33]) :
 Calls Tryz.prog 206 #[.pointer (some ⟨g, 0, none⟩)] w (AnsC w0 w g ts e (.error (50, failAt ts e at_))) := by
 have be : (at_ == (ts.length : Int)) = false := by rw [beq_eq_false_iff_ne]; omega
 have HM := lh (show markA ts (at_ + 1) = ⟨#[33]⟩ from hm)
 have H0 := lh (show 0 ≤ at_ ∧ at_ ≤ 1000000 by omega)
 have HS := lh (St.start hI hB)
 clear hm
 clear hB hI
 go_enter Tryz.func206, Tryz.ntmps206
 go_upto_region 1 with (fail)
 obtain ⟨w1, hw_⟩ : ∃ x_ : World, x_ = w.alloc (.cells #[.string ⟨#[]⟩, .int .i64 0, .int .i64 0, .bool false, .bool false] 48) := ⟨_, rfl⟩
 obtain ⟨g2, hg2⟩ : ∃ x_ : Nat, x_ = w.heap.size := ⟨_, rfl⟩
 rw [← hw_, ← hg2]
 have HS1 := lh (show St w0 w w1 g ts at_ e by rw [hw_]; exact HS.out.below (below_alloc (Below.refl _ _) _))
 have J2 := lh (show w1.heap[g2]? = some (.cells #[.string ⟨#[]⟩, .int .i64 0, .int .i64 0, .bool false, .bool false] 48 (0, 0)) by rw [hw_, hg2]; exact blk_new w _)
 have HNE := lh (show g2 ≠ g by have := HS.out.is.lt; omega)
 clear hw_ hg2 HS
 obtain ⟨A0, c0, hg, hge, hC⟩ := HS1.out.is
 have k0 := Nbc hg
 have k1 := Nam hg
 obtain ⟨ad, ea, x0, x1, -⟩ := at_T39 hC at_ h0 he
 cases ea
 replace x0 := pw_cell_below HS1.out.bel x0
 replace x1 := pw_cell_below HS1.out.bel x1
 rw [show (rd_T39 ts at_).f0 = 3 from hk] at x0
 rw [show (rd_T39 ts at_).f1 = tx from htx] at x1
 have q0 : 0 ≤ at_ := H0.out.1
 have q1 : at_ < (ts.length : Int) := he
 clear hg hge hC hk htx
 refine start_ (n := 34) (S := fun w' => w'.cell? ⟨g, 0, none⟩ = some (.slice (some ad) ts.length c0) ∧ w'.cell? ⟨g, 1, none⟩ = some (.int .i64 at_) ∧ w'.cell? (ad.add (at_.toNat * 3)) = some (.int .i64 3) ∧ w'.cell? ⟨(ad.add (at_.toNat * 3)).block, (ad.add (at_.toNat * 3)).off + 1, none⟩ = some (.string tx)) (ds := []) #[false, false, false, false, false, false, false, false, false, false, false, false, false, false, false, false, false, false, false, false, false, false, false, false, false, false, false, false, false, false, false, false, false, false] (by kernel_rfl) rfl rfl ⟨k0, k1, x0, x1⟩ (fun hHeld => ?_)
 refine pP 0 12 ?_
 refine pP 1 13 ?_
 refine pP 2 14 ?_
 refine pP 4 16 ?_
 refine pP 5 17 ?_
 refine pP 6 18 ?_
 refine tP 3 15 hHeld ?_
 refine tP 7 19 hHeld ?_
 refine pP 8 20 ?_
 refine pP 9 21 ?_
 refine pP 10 22 ?_
 refine pP 11 23 ?_
 refine pP 12 24 ?_
 refine pP 13 25 ?_
 refine pP 15 27 ?_
 refine pP 16 28 ?_
 refine pP 17 29 ?_
 refine tP 14 26 hHeld ?_
 refine tP 18 30 hHeld ?_
 refine pP 19 31 ?_
 refine pP 20 32 ?_
 refine tP 21 33 hHeld ?_
 refine pP 22 34 ?_
 refine pP 23 35 ?_
 refine pP 24 36 ?_
 refine pP 25 37 ?_
 refine one_ (i := 26) (N := some 38) #[true, true, true, true, true, true, true, true, true, true, true, true, true, true, true, true, true, true, true, true, true, true, true, true, true, true, true, false, false, false, false, false, false, false] rfl rfl (by kernel_rfl) (by decide) (fun K hK => ?_)
 refine goes_ Tryz.func204 (by kernel_rfl) rfl #[.pointer (some ⟨g, 0, none⟩)] (by rfl) rfl rfl (by simp only [List.map_toArray, List.map_cons, List.map_nil]; rfl) ?_
 with_reducible refine (Nax HS1.out.drew.is HS1.out.drew.bel H0.out.1 H0.out.2 ⟨#[33]⟩ HM.out).mono ?_
 rintro en w2 ⟨rfl, hs, hb⟩
 have HS2 := lh (HS1.out.drew.trans hs)
 have hqw20 := pw_cell_below hb (hHeld.1)
 have hqw21 := pw_cell_below hb (hHeld.2.1)
 have hqw22 := pw_cell_below hb (hHeld.2.2.1)
 have hqw23 := pw_cell_below hb (hHeld.2.2.2)
 clear hs hb
 refine ⟨_, rfl, ?_⟩
 refine hK.out _ _ ⟨hqw20, hqw21, hqw22, hqw23⟩ (fun hHeld => ?_)
 clear hK K
 refine nP 38 ?_
 refine pP 27 39 ?_
 refine pP 28 40 ?_
 refine pP 29 41 ?_
 refine pP 30 42 ?_
 refine one_ (i := 31) (N := some 43) #[true, true, true, true, true, true, true, true, true, true, true, true, true, true, true, true, true, true, true, true, true, true, true, true, true, true, true, true, true, true, true, true, false, false] rfl rfl (by kernel_rfl) (by decide) (fun K hK => ?_)
 refine goes_ Tryz.func204 (by kernel_rfl) rfl #[.pointer (some ⟨g, 0, none⟩)] (by rfl) rfl rfl (by simp only [List.map_toArray, List.map_cons, List.map_nil]; rfl) ?_
 with_reducible refine (Nax HS2.out.is HS2.out.bel H0.out.1 H0.out.2 ⟨#[33]⟩ HM.out).mono ?_
 rintro en w3 ⟨rfl, hs, hb⟩
 have HS3 := lh (HS2.out.trans hs)
 have hqw30 := pw_cell_below hb (hHeld.1)
 have hqw31 := pw_cell_below hb (hHeld.2.1)
 have hqw32 := pw_cell_below hb (hHeld.2.2.1)
 have hqw33 := pw_cell_below hb (hHeld.2.2.2)
 clear hs hb
 refine ⟨_, rfl, ?_⟩
 refine hK.out _ _ ⟨hqw30, hqw31, hqw32, hqw33⟩ (fun hHeld => ?_)
 clear hK K
 refine nP 43 ?_
 refine pP 32 44 ?_
 refine pP 33 45 ?_
 refine done_ (by kernel_rfl) ?_
 go_wp2_with (go_at_call 69; (with_reducible refine (Nbt HS3.out.is HS3.out.bel H0.out.1 50).mono ?_); rintro en w8 ⟨rfl, hs⟩; have HS8 := lh (HS3.out.trans hs); clear hs)
 exact ⟨rfl, rfl, _, HS8.out⟩
set_option maxHeartbeats 2000000 in
theorem cell_word (hts : ts.length ≤ 100000) {w : World} {g : Nat} {at_ : Int} (hI : IsS72 w0 w g ts at_ e) (hB : Below w0.heap.size w0 w) (h0 : 0 ≤ at_) (h1 : at_ ≤ ts.length) {tx : ByteArray} (hG : GL w0) (hz : tx.size ≤ 100000) (he : at_ < ts.length) (hk : (tokA ts at_).f0 = 3) (htx : (tokA ts at_).f1 = tx) (hm1 : markA ts (at_ + 1) ≠ mB [40]) (hm2 : markA ts (at_ + 1) ≠ mB [33]) {x} (hx : (match cellO tx with | some r => .ok (r, at_ + 1) | none => .error (50, failAt ts e at_)) = x) :
 Calls Tryz.prog 206 #[.pointer (some ⟨g, 0, none⟩)] w (AnsC w0 w g ts e x) := by
 have be : (at_ == (ts.length : Int)) = false := by rw [beq_eq_false_iff_ne]; omega
 have HX := lh hx
 clear hx
 obtain ⟨m, hm⟩ : ∃ m, markA ts (at_ + 1) = m := ⟨_, rfl⟩
 rw [hm] at hm1 hm2
 have HM := lh hm
 have bm1 : (m.toList == [40]) = false := tl_no hm1
 have bm2 : (m.toList == [33]) = false := tl_no hm2
 have HE := lh he
 have HZ := lh hz
 have H0 := lh (show 0 ≤ at_ ∧ at_ ≤ 1000000 by omega)
 have HS := lh (St.start hI hB)
 clear hm hm1 hm2
 clear hB hI
 go_enter Tryz.func206, Tryz.ntmps206
 go_upto_region 1 with (fail)
 obtain ⟨w1, hw_⟩ : ∃ x_ : World, x_ = w.alloc (.cells #[.string ⟨#[]⟩, .int .i64 0, .int .i64 0, .bool false, .bool false] 48) := ⟨_, rfl⟩
 obtain ⟨g2, hg2⟩ : ∃ x_ : Nat, x_ = w.heap.size := ⟨_, rfl⟩
 rw [← hw_, ← hg2]
 have HS1 := lh (show St w0 w w1 g ts at_ e by rw [hw_]; exact HS.out.below (below_alloc (Below.refl _ _) _))
 have J2 := lh (show w1.heap[g2]? = some (.cells #[.string ⟨#[]⟩, .int .i64 0, .int .i64 0, .bool false, .bool false] 48 (0, 0)) by rw [hw_, hg2]; exact blk_new w _)
 have HG2 := lh (show w0.heap.size ≤ g2 ∧ w.heap.size ≤ g2 from ⟨hg2 ▸ HS.out.bel.size, hg2 ▸ Nat.le_refl _⟩)
 have HNE := lh (show g2 ≠ g by have := HS.out.is.lt; omega)
 clear hw_ hg2 HS
 obtain ⟨A0, c0, hg, hge, hC⟩ := HS1.out.is
 have k0 := Nbc hg
 have k1 := Nam hg
 obtain ⟨ad, ea, x0, x1, -⟩ := at_T39 hC at_ h0 he
 cases ea
 replace x0 := pw_cell_below HS1.out.bel x0
 replace x1 := pw_cell_below HS1.out.bel x1
 rw [show (rd_T39 ts at_).f0 = 3 from hk] at x0
 rw [show (rd_T39 ts at_).f1 = tx from htx] at x1
 have q0 : 0 ≤ at_ := H0.out.1
 have q1 : at_ < (ts.length : Int) := he
 clear hg hge hC hk htx hz
 refine start_ (n := 34) (S := fun w' => w'.cell? ⟨g, 0, none⟩ = some (.slice (some ad) ts.length c0) ∧ w'.cell? ⟨g, 1, none⟩ = some (.int .i64 at_) ∧ w'.cell? (ad.add (at_.toNat * 3)) = some (.int .i64 3) ∧ w'.cell? ⟨(ad.add (at_.toNat * 3)).block, (ad.add (at_.toNat * 3)).off + 1, none⟩ = some (.string tx)) (ds := []) #[false, false, false, false, false, false, false, false, false, false, false, false, false, false, false, false, false, false, false, false, false, false, false, false, false, false, false, false, false, false, false, false, false, false] (by kernel_rfl) rfl rfl ⟨k0, k1, x0, x1⟩ (fun hHeld => ?_)
 refine pP 0 12 ?_
 refine pP 1 13 ?_
 refine pP 2 14 ?_
 refine pP 4 16 ?_
 refine pP 5 17 ?_
 refine pP 6 18 ?_
 refine tP 3 15 hHeld ?_
 refine tP 7 19 hHeld ?_
 refine pP 8 20 ?_
 refine pP 9 21 ?_
 refine pP 10 22 ?_
 refine pP 11 23 ?_
 refine pP 12 24 ?_
 refine pP 13 25 ?_
 refine pP 15 27 ?_
 refine pP 16 28 ?_
 refine pP 17 29 ?_
 refine tP 14 26 hHeld ?_
 refine tP 18 30 hHeld ?_
 refine pP 19 31 ?_
 refine pP 20 32 ?_
 refine tP 21 33 hHeld ?_
 refine pP 22 34 ?_
 refine pP 23 35 ?_
 refine pP 24 36 ?_
 refine pP 25 37 ?_
 refine one_ (i := 26) (N := some 38) #[true, true, true, true, true, true, true, true, true, true, true, true, true, true, true, true, true, true, true, true, true, true, true, true, true, true, true, false, false, false, false, false, false, false] rfl rfl (by kernel_rfl) (by decide) (fun K hK => ?_)
 refine goes_ Tryz.func204 (by kernel_rfl) rfl #[.pointer (some ⟨g, 0, none⟩)] (by rfl) rfl rfl (by simp only [List.map_toArray, List.map_cons, List.map_nil]; rfl) ?_
 with_reducible refine (Nax HS1.out.drew.is HS1.out.drew.bel H0.out.1 H0.out.2 m HM.out).mono ?_
 rintro en w2 ⟨rfl, hs, hb⟩
 have HS2 := lh (HS1.out.drew.trans hs)
 have hqw20 := pw_cell_below hb (hHeld.1)
 have hqw21 := pw_cell_below hb (hHeld.2.1)
 have hqw22 := pw_cell_below hb (hHeld.2.2.1)
 have hqw23 := pw_cell_below hb (hHeld.2.2.2)
 have Jb := lh (blk_below (blk_drew J2.out) hb)
 clear hs hb
 refine ⟨_, rfl, ?_⟩
 refine hK.out _ _ ⟨hqw20, hqw21, hqw22, hqw23⟩ (fun hHeld => ?_)
 clear hK K
 refine nP 38 ?_
 refine pP 27 39 ?_
 refine pP 28 40 ?_
 refine pP 29 41 ?_
 refine pP 30 42 ?_
 refine one_ (i := 31) (N := some 43) #[true, true, true, true, true, true, true, true, true, true, true, true, true, true, true, true, true, true, true, true, true, true, true, true, true, true, true, true, true, true, true, true, false, false] rfl rfl (by kernel_rfl) (by decide) (fun K hK => ?_)
 refine goes_ Tryz.func204 (by kernel_rfl) rfl #[.pointer (some ⟨g, 0, none⟩)] (by rfl) rfl rfl (by simp only [List.map_toArray, List.map_cons, List.map_nil]; rfl) ?_
 with_reducible refine (Nax HS2.out.is HS2.out.bel H0.out.1 H0.out.2 m HM.out).mono ?_
 rintro en w3 ⟨rfl, hs, hb⟩
 have HS3 := lh (HS2.out.trans hs)
 have hqw30 := pw_cell_below hb (hHeld.1)
 have hqw31 := pw_cell_below hb (hHeld.2.1)
 have hqw32 := pw_cell_below hb (hHeld.2.2.1)
 have hqw33 := pw_cell_below hb (hHeld.2.2.2)
 have J3 := lh (blk_below Jb.out hb)
 clear hs hb
 refine ⟨_, rfl, ?_⟩
 refine hK.out _ _ ⟨hqw30, hqw31, hqw32, hqw33⟩ (fun hHeld => ?_)
 clear hK K
 refine nP 43 ?_
 refine pP 32 44 ?_
 refine pP 33 45 ?_
 refine done_ (by kernel_rfl) ?_
 clear k0 k1 x0 x1 hHeld hqw20 hqw21 hqw22 hqw23 Jb J2 HS1 HS2
 go_upto_region 3 with (fail)
 go_quiet (fail)
 obtain ⟨⟨col, fc⟩, hcut⟩ : ∃ p, cutS tx = p := ⟨_, rfl⟩
 obtain ⟨i, hi⟩ : ∃ i, Lib.idxFunc notUp true col = i := ⟨_, rfl⟩
 have hir := Lib.idxFunc_range notUp true col
 rw [hi] at hir
 have HIR := lh hir
 have HCUT := lh hcut
 have HI := lh hi
 have HCS := lh (show col.size ≤ tx.size by have := cut_size tx; rw [hcut] at this; exact this)
 clear hir hcut hi
 go_upto_region 6 with (first
  | (go_at_call 64; (with_reducible refine (cut_any tx col fc _ HCUT.out).mono ?_); rintro en w4 ⟨rfl, hb⟩; have HS4 := lh ((HS3.out.drewN nq).below hb); have J4 := lh (blk_below (blk_drewN J3.out nq) hb); clear hb HS3 J3)
  | (go_at_call 219; (with_reducible refine (index_any col i _ HI.out).mono ?_); rintro en w5 ⟨rfl, hb⟩; have HS5 := lh (HS4.out.below hb); have J5 := lh (blk_below J4.out hb); clear hb HS4 J4))
 clear hqw30 hqw31 hqw32 hqw33 hHeld
 by_cases hneg : i < 0
 ·have dn : decide (i < 0) = true := decide_eq_true hneg
  have hx : cellO tx = none := by unfold cellO; simp only [HCUT.out, HI.out]; rw [if_pos hneg]
  obtain rfl : x = .error (50, failAt ts e at_) := by rw [← HX.out, hx]
  clear hx hneg HX
  go_wp2_with (go_at_call 69; (with_reducible refine (Nbt HS5.out.is HS5.out.bel H0.out.1 50).mono ?_); rintro en w8 ⟨rfl, hs⟩; have HS8 := lh (HS5.out.trans hs); clear hs)
  exact ⟨rfl, rfl, _, HS8.out⟩
 ·have i0 : 0 ≤ i := by omega
  have i1 : i < col.size := by rcases HIR.out with h | h <;> omega
  obtain ⟨⟨row, fr⟩, hrow⟩ : ∃ p, cutS (col.extract i.toNat col.size) = p := ⟨_, rfl⟩
  obtain ⟨⟨r, c, ok⟩, hrd⟩ : ∃ p, readF (col.extract 0 i.toNat ++ row) = p := ⟨_, rfl⟩
  have hrs : row.size ≤ col.size := by have h := cut_size (col.extract i.toNat col.size); rw [hrow, ByteArray.size_extract] at h; simp only at h; omega
  have HROW := lh hrow
  have HRD := lh hrd
  have HRS := lh hrs
  have hsz : (col.extract 0 i.toNat).size + row.size ≤ 9223372036854775807 := by rw [ByteArray.size_extract]; have := HCS.out; have := HZ.out; omega
  have dn : decide (i < 0) = false := decide_eq_false hneg
  have HNN := lh hneg
  clear hneg hrow hrd hrs
  go_upto_region 10 with (first
   | (go_at_call 64; (with_reducible refine (cut_any (col.extract i.toNat col.size) row fr _ HROW.out).mono ?_); rintro en w6 ⟨rfl, hb⟩; have HS6 := lh (HS5.out.below hb); have J6 := lh (blk_below J5.out hb); clear hb HS5 J5)
   | (go_at_call 221; (with_reducible refine (read_g _ r c ok _ (hG.below HS6.out.bel) (by rw [ByteArray.size_append, ByteArray.size_extract]; have := HCS.out; have := HZ.out; have := HRS.out; omega) HRD.out).mono ?_); rintro en w7 ⟨rfl, hb⟩; have HS7 := lh (HS6.out.below hb); have J7 := lh (blk_below J6.out hb); clear hb HS6 J6))
  cases ok with
  | false =>
   have hx : cellO tx = none := by unfold cellO; simp only [HCUT.out, HI.out, HROW.out, HRD.out]; rw [if_neg (by have := HNN.out; omega), if_neg (fun h => by cases h.1)]
   obtain rfl : x = .error (50, failAt ts e at_) := by rw [← HX.out, hx]
   clear hx HX
   go_wp2_with (go_at_call 69; (with_reducible refine (Nbt HS7.out.is HS7.out.bel H0.out.1 50).mono ?_); rintro en w8 ⟨rfl, hs⟩; have HS8 := lh (HS7.out.trans hs); clear hs)
   exact ⟨rfl, rfl, _, HS8.out⟩
  | true =>
   by_cases hr0 : row.size = 0
   ·have rn : row.toList = [] := toList_nil0 hr0
    have HR0 := lh hr0
    have re1 : (row.toList == []) = true := by rw [rn]; rfl
    have re2 : row.toList.isEmpty = true := by rw [rn]; rfl
    clear rn hr0
    have hx : cellO tx = none := by unfold cellO; simp only [HCUT.out, HI.out, HROW.out, HRD.out]; rw [if_neg (by have := HNN.out; omega), if_neg (fun h => by have := HR0.out; omega)]
    obtain rfl : x = .error (50, failAt ts e at_) := by rw [← HX.out, hx]
    clear hx HX
    go_wp2_with (go_at_call 69; (with_reducible refine (Nbt HS7.out.is HS7.out.bel H0.out.1 50).mono ?_); rintro en w8 ⟨rfl, hs⟩; have HS8 := lh (HS7.out.trans hs); clear hs)
    exact ⟨rfl, rfl, _, HS8.out⟩
   ·have rp : 0 < row.size := by omega
    have HR0 := lh rp
    have rn : row.toList ≠ [] := toList_ne0 rp
    have re1 : (row.toList == []) = false := beq_eq_false_iff_ne.mpr rn
    have re2 : row.toList.isEmpty = false := by cases h : row.toList with
     | nil => exact absurd h rn
     | cons a b => rfl
    have e0 : ∀ h : 0 < row.size, ((row[0]'h).toNat : Int) = bt row 0 := fun h => bt_at row 0 h
    clear rn hr0
    by_cases h48 : bt row 0 < 48
    ·have d48 : decide (bt row 0 < 48) = true := decide_eq_true h48
     have H48 := lh h48
     clear h48
     have hx : cellO tx = none := by unfold cellO; simp only [HCUT.out, HI.out, HROW.out, HRD.out]; rw [if_neg (by have := HNN.out; omega), if_neg (fun h => by have := H48.out; omega)]
     obtain rfl : x = .error (50, failAt ts e at_) := by rw [← HX.out, hx]
     clear hx HX
     go_wp2_with (go_at_call 69; (with_reducible refine (Nbt HS7.out.is HS7.out.bel H0.out.1 50).mono ?_); rintro en w8 ⟨rfl, hs⟩; have HS8 := lh (HS7.out.trans hs); clear hs)
     exact ⟨rfl, rfl, _, HS8.out⟩
    ·by_cases h57 : bt row 0 > 57
     ·have d48 : decide (bt row 0 < 48) = false := decide_eq_false h48
      have d57 : decide (bt row 0 > 57) = true := decide_eq_true h57
      have H57 := lh h57
      clear h48 h57
      have hx : cellO tx = none := by unfold cellO; simp only [HCUT.out, HI.out, HROW.out, HRD.out]; rw [if_neg (by have := HNN.out; omega), if_neg (fun h => by have := H57.out; omega)]
      obtain rfl : x = .error (50, failAt ts e at_) := by rw [← HX.out, hx]
      clear hx HX
      go_wp2_with (go_at_call 69; (with_reducible refine (Nbt HS7.out.is HS7.out.bel H0.out.1 50).mono ?_); rintro en w8 ⟨rfl, hs⟩; have HS8 := lh (HS7.out.trans hs); clear hs)
      exact ⟨rfl, rfl, _, HS8.out⟩
     ·have d48 : decide (bt row 0 < 48) = false := decide_eq_false h48
      have d57 : decide (bt row 0 > 57) = false := decide_eq_false h57
      have hx : cellO tx = some ⟨eB, r, c, fr, fc⟩ := by unfold cellO; simp only [HCUT.out, HI.out, HROW.out, HRD.out]; rw [if_neg (by have := HNN.out; omega), if_pos ⟨trivial, HR0.out, by omega, by omega⟩]
      obtain rfl : x = .ok (⟨eB, r, c, fr, fc⟩, at_ + 1) := by rw [← HX.out, hx]
      clear hx HX h48 h57
      go_upto_region 12 with (fail)
      obtain ⟨A9, c9, hg, hge, -⟩ := HS7.out.is
      have k1 := Nam hg
      have f1 := blk_frozen hg 1
      have qq : at_ ≤ 1000000 := H0.out.2
      clear hg hge
      go_upto_region 13 with (fail)
      obtain ⟨w8, hw_⟩ : ∃ x_ : World, x_ = w7.setCell ⟨g, 1, none⟩ (.int .i64 (at_ + 1)) := ⟨_, rfl⟩
      rw [← hw_]
      have HS8 := lh (show St w0 w w8 g ts (at_ + 1) e by rw [hw_]; exact HS7.out.set (at_ + 1))
      have J8 := lh (show w8.heap[g2]? = some (.cells #[.string ⟨#[]⟩, .int .i64 0, .int .i64 0, .bool false, .bool false] 48 (0, 0)) by rw [hw_]; exact blk_far J7.out HNE.out _)
      clear hw_ k1 f1 HS7 J7
      go_wp2_with ((with_reducible refine gate_ (.store 48 (.tmp 2) (.tmp 116)) rfl ?_); refine sE J8.out 48 (.tmp 2) (.tmp 116) 0 (.agg #[.string ⟨#[]⟩, .int .i64 r, .int .i64 c, .bool fr, .bool fc]) #[.string ⟨#[]⟩, .int .i64 r, .int .i64 c, .bool fr, .bool fc] ?_; intro w9 hb_ hp_; have J9 := lh hb_; have HS9 := lh (HS8.out.put hp_ HG2.out.1 HG2.out.2 HNE.out); clear hb_ hp_ HS8 J8)
      refine bodyPost_ret (results_cell_row rfl _ _ g2 48 #[.string ⟨#[]⟩, .int .i64 r, .int .i64 c, .bool fr, .bool fc] (0, 0) _ rfl J9.out Tryz.underlying48 rfl (by kernel_rfl)) rfl ?_
      exact ⟨rfl, HS9.out⟩
theorem cel_any {O : Ops} (hcell : ∀ i, O.cell (tokA ts i).f1 = cellO (tokA ts i).f1) (hsize : ∀ i, (tokA ts i).f1.size ≤ 100000) (hG : GL w0) (hts : ts.length ≤ 100000) {w : World} {g : Nat} {at_ : Int} {x} (hI : IsS72 w0 w g ts at_ e) (hB : Below w0.heap.size w0 w) (h0 : 0 ≤ at_) (h1 : at_ ≤ ts.length) (h : celF O ts e at_ = some x) :
 Calls Tryz.prog 206 #[.pointer (some ⟨g, 0, none⟩)] w (AnsC w0 w g ts e x) := by
 unfold celF at h
 by_cases he : at_ < ts.length
 ·by_cases hk : (tokA ts at_).f0 = 3
  ·by_cases hm1 : markA ts (at_ + 1) = mB [40]
   ·rw [if_neg (fun hh => hh.2.2.1 hm1)] at h
    obtain rfl := Option.some.inj h
    exact cell_open hts hI hB h0 h1 he hk rfl hm1
   ·by_cases hm2 : markA ts (at_ + 1) = mB [33]
    ·rw [if_neg (fun hh => hh.2.2.2 hm2)] at h
     obtain rfl := Option.some.inj h
     exact cell_sheet hts hI hB h0 h1 he hk rfl hm2
    ·rw [if_pos ⟨he, hk, hm1, hm2⟩, hcell] at h
     refine cell_word hts hI hB h0 h1 hG (hsize at_) he hk rfl hm1 hm2 ?_
     cases hc : cellO (tokA ts at_).f1 with
     | none => rw [hc] at h; exact Option.some.inj h
     | some r => rw [hc] at h; exact Option.some.inj h
  ·rw [if_neg (fun hh => hk hh.2.1)] at h
   obtain rfl := Option.some.inj h
   exact cell_kind hts hI hB h0 h1 he rfl rfl hk
 ·rw [if_neg (fun hh => he hh.1)] at h
  obtain rfl := Option.some.inj h
  exact cell_end hts hI hB h0 h1 he
end
end
section
set_option maxRecDepth 100000
set_option maxHeartbeats 4000000
theorem joined_call (m : ByteArray) (n : Int) (A1 : Option Addr) (c1 : Nat) (l1 : List (List S50)) (w : World) (hr1 : Kd.C (Kd.slice 50 k50) w A1 l1.length l1) (hl1 : l1.length ≤ 1000) (hl : l1.flatten.length ≤ 1000000000) :
 Calls Tryz.prog 108 #[.agg #[.int .i64 6, .int .i64 0, .int .i64 0, .int .i64 0, .string ⟨#[]⟩, .bool false, .int .i64 0, .int .i64 0, .string m, .int .i64 n, .string ⟨#[]⟩, .int .i64 0, .int .i64 0, .bool false, .bool false, .string ⟨#[]⟩, .int .i64 0, .int .i64 0, .bool false, .bool false], .slice A1 l1.length c1] w fun e w' => ∃ v0_ : Value, e = .returned v0_ ∧ Kd.R k50 50 w' w.heap.size (fun _ => True) v0_ (nCall m n :: l1.flatten) ∧ Below w.heap.size w w' :=
 joined_any (nCall m n) A1 c1 l1 w hr1 hl1 hl
theorem info22 : (Tryz.prog.info? 22).map (fun i => (i.zero, i.size, i.bytes)) = some (some (.slice none 0 0), 1, 24) := by kernel_rfl
abbrev kL : Kd (List S50) := Kd.slice 50 k50
theorem l_keep {w1 w2 : World} {B g : Nat} {v : Value} {l : List (List S50)} (h : Kd.R kL 22 w1 B (fun _ => True) v l) (hk : KeepBut w1 w2 g none) (hg : g < B) : Kd.R kL 22 w2 B (fun _ => True) v l :=
 Kd.R_mono (Kd.R_keep (Kd.R_bound h) hk (fun k hk => by have := hk.2.1; omega)) (fun _ _ => trivial)
theorem l_own {w1 : World} {B : Nat} {v : Value} {l : List (List S50)} (h : Kd.R kL 22 w1 B (fun _ => True) v l) (k : Nat) (hk : v.ownBlock = some k) : k < w1.heap.size := by
 obtain ⟨_, inner, ho, _⟩ := h
 exact own_lt ho k hk
theorem St.fresh {w0 w W w1 : World} {g : Nat} {ts : List S39} {a e : Int} (h : St w0 w W g ts a e) (hb : Below w.heap.size W w1) (hg : g < w.heap.size) (hw : w0.heap.size ≤ w.heap.size) : St w0 w w1 g ts a e := by
 obtain ⟨A0, c0, hh, hge, hC⟩ := h.is
 exact ⟨⟨A0, c0, (hb.block g hg).trans hh, hge, hC⟩, h.bel.trans (hb.mono hw), ⟨Nat.le_trans h.keep.1 hb.size, fun i hi hg' hr => (hb.block i hi).trans (h.keep.2 i hi hg' hr)⟩⟩
section
variable {O : Ops} {ts : List S39} {e : Int} {w0 : World}
def LoopRel (O : Ops) (ts : List S39) (e : Int) (m : ByteArray) (y : Except (Int × Int) (List S50 × Int)) (kq : Nat) (ls : List (List S50)) (b : Int) (v6 : Value) : Prop :=
 (v6 = .bool true ∧ argF O ts e kq m ls.flatten ls.length b = some y) ∨ (v6 = .bool false ∧ y = .ok (nCall m ls.length :: ls.flatten, b))
theorem call_no {k : Nat} (ih : Parts O ts e w0 k) (hG : GL w0) (pe : PEnv O ts) (hts : ts.length ≤ 100000) {w : World} {g : Nat} {m : ByteArray} {at_ : Int} (hI : IsS72 w0 w g ts at_ e) (hB : Below w0.heap.size w0 w) (h0 : 0 ≤ at_) (h1 : at_ + 1 < ts.length) (hm : m.size ≤ 100000) (hf : O.fn m = false) :
 Calls Tryz.prog 205 #[.pointer (some ⟨g, 0, none⟩), .string m] w (Ans w0 w g ts e (.error (50, failAt ts e at_))) := by
 have HP := lh (pe.fn m w (hG.below hB) hm)
 have HS := lh (St.start hI hB)
 have H0 := lh h0
 rw [hf] at HP
 clear hI hB h0 h1 hf hm
 go_enter Tryz.func205, Tryz.ntmps205
 go_wp2_with (first
  | (go_at_call 96; (with_reducible refine (HP.out).mono ?_); rintro en w1 ⟨rfl, hb⟩; have HS1 := lh (HS.out.below hb); clear hb)
  | (go_at_call 69; (with_reducible refine (Nbt HS1.out.is HS1.out.bel H0.out 50).mono ?_); rintro en w8 ⟨rfl, hs⟩; have HS8 := lh (HS1.out.trans hs); clear hs))
 exact ⟨rfl, rfl, _, HS8.out⟩
theorem call_yes {k : Nat} (ih : Parts O ts e w0 k) (hG : GL w0) (pe : PEnv O ts) (hts : ts.length ≤ 100000) {w : World} {g : Nat} {m : ByteArray} {at_ : Int} (hI : IsS72 w0 w g ts at_ e) (hB : Below w0.heap.size w0 w) (h0 : 0 ≤ at_) (h1 : at_ + 1 < ts.length) (hm : m.size ≤ 100000) {y} (hf : O.fn m = true) (hy : (if markA ts (at_ + 2) = mB [41] then okR ([nCall m 0], at_ + 3) else argF O ts e k m [] 0 (at_ + 2)) = some y) :
 Calls Tryz.prog 205 #[.pointer (some ⟨g, 0, none⟩), .string m] w (Ans w0 w g ts e y) := by
 have HP := lh (pe.fn m w (hG.below hB) hm)
 have HS := lh (St.start hI hB)
 have HB0 := lh hB.size
 have HG := lh hI.lt
 have H0 := lh (show 0 ≤ at_ + 2 ∧ at_ + 2 ≤ ts.length by omega)
 have q0 : 0 ≤ at_ := h0
 have q1 : at_ ≤ 1000000 := by omega
 have HY := lh hy
 rw [hf] at HP
 clear hI hB h0 h1 hf hm hy
 go_enter Tryz.func205, Tryz.ntmps205
 go_upto_region 3 with (go_at_call 96; (with_reducible refine (HP.out).mono ?_); rintro en w1 ⟨rfl, hb⟩; have HS1 := lh (HS.out.below hb); clear hb HP HS)
 obtain ⟨A9, c9, hg, hge, -⟩ := HS1.out.is
 have k1 := Nam hg
 have f1 := blk_frozen hg 1
 clear hg hge
 go_upto_region 4 with (fail)
 obtain ⟨w2, hw_⟩ : ∃ x_ : World, x_ = w1.setCell ⟨g, 1, none⟩ (.int .i64 (at_ + 2)) := ⟨_, rfl⟩
 rw [← hw_]
 have HS2 := lh (show St w0 w w2 g ts (at_ + 2) e by rw [hw_]; exact HS1.out.set (at_ + 2))
 clear hw_ k1 f1 HS1
 have main : ∀ (w3 : World) (b : Int) (more : Bool), Hid (St w0 w w3 g ts b e) → Hid (0 ≤ b ∧ b ≤ ts.length) → Hid (LoopRel O ts e m y k [] b (.bool more)) → True := fun _ _ _ _ _ _ => trivial
 clear main
 by_cases hc : markA ts (at_ + 2) = mB [41]
 all_goals
  first
   | (have HT := lh (takes_yes (m := ⟨#[41]⟩) HS2.out.is HS2.out.bel H0.out.1 (by have := H0.out; omega) hc)
      have HL := lh (show LoopRel O ts e m y k [] (at_ + 2 + 1) (.bool false) from .inr ⟨rfl, by have hy := HY.out; rw [if_pos hc] at hy; rw [← Option.some.inj hy, show at_ + 3 = at_ + 2 + 1 by omega]; rfl⟩)
      have HBd := lh (show 0 ≤ at_ + 2 + 1 ∧ at_ + 2 + 1 ≤ ts.length by have := Nbm ts hc (by decide); have := H0.out; omega)
      clear hc HY
      go_wp2_with (go_at_call 143; (with_reducible refine (HT.out).mono ?_); rintro en w3 ⟨rfl, hs⟩; have HS3 := lh (HS2.out.trans hs); clear hs HT HS2))
   | (have HT := lh (Nbs (m := ⟨#[41]⟩) HS2.out.is HS2.out.bel H0.out.1 (by have := H0.out; omega) hc)
      have HL := lh (show LoopRel O ts e m y k [] (at_ + 2) (.bool true) from .inl ⟨rfl, by have hy := HY.out; rw [if_neg hc] at hy; exact hy⟩)
      have HBd := lh (show 0 ≤ at_ + 2 ∧ at_ + 2 ≤ ts.length from H0.out)
      clear hc HY
      go_wp2_with (go_at_call 143; (with_reducible refine (HT.out).mono ?_); rintro en w3 ⟨rfl, hs⟩; have HS3 := lh (HS2.out.trans hs); clear hs HT HS2))
  go_loopg [5, 6] (k + 1) (fun kq v5 v6 w' => ∃ (ls : List (List S50)) (b : Int), Hid (LoopRel O ts e m y (kq - 1) ls b v6) ∧ Hid (kq ≤ k + 1) ∧ Hid (Kd.R kL 22 w' w.heap.size (fun _ => True) v5 ls) ∧ Hid (St w0 w w' g ts b e) ∧ Hid (0 ≤ b ∧ b ≤ ts.length ∧ (ls.flatten.length : Int) ≤ b ∧ ls.length ≤ 30 ∧ (v6 = .bool true → ls.length < 30)))
  case atStart => exact ⟨[], _, HL, lh (Nat.le_refl _), lh (Kd.R_nil _ _ _ _ _), HS3, lh ⟨HBd.out.1, HBd.out.2, by have := HBd.out; simp; omega, by simp, fun _ => by simp⟩⟩
  case round =>
   clear HL HBd HS3
   obtain ⟨ls, b, HRel, HK, HR, HS, HC⟩ := hrel
   obtain ⟨A5, c5, rfl, hle5, -⟩ := Kd.R_reads HR.out
   clear hle5
   rcases HRel.out with ⟨rfl, hrel⟩ | ⟨rfl, rfl⟩
   ·have H29 := lh (show ls.length < 30 from HC.out.2.2.2.2 rfl)
    obtain ⟨k1, rfl⟩ : ∃ k1, gk = k1 + 2 := by
     rcases gk with _ | _ | k1
     ·rw [show 0 - 1 = 0 from rfl, argF] at hrel; cases hrel
     ·rw [show 0 + 1 - 1 = 0 from rfl, argF] at hrel; cases hrel
     ·exact ⟨k1, rfl⟩
    rw [show k1 + 2 - 1 = k1 + 1 by omega, argF] at hrel
    cases hz : binF O ts e k1 1 b with
    | none => rw [hz] at hrel; cases hrel
    | some z =>
     have HX := lh (binF_le O ts e (show k1 ≤ k by have := HK.out; omega) hz)
     have HP := lh (show Res.bnd (some z) _ = some y by rw [← hz]; exact hrel)
     have HCC := lh (ih.bin wr g 1 b z HS.out.is HS.out.bel HC.out.1 HC.out.2.1 (by omega) (by omega) HX.out)
     clear hz hrel HRel
     cases z with
     | error p =>
      obtain ⟨c_, p⟩ := p
      obtain rfl := Option.some.inj HP.out
      go_wp2_with (fail)
      (with_reducible refine (HCC.out).mono ?_)
      rintro en w4 ⟨rfl, a, hs⟩
      go_wp2
      exact ⟨rfl, rfl, a, HS.out.trans hs⟩
     | ok p =>
      obtain ⟨r, a⟩ := p
      have HA := lh (binF_range O ts e HC.out.1 HC.out.2.1 (by omega) (by omega) HX.out)
      have HN := lh ((len_all O ts e k).1 _ _ _ _ HX.out)
      obtain ⟨w3, hw3⟩ : ∃ x_ : World, x_ = wr := ⟨_, rfl⟩
      go_wp2_with (fail)
      (with_reducible refine (HCC.out).mono ?_)
      rintro en w4 ⟨v4, rfl, hr, hs⟩
      obtain ⟨A4, c4, rfl, hle4, -⟩ := Kd.R_reads hr
      have HAP := lh (show ∀ k, wr.heap.size ≤ k → True ∧ some k ≠ (Value.slice A5 ls.length c5).ownBlock from fun k hk => ⟨trivial, fun hh => by have := l_own HR.out k hh.symm; omega⟩)
      have HRr := lh (Kd.R_lower (Kd.R_mono (Kd.R_bound hr) (fun k hk => hk.2.1)) HS.out.size)
      have HR4 := lh (l_keep HR.out hs.keep HG.out)
      have HS4 := lh (HS.out.trans hs)
      have HSz := lh HS4.out.size
      clear hr hs hle4 HR HCC hw3 w3
      go_upto_region 8 with (first | ((with_reducible refine gate_builtin (b := .append) (xs := #[.tmp 23, .tmp 26]) rfl ?_); at_builtin; refine Kd.R_append kL (w0 := w4) w.heap.size rfl (.tmp 23) (.tmp 26) 166 22 (.slice none 0 0) 24 rfl Tryz.underlying166 info22 rfl (by decide) (by decide) _ ls r [.slice A4 r.length c4] (fun _ => True) (fun k => wr.heap.size ≤ k) rfl rfl ⟨_, rfl, HRr.out⟩ HAP.out (fun _ _ => trivial) HR4.out (Below.refl _ _) HSz.out (by have := HC.out; omega) ?_; intro v5 w5 ho_ hb_ hg_ hat_; have HR5 := lh ho_; have HS5 := lh (HS4.out.fresh hb_ HG.out HB0.out); clear ho_ hb_ hg_ hat_))
      obtain ⟨n, hn⟩ : ∃ n, (ls ++ [r]).length = n := ⟨_, rfl⟩
      obtain ⟨A6, c6, rfl, hle6, -⟩ := Kd.R_reads HR5.out
      rw [hn]
      have HNn := lh hn
      have hn1 : n = ls.length + 1 := by rw [← hn]; simp
      have HN1 := lh hn1
      have HFl := lh (show (ls ++ [r]).flatten = ls.flatten ++ r by simp)
      clear hle6 hn hn1 HR4 HS4 HAP HRr
      have hp := HP.out
      simp only [Res.bnd] at hp
      have a0 : 0 ≤ a := by have := HA.out; have := HC.out; omega
      have A0 := lh a0
      clear a0
      by_cases hm44 : markA ts a = mB [44]
      ·rw [if_pos hm44] at hp
       have HM := lh (mark_any HS5.out.is HS5.out.bel A0.out ⟨#[44]⟩ hm44)
       by_cases h30 : (ls.length : Int) + 1 = 30
       ·rw [if_pos h30] at hp
        obtain rfl := Option.some.inj hp
        have d30 : ((n : Int) == 30) = true := by rw [beq_iff_eq]; have := HN1.out; omega
        clear hp hm44 h30 HP
        go_wp2_with (first
         | (go_at_call 107; (with_reducible refine (HM.out).mono ?_); rintro en w6 ⟨rfl, hs⟩; have HS6 := lh (HS5.out.trans hs); clear hs)
         | (go_at_call 69; (with_reducible refine (Nbt HS6.out.is HS6.out.bel A0.out 3).mono ?_); rintro en w8 ⟨rfl, hs⟩; have HS8 := lh (HS6.out.trans hs); clear hs))
        exact ⟨rfl, rfl, _, HS8.out⟩
       ·rw [if_neg h30] at hp
        have d30 : ((n : Int) == 30) = false := by rw [beq_eq_false_iff_ne]; have := HN1.out; omega
        have HM44 := lh (show markA ts a = ⟨#[44]⟩ from hm44)
        have HL := lh (Nbm ts hm44 (by decide))
        have H30 := lh h30
        have HP2 := lh (show argF O ts e k1 m (ls ++ [r]).flatten (ls ++ [r]).length (a + 1) = some y by rw [HFl.out, HNn.out, HN1.out]; push_cast; exact hp)
        clear hp hm44 h30 HP
        go_wp2_with (first
         | (go_at_call 107; (with_reducible refine (HM.out).mono ?_); rintro en w6 ⟨rfl, hs⟩; have HS6 := lh (HS5.out.trans hs); have HR6 := lh (l_keep HR5.out hs.keep HG.out); clear hs HR5)
         | (go_at_call 143; (with_reducible refine (takes_yes HS6.out.is HS6.out.bel A0.out (by have := HA.out; omega) HM44.out).mono ?_); rintro en w7 ⟨rfl, hs⟩; have HS7 := lh (HS6.out.trans hs); have HR7 := lh (l_keep HR6.out hs.keep HG.out); clear hs HR6))
        go_roundg (k1 + 1)
        case measure => omega
        case rel => exact ⟨ls ++ [r], a + 1, lh (.inl ⟨rfl, HP2.out⟩), lh (by have := HK.out; omega), lh (by have := HR7.out; rw [HNn.out] at this; exact this), HS7, lh ⟨by have := A0.out; omega, by have := HL.out; omega, by rw [HFl.out, List.length_append]; have := HC.out; have := HN.out; push_cast; omega, by rw [HNn.out, HN1.out]; have := H29.out; have := H30.out; omega, fun _ => by rw [HNn.out, HN1.out]; have := H29.out; have := H30.out; omega⟩⟩
      ·rw [if_neg hm44] at hp
       obtain ⟨m2, hm2⟩ : ∃ m2, markA ts a = m2 := ⟨_, rfl⟩
       have b44 : (m2.toList == [44]) = false := tl_no (by rw [← hm2]; exact hm44)
       have HM := lh (mark_any HS5.out.is HS5.out.bel A0.out m2 hm2)
       have HM44 := lh (show markA ts a ≠ ⟨#[44]⟩ from hm44)
       by_cases hm41 : markA ts a = mB [41]
       ·rw [if_pos hm41] at hp
        obtain rfl := Option.some.inj hp
        have HM41 := lh (show markA ts a = ⟨#[41]⟩ from hm41)
        have HL := lh (Nbm ts hm41 (by decide))
        clear hp hm44 hm41 hm2 HP
        go_wp2_with (first
         | (go_at_call 107; (with_reducible refine (HM.out).mono ?_); rintro en w6 ⟨rfl, hs⟩; have HS6 := lh (HS5.out.trans hs); have HR6 := lh (l_keep HR5.out hs.keep HG.out); clear hs HR5)
         | (go_at_call 143; (with_reducible refine (Nbs HS6.out.is HS6.out.bel A0.out (by have := HA.out; omega) HM44.out).mono ?_); rintro en w7 ⟨rfl, hs⟩; have HS7 := lh (HS6.out.trans hs); have HR7 := lh (l_keep HR6.out hs.keep HG.out); clear hs HR6)
         | (go_at_call 177; (with_reducible refine (must_yes HS7.out.is HS7.out.bel A0.out (by have := HA.out; omega) HM41.out).mono ?_); rintro en w8 ⟨rfl, hs⟩; have HS8 := lh (HS7.out.trans hs); have HR8 := lh (l_keep HR7.out hs.keep HG.out); clear hs HR7))
        go_roundg (k1 + 1)
        case measure => omega
        case rel => exact ⟨ls ++ [r], a + 1, lh (.inr ⟨rfl, by rw [HFl.out, HNn.out, HN1.out]; push_cast; rfl⟩), lh (by have := HK.out; omega), lh (by have := HR8.out; rw [HNn.out] at this; exact this), HS8, lh ⟨by have := A0.out; omega, by have := HL.out; omega, by rw [HFl.out, List.length_append]; have := HC.out; have := HN.out; push_cast; omega, by rw [HNn.out, HN1.out]; have := H29.out; omega, fun h => by cases h⟩⟩
       ·rw [if_neg hm41] at hp
        obtain rfl := Option.some.inj hp
        have HM41 := lh (show markA ts a ≠ ⟨#[41]⟩ from hm41)
        clear hp hm44 hm41 hm2 HP
        go_wp2_with (first
         | (go_at_call 107; (with_reducible refine (HM.out).mono ?_); rintro en w6 ⟨rfl, hs⟩; have HS6 := lh (HS5.out.trans hs); clear hs)
         | (go_at_call 143; (with_reducible refine (Nbs HS6.out.is HS6.out.bel A0.out (by have := HA.out; omega) HM44.out).mono ?_); rintro en w7 ⟨rfl, hs⟩; have HS7 := lh (HS6.out.trans hs); clear hs)
         | (go_at_call 177; (with_reducible refine (must_no HS7.out.is HS7.out.bel A0.out (by have := HA.out; omega) HM41.out).mono ?_); rintro en w8 ⟨rfl, hs⟩; have HS8 := lh (HS7.out.trans hs); clear hs))
        exact ⟨rfl, rfl, _, HS8.out⟩
   ·clear HRel
    go_wp2_with (fail)
    (with_reducible refine (joined_call m (ls.length : Int) _ _ ls _ (Kd.R_reads' HR.out).2.2 (by have := HC.out; omega) (by have := HC.out; omega)).mono ?_)
    rintro en w9 ⟨v9, rfl, hr, hb⟩
    have HR9 := lh (Kd.R_lower hr HS.out.size)
    have HS9 := lh (HS.out.below hb)
    clear hr hb
    go_wp2
    go_ret
    exact ⟨_, rfl, HR9.out, HS9.out⟩
theorem call_any {k : Nat} (ih : Parts O ts e w0 k) (hG : GL w0) (pe : PEnv O ts) (hts : ts.length ≤ 100000) (w : World) (g : Nat) (m : ByteArray) (at_ : Int) (x) (hI : IsS72 w0 w g ts at_ e) (hB : Below w0.heap.size w0 w) (h0 : 0 ≤ at_) (h1 : at_ + 1 < ts.length) (hm : m = (tokA ts at_).f1) (h : calF O ts e (k + 1) m at_ = some x) :
 Calls Tryz.prog 205 #[.pointer (some ⟨g, 0, none⟩), .string m] w (Ans w0 w g ts e x) := by
 rw [calF] at h
 have hz : m.size ≤ 100000 := by rw [hm]; exact pe.size at_
 cases hf : O.fn m with
 | false =>
  rw [hf] at h
  obtain rfl := Option.some.inj h
  exact call_no ih hG pe hts hI hB h0 h1 hz hf
 | true =>
  rw [hf, if_pos rfl] at h
  exact call_yes ih hG pe hts hI hB h0 h1 hz hf h
end
end
end Go.Proofs.YtejbbceidnaloaaGreatDoor.P
