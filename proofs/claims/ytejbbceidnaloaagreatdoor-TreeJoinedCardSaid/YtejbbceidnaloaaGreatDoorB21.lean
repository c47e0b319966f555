import Derived.Test.YtejbbceidnaloaaGreatDoorB20
set_option linter.unusedVariables false
set_option linter.unusedSimpArgs false
set_option maxRecDepth 100000
set_option maxHeartbeats 8000000
namespace Go.Proofs.YtejbbceidnaloaaGreatDoor.P
open Go.RowKit AW AL AM
def Na5.f (a0_0 a0_1 a0_2 : Int) : Option (ByteArray) := (Nbz.f a0_0 a0_1 a0_2).bind fun t102 => (if t102 = true then ((Neq.f a0_2).bind fun t103 => ((Nau.f (wrap64 (a0_1 + 1))).bind fun t104 => (if t103.size + t104.size ≤ 9223372036854775807 then (some (t103 ++ t104)) else (none)))) else (some (⟨#[]⟩ : ByteArray)))
def Na5.T3 : Bool × List (List Nat × List Nat) := (true, [([], []), ([0], [0]), ([1], [1]), ([], []), ([3], [3]), ([4], [4]), ([5, 2], [5]), ([2, 6], [2, 6]), ([7, 6, 0, 1, 2, 3, 4, 5, 6, 7], [7])])
def Na5.B3 : List Nat := [0, 1, 3, 0, 8, 24, 63, 127, 255]
theorem Na5.tab3 : rtab .any (opsOf Tryz.f118 3) = Na5.T3 := by kernel_rfl
theorem Na5.bits3 : Ne3 Na5.T3.2 Na5.B3 = true := by kernel_rfl
theorem Na5.calls (a0_0 a0_1 a0_2 : Int) (r : ByteArray) (w : World) (hG : GL w) (h : Na5.f a0_0 a0_1 a0_2 = some r) :
 Calls Tryz.prog 118 #[.agg #[.int .i64 a0_0, .int .i64 a0_1, .int .i64 a0_2]] w fun e w' => e = .returned (.string r) ∧ Below w.heap.size w w' := by
 have hu64 := Tryz.underlying64
 have HB := aM (Below.refl w.heap.size w)
 have H := h
 unfold Na5.f at H
 clear h
 replace H := bS H
 obtain ⟨t102, A20, H⟩ := H
 try dsimp only at H
 have A2 := aM A20
 clear A20
 by_cases c3 : t102 = true
 ·subst c3
  rw [if_pos rfl] at H
  replace H := bS H
  obtain ⟨t103, A40, H⟩ := H
  try dsimp only at H
  have A4 := aM A40
  clear A40
  replace H := bS H
  obtain ⟨t104, A50, H⟩ := H
  try dsimp only at H
  have A5 := aM A50
  clear A50
  by_cases c6 : t103.size + t104.size ≤ 9223372036854775807
  ·rw [if_pos c6] at H
   have c6b0 := eq_true c6
   have c6b1 : decide (t103.size + t104.size ≤ 9223372036854775807) = true := decide_eq_true c6
   try have c6b2 : (9223372036854775807 < t103.size + t104.size) = False := eq_false (Nat.not_lt.2 c6)
   obtain rfl := sI H
   go_enter Tryz.func118, Tryz.ntmps118
   try go_wp2_with (first | ((with_reducible refine gD 1 rfl ?_); refine bX 1 #[.int .i64 a0_0, .int .i64 a0_1, .int .i64 a0_2] 64 ?_; intro gb101 hg w7 hbox hb; replace HB := bK w hbox hg hb; obtain ⟨BK101, GW101, HB⟩ := HB; have GE101 := GW101; clear hb hbox hg; obtain ⟨hcz8_0, hcz8_1, hcz8_2, hfz8_0, hfz8_1, hfz8_2⟩ := bc3 BK101.out) | ((with_reducible refine gC 65 rfl ?_); refine gL 4 Tryz.func65 #[.agg #[.int .i64 a0_0, .int .i64 a0_1, .int .i64 a0_2]] ?_; (with_reducible refine (Nbz.calls a0_0 a0_1 a0_2 true _ A2.out).mono ?_); rintro e w9 ⟨rfl, hb⟩; refine ⟨_, rfl, ?_⟩; replace BK101 := aM (Nad (g := gb101) (o := .cells #[.int .i64 a0_0, .int .i64 a0_1, .int .i64 a0_2] 64 (0, 0)) (bd BK101.out) hb); replace HB := aM (Nac bE hb); (try clear hb)))
   have n0_ := aM (Nag BK101.out)
   have n1_ := aM (Nbp HB.out)
   clear BK101
   clear HB
   have BK101 := n0_
   have HB := n1_
   clear n0_ n1_
   refine sP (n := 9) (S := fun w' => w'.cell? ⟨gb101, 0, none⟩ = some (.int .i64 a0_0) ∧ w'.cell? ⟨gb101, 1, none⟩ = some (.int .i64 a0_1) ∧ w'.cell? ⟨gb101, 2, none⟩ = some (.int .i64 a0_2)) (ds := []) ⟨(Naa BK101.out 0).trans rfl, (Naa BK101.out 1).trans rfl, (Naa BK101.out 2).trans rfl⟩ (fun hHeld => ?_); refine with_tabW Na5.tab3 Na5.bits3 (fun HT_ HW_ => ?_)
   generalize w9.drew = w10 at BK101 HB hHeld ⊢
   refine pP 0 6 ?_ (hc := Nc8 HT_.out (by kernel_rfl))
   refine pP 3 9 ?_ (hc := Nc8 HT_.out (by kernel_rfl))
   refine tP 1 7 hHeld ?_ (hc := take_ofW HT_.out HW_.out (by kernel_rfl))
   refine tP 4 10 hHeld ?_ (hc := take_ofW HT_.out HW_.out (by kernel_rfl))
   refine pP 5 11 ?_ (hc := Nc8 HT_.out (by kernel_rfl))
   refine oP 2 (some 8) (fun K hK => ?_) (hc := one_of HT_.out (by kernel_rfl))
   refine gP 149 Tryz.func149 #[.int .i64 a0_2] ?_
   with_reducible refine (Neq.calls a0_2 t103 _ A4.out).mono ?_
   rintro e w' ⟨rfl, ⟨nd, rfl⟩⟩
   refine ⟨_, rfl, ?_⟩
   refine hK.out _ _ ⟨(Naa BK101.out 0).trans rfl, (Naa BK101.out 1).trans rfl, (Naa BK101.out 2).trans rfl⟩ (fun hHeld => ?_)
   clear hK K
   refine nP 8 ?_
   refine oP 6 (some 12) (fun K hK => ?_) (hc := one_of HT_.out (by kernel_rfl))
   refine gP 150 Tryz.func150 #[.int .i64 (wrap64 (a0_1 + 1))] ?_
   with_reducible refine (Nau.calls (wrap64 (a0_1 + 1)) t104 _ ?side1 A5.out).mono ?_
   (case side1 => exact GL.below hG bE)
   rintro e w11 ⟨rfl, hb⟩
   refine ⟨_, rfl, ?_⟩
   have n0_ := aM (Nad (g := gb101) (o := .cells #[.int .i64 a0_0, .int .i64 a0_1, .int .i64 a0_2] 64 (0, 0)) (bd BK101.out) hb)
   have n1_ := aM (Nac bE hb)
   clear BK101
   clear HB
   have BK101 := n0_
   have HB := n1_
   clear n0_ n1_
   (try clear hb)
   refine hK.out _ _ ⟨(Naa BK101.out 0).trans rfl, (Naa BK101.out 1).trans rfl, (Naa BK101.out 2).trans rfl⟩ (fun hHeld => ?_)
   clear hK K
   refine nP 12 ?_
   refine pP 7 13 ?_ (hc := Nc8 HT_.out (by kernel_rfl))
   refine pP 8 2 ?_ (hc := Nc8 HT_.out (by kernel_rfl))
   refine done_ (done_of HT_.out (by kernel_rfl)) ?_
   try go_wp2
   go_ret
   exact ⟨eR, bE⟩
  ·rw [if_neg c6] at H
   exact absurd H (by simp)
 ·replace c3 := Bool.eq_false_iff.mpr c3
  subst c3
  rw [if_neg fT] at H
  obtain rfl := sI H
  go_enter Tryz.func118, Tryz.ntmps118
  go_wp2_with (first | ((with_reducible refine gD 1 rfl ?_); refine bX 1 #[.int .i64 a0_0, .int .i64 a0_1, .int .i64 a0_2] 64 ?_; intro gb101 hg w12 hbox hb; replace HB := bK w hbox hg hb; obtain ⟨BK101, GW101, HB⟩ := HB; have GE101 := GW101; clear hb hbox hg; obtain ⟨hcz13_0, hcz13_1, hcz13_2, hfz13_0, hfz13_1, hfz13_2⟩ := bc3 BK101.out) | ((with_reducible refine gC 65 rfl ?_); refine gL 4 Tryz.func65 #[.agg #[.int .i64 a0_0, .int .i64 a0_1, .int .i64 a0_2]] ?_; (with_reducible refine (Nbz.calls a0_0 a0_1 a0_2 false _ A2.out).mono ?_); rintro e w14 ⟨rfl, hb⟩; refine ⟨_, rfl, ?_⟩; replace BK101 := aM (Nad (g := gb101) (o := .cells #[.int .i64 a0_0, .int .i64 a0_1, .int .i64 a0_2] 64 (0, 0)) (bd BK101.out) hb); replace HB := aM (Nac bE hb); (try clear hb)))
  go_ret
  exact ⟨eR, bE⟩
theorem owns_below {w w' : World} {B : Nat} {v : Value} {n : Nat} {xs : List Value} (h : w.ownsRow B 5 1 v n xs) (hb : Below w.heap.size w w') : w'.ownsRow B 5 1 v n xs := by
 refine ⟨h.1, ?_⟩
 rcases h.2 with hn | ⟨q, cap, cur, e, hB, hg, rest⟩
 ·exact .inl hn
 ·exact .inr ⟨q, cap, cur, e, hB, Nad hg hb, rest⟩
theorem IsPr.below {B g : Nat} {w w' : World} {bs : List UInt8} {lv : Value} {a : Int} (h : IsPr B w g bs lv a) (hb : Below w.heap.size w w') : IsPr B w' g bs lv a := by
 obtain ⟨hB, p, v, hp, hh, hown, hne⟩ := h
 exact ⟨hB, p, v, hp, Nad hh hb, owns_below hown hb, hne⟩
theorem Wrote.step {B g : Nat} {w w1 w2 : World} {bs : List UInt8} {lv : Value} {a : Int} (h : Wrote B w g bs lv a w1) (hBw : B ≤ w.heap.size) (hb : Below w1.heap.size w1 w2) : Wrote B w g bs lv a w2 :=
 ⟨h.pr.below hb, h.bel.trans (hb.mono (by have := h.bel.size; omega)), h.far.trans (Far.below hb)⟩
def cellW (x : S48) (nm : List UInt8) (k : Nat) : List UInt8 :=
 (if x.f0.size = 0 then [] else x.f0.data.toList ++ [33]) ++ ((if x.f4 then [36] else []) ++ nm.take k) ++ ((if x.f3 then [36] else []) ++ nm.drop k)
theorem dsz (b : ByteArray) : b.data.toList.length = b.size := Array.length_toList
theorem sz33 : (⟨#[33]⟩ : ByteArray).size = 1 := rfl
theorem Ndk (b : ByteArray) (k : Nat) : (b.extract 0 (k : Int).toNat).data.toList = b.data.toList.take k := by simp [ByteArray.data_extract]
theorem Ndn (b : ByteArray) (k : Nat) : (b.extract (k : Int).toNat b.size).data.toList = b.data.toList.drop k := by
 have : b.size = b.data.toList.length := (dsz b).symm
 simp only [ByteArray.data_extract, Array.toList_extract, Int.toNat_natCast, List.extract_eq_take_drop]
 exact List.take_of_length_le (by rw [List.length_drop, dsz]; exact Nat.le_refl _)
theorem Ncm {B g : Nat} {w : World} {bs : List UInt8} {lv : Value} {a : Int} (h : IsPr B w g bs lv a) (c : UInt8) {n : Int} (hn : (c.toNat : Int) = n) (hlen : bs.length + 1 ≤ 140737488355328) (hBw : B ≤ w.heap.size) :
 Calls Tryz.prog 58 #[.pointer (some ⟨g, 0, none⟩), .int .u8 n] w fun e w' => e = .returned .nilIface ∧ Wrote B w g (bs ++ [c]) lv a w' := hn ▸ write_byte h c hlen hBw
theorem abc9 : ∀ (j : Nat) b, (⟨#[49, 50, 51, 52, 53, 54, 55, 56, 57]⟩ : ByteArray).data.toList[j]? = some b → b.toNat < 128 := fun j b h => by
 have hm := List.mem_of_getElem? h
 exact (show ∀ b ∈ (⟨#[49, 50, 51, 52, 53, 54, 55, 56, 57]⟩ : ByteArray).data.toList, b.toNat < 128 by decide) b hm
theorem index9 {nm : ByteArray} {k : Nat} {w : World} (hns : nm.size ≤ 1000) (hna : ∀ (j : Nat) b, nm.data.toList[j]? = some b → b.toNat < 128) (hk : Lib.indexAny nm.data.toList [49, 50, 51, 52, 53, 54, 55, 56, 57] = (k : Int)) :
 Calls Tryz.prog 119 #[.string nm, .string ⟨#[49, 50, 51, 52, 53, 54, 55, 56, 57]⟩] w fun e w' => e = .returned (.int .i64 k) ∧ Below w.heap.size w w' := by
 refine (Tryz.strings_IndexAny_laid nm ⟨#[49, 50, 51, 52, 53, 54, 55, 56, 57]⟩ w (by omega) (by decide) hna abc9).mono ?_
 rintro e w' ⟨rfl, hb⟩
 exact ⟨by rw [← hk], hb⟩
theorem Wrote.drewn {B g : Nat} {w w1 : World} {bs : List UInt8} {lv : Value} {a : Int} (h : Wrote B w g bs lv a w1) : Wrote B w g bs lv a w1.drew := ⟨h.pr, h.bel.drew, h.far.drew⟩
theorem IsPr.drew {B g : Nat} {w : World} {bs : List UInt8} {lv : Value} {a : Int} (h : IsPr B w g bs lv a) : IsPr B w.drew g bs lv a := h
theorem cell_any {w0 : World} {g : Nat} {w : World} {bs : List UInt8} {lv : Value} {a : Int} (h : IsPr w0.heap.size w g bs lv a) (hB : Below w0.heap.size w0 w) (hG : GL w0) (x : S48) {nm : ByteArray} {k : Nat} (hn : Na5.f 0 x.f1 x.f2 = some nm) (hk : Lib.indexAny nm.data.toList [49, 50, 51, 52, 53, 54, 55, 56, 57] = (k : Int)) (hkn : k ≤ nm.size) (hns : nm.size ≤ 1000) (hna : ∀ (j : Nat) b, nm.data.toList[j]? = some b → b.toNat < 128) (hs : x.f0.size ≤ 1000) (hlen : bs.length ≤ 1000000000) :
 Calls Tryz.prog 76 #[.pointer (some ⟨g, 0, none⟩), .agg #[.string x.f0, .int .i64 x.f1, .int .i64 x.f2, .bool x.f3, .bool x.f4]] w fun e w' => e = .returned (.tuple #[]) ∧ Wrote w0.heap.size w g (bs ++ cellW x nm.data.toList k) lv a w' := by
 obtain ⟨s, r, c, fr, fc⟩ := x
 have hu48 := Tryz.underlying48
 have hu64 := Tryz.underlying64
 have HP := lh (show Wrote w0.heap.size w g bs lv a w from ⟨h, Below.refl _ _, Far.refl _ _⟩)
 have HLT := lh h.lt
 have HW := lh hB
 have HB := lh hB.size
 have HN := lh (show Na5.f 0 r c = some nm from hn)
 have HK := lh hk
 have HKN := lh hkn
 have HNS := lh hns
 have HNA := lh hna
 have HS := lh (show s.size ≤ 1000 from hs)
 have HL := lh hlen
 have HG := lh hG
 clear h hB hn hk hkn hns hna hs hlen hG
 go_enter Tryz.func76, Tryz.ntmps76
 go_upto_region 1 with ((with_reducible refine gD 3 rfl ?_); refine bX 3 #[.string s, .int .i64 r, .int .i64 c, .bool fr, .bool fc] 48 ?_; intro g3 hg_ w1 hb_ hl_; have NE := lh (show g3 ≠ g by have := HLT.out; omega); replace HP := lh (HP.out.step HB.out hl_); have J := lh hb_; clear hb_ hl_ hg_)
 by_cases hz : s.size = 0
 ·have bz : s.toList.isEmpty = true := List.isEmpty_iff.mpr ((Ndq s).mpr hz)
  have e0 : w1.cell? ⟨g3, 0, none⟩ = some (.string s) := (Naa J.out 0).trans rfl
  have e1 : w1.cell? ⟨g3, 1, none⟩ = some (.int .i64 r) := (Naa J.out 1).trans rfl
  have e2 : w1.cell? ⟨g3, 2, none⟩ = some (.int .i64 c) := (Naa J.out 2).trans rfl
  have e3 : w1.cell? ⟨g3, 3, none⟩ = some (.bool fr) := (Naa J.out 3).trans rfl
  have e4 : w1.cell? ⟨g3, 4, none⟩ = some (.bool fc) := (Naa J.out 4).trans rfl
  go_upto_region 5 with (first
   | (go_at_call 118; (with_reducible refine (Na5.calls 0 r c nm _ (HG.out.below (HW.out.trans HP.out.bel)) HN.out).mono ?_); rintro en w2 ⟨rfl, hb⟩; replace HP := lh (HP.out.step HB.out hb); replace J := lh (Nad J.out hb); clear hb)
   | (go_at_call 119; (with_reducible refine (index9 HNS.out HNA.out HK.out).mono ?_); rintro en w3 ⟨rfl, hb⟩; replace HP := lh (HP.out.step HB.out hb); replace J := lh (Nad J.out hb); clear hb))
  clear e0 e1 e2 e3 e4
  have e0 : w3.cell? ⟨g3, 0, none⟩ = some (.string s) := (Naa J.out 0).trans rfl
  have e1 : w3.cell? ⟨g3, 1, none⟩ = some (.int .i64 r) := (Naa J.out 1).trans rfl
  have e2 : w3.cell? ⟨g3, 2, none⟩ = some (.int .i64 c) := (Naa J.out 2).trans rfl
  have e3 : w3.cell? ⟨g3, 3, none⟩ = some (.bool fr) := (Naa J.out 3).trans rfl
  have e4 : w3.cell? ⟨g3, 4, none⟩ = some (.bool fc) := (Naa J.out 4).trans rfl
  have s1 : (0 : Int) ≤ (k : Int) := Int.natCast_nonneg k
  have s2 : (k : Int) ≤ (nm.size : Int) := by have := HKN.out; omega
  cases fc with
  | false =>
   go_upto_region 7 with (fail)
   have HLEN := lh (show (bs).length + (nm.extract 0 (k : Int).toNat).size ≤ 140737488355328 from by have h1 := HL.out; have h2 := HS.out; have h3 := HNS.out; have h4 := HKN.out; (try simp only [List.length_append, List.length_cons, List.length_nil, dsz, ByteArray.size_append, ByteArray.size_extract, sz33]); omega)
   have HSZ := lh (show w0.heap.size ≤ w3.drew.heap.size from Nat.le_trans HB.out HP.out.bel.size)
   refine sP (n := 7) (S := fun w' => True) (ds := []) trivial (fun hHeld => ?_)
   refine pP 0 30 ?_
   refine pP 1 31 ?_
   refine pP 2 32 ?_
   refine pP 3 33 ?_
   refine pP 4 34 ?_
   refine pP 5 35 ?_
   refine oP 6 (some 36) fun K hK => ?_
   refine gP 59 Tryz.func59 #[.pointer (some ⟨g, 0, none⟩), .string (nm.extract 0 (k : Int).toNat)] ?_
   with_reducible refine (Na4 HP.out.pr.drew (nm.extract 0 (k : Int).toNat) HLEN.out HSZ.out).mono ?_
   rintro en w5 ⟨rfl, hw⟩
   refine ⟨_, rfl, ?_⟩
   replace HP := lh (HP.out.drewn.trans hw)
   replace J := lh (hw.far _ _ _ _ NE.out (by decide) (Nag J.out))
   clear hw HLEN HSZ
   refine hK.out _ _ (trivial) (fun hHeld => ?_)
   clear hK K
   refine nP 36 ?_
   refine done_ (by kernel_rfl) ?_
   clear e0 e1 e2 e3 e4
   have e0 : w5.cell? ⟨g3, 0, none⟩ = some (.string s) := (Naa J.out 0).trans rfl
   have e1 : w5.cell? ⟨g3, 1, none⟩ = some (.int .i64 r) := (Naa J.out 1).trans rfl
   have e2 : w5.cell? ⟨g3, 2, none⟩ = some (.int .i64 c) := (Naa J.out 2).trans rfl
   have e3 : w5.cell? ⟨g3, 3, none⟩ = some (.bool fr) := (Naa J.out 3).trans rfl
   cases fr with
   | false =>
    go_upto_region 10 with (fail)
    have HLEN := lh (show (bs ++ (nm.extract 0 (k : Int).toNat).data.toList).length + (nm.extract (k : Int).toNat nm.size).size ≤ 140737488355328 from by have h1 := HL.out; have h2 := HS.out; have h3 := HNS.out; have h4 := HKN.out; (try simp only [List.length_append, List.length_cons, List.length_nil, dsz, ByteArray.size_append, ByteArray.size_extract, sz33]); omega)
    have HSZ := lh (show w0.heap.size ≤ w5.drew.heap.size from Nat.le_trans HB.out HP.out.bel.size)
    refine sP (n := 7) (S := fun w' => True) (ds := []) trivial (fun hHeld => ?_)
    refine pP 0 43 ?_
    refine pP 1 44 ?_
    refine pP 2 45 ?_
    refine pP 3 46 ?_
    refine pP 4 47 ?_
    refine pP 5 48 ?_
    refine oP 6 (some 49) fun K hK => ?_
    refine gP 59 Tryz.func59 #[.pointer (some ⟨g, 0, none⟩), .string (nm.extract (k : Int).toNat nm.size)] ?_
    with_reducible refine (Na4 HP.out.pr.drew (nm.extract (k : Int).toNat nm.size) HLEN.out HSZ.out).mono ?_
    rintro en w7 ⟨rfl, hw⟩
    refine ⟨_, rfl, ?_⟩
    replace HP := lh (HP.out.drewn.trans hw)
    replace J := lh (hw.far _ _ _ _ NE.out (by decide) (Nag J.out))
    clear hw HLEN HSZ
    refine hK.out _ _ (trivial) (fun hHeld => ?_)
    clear hK K
    refine nP 49 ?_
    refine done_ (by kernel_rfl) ?_
    go_wp2
    go_end0
    refine ⟨rfl, ?_⟩
    have hp := HP.out
    have hb_ : bs ++ (nm.extract 0 (k : Int).toNat).data.toList ++ (nm.extract (k : Int).toNat nm.size).data.toList = bs ++ cellW ⟨s, r, c, false, false⟩ nm.data.toList k := by simp only [Ndk, Ndn]; simp [cellW, hz, List.append_assoc]
    rw [hb_] at hp
    exact hp
   | true =>
    go_upto_region 10 with (go_at_call 58; (with_reducible refine (Ncm HP.out.pr 36 (n := 36) rfl (show (bs ++ (nm.extract 0 (k : Int).toNat).data.toList).length + 1 ≤ 140737488355328 from by have h1 := HL.out; have h2 := HS.out; have h3 := HNS.out; have h4 := HKN.out; (try simp only [List.length_append, List.length_cons, List.length_nil, dsz, ByteArray.size_append, ByteArray.size_extract, sz33]); omega) (Nat.le_trans HB.out HP.out.bel.size)).mono ?_); rintro en w6 ⟨rfl, hw⟩; replace HP := lh (HP.out.trans hw); replace J := lh (hw.far _ _ _ _ NE.out (by decide) J.out); clear hw)
    have HLEN := lh (show (bs ++ (nm.extract 0 (k : Int).toNat).data.toList ++ [36]).length + (nm.extract (k : Int).toNat nm.size).size ≤ 140737488355328 from by have h1 := HL.out; have h2 := HS.out; have h3 := HNS.out; have h4 := HKN.out; (try simp only [List.length_append, List.length_cons, List.length_nil, dsz, ByteArray.size_append, ByteArray.size_extract, sz33]); omega)
    have HSZ := lh (show w0.heap.size ≤ w6.drew.heap.size from Nat.le_trans HB.out HP.out.bel.size)
    refine sP (n := 7) (S := fun w' => True) (ds := []) trivial (fun hHeld => ?_)
    refine pP 0 43 ?_
    refine pP 1 44 ?_
    refine pP 2 45 ?_
    refine pP 3 46 ?_
    refine pP 4 47 ?_
    refine pP 5 48 ?_
    refine oP 6 (some 49) fun K hK => ?_
    refine gP 59 Tryz.func59 #[.pointer (some ⟨g, 0, none⟩), .string (nm.extract (k : Int).toNat nm.size)] ?_
    with_reducible refine (Na4 HP.out.pr.drew (nm.extract (k : Int).toNat nm.size) HLEN.out HSZ.out).mono ?_
    rintro en w7 ⟨rfl, hw⟩
    refine ⟨_, rfl, ?_⟩
    replace HP := lh (HP.out.drewn.trans hw)
    replace J := lh (hw.far _ _ _ _ NE.out (by decide) (Nag J.out))
    clear hw HLEN HSZ
    refine hK.out _ _ (trivial) (fun hHeld => ?_)
    clear hK K
    refine nP 49 ?_
    refine done_ (by kernel_rfl) ?_
    go_wp2
    go_end0
    refine ⟨rfl, ?_⟩
    have hp := HP.out
    have hb_ : bs ++ (nm.extract 0 (k : Int).toNat).data.toList ++ [36] ++ (nm.extract (k : Int).toNat nm.size).data.toList = bs ++ cellW ⟨s, r, c, true, false⟩ nm.data.toList k := by simp only [Ndk, Ndn]; simp [cellW, hz, List.append_assoc]
    rw [hb_] at hp
    exact hp
  | true =>
   go_upto_region 7 with (go_at_call 58; (with_reducible refine (Ncm HP.out.pr 36 (n := 36) rfl (show (bs).length + 1 ≤ 140737488355328 from by have h1 := HL.out; have h2 := HS.out; have h3 := HNS.out; have h4 := HKN.out; (try simp only [List.length_append, List.length_cons, List.length_nil, dsz, ByteArray.size_append, ByteArray.size_extract, sz33]); omega) (Nat.le_trans HB.out HP.out.bel.size)).mono ?_); rintro en w4 ⟨rfl, hw⟩; replace HP := lh (HP.out.trans hw); replace J := lh (hw.far _ _ _ _ NE.out (by decide) J.out); clear hw)
   have HLEN := lh (show (bs ++ [36]).length + (nm.extract 0 (k : Int).toNat).size ≤ 140737488355328 from by have h1 := HL.out; have h2 := HS.out; have h3 := HNS.out; have h4 := HKN.out; (try simp only [List.length_append, List.length_cons, List.length_nil, dsz, ByteArray.size_append, ByteArray.size_extract, sz33]); omega)
   have HSZ := lh (show w0.heap.size ≤ w4.drew.heap.size from Nat.le_trans HB.out HP.out.bel.size)
   refine sP (n := 7) (S := fun w' => True) (ds := []) trivial (fun hHeld => ?_)
   refine pP 0 30 ?_
   refine pP 1 31 ?_
   refine pP 2 32 ?_
   refine pP 3 33 ?_
   refine pP 4 34 ?_
   refine pP 5 35 ?_
   refine oP 6 (some 36) fun K hK => ?_
   refine gP 59 Tryz.func59 #[.pointer (some ⟨g, 0, none⟩), .string (nm.extract 0 (k : Int).toNat)] ?_
   with_reducible refine (Na4 HP.out.pr.drew (nm.extract 0 (k : Int).toNat) HLEN.out HSZ.out).mono ?_
   rintro en w5 ⟨rfl, hw⟩
   refine ⟨_, rfl, ?_⟩
   replace HP := lh (HP.out.drewn.trans hw)
   replace J := lh (hw.far _ _ _ _ NE.out (by decide) (Nag J.out))
   clear hw HLEN HSZ
   refine hK.out _ _ (trivial) (fun hHeld => ?_)
   clear hK K
   refine nP 36 ?_
   refine done_ (by kernel_rfl) ?_
   clear e0 e1 e2 e3 e4
   have e0 : w5.cell? ⟨g3, 0, none⟩ = some (.string s) := (Naa J.out 0).trans rfl
   have e1 : w5.cell? ⟨g3, 1, none⟩ = some (.int .i64 r) := (Naa J.out 1).trans rfl
   have e2 : w5.cell? ⟨g3, 2, none⟩ = some (.int .i64 c) := (Naa J.out 2).trans rfl
   have e3 : w5.cell? ⟨g3, 3, none⟩ = some (.bool fr) := (Naa J.out 3).trans rfl
   cases fr with
   | false =>
    go_upto_region 10 with (fail)
    have HLEN := lh (show (bs ++ [36] ++ (nm.extract 0 (k : Int).toNat).data.toList).length + (nm.extract (k : Int).toNat nm.size).size ≤ 140737488355328 from by have h1 := HL.out; have h2 := HS.out; have h3 := HNS.out; have h4 := HKN.out; (try simp only [List.length_append, List.length_cons, List.length_nil, dsz, ByteArray.size_append, ByteArray.size_extract, sz33]); omega)
    have HSZ := lh (show w0.heap.size ≤ w5.drew.heap.size from Nat.le_trans HB.out HP.out.bel.size)
    refine sP (n := 7) (S := fun w' => True) (ds := []) trivial (fun hHeld => ?_)
    refine pP 0 43 ?_
    refine pP 1 44 ?_
    refine pP 2 45 ?_
    refine pP 3 46 ?_
    refine pP 4 47 ?_
    refine pP 5 48 ?_
    refine oP 6 (some 49) fun K hK => ?_
    refine gP 59 Tryz.func59 #[.pointer (some ⟨g, 0, none⟩), .string (nm.extract (k : Int).toNat nm.size)] ?_
    with_reducible refine (Na4 HP.out.pr.drew (nm.extract (k : Int).toNat nm.size) HLEN.out HSZ.out).mono ?_
    rintro en w7 ⟨rfl, hw⟩
    refine ⟨_, rfl, ?_⟩
    replace HP := lh (HP.out.drewn.trans hw)
    replace J := lh (hw.far _ _ _ _ NE.out (by decide) (Nag J.out))
    clear hw HLEN HSZ
    refine hK.out _ _ (trivial) (fun hHeld => ?_)
    clear hK K
    refine nP 49 ?_
    refine done_ (by kernel_rfl) ?_
    go_wp2
    go_end0
    refine ⟨rfl, ?_⟩
    have hp := HP.out
    have hb_ : bs ++ [36] ++ (nm.extract 0 (k : Int).toNat).data.toList ++ (nm.extract (k : Int).toNat nm.size).data.toList = bs ++ cellW ⟨s, r, c, false, true⟩ nm.data.toList k := by simp only [Ndk, Ndn]; simp [cellW, hz, List.append_assoc]
    rw [hb_] at hp
    exact hp
   | true =>
    go_upto_region 10 with (go_at_call 58; (with_reducible refine (Ncm HP.out.pr 36 (n := 36) rfl (show (bs ++ [36] ++ (nm.extract 0 (k : Int).toNat).data.toList).length + 1 ≤ 140737488355328 from by have h1 := HL.out; have h2 := HS.out; have h3 := HNS.out; have h4 := HKN.out; (try simp only [List.length_append, List.length_cons, List.length_nil, dsz, ByteArray.size_append, ByteArray.size_extract, sz33]); omega) (Nat.le_trans HB.out HP.out.bel.size)).mono ?_); rintro en w6 ⟨rfl, hw⟩; replace HP := lh (HP.out.trans hw); replace J := lh (hw.far _ _ _ _ NE.out (by decide) J.out); clear hw)
    have HLEN := lh (show (bs ++ [36] ++ (nm.extract 0 (k : Int).toNat).data.toList ++ [36]).length + (nm.extract (k : Int).toNat nm.size).size ≤ 140737488355328 from by have h1 := HL.out; have h2 := HS.out; have h3 := HNS.out; have h4 := HKN.out; (try simp only [List.length_append, List.length_cons, List.length_nil, dsz, ByteArray.size_append, ByteArray.size_extract, sz33]); omega)
    have HSZ := lh (show w0.heap.size ≤ w6.drew.heap.size from Nat.le_trans HB.out HP.out.bel.size)
    refine sP (n := 7) (S := fun w' => True) (ds := []) trivial (fun hHeld => ?_)
    refine pP 0 43 ?_
    refine pP 1 44 ?_
    refine pP 2 45 ?_
    refine pP 3 46 ?_
    refine pP 4 47 ?_
    refine pP 5 48 ?_
    refine oP 6 (some 49) fun K hK => ?_
    refine gP 59 Tryz.func59 #[.pointer (some ⟨g, 0, none⟩), .string (nm.extract (k : Int).toNat nm.size)] ?_
    with_reducible refine (Na4 HP.out.pr.drew (nm.extract (k : Int).toNat nm.size) HLEN.out HSZ.out).mono ?_
    rintro en w7 ⟨rfl, hw⟩
    refine ⟨_, rfl, ?_⟩
    replace HP := lh (HP.out.drewn.trans hw)
    replace J := lh (hw.far _ _ _ _ NE.out (by decide) (Nag J.out))
    clear hw HLEN HSZ
    refine hK.out _ _ (trivial) (fun hHeld => ?_)
    clear hK K
    refine nP 49 ?_
    refine done_ (by kernel_rfl) ?_
    go_wp2
    go_end0
    refine ⟨rfl, ?_⟩
    have hp := HP.out
    have hb_ : bs ++ [36] ++ (nm.extract 0 (k : Int).toNat).data.toList ++ [36] ++ (nm.extract (k : Int).toNat nm.size).data.toList = bs ++ cellW ⟨s, r, c, true, true⟩ nm.data.toList k := by simp only [Ndk, Ndn]; simp [cellW, hz, List.append_assoc]
    rw [hb_] at hp
    exact hp
 ·have bz : s.toList.isEmpty = false := by cases hh : s.toList.isEmpty with | false => rfl | true => exact absurd ((Ndq s).mp (List.isEmpty_iff.mp hh)) hz
  have e0 : w1.cell? ⟨g3, 0, none⟩ = some (.string s) := (Naa J.out 0).trans rfl
  have e1 : w1.cell? ⟨g3, 1, none⟩ = some (.int .i64 r) := (Naa J.out 1).trans rfl
  have e2 : w1.cell? ⟨g3, 2, none⟩ = some (.int .i64 c) := (Naa J.out 2).trans rfl
  have e3 : w1.cell? ⟨g3, 3, none⟩ = some (.bool fr) := (Naa J.out 3).trans rfl
  have e4 : w1.cell? ⟨g3, 4, none⟩ = some (.bool fc) := (Naa J.out 4).trans rfl
  have c6 : s.size + 1 ≤ 9223372036854775807 := by have := HS.out; omega
  have c6b0 := eq_true c6
  have c6b1 : decide (s.size + 1 ≤ 9223372036854775807) = true := decide_eq_true c6
  have c6b2 : (9223372036854775807 < s.size + 1) = False := eq_false (Nat.not_lt.2 c6)
  go_upto_region 2 with (fail)
  have HLEN := lh (show (bs).length + (s ++ (⟨#[33]⟩ : ByteArray)).size ≤ 140737488355328 from by have h1 := HL.out; have h2 := HS.out; have h3 := HNS.out; have h4 := HKN.out; (try simp only [List.length_append, List.length_cons, List.length_nil, dsz, ByteArray.size_append, ByteArray.size_extract, sz33]); omega)
  have HSZ := lh (show w0.heap.size ≤ w1.drew.heap.size from Nat.le_trans HB.out HP.out.bel.size)
  refine sP (n := 7) (S := fun w' => w'.cell? ⟨g3, 0, none⟩ = some (.string s)) (ds := []) (e0) (fun hHeld => ?_)
  refine pP 0 9 ?_
  refine pP 1 10 ?_
  refine pP 2 11 ?_
  refine pP 3 12 ?_
  refine tP 4 13 hHeld ?_
  refine pP 5 14 ?_
  refine oP 6 (some 15) fun K hK => ?_
  refine gP 59 Tryz.func59 #[.pointer (some ⟨g, 0, none⟩), .string (s ++ (⟨#[33]⟩ : ByteArray))] ?_
  with_reducible refine (Na4 HP.out.pr.drew (s ++ (⟨#[33]⟩ : ByteArray)) HLEN.out HSZ.out).mono ?_
  rintro en w1b ⟨rfl, hw⟩
  refine ⟨_, rfl, ?_⟩
  replace HP := lh (HP.out.drewn.trans hw)
  replace J := lh (hw.far _ _ _ _ NE.out (by decide) (Nag J.out))
  clear hw HLEN HSZ
  refine hK.out _ _ ((Naa J.out 0).trans rfl) (fun hHeld => ?_)
  clear hK K
  refine nP 15 ?_
  refine done_ (by kernel_rfl) ?_
  clear c6 c6b0 c6b1 c6b2 e0 e1 e2 e3 e4
  have e0 : w1b.cell? ⟨g3, 0, none⟩ = some (.string s) := (Naa J.out 0).trans rfl
  have e1 : w1b.cell? ⟨g3, 1, none⟩ = some (.int .i64 r) := (Naa J.out 1).trans rfl
  have e2 : w1b.cell? ⟨g3, 2, none⟩ = some (.int .i64 c) := (Naa J.out 2).trans rfl
  have e3 : w1b.cell? ⟨g3, 3, none⟩ = some (.bool fr) := (Naa J.out 3).trans rfl
  have e4 : w1b.cell? ⟨g3, 4, none⟩ = some (.bool fc) := (Naa J.out 4).trans rfl
  go_upto_region 5 with (first
   | (go_at_call 118; (with_reducible refine (Na5.calls 0 r c nm _ (HG.out.below (HW.out.trans HP.out.bel)) HN.out).mono ?_); rintro en w2 ⟨rfl, hb⟩; replace HP := lh (HP.out.step HB.out hb); replace J := lh (Nad J.out hb); clear hb)
   | (go_at_call 119; (with_reducible refine (index9 HNS.out HNA.out HK.out).mono ?_); rintro en w3 ⟨rfl, hb⟩; replace HP := lh (HP.out.step HB.out hb); replace J := lh (Nad J.out hb); clear hb))
  clear e0 e1 e2 e3 e4
  have e0 : w3.cell? ⟨g3, 0, none⟩ = some (.string s) := (Naa J.out 0).trans rfl
  have e1 : w3.cell? ⟨g3, 1, none⟩ = some (.int .i64 r) := (Naa J.out 1).trans rfl
  have e2 : w3.cell? ⟨g3, 2, none⟩ = some (.int .i64 c) := (Naa J.out 2).trans rfl
  have e3 : w3.cell? ⟨g3, 3, none⟩ = some (.bool fr) := (Naa J.out 3).trans rfl
  have e4 : w3.cell? ⟨g3, 4, none⟩ = some (.bool fc) := (Naa J.out 4).trans rfl
  have s1 : (0 : Int) ≤ (k : Int) := Int.natCast_nonneg k
  have s2 : (k : Int) ≤ (nm.size : Int) := by have := HKN.out; omega
  cases fc with
  | false =>
   go_upto_region 7 with (fail)
   have HLEN := lh (show (bs ++ (s ++ (⟨#[33]⟩ : ByteArray)).data.toList).length + (nm.extract 0 (k : Int).toNat).size ≤ 140737488355328 from by have h1 := HL.out; have h2 := HS.out; have h3 := HNS.out; have h4 := HKN.out; (try simp only [List.length_append, List.length_cons, List.length_nil, dsz, ByteArray.size_append, ByteArray.size_extract, sz33]); omega)
   have HSZ := lh (show w0.heap.size ≤ w3.drew.heap.size from Nat.le_trans HB.out HP.out.bel.size)
   refine sP (n := 7) (S := fun w' => True) (ds := []) trivial (fun hHeld => ?_)
   refine pP 0 30 ?_
   refine pP 1 31 ?_
   refine pP 2 32 ?_
   refine pP 3 33 ?_
   refine pP 4 34 ?_
   refine pP 5 35 ?_
   refine oP 6 (some 36) fun K hK => ?_
   refine gP 59 Tryz.func59 #[.pointer (some ⟨g, 0, none⟩), .string (nm.extract 0 (k : Int).toNat)] ?_
   with_reducible refine (Na4 HP.out.pr.drew (nm.extract 0 (k : Int).toNat) HLEN.out HSZ.out).mono ?_
   rintro en w5 ⟨rfl, hw⟩
   refine ⟨_, rfl, ?_⟩
   replace HP := lh (HP.out.drewn.trans hw)
   replace J := lh (hw.far _ _ _ _ NE.out (by decide) (Nag J.out))
   clear hw HLEN HSZ
   refine hK.out _ _ (trivial) (fun hHeld => ?_)
   clear hK K
   refine nP 36 ?_
   refine done_ (by kernel_rfl) ?_
   clear e0 e1 e2 e3 e4
   have e0 : w5.cell? ⟨g3, 0, none⟩ = some (.string s) := (Naa J.out 0).trans rfl
   have e1 : w5.cell? ⟨g3, 1, none⟩ = some (.int .i64 r) := (Naa J.out 1).trans rfl
   have e2 : w5.cell? ⟨g3, 2, none⟩ = some (.int .i64 c) := (Naa J.out 2).trans rfl
   have e3 : w5.cell? ⟨g3, 3, none⟩ = some (.bool fr) := (Naa J.out 3).trans rfl
   cases fr with
   | false =>
    go_upto_region 10 with (fail)
    have HLEN := lh (show (bs ++ (s ++ (⟨#[33]⟩ : ByteArray)).data.toList ++ (nm.extract 0 (k : Int).toNat).data.toList).length + (nm.extract (k : Int).toNat nm.size).size ≤ 140737488355328 from by have h1 := HL.out; have h2 := HS.out; have h3 := HNS.out; have h4 := HKN.out; (try simp only [List.length_append, List.length_cons, List.length_nil, dsz, ByteArray.size_append, ByteArray.size_extract, sz33]); omega)
    have HSZ := lh (show w0.heap.size ≤ w5.drew.heap.size from Nat.le_trans HB.out HP.out.bel.size)
    refine sP (n := 7) (S := fun w' => True) (ds := []) trivial (fun hHeld => ?_)
    refine pP 0 43 ?_
    refine pP 1 44 ?_
    refine pP 2 45 ?_
    refine pP 3 46 ?_
    refine pP 4 47 ?_
    refine pP 5 48 ?_
    refine oP 6 (some 49) fun K hK => ?_
    refine gP 59 Tryz.func59 #[.pointer (some ⟨g, 0, none⟩), .string (nm.extract (k : Int).toNat nm.size)] ?_
    with_reducible refine (Na4 HP.out.pr.drew (nm.extract (k : Int).toNat nm.size) HLEN.out HSZ.out).mono ?_
    rintro en w7 ⟨rfl, hw⟩
    refine ⟨_, rfl, ?_⟩
    replace HP := lh (HP.out.drewn.trans hw)
    replace J := lh (hw.far _ _ _ _ NE.out (by decide) (Nag J.out))
    clear hw HLEN HSZ
    refine hK.out _ _ (trivial) (fun hHeld => ?_)
    clear hK K
    refine nP 49 ?_
    refine done_ (by kernel_rfl) ?_
    go_wp2
    go_end0
    refine ⟨rfl, ?_⟩
    have hp := HP.out
    have hb_ : bs ++ (s ++ (⟨#[33]⟩ : ByteArray)).data.toList ++ (nm.extract 0 (k : Int).toNat).data.toList ++ (nm.extract (k : Int).toNat nm.size).data.toList = bs ++ cellW ⟨s, r, c, false, false⟩ nm.data.toList k := by simp only [Ndk, Ndn]; simp [cellW, hz, List.append_assoc]
    rw [hb_] at hp
    exact hp
   | true =>
    go_upto_region 10 with (go_at_call 58; (with_reducible refine (Ncm HP.out.pr 36 (n := 36) rfl (show (bs ++ (s ++ (⟨#[33]⟩ : ByteArray)).data.toList ++ (nm.extract 0 (k : Int).toNat).data.toList).length + 1 ≤ 140737488355328 from by have h1 := HL.out; have h2 := HS.out; have h3 := HNS.out; have h4 := HKN.out; (try simp only [List.length_append, List.length_cons, List.length_nil, dsz, ByteArray.size_append, ByteArray.size_extract, sz33]); omega) (Nat.le_trans HB.out HP.out.bel.size)).mono ?_); rintro en w6 ⟨rfl, hw⟩; replace HP := lh (HP.out.trans hw); replace J := lh (hw.far _ _ _ _ NE.out (by decide) J.out); clear hw)
    have HLEN := lh (show (bs ++ (s ++ (⟨#[33]⟩ : ByteArray)).data.toList ++ (nm.extract 0 (k : Int).toNat).data.toList ++ [36]).length + (nm.extract (k : Int).toNat nm.size).size ≤ 140737488355328 from by have h1 := HL.out; have h2 := HS.out; have h3 := HNS.out; have h4 := HKN.out; (try simp only [List.length_append, List.length_cons, List.length_nil, dsz, ByteArray.size_append, ByteArray.size_extract, sz33]); omega)
    have HSZ := lh (show w0.heap.size ≤ w6.drew.heap.size from Nat.le_trans HB.out HP.out.bel.size)
    refine sP (n := 7) (S := fun w' => True) (ds := []) trivial (fun hHeld => ?_)
    refine pP 0 43 ?_
    refine pP 1 44 ?_
    refine pP 2 45 ?_
    refine pP 3 46 ?_
    refine pP 4 47 ?_
    refine pP 5 48 ?_
    refine oP 6 (some 49) fun K hK => ?_
    refine gP 59 Tryz.func59 #[.pointer (some ⟨g, 0, none⟩), .string (nm.extract (k : Int).toNat nm.size)] ?_
    with_reducible refine (Na4 HP.out.pr.drew (nm.extract (k : Int).toNat nm.size) HLEN.out HSZ.out).mono ?_
    rintro en w7 ⟨rfl, hw⟩
    refine ⟨_, rfl, ?_⟩
    replace HP := lh (HP.out.drewn.trans hw)
    replace J := lh (hw.far _ _ _ _ NE.out (by decide) (Nag J.out))
    clear hw HLEN HSZ
    refine hK.out _ _ (trivial) (fun hHeld => ?_)
    clear hK K
    refine nP 49 ?_
    refine done_ (by kernel_rfl) ?_
    go_wp2
    go_end0
    refine ⟨rfl, ?_⟩
    have hp := HP.out
    have hb_ : bs ++ (s ++ (⟨#[33]⟩ : ByteArray)).data.toList ++ (nm.extract 0 (k : Int).toNat).data.toList ++ [36] ++ (nm.extract (k : Int).toNat nm.size).data.toList = bs ++ cellW ⟨s, r, c, true, false⟩ nm.data.toList k := by simp only [Ndk, Ndn]; simp [cellW, hz, List.append_assoc]
    rw [hb_] at hp
    exact hp
  | true =>
   go_upto_region 7 with (go_at_call 58; (with_reducible refine (Ncm HP.out.pr 36 (n := 36) rfl (show (bs ++ (s ++ (⟨#[33]⟩ : ByteArray)).data.toList).length + 1 ≤ 140737488355328 from by have h1 := HL.out; have h2 := HS.out; have h3 := HNS.out; have h4 := HKN.out; (try simp only [List.length_append, List.length_cons, List.length_nil, dsz, ByteArray.size_append, ByteArray.size_extract, sz33]); omega) (Nat.le_trans HB.out HP.out.bel.size)).mono ?_); rintro en w4 ⟨rfl, hw⟩; replace HP := lh (HP.out.trans hw); replace J := lh (hw.far _ _ _ _ NE.out (by decide) J.out); clear hw)
   have HLEN := lh (show (bs ++ (s ++ (⟨#[33]⟩ : ByteArray)).data.toList ++ [36]).length + (nm.extract 0 (k : Int).toNat).size ≤ 140737488355328 from by have h1 := HL.out; have h2 := HS.out; have h3 := HNS.out; have h4 := HKN.out; (try simp only [List.length_append, List.length_cons, List.length_nil, dsz, ByteArray.size_append, ByteArray.size_extract, sz33]); omega)
   have HSZ := lh (show w0.heap.size ≤ w4.drew.heap.size from Nat.le_trans HB.out HP.out.bel.size)
   refine sP (n := 7) (S := fun w' => True) (ds := []) trivial (fun hHeld => ?_)
   refine pP 0 30 ?_
   refine pP 1 31 ?_
   refine pP 2 32 ?_
   refine pP 3 33 ?_
   refine pP 4 34 ?_
   refine pP 5 35 ?_
   refine oP 6 (some 36) fun K hK => ?_
   refine gP 59 Tryz.func59 #[.pointer (some ⟨g, 0, none⟩), .string (nm.extract 0 (k : Int).toNat)] ?_
   with_reducible refine (Na4 HP.out.pr.drew (nm.extract 0 (k : Int).toNat) HLEN.out HSZ.out).mono ?_
   rintro en w5 ⟨rfl, hw⟩
   refine ⟨_, rfl, ?_⟩
   replace HP := lh (HP.out.drewn.trans hw)
   replace J := lh (hw.far _ _ _ _ NE.out (by decide) (Nag J.out))
   clear hw HLEN HSZ
   refine hK.out _ _ (trivial) (fun hHeld => ?_)
   clear hK K
   refine nP 36 ?_
   refine done_ (by kernel_rfl) ?_
   clear e0 e1 e2 e3 e4
   have e0 : w5.cell? ⟨g3, 0, none⟩ = some (.string s) := (Naa J.out 0).trans rfl
   have e1 : w5.cell? ⟨g3, 1, none⟩ = some (.int .i64 r) := (Naa J.out 1).trans rfl
   have e2 : w5.cell? ⟨g3, 2, none⟩ = some (.int .i64 c) := (Naa J.out 2).trans rfl
   have e3 : w5.cell? ⟨g3, 3, none⟩ = some (.bool fr) := (Naa J.out 3).trans rfl
   cases fr with
   | false =>
    go_upto_region 10 with (fail)
    have HLEN := lh (show (bs ++ (s ++ (⟨#[33]⟩ : ByteArray)).data.toList ++ [36] ++ (nm.extract 0 (k : Int).toNat).data.toList).length + (nm.extract (k : Int).toNat nm.size).size ≤ 140737488355328 from by have h1 := HL.out; have h2 := HS.out; have h3 := HNS.out; have h4 := HKN.out; (try simp only [List.length_append, List.length_cons, List.length_nil, dsz, ByteArray.size_append, ByteArray.size_extract, sz33]); omega)
    have HSZ := lh (show w0.heap.size ≤ w5.drew.heap.size from Nat.le_trans HB.out HP.out.bel.size)
    refine sP (n := 7) (S := fun w' => True) (ds := []) trivial (fun hHeld => ?_)
    refine pP 0 43 ?_
    refine pP 1 44 ?_
    refine pP 2 45 ?_
    refine pP 3 46 ?_
    refine pP 4 47 ?_
    refine pP 5 48 ?_
    refine oP 6 (some 49) fun K hK => ?_
    refine gP 59 Tryz.func59 #[.pointer (some ⟨g, 0, none⟩), .string (nm.extract (k : Int).toNat nm.size)] ?_
    with_reducible refine (Na4 HP.out.pr.drew (nm.extract (k : Int).toNat nm.size) HLEN.out HSZ.out).mono ?_
    rintro en w7 ⟨rfl, hw⟩
    refine ⟨_, rfl, ?_⟩
    replace HP := lh (HP.out.drewn.trans hw)
    replace J := lh (hw.far _ _ _ _ NE.out (by decide) (Nag J.out))
    clear hw HLEN HSZ
    refine hK.out _ _ (trivial) (fun hHeld => ?_)
    clear hK K
    refine nP 49 ?_
    refine done_ (by kernel_rfl) ?_
    go_wp2
    go_end0
    refine ⟨rfl, ?_⟩
    have hp := HP.out
    have hb_ : bs ++ (s ++ (⟨#[33]⟩ : ByteArray)).data.toList ++ [36] ++ (nm.extract 0 (k : Int).toNat).data.toList ++ (nm.extract (k : Int).toNat nm.size).data.toList = bs ++ cellW ⟨s, r, c, false, true⟩ nm.data.toList k := by simp only [Ndk, Ndn]; simp [cellW, hz, List.append_assoc]
    rw [hb_] at hp
    exact hp
   | true =>
    go_upto_region 10 with (go_at_call 58; (with_reducible refine (Ncm HP.out.pr 36 (n := 36) rfl (show (bs ++ (s ++ (⟨#[33]⟩ : ByteArray)).data.toList ++ [36] ++ (nm.extract 0 (k : Int).toNat).data.toList).length + 1 ≤ 140737488355328 from by have h1 := HL.out; have h2 := HS.out; have h3 := HNS.out; have h4 := HKN.out; (try simp only [List.length_append, List.length_cons, List.length_nil, dsz, ByteArray.size_append, ByteArray.size_extract, sz33]); omega) (Nat.le_trans HB.out HP.out.bel.size)).mono ?_); rintro en w6 ⟨rfl, hw⟩; replace HP := lh (HP.out.trans hw); replace J := lh (hw.far _ _ _ _ NE.out (by decide) J.out); clear hw)
    have HLEN := lh (show (bs ++ (s ++ (⟨#[33]⟩ : ByteArray)).data.toList ++ [36] ++ (nm.extract 0 (k : Int).toNat).data.toList ++ [36]).length + (nm.extract (k : Int).toNat nm.size).size ≤ 140737488355328 from by have h1 := HL.out; have h2 := HS.out; have h3 := HNS.out; have h4 := HKN.out; (try simp only [List.length_append, List.length_cons, List.length_nil, dsz, ByteArray.size_append, ByteArray.size_extract, sz33]); omega)
    have HSZ := lh (show w0.heap.size ≤ w6.drew.heap.size from Nat.le_trans HB.out HP.out.bel.size)
    refine sP (n := 7) (S := fun w' => True) (ds := []) trivial (fun hHeld => ?_)
    refine pP 0 43 ?_
    refine pP 1 44 ?_
    refine pP 2 45 ?_
    refine pP 3 46 ?_
    refine pP 4 47 ?_
    refine pP 5 48 ?_
    refine oP 6 (some 49) fun K hK => ?_
    refine gP 59 Tryz.func59 #[.pointer (some ⟨g, 0, none⟩), .string (nm.extract (k : Int).toNat nm.size)] ?_
    with_reducible refine (Na4 HP.out.pr.drew (nm.extract (k : Int).toNat nm.size) HLEN.out HSZ.out).mono ?_
    rintro en w7 ⟨rfl, hw⟩
    refine ⟨_, rfl, ?_⟩
    replace HP := lh (HP.out.drewn.trans hw)
    replace J := lh (hw.far _ _ _ _ NE.out (by decide) (Nag J.out))
    clear hw HLEN HSZ
    refine hK.out _ _ (trivial) (fun hHeld => ?_)
    clear hK K
    refine nP 49 ?_
    refine done_ (by kernel_rfl) ?_
    go_wp2
    go_end0
    refine ⟨rfl, ?_⟩
    have hp := HP.out
    have hb_ : bs ++ (s ++ (⟨#[33]⟩ : ByteArray)).data.toList ++ [36] ++ (nm.extract 0 (k : Int).toNat).data.toList ++ [36] ++ (nm.extract (k : Int).toNat nm.size).data.toList = bs ++ cellW ⟨s, r, c, true, true⟩ nm.data.toList k := by simp only [Ndk, Ndn]; simp [cellW, hz, List.append_assoc]
    rw [hb_] at hp
    exact hp
end Go.Proofs.YtejbbceidnaloaaGreatDoor.P
