import Derived.Test.YtejbbceidnaloaaGreatDoorU14
namespace Go.Proofs.YtejbbceidnaloaaGreatDoor.P
open Go.RowKit Go.Proofs.YtejbbceidnaloaaGreatDoorW.PrintWords Go.Proofs.YtejbbceidnaloaaGreatDoorW.PrintLast Go.Proofs.YtejbbceidnaloaaGreatDoorW.PrintMore
set_option linter.unusedVariables false
set_option linter.unusedSimpArgs false
theorem owns_below {w w' : World} {B : Nat} {v : Value} {n : Nat} {xs : List Value} (h : w.ownsRow B 5 1 v n xs) (hb : Below w.heap.size w w') : w'.ownsRow B 5 1 v n xs := by
 refine ⟨h.1, ?_⟩
 rcases h.2 with hn | ⟨q, cap, cur, e, hB, hg, rest⟩
 ·exact .inl hn
 ·exact .inr ⟨q, cap, cur, e, hB, blk_below hg hb, rest⟩
theorem IsPr.below {B g : Nat} {w w' : World} {bs : List UInt8} {lv : Value} {a : Int} (h : IsPr B w g bs lv a) (hb : Below w.heap.size w w') : IsPr B w' g bs lv a := by
 obtain ⟨hB, p, v, hp, hh, hown, hne⟩ := h
 exact ⟨hB, p, v, hp, blk_below hh hb, owns_below hown hb, hne⟩
theorem Wrote.step {B g : Nat} {w w1 w2 : World} {bs : List UInt8} {lv : Value} {a : Int} (h : Wrote B w g bs lv a w1) (hBw : B ≤ w.heap.size) (hb : Below w1.heap.size w1 w2) : Wrote B w g bs lv a w2 :=
 ⟨h.pr.below hb, h.bel.trans (hb.mono (by have := h.bel.size; omega)), h.far.trans (Far.below hb)⟩
def cellW (x : S48) (nm : List UInt8) (k : Nat) : List UInt8 :=
 (if x.f0.size = 0 then [] else x.f0.data.toList ++ [33]) ++ ((if x.f4 then [36] else []) ++ nm.take k) ++ ((if x.f3 then [36] else []) ++ nm.drop k)
theorem dsz (b : ByteArray) : b.data.toList.length = b.size := Array.length_toList
theorem sz33 : (⟨#[33]⟩ : ByteArray).size = 1 := rfl
theorem take_data (b : ByteArray) (k : Nat) : (b.extract 0 (k : Int).toNat).data.toList = b.data.toList.take k := by simp [ByteArray.data_extract]
theorem drop_data (b : ByteArray) (k : Nat) : (b.extract (k : Int).toNat b.size).data.toList = b.data.toList.drop k := by
 have : b.size = b.data.toList.length := (dsz b).symm
 simp only [ByteArray.data_extract, Array.toList_extract, Int.toNat_natCast, List.extract_eq_take_drop]
 exact List.take_of_length_le (by rw [List.length_drop, dsz]; exact Nat.le_refl _)
theorem Nca {B g : Nat} {w : World} {bs : List UInt8} {lv : Value} {a : Int} (h : IsPr B w g bs lv a) (c : UInt8) {n : Int} (hn : (c.toNat : Int) = n) (hlen : bs.length + 1 ≤ 140737488355328) (hBw : B ≤ w.heap.size) :
 Calls Tryz.prog 58 #[.pointer (some ⟨g, 0, none⟩), .int .u8 n] w fun e w' => e = .returned .nilIface ∧ Wrote B w g (bs ++ [c]) lv a w' := hn ▸ write_byte h c hlen hBw
theorem abc9 : ∀ (j : Nat) b, (⟨#[49, 50, 51, 52, 53, 54, 55, 56, 57]⟩ : ByteArray).data.toList[j]? = some b → b.toNat < 128 := fun j b h => by
 have hm := List.mem_of_getElem? h
 exact (show ∀ b ∈ (⟨#[49, 50, 51, 52, 53, 54, 55, 56, 57]⟩ : ByteArray).data.toList, b.toNat < 128 by decide) b hm
theorem index9 {nm : ByteArray} {k : Nat} {w : World} (hns : nm.size ≤ 1000) (hna : ∀ (j : Nat) b, nm.data.toList[j]? = some b → b.toNat < 128) (hk : Lib.indexAny nm.data.toList [49, 50, 51, 52, 53, 54, 55, 56, 57] = (k : Int)) :
 Calls Tryz.prog 119 #[.string nm, .string ⟨#[49, 50, 51, 52, 53, 54, 55, 56, 57]⟩] w fun e w' => e = .returned (.int .i64 k) ∧ Below w.heap.size w w' := by
 refine (Tryz.strings_IndexAny_laid nm ⟨#[49, 50, 51, 52, 53, 54, 55, 56, 57]⟩ w (by omega) (by decide) hna abc9).mono ?_
 rintro e w' ⟨rfl, hb⟩
 exact ⟨by rw [← hk], hb⟩
theorem Wrote.drewn {B g : Nat} {w w1 : World} {bs : List UInt8} {lv : Value} {a : Int} (h : Wrote B w g bs lv a w1) : Wrote B w g bs lv a w1.drew := ⟨h.pr, h.bel.drew, h.far.drew⟩
theorem IsPr.drew {B g : Nat} {w : World} {bs : List UInt8} {lv : Value} {a : Int} (h : IsPr B w g bs lv a) : IsPr B w.drew g bs lv a := h
set_option maxHeartbeats 4000000 in
set_option maxRecDepth 100000 in
theorem cell_any {w0 : World} {g : Nat} {w : World} {bs : List UInt8} {lv : Value} {a : Int} (h : IsPr w0.heap.size w g bs lv a) (hB : Below w0.heap.size w0 w) (hG : GL w0) (x : S48) {nm : ByteArray} {k : Nat} (hn : Nao.f 0 x.f1 x.f2 = some nm) (hk : Lib.indexAny nm.data.toList [49, 50, 51, 52, 53, 54, 55, 56, 57] = (k : Int)) (hkn : k ≤ nm.size) (hns : nm.size ≤ 1000) (hna : ∀ (j : Nat) b, nm.data.toList[j]? = some b → b.toNat < 128) (hs : x.f0.size ≤ 1000) (hlen : bs.length ≤ 1000000000) :
 Calls Tryz.prog 76 #[.pointer (some ⟨g, 0, none⟩), .agg #[.string x.f0, .int .i64 x.f1, .int .i64 x.f2, .bool x.f3, .bool x.f4]] w fun e w' => e = .returned (.tuple #[]) ∧ Wrote w0.heap.size w g (bs ++ cellW x nm.data.toList k) lv a w' := by
 obtain ⟨s, r, c, fr, fc⟩ := x
 have hu48 := Tryz.underlying48
 have hu64 := Tryz.underlying64
 have HP := lh (show Wrote w0.heap.size w g bs lv a w from ⟨h, Below.refl _ _, Far.refl _ _⟩)
 have HLT := lh h.lt
 have HW := lh hB
 have HB := lh hB.size
 have HN := lh (show Nao.f 0 r c = some nm from hn)
 have HK := lh hk
 have HKN := lh hkn
 have HNS := lh hns
 have HNA := lh hna
 have HS := lh (show s.size ≤ 1000 from hs)
 have HL := lh hlen
 have HG := lh hG
 clear h hB hn hk hkn hns hna hs hlen hG
 go_enter Tryz.func76, Tryz.ntmps76
 go_upto_region 1 with ((with_reducible refine gate_dst (N := 3) rfl ?_); refine bX 3 #[.string s, .int .i64 r, .int .i64 c, .bool fr, .bool fc] 48 ?_; intro g3 hg_ w1 hb_ hl_; have NE := lh (show g3 ≠ g by have := HLT.out; omega); replace HP := lh (HP.out.step HB.out hl_); have J := lh hb_; clear hb_ hl_ hg_)
 by_cases hz : s.size = 0
 ·have bz : s.toList.isEmpty = true := List.isEmpty_iff.mpr ((toList_nil s).mpr hz)
  have e0 : w1.cell? ⟨g3, 0, none⟩ = some (.string s) := (blk_cell J.out 0).trans rfl
  have e1 : w1.cell? ⟨g3, 1, none⟩ = some (.int .i64 r) := (blk_cell J.out 1).trans rfl
  have e2 : w1.cell? ⟨g3, 2, none⟩ = some (.int .i64 c) := (blk_cell J.out 2).trans rfl
  have e3 : w1.cell? ⟨g3, 3, none⟩ = some (.bool fr) := (blk_cell J.out 3).trans rfl
  have e4 : w1.cell? ⟨g3, 4, none⟩ = some (.bool fc) := (blk_cell J.out 4).trans rfl
  go_upto_region 5 with (first
   | (go_at_call 118; (with_reducible refine (Nao.calls 0 r c nm _ (HG.out.below (HW.out.trans HP.out.bel)) HN.out).mono ?_); rintro en w2 ⟨rfl, hb⟩; replace HP := lh (HP.out.step HB.out hb); replace J := lh (blk_below J.out hb); clear hb)
   | (go_at_call 119; (with_reducible refine (index9 HNS.out HNA.out HK.out).mono ?_); rintro en w3 ⟨rfl, hb⟩; replace HP := lh (HP.out.step HB.out hb); replace J := lh (blk_below J.out hb); clear hb))
  clear e0 e1 e2 e3 e4
  have e0 : w3.cell? ⟨g3, 0, none⟩ = some (.string s) := (blk_cell J.out 0).trans rfl
  have e1 : w3.cell? ⟨g3, 1, none⟩ = some (.int .i64 r) := (blk_cell J.out 1).trans rfl
  have e2 : w3.cell? ⟨g3, 2, none⟩ = some (.int .i64 c) := (blk_cell J.out 2).trans rfl
  have e3 : w3.cell? ⟨g3, 3, none⟩ = some (.bool fr) := (blk_cell J.out 3).trans rfl
  have e4 : w3.cell? ⟨g3, 4, none⟩ = some (.bool fc) := (blk_cell J.out 4).trans rfl
  have s1 : (0 : Int) ≤ (k : Int) := Int.natCast_nonneg k
  have s2 : (k : Int) ≤ (nm.size : Int) := by have := HKN.out; omega
  cases fc with
  | false =>
   go_upto_region 7 with (fail)
   have HLEN := lh (show (bs).length + (nm.extract 0 (k : Int).toNat).size ≤ 140737488355328 from by have h1 := HL.out; have h2 := HS.out; have h3 := HNS.out; have h4 := HKN.out; (try simp only [List.length_append, List.length_cons, List.length_nil, dsz, ByteArray.size_append, ByteArray.size_extract, sz33]); omega)
   have HSZ := lh (show w0.heap.size ≤ w3.drew.heap.size from Nat.le_trans HB.out HP.out.bel.size)
   refine start_ (n := 7) (S := fun w' => True) (ds := []) #[false, false, false, false, false, false, false] (by kernel_rfl) rfl rfl trivial (fun hHeld => ?_)
   refine pP 0 30 ?_
   refine pP 1 31 ?_
   refine pP 2 32 ?_
   refine pP 3 33 ?_
   refine pP 4 34 ?_
   refine pP 5 35 ?_
   refine one_ (i := 6) (N := some 36) #[true, true, true, true, true, true, true] rfl rfl (by kernel_rfl) (by decide) (fun K hK => ?_)
   refine goes_ Tryz.func59 (by kernel_rfl) rfl #[.pointer (some ⟨g, 0, none⟩), .string (nm.extract 0 (k : Int).toNat)] (by rfl) rfl rfl (by simp only [List.map_toArray, List.map_cons, List.map_nil]; rfl) ?_
   with_reducible refine (Nan HP.out.pr.drew (nm.extract 0 (k : Int).toNat) HLEN.out HSZ.out).mono ?_
   rintro en w5 ⟨rfl, hw⟩
   refine ⟨_, rfl, ?_⟩
   replace HP := lh (HP.out.drewn.trans hw)
   replace J := lh (hw.far _ _ _ _ NE.out (by decide) (blk_drew J.out))
   clear hw HLEN HSZ
   refine hK.out _ _ (trivial) (fun hHeld => ?_)
   clear hK K
   refine nP 36 ?_
   refine done_ (by kernel_rfl) ?_
   clear e0 e1 e2 e3 e4
   have e0 : w5.cell? ⟨g3, 0, none⟩ = some (.string s) := (blk_cell J.out 0).trans rfl
   have e1 : w5.cell? ⟨g3, 1, none⟩ = some (.int .i64 r) := (blk_cell J.out 1).trans rfl
   have e2 : w5.cell? ⟨g3, 2, none⟩ = some (.int .i64 c) := (blk_cell J.out 2).trans rfl
   have e3 : w5.cell? ⟨g3, 3, none⟩ = some (.bool fr) := (blk_cell J.out 3).trans rfl
   cases fr with
   | false =>
    go_upto_region 10 with (fail)
    have HLEN := lh (show (bs ++ (nm.extract 0 (k : Int).toNat).data.toList).length + (nm.extract (k : Int).toNat nm.size).size ≤ 140737488355328 from by have h1 := HL.out; have h2 := HS.out; have h3 := HNS.out; have h4 := HKN.out; (try simp only [List.length_append, List.length_cons, List.length_nil, dsz, ByteArray.size_append, ByteArray.size_extract, sz33]); omega)
    have HSZ := lh (show w0.heap.size ≤ w5.drew.heap.size from Nat.le_trans HB.out HP.out.bel.size)
    refine start_ (n := 7) (S := fun w' => True) (ds := []) #[false, false, false, false, false, false, false] (by kernel_rfl) rfl rfl trivial (fun hHeld => ?_)
    refine pP 0 43 ?_
    refine pP 1 44 ?_
    refine pP 2 45 ?_
    refine pP 3 46 ?_
    refine pP 4 47 ?_
    refine pP 5 48 ?_
    refine one_ (i := 6) (N := some 49) #[true, true, true, true, true, true, true] rfl rfl (by kernel_rfl) (by decide) (fun K hK => ?_)
    refine goes_ Tryz.func59 (by kernel_rfl) rfl #[.pointer (some ⟨g, 0, none⟩), .string (nm.extract (k : Int).toNat nm.size)] (by rfl) rfl rfl (by simp only [List.map_toArray, List.map_cons, List.map_nil]; rfl) ?_
    with_reducible refine (Nan HP.out.pr.drew (nm.extract (k : Int).toNat nm.size) HLEN.out HSZ.out).mono ?_
    rintro en w7 ⟨rfl, hw⟩
    refine ⟨_, rfl, ?_⟩
    replace HP := lh (HP.out.drewn.trans hw)
    replace J := lh (hw.far _ _ _ _ NE.out (by decide) (blk_drew J.out))
    clear hw HLEN HSZ
    refine hK.out _ _ (trivial) (fun hHeld => ?_)
    clear hK K
    refine nP 49 ?_
    refine done_ (by kernel_rfl) ?_
    go_wp2
    go_end0
    refine ⟨rfl, ?_⟩
    have hp := HP.out
    have hb_ : bs ++ (nm.extract 0 (k : Int).toNat).data.toList ++ (nm.extract (k : Int).toNat nm.size).data.toList = bs ++ cellW ⟨s, r, c, false, false⟩ nm.data.toList k := by simp only [take_data, drop_data]; simp [cellW, hz, List.append_assoc]
    rw [hb_] at hp
    exact hp
   | true =>
    go_upto_region 10 with (go_at_call 58; (with_reducible refine (Nca HP.out.pr 36 (n := 36) rfl (show (bs ++ (nm.extract 0 (k : Int).toNat).data.toList).length + 1 ≤ 140737488355328 from by have h1 := HL.out; have h2 := HS.out; have h3 := HNS.out; have h4 := HKN.out; (try simp only [List.length_append, List.length_cons, List.length_nil, dsz, ByteArray.size_append, ByteArray.size_extract, sz33]); omega) (Nat.le_trans HB.out HP.out.bel.size)).mono ?_); rintro en w6 ⟨rfl, hw⟩; replace HP := lh (HP.out.trans hw); replace J := lh (hw.far _ _ _ _ NE.out (by decide) J.out); clear hw)
    have HLEN := lh (show (bs ++ (nm.extract 0 (k : Int).toNat).data.toList ++ [36]).length + (nm.extract (k : Int).toNat nm.size).size ≤ 140737488355328 from by have h1 := HL.out; have h2 := HS.out; have h3 := HNS.out; have h4 := HKN.out; (try simp only [List.length_append, List.length_cons, List.length_nil, dsz, ByteArray.size_append, ByteArray.size_extract, sz33]); omega)
    have HSZ := lh (show w0.heap.size ≤ w6.drew.heap.size from Nat.le_trans HB.out HP.out.bel.size)
    refine start_ (n := 7) (S := fun w' => True) (ds := []) #[false, false, false, false, false, false, false] (by kernel_rfl) rfl rfl trivial (fun hHeld => ?_)
    refine pP 0 43 ?_
    refine pP 1 44 ?_
    refine pP 2 45 ?_
    refine pP 3 46 ?_
    refine pP 4 47 ?_
    refine pP 5 48 ?_
    refine one_ (i := 6) (N := some 49) #[true, true, true, true, true, true, true] rfl rfl (by kernel_rfl) (by decide) (fun K hK => ?_)
    refine goes_ Tryz.func59 (by kernel_rfl) rfl #[.pointer (some ⟨g, 0, none⟩), .string (nm.extract (k : Int).toNat nm.size)] (by rfl) rfl rfl (by simp only [List.map_toArray, List.map_cons, List.map_nil]; rfl) ?_
    with_reducible refine (Nan HP.out.pr.drew (nm.extract (k : Int).toNat nm.size) HLEN.out HSZ.out).mono ?_
    rintro en w7 ⟨rfl, hw⟩
    refine ⟨_, rfl, ?_⟩
    replace HP := lh (HP.out.drewn.trans hw)
    replace J := lh (hw.far _ _ _ _ NE.out (by decide) (blk_drew J.out))
    clear hw HLEN HSZ
    refine hK.out _ _ (trivial) (fun hHeld => ?_)
    clear hK K
    refine nP 49 ?_
    refine done_ (by kernel_rfl) ?_
    go_wp2
    go_end0
    refine ⟨rfl, ?_⟩
    have hp := HP.out
    have hb_ : bs ++ (nm.extract 0 (k : Int).toNat).data.toList ++ [36] ++ (nm.extract (k : Int).toNat nm.size).data.toList = bs ++ cellW ⟨s, r, c, true, false⟩ nm.data.toList k := by simp only [take_data, drop_data]; simp [cellW, hz, List.append_assoc]
    rw [hb_] at hp
    exact hp
  | true =>
   go_upto_region 7 with (go_at_call 58; (with_reducible refine (Nca HP.out.pr 36 (n := 36) rfl (show (bs).length + 1 ≤ 140737488355328 from by have h1 := HL.out; have h2 := HS.out; have h3 := HNS.out; have h4 := HKN.out; (try simp only [List.length_append, List.length_cons, List.length_nil, dsz, ByteArray.size_append, ByteArray.size_extract, sz33]); omega) (Nat.le_trans HB.out HP.out.bel.size)).mono ?_); rintro en w4 ⟨rfl, hw⟩; replace HP := lh (HP.out.trans hw); replace J := lh (hw.far _ _ _ _ NE.out (by decide) J.out); clear hw)
   have HLEN := lh (show (bs ++ [36]).length + (nm.extract 0 (k : Int).toNat).size ≤ 140737488355328 from by have h1 := HL.out; have h2 := HS.out; have h3 := HNS.out; have h4 := HKN.out; (try simp only [List.length_append, List.length_cons, List.length_nil, dsz, ByteArray.size_append, ByteArray.size_extract, sz33]); omega)
   have HSZ := lh (show w0.heap.size ≤ w4.drew.heap.size from Nat.le_trans HB.out HP.out.bel.size)
   refine start_ (n := 7) (S := fun w' => True) (ds := []) #[false, false, false, false, false, false, false] (by kernel_rfl) rfl rfl trivial (fun hHeld => ?_)
   refine pP 0 30 ?_
   refine pP 1 31 ?_
   refine pP 2 32 ?_
   refine pP 3 33 ?_
   refine pP 4 34 ?_
   refine pP 5 35 ?_
   refine one_ (i := 6) (N := some 36) #[true, true, true, true, true, true, true] rfl rfl (by kernel_rfl) (by decide) (fun K hK => ?_)
   refine goes_ Tryz.func59 (by kernel_rfl) rfl #[.pointer (some ⟨g, 0, none⟩), .string (nm.extract 0 (k : Int).toNat)] (by rfl) rfl rfl (by simp only [List.map_toArray, List.map_cons, List.map_nil]; rfl) ?_
   with_reducible refine (Nan HP.out.pr.drew (nm.extract 0 (k : Int).toNat) HLEN.out HSZ.out).mono ?_
   rintro en w5 ⟨rfl, hw⟩
   refine ⟨_, rfl, ?_⟩
   replace HP := lh (HP.out.drewn.trans hw)
   replace J := lh (hw.far _ _ _ _ NE.out (by decide) (blk_drew J.out))
   clear hw HLEN HSZ
   refine hK.out _ _ (trivial) (fun hHeld => ?_)
   clear hK K
   refine nP 36 ?_
   refine done_ (by kernel_rfl) ?_
   clear e0 e1 e2 e3 e4
   have e0 : w5.cell? ⟨g3, 0, none⟩ = some (.string s) := (blk_cell J.out 0).trans rfl
   have e1 : w5.cell? ⟨g3, 1, none⟩ = some (.int .i64 r) := (blk_cell J.out 1).trans rfl
   have e2 : w5.cell? ⟨g3, 2, none⟩ = some (.int .i64 c) := (blk_cell J.out 2).trans rfl
   have e3 : w5.cell? ⟨g3, 3, none⟩ = some (.bool fr) := (blk_cell J.out 3).trans rfl
   cases fr with
   | false =>
    go_upto_region 10 with (fail)
    have HLEN := lh (show (bs ++ [36] ++ (nm.extract 0 (k : Int).toNat).data.toList).length + (nm.extract (k : Int).toNat nm.size).size ≤ 140737488355328 from by have h1 := HL.out; have h2 := HS.out; have h3 := HNS.out; have h4 := HKN.out; (try simp only [List.length_append, List.length_cons, List.length_nil, dsz, ByteArray.size_append, ByteArray.size_extract, sz33]); omega)
    have HSZ := lh (show w0.heap.size ≤ w5.drew.heap.size from Nat.le_trans HB.out HP.out.bel.size)
    refine start_ (n := 7) (S := fun w' => True) (ds := []) #[false, false, false, false, false, false, false] (by kernel_rfl) rfl rfl trivial (fun hHeld => ?_)
    refine pP 0 43 ?_
    refine pP 1 44 ?_
    refine pP 2 45 ?_
    refine pP 3 46 ?_
    refine pP 4 47 ?_
    refine pP 5 48 ?_
    refine one_ (i := 6) (N := some 49) #[true, true, true, true, true, true, true] rfl rfl (by kernel_rfl) (by decide) (fun K hK => ?_)
    refine goes_ Tryz.func59 (by kernel_rfl) rfl #[.pointer (some ⟨g, 0, none⟩), .string (nm.extract (k : Int).toNat nm.size)] (by rfl) rfl rfl (by simp only [List.map_toArray, List.map_cons, List.map_nil]; rfl) ?_
    with_reducible refine (Nan HP.out.pr.drew (nm.extract (k : Int).toNat nm.size) HLEN.out HSZ.out).mono ?_
    rintro en w7 ⟨rfl, hw⟩
    refine ⟨_, rfl, ?_⟩
    replace HP := lh (HP.out.drewn.trans hw)
    replace J := lh (hw.far _ _ _ _ NE.out (by decide) (blk_drew J.out))
    clear hw HLEN HSZ
    refine hK.out _ _ (trivial) (fun hHeld => ?_)
    clear hK K
    refine nP 49 ?_
    refine done_ (by kernel_rfl) ?_
    go_wp2
    go_end0
    refine ⟨rfl, ?_⟩
    have hp := HP.out
    have hb_ : bs ++ [36] ++ (nm.extract 0 (k : Int).toNat).data.toList ++ (nm.extract (k : Int).toNat nm.size).data.toList = bs ++ cellW ⟨s, r, c, false, true⟩ nm.data.toList k := by simp only [take_data, drop_data]; simp [cellW, hz, List.append_assoc]
    rw [hb_] at hp
    exact hp
   | true =>
    go_upto_region 10 with (go_at_call 58; (with_reducible refine (Nca HP.out.pr 36 (n := 36) rfl (show (bs ++ [36] ++ (nm.extract 0 (k : Int).toNat).data.toList).length + 1 ≤ 140737488355328 from by have h1 := HL.out; have h2 := HS.out; have h3 := HNS.out; have h4 := HKN.out; (try simp only [List.length_append, List.length_cons, List.length_nil, dsz, ByteArray.size_append, ByteArray.size_extract, sz33]); omega) (Nat.le_trans HB.out HP.out.bel.size)).mono ?_); rintro en w6 ⟨rfl, hw⟩; replace HP := lh (HP.out.trans hw); replace J := lh (hw.far _ _ _ _ NE.out (by decide) J.out); clear hw)
    have HLEN := lh (show (bs ++ [36] ++ (nm.extract 0 (k : Int).toNat).data.toList ++ [36]).length + (nm.extract (k : Int).toNat nm.size).size ≤ 140737488355328 from by have h1 := HL.out; have h2 := HS.out; have h3 := HNS.out; have h4 := HKN.out; (try simp only [List.length_append, List.length_cons, List.length_nil, dsz, ByteArray.size_append, ByteArray.size_extract, sz33]); omega)
    have HSZ := lh (show w0.heap.size ≤ w6.drew.heap.size from Nat.le_trans HB.out HP.out.bel.size)
    refine start_ (n := 7) (S := fun w' => True) (ds := []) #[false, false, false, false, false, false, false] (by kernel_rfl) rfl rfl trivial (fun hHeld => ?_)
    refine pP 0 43 ?_
    refine pP 1 44 ?_
    refine pP 2 45 ?_
    refine pP 3 46 ?_
    refine pP 4 47 ?_
    refine pP 5 48 ?_
    refine one_ (i := 6) (N := some 49) #[true, true, true, true, true, true, true] rfl rfl (by kernel_rfl) (by decide) (fun K hK => ?_)
    refine goes_ Tryz.func59 (by kernel_rfl) rfl #[.pointer (some ⟨g, 0, none⟩), .string (nm.extract (k : Int).toNat nm.size)] (by rfl) rfl rfl (by simp only [List.map_toArray, List.map_cons, List.map_nil]; rfl) ?_
    with_reducible refine (Nan HP.out.pr.drew (nm.extract (k : Int).toNat nm.size) HLEN.out HSZ.out).mono ?_
    rintro en w7 ⟨rfl, hw⟩
    refine ⟨_, rfl, ?_⟩
    replace HP := lh (HP.out.drewn.trans hw)
    replace J := lh (hw.far _ _ _ _ NE.out (by decide) (blk_drew J.out))
    clear hw HLEN HSZ
    refine hK.out _ _ (trivial) (fun hHeld => ?_)
    clear hK K
    refine nP 49 ?_
    refine done_ (by kernel_rfl) ?_
    go_wp2
    go_end0
    refine ⟨rfl, ?_⟩
    have hp := HP.out
    have hb_ : bs ++ [36] ++ (nm.extract 0 (k : Int).toNat).data.toList ++ [36] ++ (nm.extract (k : Int).toNat nm.size).data.toList = bs ++ cellW ⟨s, r, c, true, true⟩ nm.data.toList k := by simp only [take_data, drop_data]; simp [cellW, hz, List.append_assoc]
    rw [hb_] at hp
    exact hp
 ·have bz : s.toList.isEmpty = false := by cases hh : s.toList.isEmpty with | false => rfl | true => exact absurd ((toList_nil s).mp (List.isEmpty_iff.mp hh)) hz
  have e0 : w1.cell? ⟨g3, 0, none⟩ = some (.string s) := (blk_cell J.out 0).trans rfl
  have e1 : w1.cell? ⟨g3, 1, none⟩ = some (.int .i64 r) := (blk_cell J.out 1).trans rfl
  have e2 : w1.cell? ⟨g3, 2, none⟩ = some (.int .i64 c) := (blk_cell J.out 2).trans rfl
  have e3 : w1.cell? ⟨g3, 3, none⟩ = some (.bool fr) := (blk_cell J.out 3).trans rfl
  have e4 : w1.cell? ⟨g3, 4, none⟩ = some (.bool fc) := (blk_cell J.out 4).trans rfl
  have c6 : s.size + 1 ≤ 9223372036854775807 := by have := HS.out; omega
  have c6b0 := eq_true c6
  have c6b1 : decide (s.size + 1 ≤ 9223372036854775807) = true := decide_eq_true c6
  have c6b2 : (9223372036854775807 < s.size + 1) = False := eq_false (Nat.not_lt.2 c6)
  go_upto_region 2 with (fail)
  have HLEN := lh (show (bs).length + (s ++ (⟨#[33]⟩ : ByteArray)).size ≤ 140737488355328 from by have h1 := HL.out; have h2 := HS.out; have h3 := HNS.out; have h4 := HKN.out; (try simp only [List.length_append, List.length_cons, List.length_nil, dsz, ByteArray.size_append, ByteArray.size_extract, sz33]); omega)
  have HSZ := lh (show w0.heap.size ≤ w1.drew.heap.size from Nat.le_trans HB.out HP.out.bel.size)
  refine start_ (n := 7) (S := fun w' => w'.cell? ⟨g3, 0, none⟩ = some (.string s)) (ds := []) #[false, false, false, false, false, false, false] (by kernel_rfl) rfl rfl (e0) (fun hHeld => ?_)
  refine pP 0 9 ?_
  refine pP 1 10 ?_
  refine pP 2 11 ?_
  refine pP 3 12 ?_
  refine take_ (i := 4) (N := some 13) (v := ?_) (a' := ?_) #[true, true, true, true, true, false, false] rfl rfl (by kernel_rfl) (fun _ _ _ h => h) (Or.inl ⟨by rfl, ?_⟩) hHeld ?_ ?_
  rotate_left
  ·intro w' s0
   go_simp
   with_reducible rfl
  rotate_left
  ·simp only [Act.put, List.setIfInBounds_toArray, List.set_cons_zero, List.set_cons_succ, i64_w, i32_w]
   rfl
  refine pP 5 14 ?_
  refine one_ (i := 6) (N := some 15) #[true, true, true, true, true, true, true] rfl rfl (by kernel_rfl) (by decide) (fun K hK => ?_)
  refine goes_ Tryz.func59 (by kernel_rfl) rfl #[.pointer (some ⟨g, 0, none⟩), .string (s ++ (⟨#[33]⟩ : ByteArray))] (by rfl) rfl rfl (by simp only [List.map_toArray, List.map_cons, List.map_nil]; rfl) ?_
  with_reducible refine (Nan HP.out.pr.drew (s ++ (⟨#[33]⟩ : ByteArray)) HLEN.out HSZ.out).mono ?_
  rintro en w1b ⟨rfl, hw⟩
  refine ⟨_, rfl, ?_⟩
  replace HP := lh (HP.out.drewn.trans hw)
  replace J := lh (hw.far _ _ _ _ NE.out (by decide) (blk_drew J.out))
  clear hw HLEN HSZ
  refine hK.out _ _ ((blk_cell J.out 0).trans rfl) (fun hHeld => ?_)
  clear hK K
  refine nP 15 ?_
  refine done_ (by kernel_rfl) ?_
  clear c6 c6b0 c6b1 c6b2 e0 e1 e2 e3 e4
  have e0 : w1b.cell? ⟨g3, 0, none⟩ = some (.string s) := (blk_cell J.out 0).trans rfl
  have e1 : w1b.cell? ⟨g3, 1, none⟩ = some (.int .i64 r) := (blk_cell J.out 1).trans rfl
  have e2 : w1b.cell? ⟨g3, 2, none⟩ = some (.int .i64 c) := (blk_cell J.out 2).trans rfl
  have e3 : w1b.cell? ⟨g3, 3, none⟩ = some (.bool fr) := (blk_cell J.out 3).trans rfl
  have e4 : w1b.cell? ⟨g3, 4, none⟩ = some (.bool fc) := (blk_cell J.out 4).trans rfl
  go_upto_region 5 with (first
   | (go_at_call 118; (with_reducible refine (Nao.calls 0 r c nm _ (HG.out.below (HW.out.trans HP.out.bel)) HN.out).mono ?_); rintro en w2 ⟨rfl, hb⟩; replace HP := lh (HP.out.step HB.out hb); replace J := lh (blk_below J.out hb); clear hb)
   | (go_at_call 119; (with_reducible refine (index9 HNS.out HNA.out HK.out).mono ?_); rintro en w3 ⟨rfl, hb⟩; replace HP := lh (HP.out.step HB.out hb); replace J := lh (blk_below J.out hb); clear hb))
  clear e0 e1 e2 e3 e4
  have e0 : w3.cell? ⟨g3, 0, none⟩ = some (.string s) := (blk_cell J.out 0).trans rfl
  have e1 : w3.cell? ⟨g3, 1, none⟩ = some (.int .i64 r) := (blk_cell J.out 1).trans rfl
  have e2 : w3.cell? ⟨g3, 2, none⟩ = some (.int .i64 c) := (blk_cell J.out 2).trans rfl
  have e3 : w3.cell? ⟨g3, 3, none⟩ = some (.bool fr) := (blk_cell J.out 3).trans rfl
  have e4 : w3.cell? ⟨g3, 4, none⟩ = some (.bool fc) := (blk_cell J.out 4).trans rfl
  have s1 : (0 : Int) ≤ (k : Int) := Int.natCast_nonneg k
  have s2 : (k : Int) ≤ (nm.size : Int) := by have := HKN.out; omega
  cases fc with
  | false =>
   go_upto_region 7 with (fail)
   have HLEN := lh (show (bs ++ (s ++ (⟨#[33]⟩ : ByteArray)).data.toList).length + (nm.extract 0 (k : Int).toNat).size ≤ 140737488355328 from by have h1 := HL.out; have h2 := HS.out; have h3 := HNS.out; have h4 := HKN.out; (try simp only [List.length_append, List.length_cons, List.length_nil, dsz, ByteArray.size_append, ByteArray.size_extract, sz33]); omega)
   have HSZ := lh (show w0.heap.size ≤ w3.drew.heap.size from Nat.le_trans HB.out HP.out.bel.size)
   refine start_ (n := 7) (S := fun w' => True) (ds := []) #[false, false, false, false, false, false, false] (by kernel_rfl) rfl rfl trivial (fun hHeld => ?_)
   refine pP 0 30 ?_
   refine pP 1 31 ?_
   refine pP 2 32 ?_
   refine pP 3 33 ?_
   refine pP 4 34 ?_
   refine pP 5 35 ?_
   refine one_ (i := 6) (N := some 36) #[true, true, true, true, true, true, true] rfl rfl (by kernel_rfl) (by decide) (fun K hK => ?_)
   refine goes_ Tryz.func59 (by kernel_rfl) rfl #[.pointer (some ⟨g, 0, none⟩), .string (nm.extract 0 (k : Int).toNat)] (by rfl) rfl rfl (by simp only [List.map_toArray, List.map_cons, List.map_nil]; rfl) ?_
   with_reducible refine (Nan HP.out.pr.drew (nm.extract 0 (k : Int).toNat) HLEN.out HSZ.out).mono ?_
   rintro en w5 ⟨rfl, hw⟩
   refine ⟨_, rfl, ?_⟩
   replace HP := lh (HP.out.drewn.trans hw)
   replace J := lh (hw.far _ _ _ _ NE.out (by decide) (blk_drew J.out))
   clear hw HLEN HSZ
   refine hK.out _ _ (trivial) (fun hHeld => ?_)
   clear hK K
   refine nP 36 ?_
   refine done_ (by kernel_rfl) ?_
   clear e0 e1 e2 e3 e4
   have e0 : w5.cell? ⟨g3, 0, none⟩ = some (.string s) := (blk_cell J.out 0).trans rfl
   have e1 : w5.cell? ⟨g3, 1, none⟩ = some (.int .i64 r) := (blk_cell J.out 1).trans rfl
   have e2 : w5.cell? ⟨g3, 2, none⟩ = some (.int .i64 c) := (blk_cell J.out 2).trans rfl
   have e3 : w5.cell? ⟨g3, 3, none⟩ = some (.bool fr) := (blk_cell J.out 3).trans rfl
   cases fr with
   | false =>
    go_upto_region 10 with (fail)
    have HLEN := lh (show (bs ++ (s ++ (⟨#[33]⟩ : ByteArray)).data.toList ++ (nm.extract 0 (k : Int).toNat).data.toList).length + (nm.extract (k : Int).toNat nm.size).size ≤ 140737488355328 from by have h1 := HL.out; have h2 := HS.out; have h3 := HNS.out; have h4 := HKN.out; (try simp only [List.length_append, List.length_cons, List.length_nil, dsz, ByteArray.size_append, ByteArray.size_extract, sz33]); omega)
    have HSZ := lh (show w0.heap.size ≤ w5.drew.heap.size from Nat.le_trans HB.out HP.out.bel.size)
    refine start_ (n := 7) (S := fun w' => True) (ds := []) #[false, false, false, false, false, false, false] (by kernel_rfl) rfl rfl trivial (fun hHeld => ?_)
    refine pP 0 43 ?_
    refine pP 1 44 ?_
    refine pP 2 45 ?_
    refine pP 3 46 ?_
    refine pP 4 47 ?_
    refine pP 5 48 ?_
    refine one_ (i := 6) (N := some 49) #[true, true, true, true, true, true, true] rfl rfl (by kernel_rfl) (by decide) (fun K hK => ?_)
    refine goes_ Tryz.func59 (by kernel_rfl) rfl #[.pointer (some ⟨g, 0, none⟩), .string (nm.extract (k : Int).toNat nm.size)] (by rfl) rfl rfl (by simp only [List.map_toArray, List.map_cons, List.map_nil]; rfl) ?_
    with_reducible refine (Nan HP.out.pr.drew (nm.extract (k : Int).toNat nm.size) HLEN.out HSZ.out).mono ?_
    rintro en w7 ⟨rfl, hw⟩
    refine ⟨_, rfl, ?_⟩
    replace HP := lh (HP.out.drewn.trans hw)
    replace J := lh (hw.far _ _ _ _ NE.out (by decide) (blk_drew J.out))
    clear hw HLEN HSZ
    refine hK.out _ _ (trivial) (fun hHeld => ?_)
    clear hK K
    refine nP 49 ?_
    refine done_ (by kernel_rfl) ?_
    go_wp2
    go_end0
    refine ⟨rfl, ?_⟩
    have hp := HP.out
    have hb_ : bs ++ (s ++ (⟨#[33]⟩ : ByteArray)).data.toList ++ (nm.extract 0 (k : Int).toNat).data.toList ++ (nm.extract (k : Int).toNat nm.size).data.toList = bs ++ cellW ⟨s, r, c, false, false⟩ nm.data.toList k := by simp only [take_data, drop_data]; simp [cellW, hz, List.append_assoc]
    rw [hb_] at hp
    exact hp
   | true =>
    go_upto_region 10 with (go_at_call 58; (with_reducible refine (Nca HP.out.pr 36 (n := 36) rfl (show (bs ++ (s ++ (⟨#[33]⟩ : ByteArray)).data.toList ++ (nm.extract 0 (k : Int).toNat).data.toList).length + 1 ≤ 140737488355328 from by have h1 := HL.out; have h2 := HS.out; have h3 := HNS.out; have h4 := HKN.out; (try simp only [List.length_append, List.length_cons, List.length_nil, dsz, ByteArray.size_append, ByteArray.size_extract, sz33]); omega) (Nat.le_trans HB.out HP.out.bel.size)).mono ?_); rintro en w6 ⟨rfl, hw⟩; replace HP := lh (HP.out.trans hw); replace J := lh (hw.far _ _ _ _ NE.out (by decide) J.out); clear hw)
    have HLEN := lh (show (bs ++ (s ++ (⟨#[33]⟩ : ByteArray)).data.toList ++ (nm.extract 0 (k : Int).toNat).data.toList ++ [36]).length + (nm.extract (k : Int).toNat nm.size).size ≤ 140737488355328 from by have h1 := HL.out; have h2 := HS.out; have h3 := HNS.out; have h4 := HKN.out; (try simp only [List.length_append, List.length_cons, List.length_nil, dsz, ByteArray.size_append, ByteArray.size_extract, sz33]); omega)
    have HSZ := lh (show w0.heap.size ≤ w6.drew.heap.size from Nat.le_trans HB.out HP.out.bel.size)
    refine start_ (n := 7) (S := fun w' => True) (ds := []) #[false, false, false, false, false, false, false] (by kernel_rfl) rfl rfl trivial (fun hHeld => ?_)
    refine pP 0 43 ?_
    refine pP 1 44 ?_
    refine pP 2 45 ?_
    refine pP 3 46 ?_
    refine pP 4 47 ?_
    refine pP 5 48 ?_
    refine one_ (i := 6) (N := some 49) #[true, true, true, true, true, true, true] rfl rfl (by kernel_rfl) (by decide) (fun K hK => ?_)
    refine goes_ Tryz.func59 (by kernel_rfl) rfl #[.pointer (some ⟨g, 0, none⟩), .string (nm.extract (k : Int).toNat nm.size)] (by rfl) rfl rfl (by simp only [List.map_toArray, List.map_cons, List.map_nil]; rfl) ?_
    with_reducible refine (Nan HP.out.pr.drew (nm.extract (k : Int).toNat nm.size) HLEN.out HSZ.out).mono ?_
    rintro en w7 ⟨rfl, hw⟩
    refine ⟨_, rfl, ?_⟩
    replace HP := lh (HP.out.drewn.trans hw)
    replace J := lh (hw.far _ _ _ _ NE.out (by decide) (blk_drew J.out))
    clear hw HLEN HSZ
    refine hK.out _ _ (trivial) (fun hHeld => ?_)
    clear hK K
    refine nP 49 ?_
    refine done_ (by kernel_rfl) ?_
    go_wp2
    go_end0
    refine ⟨rfl, ?_⟩
    have hp := HP.out
    have hb_ : bs ++ (s ++ (⟨#[33]⟩ : ByteArray)).data.toList ++ (nm.extract 0 (k : Int).toNat).data.toList ++ [36] ++ (nm.extract (k : Int).toNat nm.size).data.toList = bs ++ cellW ⟨s, r, c, true, false⟩ nm.data.toList k := by simp only [take_data, drop_data]; simp [cellW, hz, List.append_assoc]
    rw [hb_] at hp
    exact hp
  | true =>
   go_upto_region 7 with (go_at_call 58; (with_reducible refine (Nca HP.out.pr 36 (n := 36) rfl (show (bs ++ (s ++ (⟨#[33]⟩ : ByteArray)).data.toList).length + 1 ≤ 140737488355328 from by have h1 := HL.out; have h2 := HS.out; have h3 := HNS.out; have h4 := HKN.out; (try simp only [List.length_append, List.length_cons, List.length_nil, dsz, ByteArray.size_append, ByteArray.size_extract, sz33]); omega) (Nat.le_trans HB.out HP.out.bel.size)).mono ?_); rintro en w4 ⟨rfl, hw⟩; replace HP := lh (HP.out.trans hw); replace J := lh (hw.far _ _ _ _ NE.out (by decide) J.out); clear hw)
   have HLEN := lh (show (bs ++ (s ++ (⟨#[33]⟩ : ByteArray)).data.toList ++ [36]).length + (nm.extract 0 (k : Int).toNat).size ≤ 140737488355328 from by have h1 := HL.out; have h2 := HS.out; have h3 := HNS.out; have h4 := HKN.out; (try simp only [List.length_append, List.length_cons, List.length_nil, dsz, ByteArray.size_append, ByteArray.size_extract, sz33]); omega)
   have HSZ := lh (show w0.heap.size ≤ w4.drew.heap.size from Nat.le_trans HB.out HP.out.bel.size)
   refine start_ (n := 7) (S := fun w' => True) (ds := []) #[false, false, false, false, false, false, false] (by kernel_rfl) rfl rfl trivial (fun hHeld => ?_)
   refine pP 0 30 ?_
   refine pP 1 31 ?_
   refine pP 2 32 ?_
   refine pP 3 33 ?_
   refine pP 4 34 ?_
   refine pP 5 35 ?_
   refine one_ (i := 6) (N := some 36) #[true, true, true, true, true, true, true] rfl rfl (by kernel_rfl) (by decide) (fun K hK => ?_)
   refine goes_ Tryz.func59 (by kernel_rfl) rfl #[.pointer (some ⟨g, 0, none⟩), .string (nm.extract 0 (k : Int).toNat)] (by rfl) rfl rfl (by simp only [List.map_toArray, List.map_cons, List.map_nil]; rfl) ?_
   with_reducible refine (Nan HP.out.pr.drew (nm.extract 0 (k : Int).toNat) HLEN.out HSZ.out).mono ?_
   rintro en w5 ⟨rfl, hw⟩
   refine ⟨_, rfl, ?_⟩
   replace HP := lh (HP.out.drewn.trans hw)
   replace J := lh (hw.far _ _ _ _ NE.out (by decide) (blk_drew J.out))
   clear hw HLEN HSZ
   refine hK.out _ _ (trivial) (fun hHeld => ?_)
   clear hK K
   refine nP 36 ?_
   refine done_ (by kernel_rfl) ?_
   clear e0 e1 e2 e3 e4
   have e0 : w5.cell? ⟨g3, 0, none⟩ = some (.string s) := (blk_cell J.out 0).trans rfl
   have e1 : w5.cell? ⟨g3, 1, none⟩ = some (.int .i64 r) := (blk_cell J.out 1).trans rfl
   have e2 : w5.cell? ⟨g3, 2, none⟩ = some (.int .i64 c) := (blk_cell J.out 2).trans rfl
   have e3 : w5.cell? ⟨g3, 3, none⟩ = some (.bool fr) := (blk_cell J.out 3).trans rfl
   cases fr with
   | false =>
    go_upto_region 10 with (fail)
    have HLEN := lh (show (bs ++ (s ++ (⟨#[33]⟩ : ByteArray)).data.toList ++ [36] ++ (nm.extract 0 (k : Int).toNat).data.toList).length + (nm.extract (k : Int).toNat nm.size).size ≤ 140737488355328 from by have h1 := HL.out; have h2 := HS.out; have h3 := HNS.out; have h4 := HKN.out; (try simp only [List.length_append, List.length_cons, List.length_nil, dsz, ByteArray.size_append, ByteArray.size_extract, sz33]); omega)
    have HSZ := lh (show w0.heap.size ≤ w5.drew.heap.size from Nat.le_trans HB.out HP.out.bel.size)
    refine start_ (n := 7) (S := fun w' => True) (ds := []) #[false, false, false, false, false, false, false] (by kernel_rfl) rfl rfl trivial (fun hHeld => ?_)
    refine pP 0 43 ?_
    refine pP 1 44 ?_
    refine pP 2 45 ?_
    refine pP 3 46 ?_
    refine pP 4 47 ?_
    refine pP 5 48 ?_
    refine one_ (i := 6) (N := some 49) #[true, true, true, true, true, true, true] rfl rfl (by kernel_rfl) (by decide) (fun K hK => ?_)
    refine goes_ Tryz.func59 (by kernel_rfl) rfl #[.pointer (some ⟨g, 0, none⟩), .string (nm.extract (k : Int).toNat nm.size)] (by rfl) rfl rfl (by simp only [List.map_toArray, List.map_cons, List.map_nil]; rfl) ?_
    with_reducible refine (Nan HP.out.pr.drew (nm.extract (k : Int).toNat nm.size) HLEN.out HSZ.out).mono ?_
    rintro en w7 ⟨rfl, hw⟩
    refine ⟨_, rfl, ?_⟩
    replace HP := lh (HP.out.drewn.trans hw)
    replace J := lh (hw.far _ _ _ _ NE.out (by decide) (blk_drew J.out))
    clear hw HLEN HSZ
    refine hK.out _ _ (trivial) (fun hHeld => ?_)
    clear hK K
    refine nP 49 ?_
    refine done_ (by kernel_rfl) ?_
    go_wp2
    go_end0
    refine ⟨rfl, ?_⟩
    have hp := HP.out
    have hb_ : bs ++ (s ++ (⟨#[33]⟩ : ByteArray)).data.toList ++ [36] ++ (nm.extract 0 (k : Int).toNat).data.toList ++ (nm.extract (k : Int).toNat nm.size).data.toList = bs ++ cellW ⟨s, r, c, false, true⟩ nm.data.toList k := by simp only [take_data, drop_data]; simp [cellW, hz, List.append_assoc]
    rw [hb_] at hp
    exact hp
   | true =>
    go_upto_region 10 with (go_at_call 58; (with_reducible refine (Nca HP.out.pr 36 (n := 36) rfl (show (bs ++ (s ++ (⟨#[33]⟩ : ByteArray)).data.toList ++ [36] ++ (nm.extract 0 (k : Int).toNat).data.toList).length + 1 ≤ 140737488355328 from by have h1 := HL.out; have h2 := HS.out; have h3 := HNS.out; have h4 := HKN.out; (try simp only [List.length_append, List.length_cons, List.length_nil, dsz, ByteArray.size_append, ByteArray.size_extract, sz33]); omega) (Nat.le_trans HB.out HP.out.bel.size)).mono ?_); rintro en w6 ⟨rfl, hw⟩; replace HP := lh (HP.out.trans hw); replace J := lh (hw.far _ _ _ _ NE.out (by decide) J.out); clear hw)
    have HLEN := lh (show (bs ++ (s ++ (⟨#[33]⟩ : ByteArray)).data.toList ++ [36] ++ (nm.extract 0 (k : Int).toNat).data.toList ++ [36]).length + (nm.extract (k : Int).toNat nm.size).size ≤ 140737488355328 from by have h1 := HL.out; have h2 := HS.out; have h3 := HNS.out; have h4 := HKN.out; (try simp only [List.length_append, List.length_cons, List.length_nil, dsz, ByteArray.size_append, ByteArray.size_extract, sz33]); omega)
    have HSZ := lh (show w0.heap.size ≤ w6.drew.heap.size from Nat.le_trans HB.out HP.out.bel.size)
    refine start_ (n := 7) (S := fun w' => True) (ds := []) #[false, false, false, false, false, false, false] (by kernel_rfl) rfl rfl trivial (fun hHeld => ?_)
    refine pP 0 43 ?_
    refine pP 1 44 ?_
    refine pP 2 45 ?_
    refine pP 3 46 ?_
    refine pP 4 47 ?_
    refine pP 5 48 ?_
    refine one_ (i := 6) (N := some 49) #[true, true, true, true, true, true, true] rfl rfl (by kernel_rfl) (by decide) (fun K hK => ?_)
    refine goes_ Tryz.func59 (by kernel_rfl) rfl #[.pointer (some ⟨g, 0, none⟩), .string (nm.extract (k : Int).toNat nm.size)] (by rfl) rfl rfl (by simp only [List.map_toArray, List.map_cons, List.map_nil]; rfl) ?_
    with_reducible refine (Nan HP.out.pr.drew (nm.extract (k : Int).toNat nm.size) HLEN.out HSZ.out).mono ?_
    rintro en w7 ⟨rfl, hw⟩
    refine ⟨_, rfl, ?_⟩
    replace HP := lh (HP.out.drewn.trans hw)
    replace J := lh (hw.far _ _ _ _ NE.out (by decide) (blk_drew J.out))
    clear hw HLEN HSZ
    refine hK.out _ _ (trivial) (fun hHeld => ?_)
    clear hK K
    refine nP 49 ?_
    refine done_ (by kernel_rfl) ?_
    go_wp2
    go_end0
    refine ⟨rfl, ?_⟩
    have hp := HP.out
    have hb_ : bs ++ (s ++ (⟨#[33]⟩ : ByteArray)).data.toList ++ [36] ++ (nm.extract 0 (k : Int).toNat).data.toList ++ [36] ++ (nm.extract (k : Int).toNat nm.size).data.toList = bs ++ cellW ⟨s, r, c, true, true⟩ nm.data.toList k := by simp only [take_data, drop_data]; simp [cellW, hz, List.append_assoc]
    rw [hb_] at hp
    exact hp
section
attribute [local go_sem] max2_int min2_int max_two min_two max_three min_three max_four min_four
mutual
def Nah.l0 : Nat → ByteArray → Int → Int → Option (Int × ByteArray × Bool)
 | 0, _, _, _ => none
 | k + 1, x0, x2, x5 => if x5 < (x0.size : Int) then (if 0 ≤ x5 then (if (bt x0 x5) ≥ 48 then (Nah.j1 k x0 x2 x5 (decide ((bt x0 x5) ≤ 57))) else (Nah.j1 k x0 x2 x5 false)) else (none)) else (Nah.j1 k x0 x2 x5 false)
def Nah.j1 : Nat → ByteArray → Int → Int → Bool → Option (Int × ByteArray × Bool)
 | 0, _, _, _, _ => none
 | k + 1, x0, x2, x5, x22 => if x22 = true then (if 0 ≤ x5 then (if x5 < (x0.size : Int) then (if x2 > ((1000000000000000000 - (((bt x0 x5) - 48) % 256)) / 10) then (some (0, (⟨#[]⟩ : ByteArray), false)) else (Nah.l0 k x0 (wrap64 ((wrap64 (10 * x2)) + (((bt x0 x5) - 48) % 256))) (wrap64 (x5 + 1)))) else (none)) else (none)) else (if 0 ≤ x5 then (if x5 ≤ (x0.size : Int) then (some (x2, x0.extract (x5 : Int).toNat x0.size, decide (x5 > 0))) else (none)) else (none))
end
def Nah.f (k : Nat) (a0 : ByteArray) : Option (Int × ByteArray × Bool) := Nah.l0 k a0 0 0
set_option maxHeartbeats 8000000 in
set_option maxRecDepth 100000 in
theorem Nah.calls (k : Nat) (a0 : ByteArray) (r1 : Int) (r2 : ByteArray) (r3 : Bool) (w : World) (h : Nah.f k a0 = some (r1, r2, r3)) :
 Calls Tryz.prog 207 #[.string a0] w fun e w' => e = .returned (.tuple #[.int .i64 r1, .string r2, .bool r3]) ∧ Drawn0 w w' := by
 have H := h
 unfold Nah.f at H
 clear h
 have H' := aM H
 clear H
 go_enter Tryz.func207, Tryz.ntmps207
 go_wp2
 repeat (go_quiet (fail); try go_wp2)
 go_loopg [2, 5] k (fun kq v2 v5 w' => ∃ (x2_1 : Int) (x5_1 : Int), v2 = .int .i64 x2_1 ∧ v5 = .int .i64 x5_1 ∧ Aside0 (Nah.l0 kq a0 x2_1 x5_1 = some (r1, r2, r3)) ∧ Aside0 (kq ≤ k) ∧ Drawn0 w w')
 case atStart => exact ⟨(0), (0), (by first | rfl | (simp; done) | (simp [*]; done)), (by first | rfl | (simp; done) | (simp [*]; done)), H', ⟨Nat.le_refl _⟩, by repeat (first | exact Drawn0.refl _ | apply Drawn0.step)⟩
 case round =>
  clear H'
  obtain ⟨x2_1, x5_1, rfl, rfl, HA, HK1, ⟨m1, rfl⟩⟩ := hrel
  cases gk with
  | zero => exact absurd HA.out (by simp [Nah.l0])
  | succ k1 =>
   have H := HA.out
   clear HA
   simp only [Nah.l0] at H
   have HC2 := aM H
   clear H
   go_upto_region 2 with (fail)
   repeat (go_quiet (fail); go_upto_region 2 with (fail))
   go_cut [22] (fun v22 wc => ∃ (kq : Nat) (x22_1 : Bool), v22 = .bool x22_1 ∧ Aside0 (Nah.j1 kq a0 x2_1 x5_1 x22_1 = some (r1, r2, r3)) ∧ Aside0 (kq ≤ k1) ∧ Drawn0 w wc)
   case first =>
    have H := HC2.out
    clear HC2
    by_cases c3 : x5_1 < (a0.size : Int)
    ·rw [if_pos c3] at H
     have c3b0 : decide (x5_1 < (a0.size : Int)) = true := decide_eq_true c3
     clear c3
     (first | rw [c3b0] | (simp only [i64_w, i32_w]; rw [c3b0]) | skip)
     by_cases c4 : 0 ≤ x5_1
     ·rw [if_pos c4] at H
      have c4b0 : decide (0 ≤ x5_1) = true := decide_eq_true c4
      clear c4
      by_cases c6 : (bt a0 x5_1) ≥ 48
      ·rw [if_pos c6] at H
       have c6b0 : decide (48 ≤ (bt a0 x5_1)) = true := decide_eq_true c6
       clear c6
       have H' := aM H
       clear H
       have p5 : 0 ≤ (x5_1 : Int) := of_decide_eq_true (by first | (with_reducible assumption) | assumption)
       have q5 : x5_1 < (a0.size : Int) := of_decide_eq_true (by first | (with_reducible assumption) | assumption)
       have hx5 := bt_at a0 x5_1
       replace p5 := eq_true p5
       replace q5 := eq_true q5
       have p7 : 0 ≤ (x5_1 : Int) := of_decide_eq_true (by first | (with_reducible assumption) | assumption)
       have q7 : x5_1 < (a0.size : Int) := of_decide_eq_true (by first | (with_reducible assumption) | assumption)
       have hx7 := bt_at a0 x5_1
       replace p7 := eq_true p7
       replace q7 := eq_true q7
       go_wp2
       repeat (go_quiet (fail); try go_wp2)
       go_meet
       case rel => exact ⟨_, (decide ((bt a0 x5_1) ≤ 57)), (by first | rfl | (simp; done) | (simp [*]; done)), H', ⟨by have := HK1.out; first | omega | exact Nat.le_refl _⟩, by repeat (first | exact Drawn0.refl _ | apply Drawn0.step)⟩
      ·rw [if_neg c6] at H
       have c6b0 : decide (48 ≤ (bt a0 x5_1)) = false := decide_eq_false c6
       clear c6
       have H' := aM H
       clear H
       have p5 : 0 ≤ (x5_1 : Int) := of_decide_eq_true (by first | (with_reducible assumption) | assumption)
       have q5 : x5_1 < (a0.size : Int) := of_decide_eq_true (by first | (with_reducible assumption) | assumption)
       have hx5 := bt_at a0 x5_1
       replace p5 := eq_true p5
       replace q5 := eq_true q5
       go_wp2
       repeat (go_quiet (fail); try go_wp2)
       go_meet
       case rel => exact ⟨_, (false), (by first | rfl | (simp; done) | (simp [*]; done)), H', ⟨by have := HK1.out; first | omega | exact Nat.le_refl _⟩, by repeat (first | exact Drawn0.refl _ | apply Drawn0.step)⟩
     ·rw [if_neg c4] at H
      exact absurd H (by simp)
    ·rw [if_neg c3] at H
     have c3b0 : decide (x5_1 < (a0.size : Int)) = false := decide_eq_false c3
     clear c3
     (first | rw [c3b0] | (simp only [i64_w, i32_w]; rw [c3b0]) | skip)
     have H' := aM H
     clear H
     go_wp2
     repeat (go_quiet (fail); try go_wp2)
     go_meet
     case rel => exact ⟨_, (false), (by first | rfl | (simp; done) | (simp [*]; done)), H', ⟨by have := HK1.out; first | omega | exact Nat.le_refl _⟩, by repeat (first | exact Drawn0.refl _ | apply Drawn0.step)⟩
   case rest =>
    clear HC2
    try clear c2
    try clear p2
    try clear c3
    try clear c3b0
    try clear c4
    try clear c4b0
    try clear p5
    try clear q5
    try clear hx5
    try clear c6
    try clear c6b0
    try clear p7
    try clear q7
    try clear hx7
    try clear p5
    try clear p7
    try clear q5
    try clear q7
    obtain ⟨kq, x22_1, rfl, HA, HJ1, ⟨mc1, rfl⟩⟩ := hcut
    cases kq with
    | zero => exact absurd HA.out (by simp [Nah.j1])
    | succ kj1 =>
     have H := HA.out
     clear HA
     simp only [Nah.j1] at H
     by_cases c8 : x22_1 = true
     ·subst c8
      rw [if_pos rfl] at H
      by_cases c9 : 0 ≤ x5_1
      ·rw [if_pos c9] at H
       have c9b0 : decide (0 ≤ x5_1) = true := decide_eq_true c9
       clear c9
       by_cases c10 : x5_1 < (a0.size : Int)
       ·rw [if_pos c10] at H
        have c10b0 : decide (x5_1 < (a0.size : Int)) = true := decide_eq_true c10
        clear c10
        by_cases c12 : x2_1 > ((1000000000000000000 - (((bt a0 x5_1) - 48) % 256)) / 10)
        ·rw [if_pos c12] at H
         have c12b0 : decide (((1000000000000000000 - (((bt a0 x5_1) - 48) % 256)) / 10) < x2_1) = true := decide_eq_true c12
         clear c12
         simp only [Option.some.injEq, Prod.mk.injEq] at H
         obtain ⟨rfl, rfl, rfl⟩ := H
         have p11 : 0 ≤ (x5_1 : Int) := of_decide_eq_true (by first | (with_reducible assumption) | assumption)
         have q11 : x5_1 < (a0.size : Int) := of_decide_eq_true (by first | (with_reducible assumption) | assumption)
         have hx11 := bt_at a0 x5_1
         replace p11 := eq_true p11
         replace q11 := eq_true q11
         go_wp2
         repeat (go_quiet (fail); try go_wp2)
         go_ret3
         exact ⟨by first | rfl | (simp; done) | (simp [*]; done), by repeat (first | exact Drawn0.refl _ | apply Drawn0.step)⟩
        ·rw [if_neg c12] at H
         have c12b0 : decide (((1000000000000000000 - (((bt a0 x5_1) - 48) % 256)) / 10) < x2_1) = false := decide_eq_false c12
         clear c12
         have H' := aM H
         clear H
         have p11 : 0 ≤ (x5_1 : Int) := of_decide_eq_true (by first | (with_reducible assumption) | assumption)
         have q11 : x5_1 < (a0.size : Int) := of_decide_eq_true (by first | (with_reducible assumption) | assumption)
         have hx11 := bt_at a0 x5_1
         replace p11 := eq_true p11
         replace q11 := eq_true q11
         go_wp2
         repeat (go_quiet (fail); try go_wp2)
         go_roundg kj1
         case measure => have := HK1.out; have := HJ1.out; omega
         case rel => exact ⟨(wrap64 ((wrap64 (10 * x2_1)) + (((bt a0 x5_1) - 48) % 256))), (wrap64 (x5_1 + 1)), (by first | rfl | (simp; done) | (simp [*]; done)), (by first | rfl | (simp; done) | (simp [*]; done)), H', ⟨by have := HK1.out; have := HJ1.out; omega⟩, by repeat (first | exact Drawn0.refl _ | apply Drawn0.step)⟩
       ·rw [if_neg c10] at H
        exact absurd H (by simp)
      ·rw [if_neg c9] at H
       exact absurd H (by simp)
     ·replace c8 := Bool.eq_false_iff.mpr c8
      subst c8
      rw [if_neg Bool.false_ne_true] at H
      by_cases c13 : 0 ≤ x5_1
      ·rw [if_pos c13] at H
       have c13b0 := eq_true c13
       have c13b1 : decide (0 ≤ x5_1) = true := decide_eq_true c13
       clear c13
       by_cases c14 : x5_1 ≤ (a0.size : Int)
       ·rw [if_pos c14] at H
        have c14b0 := eq_true c14
        have c14b1 : decide (x5_1 ≤ (a0.size : Int)) = true := decide_eq_true c14
        clear c14
        simp only [Option.some.injEq, Prod.mk.injEq] at H
        obtain ⟨rfl, rfl, rfl⟩ := H
        go_wp2
        repeat (go_quiet (fail); try go_wp2)
        go_ret3
        exact ⟨by first | rfl | (simp; done) | (simp [*]; done), by repeat (first | exact Drawn0.refl _ | apply Drawn0.step)⟩
       ·rw [if_neg c14] at H
        exact absurd H (by simp)
      ·rw [if_neg c13] at H
       exact absurd H (by simp)
end
section
attribute [local go_sem] max2_int min2_int max_two min_two max_three min_three max_four min_four
def Nbl.l0 : Nat → Int → Int → Int → Option (Int)
 | 0, _, _, _ => none
 | k + 1, x3, x4, x5 => if x5 < x4 then (Nbl.l0 k (wrap64 (x3 * 10)) x4 (wrap64 (x5 + 1))) else (some x3)
def Nbl.f (k : Nat) (a0 : Int) : Option (Int) := Nbl.l0 k 1 a0 0
set_option maxHeartbeats 8000000 in
set_option maxRecDepth 100000 in
theorem Nbl.calls (k : Nat) (a0 : Int) (r : Int) (w : World) (h : Nbl.f k a0 = some r) :
 Calls Tryz.prog 208 #[.int .i64 a0] w fun e w' => e = .returned (.int .i64 r) ∧ Drawn0 w w' := by
 have H := h
 unfold Nbl.f at H
 clear h
 have H' := aM H
 clear H
 go_enter Tryz.func208, Tryz.ntmps208
 go_wp2
 go_loopg [3, 5] k (fun kq v3 v5 w' => ∃ (x3_1 : Int) (x5_1 : Int), v3 = .int .i64 x3_1 ∧ v5 = .int .i64 x5_1 ∧ Aside0 (Nbl.l0 kq x3_1 a0 x5_1 = some r) ∧ Aside0 (kq ≤ k) ∧ Drawn0 w w')
 case atStart => exact ⟨(1), (0), (by first | rfl | (simp; done) | (simp [*]; done)), (by first | rfl | (simp; done) | (simp [*]; done)), H', ⟨Nat.le_refl _⟩, by repeat (first | exact Drawn0.refl _ | apply Drawn0.step)⟩
 case round =>
  clear H'
  obtain ⟨x3_1, x5_1, rfl, rfl, HA, HK1, ⟨m1, rfl⟩⟩ := hrel
  cases gk with
  | zero => exact absurd HA.out (by simp [Nbl.l0])
  | succ k1 =>
   have H := HA.out
   clear HA
   simp only [Nbl.l0] at H
   by_cases c2 : x5_1 < a0
   ·rw [if_pos c2] at H
    have c2b0 : decide (x5_1 < a0) = true := decide_eq_true c2
    clear c2
    have H' := aM H
    clear H
    go_wp2
    go_roundg k1
    case measure => have := HK1.out; omega
    case rel => exact ⟨(wrap64 (x3_1 * 10)), (wrap64 (x5_1 + 1)), (by first | rfl | (simp; done) | (simp [*]; done)), (by first | rfl | (simp; done) | (simp [*]; done)), H', ⟨by have := HK1.out; omega⟩, by repeat (first | exact Drawn0.refl _ | apply Drawn0.step)⟩
   ·rw [if_neg c2] at H
    have c2b0 : decide (x5_1 < a0) = false := decide_eq_false c2
    clear c2
    obtain rfl := Option.some.inj H
    go_wp2
    go_ret
    exact ⟨by first | rfl | (simp; done) | (simp [*]; done), by repeat (first | exact Drawn0.refl _ | apply Drawn0.step)⟩
end
end Go.Proofs.YtejbbceidnaloaaGreatDoor.P
