import Derived.Test.YtejbbceidnaloaaGreatDoorJ26
import Derived.Lib.ItoaNum
import Derived.Lib.SplitLaws
import Derived.Lib.Replace
set_option linter.unusedVariables false
set_option linter.unusedSimpArgs false
set_option maxRecDepth 100000
set_option maxHeartbeats 8000000
namespace Go.Proofs.YtejbbceidnaloaaGreatDoor.P
open Go.RowKit Go.Proofs.YtejbbceidnaloaaGreatDoorW.PrintWords Go.Proofs.YtejbbceidnaloaaGreatDoorW.PrintLast Go.Proofs.YtejbbceidnaloaaGreatDoorW.PrintMore
theorem txt_open (nm : ByteArray) : txt [(3, nm), mk [40]] = (nm ++ (⟨#[40]⟩ : ByteArray)).data.toList := by
 simp [Ncf, tk5, tk3, Nd4, mk, mB]
theorem call_one {w0 : World} {lv : Value} {L : Lf} {l : List S50} {k : Nat} (ih : ∀ j, j < k → Prints w0 lv L l j) (hl : l.length ≤ 100000) : PrintsC w0 lv L l k := by
 intro n w g bs a T q hnm har hal h ht hlen
 obtain ⟨k0, ⟨vk, ⟨vn, vd⟩, vt, vb, ve⟩, op, nm, ar, ⟨s5, r5, c5, p5, q5⟩, ⟨s6, r6, c6, p6, q6⟩⟩ := n
 show Calls Tryz.prog 77 #[.pointer (some ⟨g, 0, none⟩), .agg #[.int .i64 k0, .int .i64 vk, .int .i64 vn, .int .i64 vd, .string vt, .bool vb, .int .i64 ve, .int .i64 op, .string nm, .int .i64 ar, .string s5, .int .i64 r5, .int .i64 c5, .bool p5, .bool q5, .string s6, .int .i64 r6, .int .i64 c6, .bool p6, .bool q6]] w (fun e w' => e = .returned (.tuple #[]) ∧ Wrote w0.heap.size w g (bs ++ txt ((3, nm) :: mk [40] :: (T ++ [mk [41]]))) lv ((l.length : Int) - q.length) w')
 replace hnm : nm.size ≤ 100000 := hnm
 replace har : ar ≤ 100000 := har
 replace ht : atkF L k true ar (l.drop a) = some (T, q) := ht
 replace hlen : (bs ++ txt ((3, nm) :: mk [40] :: (T ++ [mk [41]]))).length ≤ 1000000000 := hlen
 have HIH := lh ih
 have HT := lh ht
 have HAR := lh har
 have HLL := lh hl
 have HPB := lh h.bel
 have HLT := lh h.pr.lt
 have HB := lh h.bel.size
 have HP := lh (show Wrote w0.heap.size w g bs lv (a : Int) w from ⟨h.pr, Below.refl _ _, Far.refl _ _⟩)
 have hU0 : txt ((3, nm) :: mk [40] :: (T ++ [mk [41]])) = txt [(3, nm), mk [40]] ++ txt T ++ [41] := by
  rw [show (3, nm) :: mk [40] :: (T ++ [mk [41]]) = [(3, nm), mk [40]] ++ T ++ [mk [41]] by simp, Nb6, Nb6]; rfl
 have HU0 := lh hU0
 have HLEN := lh (show (bs ++ txt [(3, nm), mk [40]] ++ txt T).length + 1 ≤ 1000000000 by rw [hU0] at hlen; simp only [List.length_append, List.length_cons, List.length_nil] at hlen ⊢; omega)
 have HLS := lh (show bs.length + (nm ++ (⟨#[40]⟩ : ByteArray)).size ≤ 140737488355328 by have h2 := HLEN.out; rw [txt_open] at h2; simp only [List.length_append, Array.length_toList] at h2; have h3 : (nm ++ (⟨#[40]⟩ : ByteArray)).data.size = (nm ++ (⟨#[40]⟩ : ByteArray)).size := rfl; omega)
 have c1 : nm.size + 1 ≤ 9223372036854775807 := by omega
 have c1f : (9223372036854775807 < nm.size + 1) = False := eq_false (Nat.not_lt.2 c1)
 clear h ih ht hlen hU0 hnm har hl
 have hu50 := Tryz.underlying50
 go_enter Tryz.func77, Tryz.ntmps77
 go_upto_region 1 with ((with_reducible refine gD 3 rfl ?_); refine bX 3 #[.int .i64 k0, .int .i64 vk, .int .i64 vn, .int .i64 vd, .string vt, .bool vb, .int .i64 ve, .int .i64 op, .string nm, .int .i64 ar, .string s5, .int .i64 r5, .int .i64 c5, .bool p5, .bool q5, .string s6, .int .i64 r6, .int .i64 c6, .bool p6, .bool q6] 50 ?_; intro g3 hg_ w1 hb_ hl_; have NE := lh (show g3 ≠ g by have := HLT.out; omega); have HP1 := lh (HP.out.step HB.out hl_); have J := lh hb_; clear hb_ hl_ hg_ HP)
 have e8 : w1.cell? ⟨g3, 8, none⟩ = some (.string nm) := (Naa J.out 8).trans rfl
 have HSZ := lh (show w0.heap.size ≤ w1.drew.heap.size from Nat.le_trans HB.out HP1.out.bel.size)
 refine sP (n := 7) (S := fun w' => w'.cell? ⟨g3, 8, none⟩ = some (.string nm)) (ds := []) (e8) (fun hHeld => ?_)
 refine pP 0 5 ?_
 refine pP 1 6 ?_
 refine pP 2 7 ?_
 refine pP 3 8 ?_
 refine tP 4 9 hHeld ?_
 refine pP 5 10 ?_
 refine oP 6 (some 11) fun K hK => ?_
 refine gP 59 Tryz.func59 #[.pointer (some ⟨g, 0, none⟩), .string (nm ++ (⟨#[40]⟩ : ByteArray))] ?_
 with_reducible refine (Nbb HP1.out.pr.drew (nm ++ (⟨#[40]⟩ : ByteArray)) HLS.out HSZ.out).mono ?_
 rintro en w2 ⟨rfl, hw⟩
 refine ⟨_, rfl, ?_⟩
 have HP2 := lh (HP1.out.drewn.trans hw)
 have J2 := lh (hw.far _ _ _ _ NE.out (by decide) (Nag J.out))
 clear hw
 refine hK.out _ _ ((Naa J2.out 8).trans rfl) (fun hHeld => ?_)
 clear hK K
 refine nP 11 ?_
 refine done_ (by kernel_rfl) ?_
 clear hHeld c1 c1f HSZ HLS e8 HP1 J
 have e9 : w2.cell? ⟨g3, 9, none⟩ = some (.int .i64 ar) := (Naa J2.out 9).trans rfl
 go_wp2_with (fail)
 clear e9
 have HST := lh (show (bs ++ txt [(3, nm), mk [40]]) ++ txt [] = bs ++ (nm ++ (⟨#[40]⟩ : ByteArray)).data.toList by rw [txt_open, Nd4, List.append_nil])
 generalize ((nm ++ (⟨#[40]⟩ : ByteArray)).size : Int) = sz
 go_loopg [14] k (fun jq v14 w' => ∃ (i b : Nat) (dn U : List Tk), v14 = .int .i64 i ∧ Hid (atkF L jq (decide (i = 0)) (ar - i) (l.drop b) = some (U, q)) ∧ Hid (dn ++ U = T) ∧ Hid (jq ≤ k) ∧ Hid (Wrote w0.heap.size w g ((bs ++ txt [(3, nm), mk [40]]) ++ txt dn) lv (b : Int) w') ∧ Hid (b ≤ l.length))
 case atStart => exact ⟨0, a, [], T, rfl, lh (by have h := HT.out; rw [show ar - ((0 : Nat) : Int) = ar by omega]; exact h), lh rfl, lh (Nat.le_refl _), lh (by rw [HST.out]; exact HP2.out), lh hal⟩
 case round =>
  clear HP2 HST J2 hHeld
  obtain ⟨i, b, dn, U, rfl, HR, HU, HK, HW, HI⟩ := hrel
  obtain ⟨j, hj⟩ : ∃ j, gk = j + 1 := by
   rcases gk with _ | j
   ·have h := HR.out; rw [atkF] at h; cases h
   ·exact ⟨j, rfl⟩
  subst hj
  have hr := HR.out
  rw [atkF] at hr
  by_cases hm : ar - (i : Int) ≤ 0
  ·rw [if_pos hm] at hr
   obtain ⟨rfl, rfl⟩ := Prod.mk.inj (Option.some.inj hr)
   have b15 : decide ((i : Int) < ar) = false := decide_eq_false (by omega)
   have HL9 := lh (show ((bs ++ txt [(3, nm), mk [40]]) ++ txt dn).length + 1 ≤ 140737488355328 by have h := HLEN.out; have h2 := HU.out; rw [List.append_nil] at h2; rw [h2]; omega)
   have HDR := lh (show (l.length : Int) - (l.drop b).length = b by have := HI.out; rw [List.length_drop]; omega)
   clear hr hm HR
   go_upto_region 9 with (fail)
   go_wp2_with (go_at_call 58; (with_reducible refine (Nc3 HW.out.pr 41 (n := 41) rfl HL9.out (Nat.le_trans HB.out HW.out.bel.size)).mono ?_); rintro en w3 ⟨rfl, hw⟩; have HW3 := lh (HW.out.trans hw); clear hw)
   go_end0
   refine ⟨rfl, ?_⟩
   have h := HW3.out
   have h2 := HU.out
   rw [List.append_nil] at h2
   rw [HU0.out, HDR.out, ← h2, ← List.append_assoc, ← List.append_assoc]
   exact h
  ·rw [if_neg hm] at hr
   obtain ⟨⟨V1, q1⟩, hV1, hE1⟩ := Option.bind_eq_some_iff.1 hr
   obtain ⟨⟨V2, q2⟩, hV2, hE2⟩ := Option.map_eq_some_iff.1 hE1
   obtain ⟨rfl, rfl⟩ := Prod.mk.inj hE2
   have b15 : decide ((i : Int) < ar) = true := decide_eq_true (by omega)
   obtain ⟨p1, -, hp1⟩ := (tk_suf L j).1 _ _ _ _ hV1
   obtain ⟨hq1, hq2, hq3⟩ := drop_suf hp1
   have HQ2 := lh hq2
   have HV1 := lh hV1
   have HV2 := lh (show atkF L j false (ar - ((i + 1 : Nat) : Int)) (l.drop (l.length - q1.length)) = some (V2, q2) by rw [hq3, show ar - ((i + 1 : Nat) : Int) = ar - i - 1 by omega]; exact hV2)
   have hw1 : wrap64 ((i : Int) + 1) = (i : Int) + 1 := by have := HAR.out; unfold wrap64; omega
   have HJ := lh (HIH.out j (by have := HK.out; omega))
   clear hr hE1 hE2 hV1 hV2 hp1 hq1 hq2 hq3 hm HR
   by_cases hi : i = 0
   ·have hd : decide (i = 0) = true := decide_eq_true hi
    have b18 : decide (0 < i) = false := decide_eq_false (by omega)
    have HDD := lh (show dn ++ (V1 ++ V2) = T by have h2 := HU.out; rw [hd, if_pos rfl] at h2; exact h2)
    have HL9 := lh (show ((bs ++ txt [(3, nm), mk [40]]) ++ txt dn ++ txt V1).length ≤ 1000000000 by have h := HLEN.out; rw [← HDD.out] at h; simp only [Nb6, List.length_append] at h ⊢; omega)
    clear hd hi HU
    go_wp2_with (fail)
    refine (HJ.out 1 _ g _ b V1 q1 ⟨HW.out.pr, HPB.out.trans HW.out.bel⟩ HV1.out HL9.out).mono ?_
    rintro en w4 ⟨rfl, hw⟩
    have HW4 := lh (HW.out.trans hw)
    clear hw
    go_wp2
    go_roundg j
    case measure => omega
    case rel => exact ⟨i + 1, l.length - q1.length, dn ++ V1, V2, by first | rw [hw1]; rfl | rfl, lh (by have h := HV2.out; rw [show decide (i + 1 = 0) = false from decide_eq_false (by omega)]; exact h), lh (by rw [← HDD.out, List.append_assoc]), lh (by have := HK.out; omega), lh (by rw [HQ2.out, Nb6, ← List.append_assoc]; exact HW4.out), lh (by omega)⟩
   ·have hd : decide (i = 0) = false := decide_eq_false hi
    have b18 : decide (0 < i) = true := decide_eq_true (by omega)
    have HL9 := lh (show ((bs ++ txt [(3, nm), mk [40]]) ++ txt dn ++ [44] ++ txt V1).length ≤ 1000000000 by have h := HLEN.out; have h2 := HU.out; rw [← h2, hd, if_neg (by simp)] at h; simp only [Nb6, Ncf, tk5, tk3, mk, mB, List.length_append, List.length_cons, List.length_nil] at h ⊢; omega)
    have HDD := lh (show dn ++ (mk [44] :: V1 ++ V2) = T by have h2 := HU.out; rw [hd, if_neg (by simp)] at h2; exact h2)
    have HTX := lh (show txt (dn ++ mk [44] :: V1) = txt dn ++ [44] ++ txt V1 by rw [Nb6, Ncf]; simp [mk, mB, tk5])
    have HI0 := lh hi
    clear hd hi HU
    go_wp2_with ((go_at_call 58; (with_reducible refine (Nc3 HW.out.pr 44 (n := 44) rfl (by have h := HL9.out; simp only [List.length_append, List.length_cons, List.length_nil] at h ⊢; omega) (Nat.le_trans HB.out HW.out.bel.size)).mono ?_); rintro en w3 ⟨rfl, hw⟩; have HW3 := lh (HW.out.trans hw); clear hw))
    refine (HJ.out 1 _ g _ b V1 q1 ⟨HW3.out.pr, HPB.out.trans HW3.out.bel⟩ HV1.out HL9.out).mono ?_
    rintro en w4 ⟨rfl, hw⟩
    have HW4 := lh (HW3.out.trans hw)
    clear hw
    go_wp2
    go_roundg j
    case measure => omega
    case rel => exact ⟨i + 1, l.length - q1.length, dn ++ mk [44] :: V1, V2, by first | rw [hw1]; rfl | rfl, lh (by have h := HV2.out; rw [show decide (i + 1 = 0) = false from decide_eq_false (by omega)]; exact h), lh (by rw [← HDD.out]; simp), lh (by have := HK.out; omega), lh (by rw [HQ2.out, HTX.out, ← List.append_assoc, ← List.append_assoc]; exact HW4.out), lh (by omega)⟩
section
set_option maxHeartbeats 2000000
structure NodeW (n : S50) : Prop where
 op : n.f0 = 5 → Neg n.f2 = Nct n.f2
 nm : n.f3.size ≤ 100000
 ar : n.f4 ≤ 100000
 kd : n.f0 ≠ 1 → n.f0 ≠ 2 → n.f0 ≠ 3 → n.f0 ≠ 6 → n.f0 ≠ 5 → n.f0 = 4
theorem prints_all {w0 : World} {A : Option Addr} {c : Nat} {l : List S50} {L : Lf} (hC : Kd.C k50 w0 A l.length l) (hl : l.length ≤ 100000) (lf : ∀ n ∈ l, LeafW w0 (.slice A l.length c) L n) (nw : ∀ n ∈ l, NodeW n) : ∀ k, Prints w0 (.slice A l.length c) L l k := by
 intro k
 induction k using Nat.strongRecOn with
 | _ k ih =>
  cases k with
  | zero => intro least w g bs a T q hp ht hlen; rw [tkF] at ht; cases ht
  | succ k =>
   intro least w g bs a T q hp ht hlen
   have hal : a < l.length := by
    refine Nat.lt_of_not_le fun h => ?_
    rw [List.drop_eq_nil_of_le h, tkF] at ht
    cases ht
   have hx := List.drop_eq_getElem_cons hal
   obtain ⟨ad, cs, rfl, hcl, hK, hcell⟩ := Kd.C_get (Kd.C_below hC hp.bel) z50 (a : Int) (by omega) (by omega)
   rw [show l.getD ((a : Int)).toNat z50 = l[a] by simp [List.getD, hal]] at hK
   have hm : l[a] ∈ l := List.getElem_mem hal
   have h1 := lf _ hm
   have h2 := nw _ hm
   obtain rfl := Neh hK
   rw [hx] at ht
   generalize l[a] = x at *
   obtain ⟨k0, ⟨vk, ⟨vn, vd⟩, vt, vb, ve⟩, op, nm, ar, ⟨s5, r5, c5, p5, q5⟩, ⟨s6, r6, c6, p6, q6⟩⟩ := x
   exact node_one hp hal hl (ih k (Nat.lt_succ_self k)) (call_one (fun j hj => ih j (by omega)) hl) h1 h2.op h2.nm h2.ar h2.kd (fun j v hv => by rw [add_add]; exact hcell j v hv) ht hlen
theorem print_err {k : Nat} {A : Option Addr} {c : Nat} {l : List S50} {w : World} (hC : Kd.C k50 w A l.length l) (hc : l.length ≤ c) {e : Int} (hcc : Na0.f k l = some e) (he : e ≠ 0) :
 Calls Tryz.prog 26 #[.slice A l.length c] w fun en w' => en = .returned (.tuple #[.string ⟨#[]⟩, .int .i64 e]) ∧ Below w.heap.size w w' := by
 have HC := lh (Na0.calls k A c l e w hC hc hcc)
 have b2 : (e != 0) = true := bne_iff_ne.mpr he
 clear hC hcc hc he
 go_enter Tryz.func26, Tryz.ntmps26
 go_wp2_with (go_at_call 28; (with_reducible refine (HC.out).mono ?_); rintro en w1 ⟨rfl, hb⟩; have HB := lh hb; clear hb)
 go_ret2
 exact ⟨rfl, HB.out⟩
theorem print_ok {k k2 : Nat} {A : Option Addr} {c : Nat} {l : List S50} {w : World} (hG : GL w) (hC : Kd.C k50 w A l.length l) (hc : l.length ≤ c) (hl : l.length ≤ 100000) (hcc : Na0.f k l = some 0) {L : Lf} {T : List Tk}
 (lf : ∀ w0, GL w0 → ∀ n ∈ l, LeafW w0 (.slice A l.length c) L n) (nw : ∀ n ∈ l, NodeW n) (ht : tkF L k2 1 l = some (T, [])) (hlen : (txt T).length ≤ 1000000000) (hne : txt T ≠ []) :
 Calls Tryz.prog 26 #[.slice A l.length c] w fun en w' => en = .returned (.tuple #[.string ⟨(txt T).toArray⟩, .int .i64 0]) ∧ Below w.heap.size w w' := by
 have HC := lh (Na0.calls k A c l 0 w hC hc hcc)
 have HK := lh hC
 have HG := lh hG
 have HLF := lh lf
 have HNW := lh nw
 have HT := lh ht
 have HLEN := lh hlen
 have HL := lh hl
 have HNE := lh hne
 clear hC hcc hc hG lf nw ht hlen hl hne
 go_enter Tryz.func26, Tryz.ntmps26
 go_upto_region 5 with (first
  | (go_at_call 28; (with_reducible refine (HC.out).mono ?_); rintro en w1 ⟨rfl, hb⟩; have HB := lh hb; clear hb)
  | ((with_reducible refine gD 13 rfl ?_); refine bX 13 #[.pointer none, .slice none 0 0, .slice A l.length c, .int .i64 0] 87 ?_; intro g hg_ w2 hb_ hl_; have ZG := lh (show w1.heap.size ≤ g from hg_ ▸ Nat.le_refl _); have HB2 := lh hl_; have J := lh hb_; clear hb_ hl_ hg_))
 have HPR := lh (show Pr w1 (.slice A l.length c) w2 g [] ((0 : Nat) : Int) from ⟨⟨ZG.out, .pointer none, .slice none 0 0, .inl rfl, J.out, own_nil _ _ _ _, by simp [Value.ownBlock]⟩, HB2.out⟩)
 have HN := lh (prints_all (Kd.C_below HK.out HB.out) HL.out (HLF.out w1 (HG.out.below HB.out)) HNW.out k2 1 w2 g [] 0 T [] HPR.out (by rw [List.drop_zero]; exact HT.out) (by rw [List.nil_append]; exact HLEN.out))
 go_upto_region 6 with (go_at_call 50; (with_reducible refine (HN.out).mono ?_); rintro en w3 ⟨rfl, hw⟩; have HW := lh hw; clear hw)
 have HS := lh (string_some (l := txt T) (by have h := HW.out.pr; rw [List.nil_append] at h; exact h) HNE.out)
 have HBB := lh (Nac HB.out (HB2.out.trans (HW.out.bel.mono (by omega))))
 go_wp2_with (go_at_call 51; (with_reducible refine (HS.out).mono ?_); rintro en w4 ⟨rfl, hb⟩; have HB4 := lh hb; clear hb)
 go_ret2
 refine ⟨rfl, ?_⟩
 exact HBB.out.trans (HB4.out.mono (by have := HB.out.size; omega))
end
def decB (n : Int) : ByteArray := ⟨(Lib.decDigits n.toNat).toArray⟩
theorem itoa_dig {n : Int} (h : 0 ≤ n) : (⟨(Lib.itoa n).toArray⟩ : ByteArray) = decB n := by
 unfold Lib.itoa decB; rw [if_neg (by omega)]
def isDig (c : UInt8) : Prop := 48 ≤ c.toNat ∧ c.toNat ≤ 57
def Ncg (a : Nat) (l : List UInt8) : Nat := l.foldl (fun a c => a * 10 + (c.toNat - 48)) a
theorem Nd2 (a : Nat) : Ncg a [] = a := by unfold Ncg; exact List.foldl_nil
theorem Ndb (a : Nat) (c : UInt8) (l : List UInt8) : Ncg a (c :: l) = Ncg (a * 10 + (c.toNat - 48)) l := by unfold Ncg; exact List.foldl_cons ..
theorem decVal_ge : ∀ (l : List UInt8) (a : Nat), a ≤ Ncg a l := by
 intro l
 induction l with
 | nil => intro a; rw [Nd2]; exact Nat.le_refl _
 | cons c l ih =>
  intro a
  rw [Ndb]
  have := ih (a * 10 + (c.toNat - 48))
  omega
theorem decVal_snoc (d : UInt8) : ∀ (l : List UInt8) (a : Nat), Ncg a (l ++ [d]) = Ncg a l * 10 + (d.toNat - 48) := by
 intro l
 induction l with
 | nil => intro a; rw [List.nil_append, Ndb, Nd2, Nd2]
 | cons c l ih => intro a; rw [List.cons_append, Ndb, Ndb]; exact ih _
theorem decVal_lt : ∀ (l : List UInt8) (a : Nat), (∀ c ∈ l, isDig c) → Ncg a l < (a + 1) * 10 ^ l.length := by
 intro l
 induction l with
 | nil => intro a _; rw [Nd2, List.length_nil]; omega
 | cons c l ih =>
  intro a h
  rw [Ndb, List.length_cons]
  have hc := h c (List.mem_cons_self ..)
  refine Nat.lt_of_lt_of_le (ih (a * 10 + (c.toNat - 48)) (fun d hd => h d (List.mem_cons_of_mem _ hd))) ?_
  rw [Nat.pow_succ, Nat.mul_comm (10 ^ l.length) 10, ← Nat.mul_assoc]
  refine Nat.mul_le_mul_right _ ?_
  unfold isDig at hc
  omega
def canon (l : List UInt8) : Prop := (∀ c ∈ l, isDig c) ∧ ∃ c r, l = c :: r ∧ c.toNat ≠ 48
theorem dig_toNat {i : Nat} (h : i < 10) : (UInt8.ofNat (48 + i)).toNat = 48 + i := by
 rw [UInt8.toNat_ofNat']; omega
theorem dec_canon : ∀ (u : Nat), (∀ c ∈ Lib.decDigits u, isDig c) ∧ Ncg 0 (Lib.decDigits u) = u ∧ (0 < u → canon (Lib.decDigits u)) := by
 intro u
 induction u using Nat.strongRecOn with
 | _ u ih =>
  unfold Lib.decDigits
  split
  ·rename_i h
   have e := dig_toNat h
   have d : ∀ c ∈ [UInt8.ofNat (48 + u)], isDig c := by
    intro c hc
    rw [List.mem_singleton] at hc
    subst hc
    unfold isDig
    omega
   refine ⟨d, ?_, fun hu => ⟨d, _, _, rfl, by omega⟩⟩
   rw [Ndb, Nd2]
   omega
  ·rename_i h
   obtain ⟨d, v, c⟩ := ih (u / 10) (by omega)
   have e := dig_toNat (i := u % 10) (by omega)
   have d' : ∀ c ∈ Lib.decDigits (u / 10) ++ [UInt8.ofNat (48 + u % 10)], isDig c := by
    intro x hx
    rcases List.mem_append.mp hx with hx | hx
    ·exact d x hx
    ·rw [List.mem_singleton] at hx
     subst hx
     unfold isDig
     omega
   refine ⟨d', ?_, fun hu => ⟨d', ?_⟩⟩
   ·rw [decVal_snoc, v, e]; omega
   ·obtain ⟨_, x, r, hx, hn⟩ := c (by omega)
    exact ⟨x, r ++ [UInt8.ofNat (48 + u % 10)], by rw [hx]; rfl, hn⟩
theorem bt0 (a : UInt8) (l : List UInt8) : bt ⟨(a :: l).toArray⟩ 0 = (a.toNat : Int) := by
 unfold bt
 rw [dif_pos (show (0 : Int).toNat < (⟨(a :: l).toArray⟩ : ByteArray).size by show 0 < (a :: l).toArray.size; simp)]
 rfl
theorem drop_list (l : List UInt8) (n : Nat) : ((⟨l.toArray⟩ : ByteArray).extract n (⟨l.toArray⟩ : ByteArray).size).data.toList = l.drop n := by
 have e : (⟨l.toArray⟩ : ByteArray).size = l.length := by show l.toArray.size = _; simp
 rw [e, ByteArray.data_extract, Array.toList_extract, List.extract_eq_take_drop]
 simp only
 rw [List.take_of_length_le (by simp)]
theorem Nan (l : List UInt8) : (⟨l.toArray⟩ : ByteArray).size = l.length := by show l.toArray.size = _; simp
def colL (n : Int) : List UInt8 := if n < 26 then [UInt8.ofNat (65 + n).toNat] else [UInt8.ofNat (65 + n / 26 - 1).toNat, UInt8.ofNat (65 + n % 26).toNat]
theorem colB_list (n : Int) (h0 : 0 ≤ n) (h1 : n < 256) : colB n = ⟨(colL n).toArray⟩ := by
 unfold colB colL
 rw [if_neg (by omega), if_neg (by omega)]
 split <;> rfl
theorem nat8 {n : Nat} (h : n < 256) : (UInt8.ofNat n).toNat = n := by rw [UInt8.toNat_ofNat']; omega
theorem list_text (s : ByteArray) : s = ⟨s.data.toList.toArray⟩ := by cases s; rfl
theorem Net (l m : List UInt8) : (⟨l.toArray⟩ : ByteArray) ++ ⟨m.toArray⟩ = ⟨(l ++ m).toArray⟩ := by
 apply ByteArray.ext
 rw [ByteArray.data_append]
 simp
theorem ix_cons_eq (c : UInt8) (l : List UInt8) : Lib.index (c :: l) [c] = 0 := by
 rw [Lib.index, if_pos (by simp [List.isPrefixOf])]
theorem ix_cons_ne {b c : UInt8} (l : List UInt8) (h : b ≠ c) : Lib.index (b :: l) [c] = if Lib.index l [c] == -1 then -1 else Lib.index l [c] + 1 := by
 rw [Lib.index, if_neg (by simp [List.isPrefixOf, Ne.symm h])]
theorem Ney (c : UInt8) (new : List UInt8) : ∀ (s : List UInt8) (k : Nat), Lib.count s [c] ≤ k → Lib.replaceK [c] new k s = s.flatMap fun b => if b = c then new else [b]
 | [], k, _ => by
  cases k with
  | zero => rfl
  | succ k => rfl
 | b :: l, k, h => by
  by_cases hb : b = c
  ·subst hb
   rw [Lib.count_cons_eq] at h
   obtain ⟨k, rfl⟩ : ∃ k', k = k' + 1 := ⟨k - 1, by omega⟩
   rw [Lib.replaceK_hit _ _ _ _ 0 (ix_cons_eq _ _)]
   have ih := Ney b new l k (by omega)
   simp only [List.take_zero, List.nil_append, List.length_cons, List.length_nil, Nat.zero_add, List.drop_succ_cons, List.drop_zero, List.flatMap_cons, if_true]
   rw [ih]
  ·rw [Lib.count_cons_ne _ _ _ hb] at h
   have ih := Ney c new l k h
   simp only [List.flatMap_cons, if_neg hb, List.singleton_append]
   rw [← ih]
   cases k with
   | zero => rfl
   | succ k =>
    rcases Lib.index_spec l [c] with ⟨h1, _⟩ | ⟨i, h1, _⟩
    ·rw [Lib.replaceK, Lib.replaceK, ix_cons_ne l hb, h1]; rfl
    ·have h2 : Lib.index (b :: l) [c] = ((i + 1 : Nat) : Int) := by
      rw [ix_cons_ne l hb, h1, if_neg (by rw [beq_iff_eq]; omega)]; rfl
     rw [Lib.replaceK_hit _ _ _ _ _ h1, Lib.replaceK_hit _ _ _ _ _ h2]
     simp only [List.take_succ_cons, List.length_cons, List.length_nil, Nat.zero_add, List.cons_append]
     rw [show i + 1 + 1 = (i + 1) + 1 from rfl, List.drop_succ_cons]
def dblL (l : List UInt8) : List UInt8 := l.flatMap fun b => if b = 34 then [34, 34] else [b]
theorem Ne9 (l : List UInt8) : Lib.replaceAll l [34] [34, 34] = dblL l := by
 unfold Lib.replaceAll Lib.replace
 rw [if_neg (by decide), show Lib.replaceNum l [34] (-1) = Lib.count l [34] by unfold Lib.replaceNum; rw [if_pos (by omega)]]
 exact Ney 34 [34, 34] l _ (Nat.le_refl _)
theorem dblL_len : ∀ l : List UInt8, (dblL l).length ≤ 2 * l.length
 | [] => Nat.le_refl _
 | b :: l => by
  have ih := dblL_len l
  unfold dblL at ih ⊢
  rw [List.flatMap_cons, List.length_append, List.length_cons]
  split <;> simp only [List.length_cons, List.length_nil] <;> omega
theorem dec_le : ∀ (n u : Nat), u < 10 ^ (n + 1) → (Lib.decDigits u).length ≤ n + 1
 | 0, u, h => by
  rw [Lib.decDigits, dif_pos (by simpa using h)]; simp
 | n + 1, u, h => by
  rw [Lib.decDigits]
  split
  ·simp
  ·have ih := dec_le n (u / 10) (by rw [Nat.div_lt_iff_lt_mul (by decide)]; rw [Nat.pow_succ] at h; exact h)
   rw [List.length_append, List.length_singleton]; omega
theorem colL_up {c : Int} (h0 : 0 ≤ c) (h1 : c < 256) : ∀ b ∈ colL c, 65 ≤ b.toNat ∧ b.toNat ≤ 90 := by
 intro b hb
 unfold colL at hb
 split at hb
 ·rw [List.mem_singleton] at hb
  rw [hb, nat8 (by omega)]; omega
 ·rcases List.mem_cons.1 hb with rfl | hb
  ·rw [nat8 (by omega)]; omega
  ·rw [List.mem_singleton] at hb
   rw [hb, nat8 (by omega)]; omega
theorem colL_len (c : Int) : 1 ≤ (colL c).length ∧ (colL c).length ≤ 2 := by unfold colL; split <;> simp
theorem nines {b : UInt8} : ([49, 50, 51, 52, 53, 54, 55, 56, 57] : List UInt8).contains b = true ↔ 49 ≤ b.toNat ∧ b.toNat ≤ 57 := by
 constructor
 ·intro h
  have hm := List.contains_iff_mem.1 h
  simp only [List.mem_cons, List.not_mem_nil, or_false] at hm
  rcases hm with rfl | rfl | rfl | rfl | rfl | rfl | rfl | rfl | rfl <;> decide
 ·intro h
  have hb : b = UInt8.ofNat b.toNat := by rw [UInt8.ofNat_toNat]
  rw [hb]
  obtain ⟨h1, h2⟩ := h
  generalize b.toNat = n at *
  have : n = 49 ∨ n = 50 ∨ n = 51 ∨ n = 52 ∨ n = 53 ∨ n = 54 ∨ n = 55 ∨ n = 56 ∨ n = 57 := by omega
  rcases this with rfl | rfl | rfl | rfl | rfl | rfl | rfl | rfl | rfl <;> decide
theorem ixany_skip (chars : List UInt8) : ∀ (l m : List UInt8), (∀ b ∈ l, chars.contains b = false) → Lib.indexAny m chars = 0 → Lib.indexAny (l ++ m) chars = (l.length : Int)
 | [], m, _, h => by simpa using h
 | b :: l, m, hl, h => by
  have ih := ixany_skip chars l m (fun x hx => hl x (List.mem_cons_of_mem _ hx)) h
  rw [List.cons_append, Lib.indexAny, if_neg (by rw [hl b (List.mem_cons_self ..)]; decide), ih, if_neg (by rw [beq_iff_eq]; omega), List.length_cons]
  rfl
def nameL (r c : Int) : List UInt8 := colL c ++ Lib.decDigits (r + 1).toNat
theorem name_index {r c : Int} (h0 : 0 ≤ r) (h1 : r < 65536) (h2 : 0 ≤ c) (h3 : c < 256) : Lib.indexAny (nameL r c) [49, 50, 51, 52, 53, 54, 55, 56, 57] = ((colL c).length : Int) := by
 refine ixany_skip _ _ _ (fun b hb => ?_) ?_
 ·have := colL_up h2 h3 b hb
  rw [Bool.eq_false_iff]
  intro h
  have := nines.1 h
  omega
 ·obtain ⟨d, _, cn⟩ := dec_canon (r + 1).toNat
  obtain ⟨_, x, l, hx, hn⟩ := cn (by omega)
  have hd := d x (by rw [hx]; exact List.mem_cons_self ..)
  unfold isDig at hd
  rw [hx, Lib.indexAny, if_pos (nines.2 (by omega))]
theorem name_ascii {r c : Int} (h0 : 0 ≤ r) (h1 : r < 65536) (h2 : 0 ≤ c) (h3 : c < 256) : ∀ b ∈ nameL r c, b.toNat < 128 := by
 intro b hb
 rcases List.mem_append.1 hb with hb | hb
 ·have := colL_up h2 h3 b hb; omega
 ·have := (dec_canon (r + 1).toNat).1 b hb
  unfold isDig at this
  omega
theorem name_len {r c : Int} (h0 : 0 ≤ r) (h1 : r < 65536) : (nameL r c).length ≤ 8 := by
 have := dec_le 4 (r + 1).toNat (by omega)
 have := colL_len c
 unfold nameL
 rw [List.length_append]; omega
theorem name_f {r c : Int} (h0 : 0 ≤ r) (h1 : r < 65536) (h2 : 0 ≤ c) (h3 : c < 256) : Nbc.f 0 r c = some ⟨(nameL r c).toArray⟩ := by
 have hw : wrap64 (r + 1) = r + 1 := by unfold wrap64; omega
 have hi : Na2.f (r + 1) = some (decB (r + 1)) := by
  unfold Na2.f
  rw [if_pos (by omega), itoa_dig (by omega)]
 unfold Nbc.f
 rw [Ner, hw, decide_eq_true ⟨h0, h1, h2, h3⟩]
 simp only [Option.bind_some, if_true, Ne1.f, hi]
 have hc := colL_len c
 have hd := dec_le 4 (r + 1).toNat (by omega)
 rw [colB_list c h2 h3]
 unfold decB
 rw [if_pos (by rw [Nan, Nan]; omega), Net]
 rfl
def numL (n d : Int) : List UInt8 :=
 Lib.decDigits (n / d).toNat ++ (if d = 1 then [] else 46 :: Lib.trimRightB ((Lib.decDigits (1000000 + n % d * (1000000 / d)).toNat).drop 1) 48)
theorem trimR_len (l : List UInt8) (c : UInt8) : (Lib.trimRightB l c).length ≤ l.length := by
 unfold Lib.trimRightB
 rw [List.length_reverse]
 have := (List.dropWhile_sublist (l := l.reverse) (fun x => x == c)).length_le
 rw [List.length_reverse] at this
 exact this
theorem num_len {n d : Int} (h0 : 0 ≤ n) (h1 : n ≤ 1000000000000) (h2 : 1 ≤ d) (h3 : d ≤ 1000000) : (numL n d).length ≤ 30 := by
 have hq : 0 ≤ n / d ∧ n / d ≤ n := ⟨Int.ediv_nonneg h0 (by omega), Int.ediv_le_self _ h0⟩
 have e1 := dec_le 12 (n / d).toNat (by omega)
 have hr : 0 ≤ n % d ∧ n % d < d := ⟨Int.emod_nonneg _ (by omega), Int.emod_lt_of_pos _ (by omega)⟩
 have hm : n % d * (1000000 / d) ≤ 1000000 := by
  have a1 : n % d * (1000000 / d) ≤ d * (1000000 / d) := Int.mul_le_mul_of_nonneg_right (by omega) (Int.ediv_nonneg (by omega) (by omega))
  have a2 : d * (1000000 / d) ≤ 1000000 := Int.mul_ediv_self_le (by omega)
  omega
 have hm0 : 0 ≤ n % d * (1000000 / d) := Int.mul_nonneg hr.1 (Int.ediv_nonneg (by omega) (by omega))
 have e2 := dec_le 7 (1000000 + n % d * (1000000 / d)).toNat (by omega)
 unfold numL
 rw [List.length_append]
 split
 ·simp only [List.length_nil]; omega
 ·have := trimR_len ((Lib.decDigits (1000000 + n % d * (1000000 / d)).toNat).drop 1) 48
  rw [List.length_drop] at this
  rw [List.length_cons]; omega
theorem itoa_f {n : Int} (h0 : 0 ≤ n) (h1 : n ≤ 9223372036854775807) : Na2.f n = some ⟨(Lib.decDigits n.toNat).toArray⟩ := by
 unfold Na2.f
 rw [if_pos (by omega), itoa_dig h0]; rfl
theorem trim_f {l : List UInt8} (h : l.length ≤ 1000000) : Nb8.f ⟨l.toArray⟩ ⟨#[48]⟩ = some ⟨(Lib.trimRightB l 48).toArray⟩ := by
 unfold Nb8.f
 rw [if_pos ⟨rfl, by decide, by rw [Nan]; omega⟩]; rfl
theorem dec_pos (u : Nat) : 1 ≤ (Lib.decDigits u).length := by
 rw [Lib.decDigits]; split <;> simp
theorem tail_list (l : List UInt8) : (⟨l.toArray⟩ : ByteArray).extract 1 (⟨l.toArray⟩ : ByteArray).size = ⟨(l.drop 1).toArray⟩ := by
 apply ByteArray.ext
 have := drop_list l 1
 exact Array.toList_inj.1 (by rw [this])
theorem num_text_f {n d : Int} (hR : numB n d = true) (h0 : 0 ≤ n) (hd : (1000000 : Int) % d = 0) {K : Nat} (hK : 1000003 ≤ K) : Nax.f K n d = some ⟨(numL n d).toArray⟩ := by
 have hb := hR
 unfold numB at hb
 obtain ⟨-, h1, h2, h3, -⟩ := of_decide_eq_true hb
 have hq : 0 ≤ n / d ∧ n / d ≤ n := ⟨Int.ediv_nonneg h0 (by omega), Int.ediv_le_self _ h0⟩
 have hr : 0 ≤ n % d ∧ n % d < d := ⟨Int.emod_nonneg _ (by omega), Int.emod_lt_of_pos _ (by omega)⟩
 have hm : n % d * (1000000 / d) ≤ 1000000 := by
  have a1 : n % d * (1000000 / d) ≤ d * (1000000 / d) := Int.mul_le_mul_of_nonneg_right (by omega) (Int.ediv_nonneg (by omega) (by omega))
  have a2 : d * (1000000 / d) ≤ 1000000 := Int.mul_ediv_self_le (by omega)
  omega
 have hm0 : 0 ≤ n % d * (1000000 / d) := Int.mul_nonneg hr.1 (Int.ediv_nonneg (by omega) (by omega))
 have hk : 0 ≤ 1000000 / d ∧ (1000000 / d : Int) ≤ 1000000 := ⟨Int.ediv_nonneg (by omega) (by omega), Int.ediv_le_self _ (by omega)⟩
 have e1 := dec_le 12 (n / d).toNat (by omega)
 have e2 := dec_le 7 (1000000 + n % d * (1000000 / d)).toNat (by omega)
 have e3 := dec_pos (1000000 + n % d * (1000000 / d)).toNat
 obtain ⟨K, rfl⟩ : ∃ K', K = K' + 1 := ⟨K - 1, by omega⟩
 have hs : Nb0.f n = some n := by
  unfold Nb0.f
  rw [if_neg (by omega)]
  congr 1
  simp [IntKind.wrap, IntKind.bits]
  omega
 have w1 : wrap64 n = n := by unfold wrap64; omega
 have w2 : wrap64 (n / d) = n / d := by unfold wrap64; omega
 have w3 : wrap64 (1000000 / d : Int) = 1000000 / d := by unfold wrap64; omega
 have w4 : wrap64 (n % d * (1000000 / d)) = n % d * (1000000 / d) := by unfold wrap64; omega
 have w5 : wrap64 (1000000 + n % d * (1000000 / d)) = 1000000 + n % d * (1000000 / d) := by unfold wrap64; omega
 have t1 : Int.tdiv n d = n / d := Int.tdiv_eq_ediv_of_nonneg h0
 have t2 : Int.tmod n d = n % d := Int.tmod_eq_emod_of_nonneg h0
 unfold Nax.f Nem.f
 rw [Nfd n d _ (by omega), hR]
 simp only [Option.bind_some, if_true]
 rw [hs]
 simp only [Option.bind_some]
 rw [if_neg (by omega), w1, Nax.j0, if_neg (by omega), if_pos hd, t1, t2, w2, w3, w4, w5, itoa_f hq.1 (by omega)]
 simp only [Option.bind_some]
 have z0 : (⟨#[]⟩ : ByteArray) ++ ⟨(Lib.decDigits (n / d).toNat).toArray⟩ = ⟨(Lib.decDigits (n / d).toNat).toArray⟩ := by
  rw [show (⟨#[]⟩ : ByteArray) = ⟨([] : List UInt8).toArray⟩ from rfl, Net]; rfl
 have z1 : (⟨#[]⟩ : ByteArray).size = 0 := rfl
 rw [z0, z1, Nan, if_pos (by omega)]
 unfold numL
 by_cases hd1 : d = 1
 ·rw [if_pos hd1, if_pos hd1, List.append_nil]
 ·rw [if_neg hd1, if_neg hd1, itoa_f (by omega) (by omega)]
  simp only [Option.bind_some]
  rw [if_pos (by omega), Nan, if_pos (by omega), ← Nan, tail_list, trim_f (by rw [List.length_drop]; omega)]
  simp only [Option.bind_some]
  have e4 := trimR_len ((Lib.decDigits (1000000 + n % d * (1000000 / d)).toNat).drop 1) 48
  rw [List.length_drop] at e4
  rw [show (⟨#[46]⟩ : ByteArray) = ⟨([46] : List UInt8).toArray⟩ from rfl, Net, Nan, Nan, if_pos (by simp only [List.length_append, List.length_singleton]; omega), Net]
  simp
end Go.Proofs.YtejbbceidnaloaaGreatDoor.P
