import Derived.Test.YtejbbceidnaloaaGreatDoorB25
set_option linter.unusedVariables false
set_option linter.unusedSimpArgs false
set_option maxRecDepth 100000
set_option maxHeartbeats 8000000
namespace Go.Proofs.YtejbbceidnaloaaGreatDoor.P
open Go.RowKit AW AL AM
section
set_option maxHeartbeats 2000000
theorem sz34 : (⟨#[34]⟩ : ByteArray).size = 1 := rfl
theorem literal_text {w0 : World} {g : Nat} {w : World} {bs : List UInt8} {lv : Value} {a : Int} (h : IsPr w0.heap.size w g bs lv a) (hB : Below w0.heap.size w0 w) (hG : GL w0) {kd n d e : Int} {tx : ByteArray} {b : Bool} {rt : ByteArray} (hr : Nav.f tx ⟨#[34]⟩ ⟨#[34, 34]⟩ = some rt) (hrs : rt.size ≤ 1000000) (hlen : bs.length ≤ 1000000000) :
 Calls Tryz.prog 75 #[.pointer (some ⟨g, 0, none⟩), .agg #[.int .i64 2, .int .i64 n, .int .i64 d, .string tx, .bool b, .int .i64 e]] w fun e w' => e = .returned (.tuple #[]) ∧ Wrote w0.heap.size w g (bs ++ ((⟨#[34]⟩ : ByteArray) ++ rt ++ (⟨#[34]⟩ : ByteArray) : ByteArray).data.toList) lv a w' := by
 have hu46 := Tryz.underlying46
 have HP := lh (show Wrote w0.heap.size w g bs lv a w from ⟨h, Below.refl _ _, Far.refl _ _⟩)
 have HLT := lh h.lt
 have HW := lh hB
 have HB := lh hB.size
 have HL := lh hlen
 have HG := lh hG
 clear h hB hlen hG
 have HR := lh hr
 have c1 : 1 + rt.size ≤ 9223372036854775807 := by omega
 have c1f : (9223372036854775807 < 1 + rt.size) = False := eq_false (Nat.not_lt.2 c1)
 have c2 : 1 + rt.size + 1 ≤ 9223372036854775807 := by omega
 have c2f : (9223372036854775807 < 1 + rt.size + 1) = False := eq_false (Nat.not_lt.2 c2)
 have HRS := lh hrs
 clear hr hrs
 have HLEN := lh (show bs.length + ((⟨#[34]⟩ : ByteArray) ++ rt ++ (⟨#[34]⟩ : ByteArray) : ByteArray).size ≤ 140737488355328 by have := HL.out; have := HRS.out; simp only [ByteArray.size_append, sz34]; omega)
 go_enter Tryz.func75, Tryz.ntmps75
 go_upto_region 1 with ((with_reducible refine gD 3 rfl ?_); refine bX 3 #[.int .i64 2, .int .i64 n, .int .i64 d, .string tx, .bool b, .int .i64 e] 46 ?_; intro g3 hg_ w1 hb_ hl_; have NE := lh (show g3 ≠ g by have := HLT.out; omega); replace HP := lh (HP.out.step HB.out hl_); have J := lh hb_; clear hb_ hl_ hg_)
 have e0 : w1.cell? ⟨g3, 0, none⟩ = some (.int .i64 2) := (Naa J.out 0).trans rfl
 have e1 : w1.cell? ⟨g3, 1, none⟩ = some (.int .i64 n) := (Naa J.out 1).trans rfl
 have e2 : w1.cell? ⟨g3, 2, none⟩ = some (.int .i64 d) := (Naa J.out 2).trans rfl
 have e3 : w1.cell? ⟨g3, 3, none⟩ = some (.string tx) := (Naa J.out 3).trans rfl
 have e4 : w1.cell? ⟨g3, 4, none⟩ = some (.bool b) := (Naa J.out 4).trans rfl
 have e5 : w1.cell? ⟨g3, 5, none⟩ = some (.int .i64 e) := (Naa J.out 5).trans rfl
 go_upto_region 2 with (fail)
 refine sP (n := 9) (S := fun w' => w'.cell? ⟨g3, 3, none⟩ = some (.string tx)) (ds := []) (e3) (fun hHeld => ?_)
 refine pP 0 7 ?_
 refine pP 1 8 ?_
 refine pP 2 9 ?_
 refine pP 3 10 ?_
 refine tP 4 11 hHeld ?_
 refine oP 5 (some 12) fun K hK => ?_
 refine gP 60 Tryz.func60 #[.string tx, .string ⟨#[34]⟩, .string ⟨#[34, 34]⟩] ?_
 with_reducible refine (Nav.calls tx ⟨#[34]⟩ ⟨#[34, 34]⟩ rt _ (HG.out.below (HW.out.trans HP.out.bel.drew)) HR.out).mono ?_
 rintro en w2 ⟨rfl, hb⟩
 refine ⟨_, rfl, ?_⟩
 have HP2 := lh (HP.out.drewn.step HB.out hb)
 have J2 := lh (Nad (Nag J.out) hb)
 have HSZ := lh (show w0.heap.size ≤ w2.heap.size from Nat.le_trans HB.out HP2.out.bel.size)
 have hh2 := Nab hb hHeld
 clear HP
 have HP := HP2
 clear HP2 hb
 refine hK.out _ _ (hh2) (fun hHeld => ?_)
 clear hK K
 refine nP 12 ?_
 refine pP 6 13 ?_
 refine pP 7 14 ?_
 refine oP 8 (some 15) fun K hK => ?_
 refine gP 59 Tryz.func59 #[.pointer (some ⟨g, 0, none⟩), .string ((⟨#[34]⟩ : ByteArray) ++ rt ++ (⟨#[34]⟩ : ByteArray))] ?_
 with_reducible refine (Na4 HP.out.pr ((⟨#[34]⟩ : ByteArray) ++ rt ++ (⟨#[34]⟩ : ByteArray)) HLEN.out HSZ.out).mono ?_
 rintro en w3 ⟨rfl, hw⟩
 refine ⟨_, rfl, ?_⟩
 have HQ := lh (HP.out.trans hw)
 have hh3 : w3.cell? ⟨g3, 3, none⟩ = some (.string tx) := (Naa (hw.far _ _ _ _ NE.out (by decide) J2.out) 3).trans rfl
 clear hw
 refine hK.out _ _ (hh3) (fun hHeld => ?_)
 clear hK K
 refine nP 15 ?_
 refine done_ (by kernel_rfl) ?_
 go_wp2
 (try simp only [Exit.inBlock, Exit.then])
 refine bodyPost_ret (results_none rfl _ _ _) rfl ?_
 exact ⟨rfl, HQ.out⟩
theorem Ner {w0 : World} {g : Nat} {w : World} {bs : List UInt8} {lv : Value} {a : Int} (h : IsPr w0.heap.size w g bs lv a) (hB : Below w0.heap.size w0 w) (hG : GL w0) {kd n d e : Int} {tx : ByteArray} {b : Bool} {t : ByteArray} (hk : (kd == 2) = false) (hs : ∀ w, GL w → Calls Tryz.prog 117 #[.agg #[.int .i64 kd, .int .i64 n, .int .i64 d, .string tx, .bool b, .int .i64 e]] w fun en w' => en = .returned (.string t) ∧ Below w.heap.size w w') (hts : t.size ≤ 1000000) (hlen : bs.length ≤ 1000000000) :
 Calls Tryz.prog 75 #[.pointer (some ⟨g, 0, none⟩), .agg #[.int .i64 kd, .int .i64 n, .int .i64 d, .string tx, .bool b, .int .i64 e]] w fun e w' => e = .returned (.tuple #[]) ∧ Wrote w0.heap.size w g (bs ++ (t : ByteArray).data.toList) lv a w' := by
 have hu46 := Tryz.underlying46
 have HP := lh (show Wrote w0.heap.size w g bs lv a w from ⟨h, Below.refl _ _, Far.refl _ _⟩)
 have HLT := lh h.lt
 have HW := lh hB
 have HB := lh hB.size
 have HL := lh hlen
 have HG := lh hG
 clear h hB hlen hG
 have HS := lh hs
 have HLEN := lh (show bs.length + t.size ≤ 140737488355328 by have := HL.out; omega)
 clear hs hts
 go_enter Tryz.func75, Tryz.ntmps75
 go_upto_region 1 with ((with_reducible refine gD 3 rfl ?_); refine bX 3 #[.int .i64 kd, .int .i64 n, .int .i64 d, .string tx, .bool b, .int .i64 e] 46 ?_; intro g3 hg_ w1 hb_ hl_; have NE := lh (show g3 ≠ g by have := HLT.out; omega); replace HP := lh (HP.out.step HB.out hl_); have J := lh hb_; clear hb_ hl_ hg_)
 have e0 : w1.cell? ⟨g3, 0, none⟩ = some (.int .i64 kd) := (Naa J.out 0).trans rfl
 have e1 : w1.cell? ⟨g3, 1, none⟩ = some (.int .i64 n) := (Naa J.out 1).trans rfl
 have e2 : w1.cell? ⟨g3, 2, none⟩ = some (.int .i64 d) := (Naa J.out 2).trans rfl
 have e3 : w1.cell? ⟨g3, 3, none⟩ = some (.string tx) := (Naa J.out 3).trans rfl
 have e4 : w1.cell? ⟨g3, 4, none⟩ = some (.bool b) := (Naa J.out 4).trans rfl
 have e5 : w1.cell? ⟨g3, 5, none⟩ = some (.int .i64 e) := (Naa J.out 5).trans rfl
 go_upto_region 3 with (fail)
 refine sP (n := 6) (S := fun w' => w'.cell? ⟨g3, 0, none⟩ = some (.int .i64 kd) ∧ w'.cell? ⟨g3, 1, none⟩ = some (.int .i64 n) ∧ w'.cell? ⟨g3, 2, none⟩ = some (.int .i64 d) ∧ w'.cell? ⟨g3, 3, none⟩ = some (.string tx) ∧ w'.cell? ⟨g3, 4, none⟩ = some (.bool b) ∧ w'.cell? ⟨g3, 5, none⟩ = some (.int .i64 e)) (ds := []) ⟨e0, e1, e2, e3, e4, e5⟩ (fun hHeld => ?_)
 refine pP 0 16 ?_
 refine pP 1 17 ?_
 refine pP 2 18 ?_
 refine tP 3 19 hHeld ?_
 refine oP 4 (some 20) fun K hK => ?_
 refine gP 117 Tryz.func117 #[.agg #[.int .i64 kd, .int .i64 n, .int .i64 d, .string tx, .bool b, .int .i64 e]] ?_
 with_reducible refine (HS.out _ (HG.out.below (HW.out.trans HP.out.bel.drew))).mono ?_
 rintro en w2 ⟨rfl, hb⟩
 refine ⟨_, rfl, ?_⟩
 have HP2 := lh (HP.out.drewn.step HB.out hb)
 have J2 := lh (Nad (Nag J.out) hb)
 have HSZ := lh (show w0.heap.size ≤ w2.heap.size from Nat.le_trans HB.out HP2.out.bel.size)
 clear HP
 have HP := HP2
 clear HP2 hb
 refine hK.out _ _ (⟨(Naa J2.out 0).trans rfl, (Naa J2.out 1).trans rfl, (Naa J2.out 2).trans rfl, (Naa J2.out 3).trans rfl, (Naa J2.out 4).trans rfl, (Naa J2.out 5).trans rfl⟩) (fun hHeld => ?_)
 clear hK K
 refine nP 20 ?_
 refine oP 5 (some 21) fun K hK => ?_
 refine gP 59 Tryz.func59 #[.pointer (some ⟨g, 0, none⟩), .string (t)] ?_
 with_reducible refine (Na4 HP.out.pr (t) HLEN.out HSZ.out).mono ?_
 rintro en w3 ⟨rfl, hw⟩
 refine ⟨_, rfl, ?_⟩
 have HQ := lh (HP.out.trans hw)
 have J3 := lh (hw.far _ _ _ _ NE.out (by decide) J2.out)
 clear hw
 refine hK.out _ _ (⟨(Naa J3.out 0).trans rfl, (Naa J3.out 1).trans rfl, (Naa J3.out 2).trans rfl, (Naa J3.out 3).trans rfl, (Naa J3.out 4).trans rfl, (Naa J3.out 5).trans rfl⟩) (fun hHeld => ?_)
 clear hK K
 refine nP 21 ?_
 refine done_ (by kernel_rfl) ?_
 go_wp2
 go_end0
 exact ⟨rfl, HQ.out⟩
end
def Nco (t : Tk) : List UInt8 := if t.1 = 2 then ((⟨#[34]⟩ : ByteArray) ++ ⟨(Lib.replaceAll t.2.data.toList [34] [34, 34]).toArray⟩ ++ (⟨#[34]⟩ : ByteArray) : ByteArray).data.toList else t.2.data.toList
theorem tk5 (b : ByteArray) : Nco (5, b) = b.data.toList := rfl
theorem tk3 (b : ByteArray) : Nco (3, b) = b.data.toList := rfl
def txt (T : List Tk) : List UInt8 := T.flatMap Nco
theorem Nbr (T U : List Tk) : txt (T ++ U) = txt T ++ txt U := List.flatMap_append
theorem Nb0 (t : Tk) (U : List Tk) : txt (t :: U) = Nco t ++ txt U := rfl
theorem Ndu : txt [] = [] := rfl
structure Pr (w0 : World) (lv : Value) (w : World) (g : Nat) (bs : List UInt8) (a : Int) : Prop where
 pr : IsPr w0.heap.size w g bs lv a
 bel : Below w0.heap.size w0 w
def v46 (x : S46) : Value := .agg #[.int .i64 x.f0, .int .i64 x.f1.f0, .int .i64 x.f1.f1, .string x.f2, .bool x.f3, .int .i64 x.f4]
def v48 (x : S48) : Value := .agg #[.string x.f0, .int .i64 x.f1, .int .i64 x.f2, .bool x.f3, .bool x.f4]
structure LeafW (w0 : World) (lv : Value) (L : Lf) (n : S50) : Prop where
 lit : n.f0 = 1 → ∀ w g bs a, Pr w0 lv w g bs a → bs.length ≤ 1000000000 → Calls Tryz.prog 75 #[.pointer (some ⟨g, 0, none⟩), v46 n.f1] w fun e w' => e = .returned (.tuple #[]) ∧ Wrote w0.heap.size w g (bs ++ txt [L.val n.f1]) lv a w'
 one : n.f0 = 2 ∨ n.f0 = 3 → ∀ w g bs a, Pr w0 lv w g bs a → bs.length ≤ 1000000000 → Calls Tryz.prog 76 #[.pointer (some ⟨g, 0, none⟩), v48 n.f5] w fun e w' => e = .returned (.tuple #[]) ∧ Wrote w0.heap.size w g (bs ++ txt (refT L n.f5)) lv a w'
 two : n.f0 = 3 → ∀ w g bs a, Pr w0 lv w g bs a → bs.length ≤ 1000000000 → Calls Tryz.prog 76 #[.pointer (some ⟨g, 0, none⟩), v48 n.f6] w fun e w' => e = .returned (.tuple #[]) ∧ Wrote w0.heap.size w g (bs ++ txt [(3, L.cel n.f6)]) lv a w'
def Prints (w0 : World) (lv : Value) (L : Lf) (l : List S50) (k : Nat) : Prop :=
 ∀ (least : Int) (w : World) (g : Nat) (bs : List UInt8) (a : Nat) (T : List Tk) (q : List S50), Pr w0 lv w g bs a → tkF L k least (l.drop a) = some (T, q) → (bs ++ txt T).length ≤ 1000000000 →
  Calls Tryz.prog 50 #[.pointer (some ⟨g, 0, none⟩), .int .i64 least] w fun e w' => e = .returned (.tuple #[]) ∧ Wrote w0.heap.size w g (bs ++ txt T) lv ((l.length : Int) - q.length) w'
def PrintsC (w0 : World) (lv : Value) (L : Lf) (l : List S50) (k : Nat) : Prop :=
 ∀ (n : S50) (w : World) (g : Nat) (bs : List UInt8) (a : Nat) (T : List Tk) (q : List S50), n.f3.size ≤ 100000 → n.f4 ≤ 100000 → a ≤ l.length → Pr w0 lv w g bs a → atkF L k true n.f4 (l.drop a) = some (T, q) → (bs ++ txt ((3, n.f3) :: mk [40] :: (T ++ [mk [41]]))).length ≤ 1000000000 →
  Calls Tryz.prog 77 #[.pointer (some ⟨g, 0, none⟩), v50 n] w fun e w' => e = .returned (.tuple #[]) ∧ Wrote w0.heap.size w g (bs ++ txt ((3, n.f3) :: mk [40] :: (T ++ [mk [41]]))) lv ((l.length : Int) - q.length) w'
theorem tk_suf (L : Lf) : ∀ k, (∀ (least : Int) (l : List S50) (T : List Tk) (q : List S50), tkF L k least l = some (T, q) → ∃ p, p ≠ [] ∧ l = p ++ q) ∧ (∀ (first : Bool) (m : Int) (l : List S50) (T : List Tk) (q : List S50), atkF L k first m l = some (T, q) → ∃ p, l = p ++ q) := by
 intro k
 induction k with
 | zero => 
  refine ⟨?_, ?_⟩
  ·intro _ _ _ _ h
   rw [tkF] at h
   cases h
  ·intro _ _ _ _ _ h
   rw [atkF] at h
   cases h
 | succ k ih =>
  obtain ⟨ih1, ih2⟩ := ih
  refine ⟨?_, ?_⟩
  ·intro least l T q h
   cases l with
   | nil => rw [tkF] at h; cases h
   | cons n r =>
    rw [tkF] at h
    obtain ⟨⟨U, q'⟩, h1, h2⟩ := Option.map_eq_some_iff.1 h
    simp only [Prod.mk.injEq] at h2
    obtain ⟨-, rfl⟩ := h2
    suffices hs : ∃ p, r = p ++ q' by
     obtain ⟨p, rfl⟩ := hs
     exact ⟨n :: p, by simp, rfl⟩
    split at h1
    ·cases h1; exact ⟨[], rfl⟩
    split at h1
    ·cases h1; exact ⟨[], rfl⟩
    split at h1
    ·cases h1; exact ⟨[], rfl⟩
    split at h1
    ·obtain ⟨⟨V, q2⟩, h3, h4⟩ := Option.map_eq_some_iff.1 h1
     cases h4
     exact ih2 _ _ _ _ _ h3
    split at h1
    ·obtain ⟨⟨V, q2⟩, h3, h4⟩ := Option.bind_eq_some_iff.1 h1
     obtain ⟨⟨V2, q3⟩, h5, h6⟩ := Option.map_eq_some_iff.1 h4
     cases h6
     obtain ⟨p1, -, rfl⟩ := ih1 _ _ _ _ h3
     obtain ⟨p2, -, rfl⟩ := ih1 _ _ _ _ h5
     exact ⟨p1 ++ p2, by simp⟩
    split at h1
    ·obtain ⟨⟨V, q2⟩, h3, h4⟩ := Option.map_eq_some_iff.1 h1
     cases h4
     obtain ⟨p1, -, rfl⟩ := ih1 _ _ _ _ h3
     exact ⟨p1, rfl⟩
    ·obtain ⟨⟨V, q2⟩, h3, h4⟩ := Option.map_eq_some_iff.1 h1
     cases h4
     obtain ⟨p1, -, rfl⟩ := ih1 _ _ _ _ h3
     exact ⟨p1, rfl⟩
  ·intro first m l T q h
   rw [atkF] at h
   split at h
   ·cases h; exact ⟨[], rfl⟩
   ·obtain ⟨⟨V, q2⟩, h3, h4⟩ := Option.bind_eq_some_iff.1 h
    obtain ⟨⟨V2, q3⟩, h5, h6⟩ := Option.map_eq_some_iff.1 h4
    cases h6
    obtain ⟨p1, -, rfl⟩ := ih1 _ _ _ _ h3
    obtain ⟨p2, rfl⟩ := ih2 _ _ _ _ _ h5
    exact ⟨p1 ++ p2, by simp⟩
theorem drop_suf {α : Type} {l p q : List α} {a : Nat} (h : l.drop a = p ++ q) : q.length ≤ l.length ∧ (((l.length - q.length : Nat) : Int)) = (l.length : Int) - q.length ∧ l.drop (l.length - q.length) = q := by
 have e : l = (l.take a ++ p) ++ q := by rw [List.append_assoc, ← h, List.take_append_drop]
 have hl : l.length = (l.take a ++ p).length + q.length := by rw [← List.length_append, ← e]
 refine ⟨by omega, by omega, ?_⟩
 have h2 : l.length - q.length = (l.take a ++ p).length := by omega
 generalize hs : l.take a ++ p = s at *
 rw [h2, e, List.drop_left]
end Go.Proofs.YtejbbceidnaloaaGreatDoor.P
