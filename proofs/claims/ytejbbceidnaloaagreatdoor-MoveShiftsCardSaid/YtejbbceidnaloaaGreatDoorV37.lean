import Derived.Test.YtejbbceidnaloaaGreatDoorV36
set_option linter.unusedVariables false
set_option linter.unusedSimpArgs false
set_option maxRecDepth 100000
set_option maxHeartbeats 8000000
namespace Go.Proofs.YtejbbceidnaloaaGreatDoor.P
open Go.RowKit AW AL AM
theorem Nee (b : ByteArray) : b.data.toList.length = b.size := Array.length_toList
theorem ite_p {α : Type} {P : Prop} [Decidable P] {a b : α} {p : α → Prop} (ha : p a) (hb : p b) : p (if P then a else b) := by split <;> assumption
theorem sign_len (o : Int) : 1 ≤ (signB o).size ∧ (signB o).size ≤ 2 := by
 have h : (fun b : ByteArray => 1 ≤ b.size ∧ b.size ≤ 2) (signB o) := by
  unfold signB
  repeat (refine ite_p (p := fun b : ByteArray => 1 ≤ b.size ∧ b.size ≤ 2) (by decide) ?_)
  decide
 exact h
theorem faults_pos (e : Int) (h1 : 1 ≤ e) (h8 : e ≤ 8) : 1 ≤ (Ncg.getD (e - 1).toNat ByteArray.empty).size := by
 have : e = 1 ∨ e = 2 ∨ e = 3 ∨ e = 4 ∨ e = 5 ∨ e = 6 ∨ e = 7 ∨ e = 8 := by omega
 rcases this with rfl | rfl | rfl | rfl | rfl | rfl | rfl | rfl <;> decide
theorem val_len {v : S46} (h : litB v = true) : 1 ≤ (Nen (valTk v)).length ∧ (Nen (valTk v)).length ≤ 600 := by
 rcases lit_cases h with ⟨h0, hN, h2, h3, h4, h5, h6⟩ | ⟨h0, h1, h2, h3, h4, h5, h6⟩ | ⟨h0, h1, h2, h3, h4⟩ | ⟨h0, h1, h2, h3, h4, h5, h6⟩
 ·have hb := hN
  unfold numB at hb
  obtain ⟨-, b1, b2, b3, -⟩ := of_decide_eq_true hb
  have hsz := num_len h5 b1 b2 b3
  have hp := dec_pos (v.f1.f0 / v.f1.f1).toNat
  have e : valTk v = (1, ⟨(numL v.f1.f0 v.f1.f1).toArray⟩) := by unfold valTk; rw [if_neg (by omega), if_neg (by omega), if_neg (by omega)]
  rw [e, tk_len _ (show ¬ (1 : Int) = 2 by decide)]
  show 1 ≤ (⟨(numL v.f1.f0 v.f1.f1).toArray⟩ : ByteArray).size ∧ (⟨(numL v.f1.f0 v.f1.f1).toArray⟩ : ByteArray).size ≤ 600
  rw [Nal]
  refine ⟨?_, by omega⟩
  unfold numL
  rw [List.length_append]; omega
 ·have e : valTk v = (2, v.f2) := by unfold valTk; rw [if_pos h0]
  rw [e]
  have e2 : Nen (2, v.f2) = ((⟨#[34]⟩ : ByteArray) ++ ⟨(dblL v.f2.data.toList).toArray⟩ ++ (⟨#[34]⟩ : ByteArray) : ByteArray).data.toList := by
   rw [← Nfd]; rfl
  rw [e2]
  have hl := dblL_len v.f2.data.toList
  rw [Nee] at hl
  have h34 : (⟨#[34]⟩ : ByteArray).size = 1 := rfl
  have hd : (⟨(dblL v.f2.data.toList).toArray⟩ : ByteArray).size = (dblL v.f2.data.toList).length := Nal _
  rw [Nee, ByteArray.size_append, ByteArray.size_append, h34]
  omega
 ·have e : valTk v = (3, if v.f3 then tTRUE else tFALSE) := by unfold valTk; rw [if_neg (by omega), if_neg (by omega), if_pos h0]
  rw [e, tk_len _ (show ¬ (3 : Int) = 2 by decide)]
  cases v.f3 <;> decide
 ·have e : valTk v = (4, Ncg.getD (v.f4 - 1).toNat ByteArray.empty) := by unfold valTk; rw [if_neg (by omega), if_pos h0]
  rw [e, tk_len _ (show ¬ (4 : Int) = 2 by decide)]
  have := faults_size v.f4 h5 h6
  have := faults_pos v.f4 h5 h6
  show 1 ≤ (Ncg.getD (v.f4 - 1).toNat ByteArray.empty).size ∧ (Ncg.getD (v.f4 - 1).toNat ByteArray.empty).size ≤ 600
  omega
theorem cel_len {r : S48} (h : refR r = true) : 1 ≤ (celL r).length ∧ (celL r).length ≤ 20 := by
 obtain ⟨-, h1, h2, h3, h4⟩ := Ne9 h
 have a := dec_le 4 (r.f1 + 1).toNat (by omega)
 have b := colL_len r.f2
 unfold celL
 simp only [List.length_append]
 cases r.f3 <;> cases r.f4 <;> simp <;> omega
theorem ref_len {r : S48} (h : refR r = true) : 1 ≤ (txt (refT theLf r)).length ∧ (txt (refT theLf r)).length ≤ 40 := by
 have hc := cel_len h
 have e : theLf.cel r = ⟨(celL r).toArray⟩ := rfl
 unfold refT
 by_cases h0 : r.f0 = eB
 ·rw [if_pos h0, txt_one, e, tk3]
  rw [Nee, Nal]; omega
 ·have hs := (Ne9 h).1.resolve_left h0
  have hz := sheet_size hs
  rw [if_neg h0, Ncj, Ncj, txt_one, e, tk3, tk3]
  simp only [List.length_append, Nee, Nal]
  have : (Nen (mk [33])).length = 1 := rfl
  omega
theorem bra_txt (b : Bool) (T : List Tk) : (txt T).length ≤ (txt (bra b T)).length ∧ (txt (bra b T)).length ≤ (txt T).length + 2 := by
 rw [txt_bra]
 cases b <;> simp <;> omega
theorem txt_mk (l : List UInt8) (U : List Tk) : (txt (mk l :: U)).length = l.length + (txt U).length := by
 rw [Ncj, List.length_append]
 have : (Nen (mk l)).length = l.length := by
  show (Nen (5, mB l)).length = _
  rw [tk5, Nee]
  exact Nal l
 rw [this]
theorem txt_sg (b : ByteArray) (U : List Tk) : (txt ((5, b) :: U)).length = b.size + (txt U).length := by
 rw [Ncj, List.length_append, tk5, Nee]
theorem txt_wd (b : ByteArray) (U : List Tk) : (txt ((3, b) :: U)).length = b.size + (txt U).length := by
 rw [Ncj, List.length_append, tk3, Nee]
theorem txt_app (T U : List Tk) : (txt (T ++ U)).length = (txt T).length + (txt U).length := by rw [Nca, List.length_append]
theorem txt_le : ∀ k : Nat,
 (∀ (least : Int) (l : List S50) (T : List Tk) (q : List S50), (∀ n ∈ l, 0 ≤ Naq n) → tkF theLf k least l = some (T, q) → 1 ≤ (txt T).length ∧ (txt T).length + 1 + 1000 * q.length ≤ 1000 * l.length) ∧
 (∀ (first : Bool) (m : Int) (l : List S50) (T : List Tk) (q : List S50), (∀ n ∈ l, 0 ≤ Naq n) → atkF theLf k first m l = some (T, q) → (txt T).length + 1000 * q.length ≤ 1000 * l.length) := by
 intro k
 induction k with
 | zero =>
  refine ⟨?_, ?_⟩
  ·intro _ _ _ _ _ h; rw [tkF] at h; cases h
  ·intro _ _ _ _ _ _ h; rw [atkF] at h; cases h
 | succ k ih =>
  obtain ⟨ih1, ih2⟩ := ih
  refine ⟨?_, ?_⟩
  ·intro least l T q hg h
   cases l with
   | nil => rw [tkF] at h; cases h
   | cons n r =>
    have hn := Nec n (hg n (List.mem_cons_self ..))
    have hr : ∀ m ∈ r, 0 ≤ Naq m := fun m hm => hg m (List.mem_cons_of_mem _ hm)
    obtain ⟨U, rfl, hU⟩ := nodeT h
    have hb := bra_txt (decide (Nea n < least)) U
    rw [List.length_cons]
    suffices hs : 1 ≤ (txt U).length ∧ (txt U).length + 1 + 1000 * q.length ≤ 1000 * r.length + 998 by omega
    generalize Naq n = cc at hn
    cases hn with
    | val v hv =>
     obtain ⟨rfl, rfl⟩ := Prod.mk.inj (sI hU)
     have := val_len hv
     show 1 ≤ (txt [valTk v]).length ∧ (txt [valTk v]).length + 1 + 1000 * r.length ≤ _
     rw [txt_one]; omega
    | cell s hs =>
     obtain ⟨rfl, rfl⟩ := Prod.mk.inj (sI hU)
     have := ref_len hs
     show 1 ≤ (txt (refT theLf s)).length ∧ (txt (refT theLf s)).length + 1 + 1000 * r.length ≤ _
     omega
    | area s u hs hu h0 =>
     obtain ⟨rfl, rfl⟩ := Prod.mk.inj (sI hU)
     have := ref_len hs
     have hc := cel_len hu
     show 1 ≤ (txt (refT theLf s ++ [mk [58], (3, ⟨(celL u).toArray⟩)])).length ∧ (txt (refT theLf s ++ [mk [58], (3, ⟨(celL u).toArray⟩)])).length + 1 + 1000 * r.length ≤ _
     rw [txt_app, txt_mk, txt_wd, Nal, Nd9]
     simp only [List.length_cons, List.length_nil]
     omega
    | un o h1 h3 =>
     by_cases ho : o = 3
     ·subst ho
      change (tkF theLf k 7 r).map (fun (T, q) => (T ++ [mk [37]], q)) = _ at hU
      obtain ⟨⟨V, q1⟩, hV, he⟩ := Option.map_eq_some_iff.1 hU
      obtain ⟨rfl, rfl⟩ := Prod.mk.inj he
      have := ih1 _ _ _ _ hr hV
      rw [txt_app, txt_mk, Nd9]
      simp only [List.length_cons, List.length_nil]
      omega
     ·change (if o = 3 then (tkF theLf k 7 r).map (fun (T, q) => (T ++ [mk [37]], q)) else (tkF theLf k 6 r).map fun (T, q) => ((5, signB o) :: T, q)) = _ at hU
      rw [if_neg ho] at hU
      obtain ⟨⟨V, q1⟩, hV, he⟩ := Option.map_eq_some_iff.1 hU
      obtain ⟨rfl, rfl⟩ := Prod.mk.inj he
      have := ih1 _ _ _ _ hr hV
      have := sign_len o
      rw [txt_sg]
      omega
    | bin o ho =>
     change (tkF theLf k (Nct o) r).bind (fun (T, q) => (tkF theLf k (Nct o + 1) q).map fun (U, p) => (T ++ (5, signB o) :: U, p)) = _ at hU
     obtain ⟨⟨V, q1⟩, hV, h2⟩ := Option.bind_eq_some_iff.1 hU
     obtain ⟨⟨V2, q2⟩, hV2, he⟩ := Option.map_eq_some_iff.1 h2
     obtain ⟨rfl, rfl⟩ := Prod.mk.inj he
     obtain ⟨p, -, rfl⟩ := (tk_suf theLf k).1 _ _ _ _ hV
     have a1 := ih1 _ _ _ _ hr hV
     have a2 := ih1 _ _ _ _ (fun m hm => hr m (List.mem_append_right _ hm)) hV2
     have := sign_len o
     rw [txt_app, txt_sg]
     omega
    | call m c hm h0 h30 =>
     change (atkF theLf k true _ r).map (fun (T, q) => ((3, m) :: mk [40] :: (T ++ [mk [41]]), q)) = _ at hU
     obtain ⟨⟨V, q1⟩, hV, he⟩ := Option.map_eq_some_iff.1 hU
     obtain ⟨rfl, rfl⟩ := Prod.mk.inj he
     have := ih2 _ _ _ _ _ hr hV
     have := fn_size hm
     rw [txt_wd, txt_mk, txt_app, txt_mk, Nd9]
     simp only [List.length_cons, List.length_nil]
     omega
  ·intro first m l T q hg h
   rw [atkF] at h
   split at h
   ·cases h; rw [Nd9, List.length_nil]; omega
   ·obtain ⟨⟨V, q1⟩, hV, h2⟩ := Option.bind_eq_some_iff.1 h
    obtain ⟨⟨V2, q2⟩, hV2, he⟩ := Option.map_eq_some_iff.1 h2
    obtain ⟨rfl, rfl⟩ := Prod.mk.inj he
    obtain ⟨p, -, rfl⟩ := (tk_suf theLf k).1 _ _ _ _ hV
    have a1 := ih1 _ _ _ _ hg hV
    have a2 := ih2 _ _ _ _ _ (fun m hm => hg m (List.mem_append_right _ hm)) hV2
    rw [txt_app]
    cases first with
    | true => simp only [if_true]; omega
    | false =>
     simp only [Bool.false_eq_true, if_false]
     rw [txt_mk]
     simp only [List.length_cons, List.length_nil]
     omega
def printL (l : List S50) : List UInt8 × Int := if chk l = 0 then (match tkF theLf 600 1 l with | some (T, _) => txt T | none => [], 0) else ([], chk l)
theorem print_tk {l : List S50} (h : chk l = 0) : ∃ T, tkF theLf 600 1 l = some (T, []) ∧ 1 ≤ (txt T).length ∧ (txt T).length ≤ 256000 := by
 obtain ⟨d, hd, -, hl⟩ := Nep (l := l) (K := 600) (by rw [chk_f, h])
 obtain ⟨T, -, hT⟩ := (tre_tk theLf 256).1 l d 600 1 [] hd hl (by omega)
 rw [List.append_nil] at hT
 have := (txt_le 600).1 1 l T [] hd.good hT
 exact ⟨T, hT, this.1, by simp only [List.length_nil] at this; omega⟩
theorem print_any {A : Option Addr} {c : Nat} {l : List S50} {w : World} (hG : GL w) (hC : Kd.C k50 w A l.length l) (hc : l.length ≤ c) :
 Calls Tryz.prog 26 #[.slice A l.length c] w fun en w' => en = .returned (.tuple #[.string ⟨(printL l).1.toArray⟩, .int .i64 (printL l).2]) ∧ Below w.heap.size w w' := by
 unfold printL
 by_cases h : chk l = 0
 ·rw [if_pos h]
  obtain ⟨T, hT, h1, h2⟩ := print_tk h
  rw [hT]
  exact print_tree hG hC hc (K := 600) (by rw [chk_f, h]) hT (by omega) (by intro hh; rw [hh] at h1; simp at h1)
 ·rw [if_neg h]
  exact print_err hC hc (chk_f l) h
def Ndf.f (a0 : ByteArray) : Option (List S50 × Int × Int) := some (parseL a0.data.toList)
theorem Ndf.calls (a0 : ByteArray) (r1 : List (S50)) (r2 : Int) (r3 : Int) (w : World) (hG : GL w) (h : Ndf.f a0 = some (r1, r2, r3)) :
 Calls Tryz.prog 21 #[.string a0] w fun e w' => ∃ v0_ : Value, e = .returned (.tuple #[v0_, .int .i64 r2, .int .i64 r3]) ∧ Kd.R k50 50 w' w.heap.size (fun _ => True) v0_ r1 ∧ Below w.heap.size w w' := by
 have e := sI h
 have := parse_any a0.data.toList w hG
 rw [← list_text, e] at this
 exact this
def Ndx.f (l0 : List (S50)) : Option (ByteArray × Int) := some (⟨(printL l0).1.toArray⟩, (printL l0).2)
theorem Ndx.calls (A0 : Option Addr) (c0 : Nat) (l0 : List (S50)) (r1 : ByteArray) (r2 : Int) (w : World) (hG : GL w) (hr0 : Kd.C k50 w A0 l0.length l0) (hc0 : l0.length ≤ c0) (h : Ndx.f l0 = some (r1, r2)) :
 Calls Tryz.prog 26 #[.slice A0 l0.length c0] w fun e w' => e = .returned (.tuple #[.string r1, .int .i64 r2]) ∧ Below w.heap.size w w' := by
 obtain ⟨rfl, rfl⟩ := Prod.mk.inj (sI h)
 exact print_any hG hr0 hc0
end Go.Proofs.YtejbbceidnaloaaGreatDoor.P
