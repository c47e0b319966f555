import Derived.Test.YtejbbceidnaloaaGreatDoorU22
namespace Go.Proofs.YtejbbceidnaloaaGreatDoor.P
open Go.RowKit Go.Proofs.YtejbbceidnaloaaGreatDoorW.PrintWords Go.Proofs.YtejbbceidnaloaaGreatDoorW.PrintLast Go.Proofs.YtejbbceidnaloaaGreatDoorW.PrintMore
set_option linter.unusedVariables false
set_option linter.unusedSimpArgs false
def numOf (l : List UInt8) : Option (Nat × Nat) :=
 match l.drop (runL digB l) with
 | [] => if decVal 0 (l.take (runL digB l)) ≤ 1000000000000000000 then mkN (decVal 0 (l.take (runL digB l))) 1 else none
 | _ :: b => if decVal 0 (l.take (runL digB l)) ≤ 1000000000000 ∧ b.length ≤ 6 then mkN (decVal 0 (l.take (runL digB l)) * 10 ^ b.length + decVal 0 b) (10 ^ b.length) else none
theorem runL_app (p : Int → Bool) : ∀ (a r : List UInt8), (∀ c ∈ a, p c.toNat = true) → (match r with | [] => True | c :: _ => p c.toNat = false) → runL p (a ++ r) = a.length
 | [], [], _, _ => rfl
 | [], c :: r, _, h => by simp only at h; rw [List.nil_append, runL, if_neg (by rw [h]; decide)]; rfl
 | c :: a, r, ha, h => by
  rw [List.cons_append, runL, if_pos (ha c (List.mem_cons_self ..)), runL_app p a r (fun x hx => ha x (List.mem_cons_of_mem _ hx)) h]
  rfl
theorem num_read {l : List UInt8} (h : NumTx l) (hl : l.length ≤ 10000) {K : Nat} (hK : 1000006 ≤ K) : Naq.f K ⟨l.toArray⟩ = some (asRead (numOf l)) := by
 obtain ⟨a, h0, hd, h⟩ := h
 have hda : ∀ c ∈ a, digB ((c.toNat : Nat) : Int) = true := fun c hc => (digB_iff c).2 (hd c hc)
 rcases h with rfl | ⟨b, hb0, hdb, rfl⟩
 ·have hr := runL_app digB l [] hda trivial
  rw [List.append_nil] at hr
  unfold numOf
  rw [hr, List.drop_length, List.take_length]
  exact read_int hl h0 hd (by omega)
 ·have hr := runL_app digB a (46 :: b) hda (show digB (((46 : UInt8).toNat : Nat) : Int) = false by decide)
  unfold numOf
  rw [hr, List.drop_left, List.take_left]
  simp only [List.length_append, List.length_cons] at hl
  exact read_frac (by omega) h0 hb0 hd hdb hK
theorem mkN_ok {n d x y : Nat} (hd : 1 ≤ d) (h : mkN n d = some (x, y)) : numB (x : Int) (y : Int) = true := by
 unfold mkN at h
 split at h
 ·rename_i hb
  obtain ⟨hx, hy⟩ := Prod.mk.inj (Option.some.inj h)
  have hg : 0 < Nat.gcd n d := Nat.gcd_pos_of_pos_right _ (by omega)
  have h1 : 0 < d / Nat.gcd n d := Nat.div_pos (Nat.le_of_dvd (by omega) (Nat.gcd_dvd_right n d)) hg
  have hc : Nat.gcd (n / Nat.gcd n d) (d / Nat.gcd n d) = 1 := by
   rw [Nat.gcd_div (Nat.gcd_dvd_left n d) (Nat.gcd_dvd_right n d), Nat.div_self hg]
  rw [hx, hy] at hb hc
  rw [hy] at h1
  unfold numB
  exact decide_eq_true ⟨by omega, by omega, by omega, by omega, hc⟩
 ·cases h
theorem numOf_ok {l : List UInt8} {x y : Nat} (h : numOf l = some (x, y)) : numB (x : Int) (y : Int) = true := by
 unfold numOf at h
 split at h
 ·split at h
  ·exact mkN_ok (by decide) h
  ·cases h
 ·split at h
  ·exact mkN_ok (Nat.pos_of_ne_zero (by simp)) h
  ·cases h
def faultIx (s : ByteArray) : Nat := faultsL.findIdx (· == s)
def theO : Ops where
 num := fun s => (numOf s.data.toList).map fun (n, d) => ⟨1, ⟨(n : Int), (d : Int)⟩, eB, false, 0⟩
 txt := fun s => if plainB s then ⟨2, ⟨0, 0⟩, s, false, 0⟩ else ⟨4, ⟨0, 0⟩, eB, false, 2⟩
 flt := fun s => ⟨4, ⟨0, 0⟩, eB, false, (faultIx s : Int) + 1⟩
 tru := fun b => ⟨3, ⟨0, 0⟩, eB, b, 0⟩
 cell := cellO
 fn := fnB
 sh := sheetB
theorem tokA_mem {ts : List S39} (i : Int) : tokA ts i = zT ∨ tokA ts i ∈ ts := by
 unfold tokA
 by_cases h : i.toNat < ts.length
 ·right
  have e : ts.getD i.toNat zT = ts[i.toNat] := by simp [List.getD, h]
  rw [e]
  exact List.getElem_mem h
 ·left
  have e : ts[i.toNat]? = none := List.getElem?_eq_none (by omega)
  simp [List.getD, e]
theorem tok_at {ts : List S39} {n : Nat} (h : ∀ t ∈ ts, TokOk n t) (i : Int) : TokOk n (tokA ts i) := by
 rcases tokA_mem (ts := ts) i with e | e
 ·rw [e]
  exact ⟨Nat.zero_le _, fun hh => absurd hh (show ¬ (0 : Int) = 1 by decide), fun hh => absurd hh (show ¬ (0 : Int) = 4 by decide)⟩
 ·exact h _ e
theorem flt_any {s : ByteArray} (h : s ∈ faultsL) (w : World) (hG : GL w) : Calls Tryz.prog 147 #[.string s] w fun en w' => en = .returned (vV (theO.flt s)) ∧ Below w.heap.size w w' := by
 unfold faultsL at h
 simp only [List.mem_cons, List.not_mem_nil, or_false] at h
 rcases h with rfl | rfl | rfl | rfl | rfl | rfl | rfl | rfl
 ·exact Nck 0 ⟨#[35, 68, 73, 86, 47, 48, 33]⟩ 1 1 (by simp [faultT]) w hG
 ·exact Nck 1 ⟨#[35, 86, 65, 76, 85, 69, 33]⟩ 2 2 (by simp [faultT]) w hG
 ·exact Nck 2 ⟨#[35, 82, 69, 70, 33]⟩ 3 3 (by simp [faultT]) w hG
 ·exact Nck 3 ⟨#[35, 78, 85, 77, 33]⟩ 4 4 (by simp [faultT]) w hG
 ·exact Nck 4 ⟨#[35, 78, 47, 65]⟩ 5 5 (by simp [faultT]) w hG
 ·exact Nck 5 ⟨#[35, 67, 73, 82, 67, 76, 69, 33]⟩ 6 6 (by simp [faultT]) w hG
 ·exact Nck 6 ⟨#[35, 76, 79, 78, 71, 33]⟩ 7 7 (by simp [faultT]) w hG
 ·exact Nck 7 ⟨#[35, 65, 82, 71, 33]⟩ 8 8 (by simp [faultT]) w hG
theorem text_any {s : ByteArray} (hs : s.size ≤ 256) (w : World) : Calls Tryz.prog 182 #[.string s] w fun en w' => en = .returned (vV (theO.txt s)) ∧ Below w.heap.size w w' := by
 have hp : Nak.f 1000 s = some (plainB s) := by
  have := plain_l0 s (by omega) s.size 0 1000 (by omega) (by omega) (by omega)
  rw [List.drop_zero] at this
  exact this
 show Calls Tryz.prog 182 #[.string s] w fun en w' => en = .returned (vV (if plainB s then ⟨2, ⟨0, 0⟩, s, false, 0⟩ else ⟨4, ⟨0, 0⟩, eB, false, 2⟩)) ∧ Below w.heap.size w w'
 cases hb : plainB s with
 | true =>
  refine value_Text.calls 1000 s 2 0 0 s false 0 w ?_
  unfold value_Text.f
  rw [hp, hb]
  simp only [Option.bind_some, if_true]
  rw [if_neg (by omega)]
 | false =>
  refine value_Text.calls 1000 s 4 0 0 ⟨#[]⟩ false 2 w ?_
  unfold value_Text.f
  rw [hp, hb]
  rfl
theorem penv {ts : List S39} {n : Nat} (hn : n ≤ 10000) (h : ∀ t ∈ ts, TokOk n t) : PEnv theO ts where
 num := by
  intro i s h1 hs w hG
  have ht := tok_at h i
  have hx := ht.num h1
  have hz := ht.size
  rw [hs] at hx hz
  have hf := num_read hx (by have : s.data.toList.length = s.size := Array.length_toList; omega) (K := 1000006) (Nat.le_refl _)
  rw [← list_text] at hf
  cases hno : numOf s.data.toList with
  | none =>
   rw [hno] at hf
   refine (Naq.calls 1000006 s 0 0 false w hf).mono ?_
   rintro en w' ⟨rfl, hb⟩
   refine ⟨0, 0, ?_, hb, ?_⟩
   ·show _ = Ending.returned (.tuple #[_, .bool ((numOf s.data.toList).map _).isSome]); rw [hno]; rfl
   ·intro v hv
    change (numOf s.data.toList).map _ = some v at hv
    rw [hno] at hv; cases hv
  | some p =>
   obtain ⟨x, y⟩ := p
   rw [hno] at hf
   refine (Naq.calls 1000006 s (x : Int) (y : Int) true w hf).mono ?_
   rintro en w' ⟨rfl, hb⟩
   refine ⟨(x : Int), (y : Int), ?_, hb, ?_⟩
   ·show _ = Ending.returned (.tuple #[_, .bool ((numOf s.data.toList).map _).isSome]); rw [hno]; rfl
   ·intro v hv w2
    change (numOf s.data.toList).map _ = some v at hv
    rw [hno] at hv
    cases hv
    refine value_Number.calls 1000006 (x : Int) (y : Int) 1 (x : Int) (y : Int) ⟨#[]⟩ false 0 w2 ?_
    unfold value_Number.f
    rw [num_Right_f _ _ _ (by omega), numOf_ok hno]
    rfl
 txt := fun i s h1 hs hz w => text_any hz w
 flt := fun i s h1 hs w hG => flt_any (by have := (tok_at h i).flt h1; rw [hs] at this; exact this) w hG
 tru := fun b w => value_Truth.calls b 3 0 0 ⟨#[]⟩ b 0 w rfl
 fn := fun s w _ _ => functionName_any s w
 sh := fun s w _ => (tree_sheetName_is s w).mono fun e w' hh => ⟨hh.1, hh.2.below⟩
 size := fun i => by have := (tok_at h i).size; omega
def wholeX (ts : List S39) (e : Int) : Except (Int × Int) (List S50) := match wholeF theO ts e (16 * ts.length + 12) with | some x => x | none => .error (50, 0)
theorem wholeX_f (ts : List S39) (e : Int) : wholeF theO ts e (16 * ts.length + 12) = some (wholeX ts e) := by
 obtain ⟨x, hx⟩ := whole_fuel theO ts e (Nat.le_refl _)
 unfold wholeX
 rw [hx]
def chk (l : List S50) : Int := (Nas.f 600 l).getD 53
theorem chk_f (l : List S50) : Nas.f 600 l = some (chk l) := by
 obtain ⟨c, hc, _⟩ := check_some l (K := 600) (Nat.le_refl _)
 unfold chk
 rw [hc]; rfl
def parseL (l : List UInt8) : List S50 × Int × Int :=
 if 1024 < l.length then ([], 2, 0) else
 match scanL l.length 0 l with
 | .error (c, p) => ([], c, p)
 | .ok ts => match wholeX ts (l.length : Int) with
  | .error (c, p) => ([], c, p)
  | .ok t => if chk t = 0 then (t, 0, 0) else ([], chk t, 0)
theorem wf_up {ts : List S39} {e : Int} {k : Nat} (hk : 16 * ts.length + 12 ≤ k) : wholeF theO ts e k = some (wholeX ts e) := wholeF_le theO ts e hk (wholeX_f ts e)
theorem parse_any (l : List UInt8) (w : World) (hG : GL w) : Calls Tryz.prog 21 #[.string ⟨l.toArray⟩] w fun en w' => ∃ v, en = .returned (.tuple #[v, .int .i64 (parseL l).2.1, .int .i64 (parseL l).2.2]) ∧ Kd.R k50 50 w' w.heap.size (fun _ => True) v (parseL l).1 ∧ Below w.heap.size w w' := by
 unfold parseL
 have hs := scan_f l (K := 17 * l.length + 13) (by omega)
 by_cases hl : 1024 < l.length
 ·rw [if_pos hl] at hs ⊢
  refine (parse_scan hG hs (by decide)).mono ?_
  rintro en w' ⟨rfl, hb⟩
  exact ⟨_, rfl, Kd.R_nil _ _ _ _ _, hb⟩
 rw [if_neg hl] at hs ⊢
 cases hsc : scanL l.length 0 l with
 | error q =>
  obtain ⟨c, p⟩ := q
  rw [hsc] at hs
  refine (parse_scan hG hs (scan_er _ l _ _ c p (Nat.le_refl _) hsc)).mono ?_
  rintro en w' ⟨rfl, hb⟩
  exact ⟨_, rfl, Kd.R_nil _ _ _ _ _, hb⟩
 | ok ts =>
  rw [hsc] at hs
  obtain ⟨h1, h2⟩ := scan_ok _ l _ _ ts (Nat.le_refl _) hsc
  have hx := wf_up (ts := ts) (e := (l.length : Int)) (k := 17 * l.length + 13) (by omega)
  have hsz : ((⟨l.toArray⟩ : ByteArray).size : Int) = (l.length : Int) := by rw [Nac]
  have hp := parse_good (O := theO) (k := 17 * l.length + 13) (k2 := 600) (s := ⟨l.toArray⟩) hG (by rw [Nac]; omega) (ts := ts) (a := 0) hs (penv (by omega) h2) (fun _ => rfl) (by omega) (x := wholeX ts (l.length : Int)) (by rw [hsz]; exact hx)
   (fun c p he => by
     rw [he] at hx
     have := (whole_er theO ts _ _ c p hx).1
     omega)
   (cc := match wholeX ts (l.length : Int) with | .ok t => chk t | .error _ => 0)
   (fun t ht => by rw [ht]; exact chk_f t)
  refine hp.mono ?_
  intro en w' hh
  obtain ⟨hh, hb⟩ := hh
  simp only
  cases hw : wholeX ts (l.length : Int) with
  | error q =>
   obtain ⟨c, p⟩ := q
   rw [hw] at hh
   exact ⟨_, hh, Kd.R_nil _ _ _ _ _, hb⟩
  | ok t =>
   rw [hw] at hh
   simp only at hh
   show ∃ v, en = .returned (.tuple #[v, .int .i64 (if chk t = 0 then (t, (0 : Int), (0 : Int)) else ([], chk t, 0)).2.1, .int .i64 (if chk t = 0 then (t, (0 : Int), (0 : Int)) else ([], chk t, 0)).2.2]) ∧ Kd.R k50 50 w' w.heap.size (fun _ => True) v (if chk t = 0 then (t, (0 : Int), (0 : Int)) else ([], chk t, 0)).1 ∧ Below w.heap.size w w'
   by_cases hc : chk t = 0
   ·rw [if_pos hc] at hh ⊢
    obtain ⟨v, rfl, hr⟩ := hh
    exact ⟨v, rfl, hr, hb⟩
   ·rw [if_neg hc] at hh ⊢
    exact ⟨_, hh, Kd.R_nil _ _ _ _ _, hb⟩
theorem bytes_len (b : ByteArray) : b.data.toList.length = b.size := Array.length_toList
theorem ite_p {α : Type} {P : Prop} [Decidable P] {a b : α} {p : α → Prop} (ha : p a) (hb : p b) : p (if P then a else b) := by split <;> assumption
theorem sign_len (o : Int) : 1 ≤ (signB o).size ∧ (signB o).size ≤ 2 := by
 have h : (fun b : ByteArray => 1 ≤ b.size ∧ b.size ≤ 2) (signB o) := by
  unfold signB
  repeat (refine ite_p (p := fun b : ByteArray => 1 ≤ b.size ∧ b.size ≤ 2) (by decide) ?_)
  decide
 exact h
theorem faults_pos (e : Int) (h1 : 1 ≤ e) (h8 : e ≤ 8) : 1 ≤ (faultsL.getD (e - 1).toNat ByteArray.empty).size := by
 have : e = 1 ∨ e = 2 ∨ e = 3 ∨ e = 4 ∨ e = 5 ∨ e = 6 ∨ e = 7 ∨ e = 8 := by omega
 rcases this with rfl | rfl | rfl | rfl | rfl | rfl | rfl | rfl <;> decide
theorem val_len {v : S46} (h : litB v = true) : 1 ≤ (tkText (valTk v)).length ∧ (tkText (valTk v)).length ≤ 600 := by
 rcases lit_cases h with ⟨h0, hN, h2, h3, h4, h5, h6⟩ | ⟨h0, h1, h2, h3, h4, h5, h6⟩ | ⟨h0, h1, h2, h3, h4⟩ | ⟨h0, h1, h2, h3, h4, h5, h6⟩
 ·have hb := hN
  unfold numB at hb
  obtain ⟨-, b1, b2, b3, -⟩ := of_decide_eq_true hb
  have hsz := num_len h5 b1 b2 b3
  have hp := dec_pos (v.f1.f0 / v.f1.f1).toNat
  have e : valTk v = (1, ⟨(numL v.f1.f0 v.f1.f1).toArray⟩) := by unfold valTk; rw [if_neg (by omega), if_neg (by omega), if_neg (by omega)]
  rw [e, tk_len _ (show ¬ (1 : Int) = 2 by decide)]
  show 1 ≤ (⟨(numL v.f1.f0 v.f1.f1).toArray⟩ : ByteArray).size ∧ (⟨(numL v.f1.f0 v.f1.f1).toArray⟩ : ByteArray).size ≤ 600
  rw [Nac]
  refine ⟨?_, by omega⟩
  unfold numL
  rw [List.length_append]; omega
 ·have e : valTk v = (2, v.f2) := by unfold valTk; rw [if_pos h0]
  rw [e]
  have e2 : tkText (2, v.f2) = ((⟨#[34]⟩ : ByteArray) ++ ⟨(dblL v.f2.data.toList).toArray⟩ ++ (⟨#[34]⟩ : ByteArray) : ByteArray).data.toList := by
   rw [← replaceAll_dbl]; rfl
  rw [e2]
  have hl := dblL_len v.f2.data.toList
  rw [bytes_len] at hl
  have h34 : (⟨#[34]⟩ : ByteArray).size = 1 := rfl
  have hd : (⟨(dblL v.f2.data.toList).toArray⟩ : ByteArray).size = (dblL v.f2.data.toList).length := Nac _
  rw [bytes_len, ByteArray.size_append, ByteArray.size_append, h34]
  omega
 ·have e : valTk v = (3, if v.f3 then tTRUE else tFALSE) := by unfold valTk; rw [if_neg (by omega), if_neg (by omega), if_pos h0]
  rw [e, tk_len _ (show ¬ (3 : Int) = 2 by decide)]
  cases v.f3 <;> decide
 ·have e : valTk v = (4, faultsL.getD (v.f4 - 1).toNat ByteArray.empty) := by unfold valTk; rw [if_neg (by omega), if_pos h0]
  rw [e, tk_len _ (show ¬ (4 : Int) = 2 by decide)]
  have := faults_size v.f4 h5 h6
  have := faults_pos v.f4 h5 h6
  show 1 ≤ (faultsL.getD (v.f4 - 1).toNat ByteArray.empty).size ∧ (faultsL.getD (v.f4 - 1).toNat ByteArray.empty).size ≤ 600
  omega
theorem cel_len {r : S48} (h : refR r = true) : 1 ≤ (celL r).length ∧ (celL r).length ≤ 20 := by
 obtain ⟨-, h1, h2, h3, h4⟩ := refR_cases h
 have a := dec_le 4 (r.f1 + 1).toNat (by omega)
 have b := colL_len r.f2
 unfold celL
 simp only [List.length_append]
 cases r.f3 <;> cases r.f4 <;> simp <;> omega
theorem ref_len {r : S48} (h : refR r = true) : 1 ≤ (txt (refT theLf r)).length ∧ (txt (refT theLf r)).length ≤ 40 := by
 have hc := cel_len h
 have e : theLf.cel r = ⟨(celL r).toArray⟩ := rfl
 unfold refT
 by_cases h0 : r.f0 = eB
 ·rw [if_pos h0, txt_one, e, tk3]
  rw [bytes_len, Nac]; omega
 ·have hs := (refR_cases h).1.resolve_left h0
  have hz := sheet_size hs
  rw [if_neg h0, Nbo, Nbo, txt_one, e, tk3, tk3]
  simp only [List.length_append, bytes_len, Nac]
  have : (tkText (mk [33])).length = 1 := rfl
  omega
theorem bra_txt (b : Bool) (T : List Tk) : (txt T).length ≤ (txt (bra b T)).length ∧ (txt (bra b T)).length ≤ (txt T).length + 2 := by
 rw [txt_bra]
 cases b <;> simp <;> omega
theorem txt_mk (l : List UInt8) (U : List Tk) : (txt (mk l :: U)).length = l.length + (txt U).length := by
 rw [Nbo, List.length_append]
 have : (tkText (mk l)).length = l.length := by
  show (tkText (5, mB l)).length = _
  rw [tk5, bytes_len]
  exact Nac l
 rw [this]
theorem txt_sg (b : ByteArray) (U : List Tk) : (txt ((5, b) :: U)).length = b.size + (txt U).length := by
 rw [Nbo, List.length_append, tk5, bytes_len]
theorem txt_wd (b : ByteArray) (U : List Tk) : (txt ((3, b) :: U)).length = b.size + (txt U).length := by
 rw [Nbo, List.length_append, tk3, bytes_len]
theorem txt_app (T U : List Tk) : (txt (T ++ U)).length = (txt T).length + (txt U).length := by rw [Nbh, List.length_append]
theorem txt_le : ∀ k : Nat,
 (∀ (least : Int) (l : List S50) (T : List Tk) (q : List S50), (∀ n ∈ l, 0 ≤ partsS n) → tkF theLf k least l = some (T, q) → 1 ≤ (txt T).length ∧ (txt T).length + 1 + 1000 * q.length ≤ 1000 * l.length) ∧
 (∀ (first : Bool) (m : Int) (l : List S50) (T : List Tk) (q : List S50), (∀ n ∈ l, 0 ≤ partsS n) → atkF theLf k first m l = some (T, q) → (txt T).length + 1000 * q.length ≤ 1000 * l.length) := by
 intro k
 induction k with
 | zero =>
  refine ⟨?_, ?_⟩
  ·intro _ _ _ _ _ h; rw [tkF] at h; cases h
  ·intro _ _ _ _ _ _ h; rw [atkF] at h; cases h
 | succ k ih =>
  obtain ⟨ih1, ih2⟩ := ih
  refine ⟨?_, ?_⟩
  ·intro least l T q hg h
   cases l with
   | nil => rw [tkF] at h; cases h
   | cons n r =>
    have hn := good_of n (hg n (List.mem_cons_self ..))
    have hr : ∀ m ∈ r, 0 ≤ partsS m := fun m hm => hg m (List.mem_cons_of_mem _ hm)
    obtain ⟨U, rfl, hU⟩ := nodeT h
    have hb := bra_txt (decide (tightN n < least)) U
    rw [List.length_cons]
    suffices hs : 1 ≤ (txt U).length ∧ (txt U).length + 1 + 1000 * q.length ≤ 1000 * r.length + 998 by omega
    generalize partsS n = cc at hn
    cases hn with
    | val v hv =>
     obtain ⟨rfl, rfl⟩ := Prod.mk.inj (Option.some.inj hU)
     have := val_len hv
     show 1 ≤ (txt [valTk v]).length ∧ (txt [valTk v]).length + 1 + 1000 * r.length ≤ _
     rw [txt_one]; omega
    | cell s hs =>
     obtain ⟨rfl, rfl⟩ := Prod.mk.inj (Option.some.inj hU)
     have := ref_len hs
     show 1 ≤ (txt (refT theLf s)).length ∧ (txt (refT theLf s)).length + 1 + 1000 * r.length ≤ _
     omega
    | area s u hs hu h0 =>
     obtain ⟨rfl, rfl⟩ := Prod.mk.inj (Option.some.inj hU)
     have := ref_len hs
     have hc := cel_len hu
     show 1 ≤ (txt (refT theLf s ++ [mk [58], (3, ⟨(celL u).toArray⟩)])).length ∧ (txt (refT theLf s ++ [mk [58], (3, ⟨(celL u).toArray⟩)])).length + 1 + 1000 * r.length ≤ _
     rw [txt_app, txt_mk, txt_wd, Nac, txt_nil]
     simp only [List.length_cons, List.length_nil]
     omega
    | un o h1 h3 =>
     by_cases ho : o = 3
     ·subst ho
      change (tkF theLf k 7 r).map (fun (T, q) => (T ++ [mk [37]], q)) = _ at hU
      obtain ⟨⟨V, q1⟩, hV, he⟩ := Option.map_eq_some_iff.1 hU
      obtain ⟨rfl, rfl⟩ := Prod.mk.inj he
      have := ih1 _ _ _ _ hr hV
      rw [txt_app, txt_mk, txt_nil]
      simp only [List.length_cons, List.length_nil]
      omega
     ·change (if o = 3 then (tkF theLf k 7 r).map (fun (T, q) => (T ++ [mk [37]], q)) else (tkF theLf k 6 r).map fun (T, q) => ((5, signB o) :: T, q)) = _ at hU
      rw [if_neg ho] at hU
      obtain ⟨⟨V, q1⟩, hV, he⟩ := Option.map_eq_some_iff.1 hU
      obtain ⟨rfl, rfl⟩ := Prod.mk.inj he
      have := ih1 _ _ _ _ hr hV
      have := sign_len o
      rw [txt_sg]
      omega
    | bin o ho =>
     change (tkF theLf k (tightO o) r).bind (fun (T, q) => (tkF theLf k (tightO o + 1) q).map fun (U, p) => (T ++ (5, signB o) :: U, p)) = _ at hU
     obtain ⟨⟨V, q1⟩, hV, h2⟩ := Option.bind_eq_some_iff.1 hU
     obtain ⟨⟨V2, q2⟩, hV2, he⟩ := Option.map_eq_some_iff.1 h2
     obtain ⟨rfl, rfl⟩ := Prod.mk.inj he
     obtain ⟨p, -, rfl⟩ := (tk_suf theLf k).1 _ _ _ _ hV
     have a1 := ih1 _ _ _ _ hr hV
     have a2 := ih1 _ _ _ _ (fun m hm => hr m (List.mem_append_right _ hm)) hV2
     have := sign_len o
     rw [txt_app, txt_sg]
     omega
    | call m c hm h0 h30 =>
     change (atkF theLf k true _ r).map (fun (T, q) => ((3, m) :: mk [40] :: (T ++ [mk [41]]), q)) = _ at hU
     obtain ⟨⟨V, q1⟩, hV, he⟩ := Option.map_eq_some_iff.1 hU
     obtain ⟨rfl, rfl⟩ := Prod.mk.inj he
     have := ih2 _ _ _ _ _ hr hV
     have := fn_size hm
     rw [txt_wd, txt_mk, txt_app, txt_mk, txt_nil]
     simp only [List.length_cons, List.length_nil]
     omega
  ·intro first m l T q hg h
   rw [atkF] at h
   split at h
   ·cases h; rw [txt_nil, List.length_nil]; omega
   ·obtain ⟨⟨V, q1⟩, hV, h2⟩ := Option.bind_eq_some_iff.1 h
    obtain ⟨⟨V2, q2⟩, hV2, he⟩ := Option.map_eq_some_iff.1 h2
    obtain ⟨rfl, rfl⟩ := Prod.mk.inj he
    obtain ⟨p, -, rfl⟩ := (tk_suf theLf k).1 _ _ _ _ hV
    have a1 := ih1 _ _ _ _ hg hV
    have a2 := ih2 _ _ _ _ _ (fun m hm => hg m (List.mem_append_right _ hm)) hV2
    rw [txt_app]
    cases first with
    | true => simp only [if_true]; omega
    | false =>
     simp only [Bool.false_eq_true, if_false]
     rw [txt_mk]
     simp only [List.length_cons, List.length_nil]
     omega
def printL (l : List S50) : List UInt8 × Int := if chk l = 0 then (match tkF theLf 600 1 l with | some (T, _) => txt T | none => [], 0) else ([], chk l)
theorem print_tk {l : List S50} (h : chk l = 0) : ∃ T, tkF theLf 600 1 l = some (T, []) ∧ 1 ≤ (txt T).length ∧ (txt T).length ≤ 256000 := by
 obtain ⟨d, hd, -, hl⟩ := Ncn (l := l) (K := 600) (by rw [chk_f, h])
 obtain ⟨T, -, hT⟩ := (tre_tk theLf 256).1 l d 600 1 [] hd hl (by omega)
 rw [List.append_nil] at hT
 have := (txt_le 600).1 1 l T [] hd.good hT
 exact ⟨T, hT, this.1, by simp only [List.length_nil] at this; omega⟩
theorem print_any {A : Option Addr} {c : Nat} {l : List S50} {w : World} (hG : GL w) (hC : Kd.C k50 w A l.length l) (hc : l.length ≤ c) :
 Calls Tryz.prog 26 #[.slice A l.length c] w fun en w' => en = .returned (.tuple #[.string ⟨(printL l).1.toArray⟩, .int .i64 (printL l).2]) ∧ Below w.heap.size w w' := by
 unfold printL
 by_cases h : chk l = 0
 ·rw [if_pos h]
  obtain ⟨T, hT, h1, h2⟩ := print_tk h
  rw [hT]
  exact print_tree hG hC hc (K := 600) (by rw [chk_f, h]) hT (by omega) (by intro hh; rw [hh] at h1; simp at h1)
 ·rw [if_neg h]
  exact print_err hC hc (chk_f l) h
def Nbg.f (a0 : ByteArray) : Option (List S50 × Int × Int) := some (parseL a0.data.toList)
theorem Nbg.calls (a0 : ByteArray) (r1 : List (S50)) (r2 : Int) (r3 : Int) (w : World) (hG : GL w) (h : Nbg.f a0 = some (r1, r2, r3)) :
 Calls Tryz.prog 21 #[.string a0] w fun e w' => ∃ v0_ : Value, e = .returned (.tuple #[v0_, .int .i64 r2, .int .i64 r3]) ∧ Kd.R k50 50 w' w.heap.size (fun _ => True) v0_ r1 ∧ Below w.heap.size w w' := by
 have e := Option.some.inj h
 have := parse_any a0.data.toList w hG
 rw [← list_text, e] at this
 exact this
def tree_Print_g.f (l0 : List (S50)) : Option (ByteArray × Int) := some (⟨(printL l0).1.toArray⟩, (printL l0).2)
theorem tree_Print_g.calls (A0 : Option Addr) (c0 : Nat) (l0 : List (S50)) (r1 : ByteArray) (r2 : Int) (w : World) (hG : GL w) (hr0 : Kd.C k50 w A0 l0.length l0) (hc0 : l0.length ≤ c0) (h : tree_Print_g.f l0 = some (r1, r2)) :
 Calls Tryz.prog 26 #[.slice A0 l0.length c0] w fun e w' => e = .returned (.tuple #[.string r1, .int .i64 r2]) ∧ Below w.heap.size w w' := by
 obtain ⟨rfl, rfl⟩ := Prod.mk.inj (Option.some.inj h)
 exact print_any hG hr0 hc0
theorem make_event {P : Program} {ops : Array Oper} {rest : List Oper} {o : Oper} {a : Act} {Q : Exit → Act → World → Prop} {W : World} (hgd : o.guard = none) {t e : TypeId} {x y : Operand} (ho : o.op = .makeSlice t x y) (ht : P.underlying t = some (.slice e)) {z : Value} {sz by_ : Nat} (hinfo : (P.info? e).map (fun i => (i.zero, i.size, i.bytes)) = some (some z, sz, by_)) {n : Nat}
    (hx : a.eval x = .int .i64 n) (hy : a.eval y = .int .i64 n) (hb : by_ * n ≤ 281474976710656) (hn : n ≤ 1000000)
    (h : ∀ w1 cur, cur.size = n * sz → w1.heap[W.heap.size]? = some (.cells cur e (0, 0)) → Below W.heap.size W w1 → wpList P ops Q rest (a.put o.dst (.slice (some ⟨W.heap.size, 0, none⟩) n n)) w1) : wpList P ops Q (o :: rest) a W := by
  obtain ⟨i0, hi, hzz⟩ := Option.map_eq_some_iff.1 hinfo
  simp only [Prod.mk.injEq] at hzz
  obtain ⟨hz, hs, hb1⟩ := hzz
  have hb3 : (i0.bytes : Int) * (n : Int) ≤ 281474976710656 := by
    rw [hb1, ← Int.natCast_mul]
    omega
  have hr := run_make (P := P) W t e i0 z ht hi hz .i64 .i64 (n : Int) (n : Int) (by omega) (by omega) hb3 (by omega)
  rw [Int.toNat_natCast] at hr
  refine wpList_plain hgd fun K hK => ?_
  unfold Oper.wp execOp
  simp only [ho, hx, hy, Sem.run_bind, Sem.run_pure, Result.andThen_ok, hr]
  exact hK _ _ (h _ _ (by rw [size_madeCells, hs]) (blk_new W _) (below_alloc (Below.refl _ _) _))
def lostN : S50 := nVal ⟨4, ⟨0, 0⟩, eB, false, 3⟩
def shN (rows cols : Int) (n : S50) : S50 :=
  if n.f0 = 2 then (if (mvR rows cols n.f5).2 = true then { n with f5 := (mvR rows cols n.f5).1 } else lostN)
  else if n.f0 = 3 then (if (mvR rows cols n.f5).2 = true ∧ (mvR rows cols n.f6).2 = true then { n with f5 := (mvR rows cols n.f5).1, f6 := (mvR rows cols n.f6).1 } else lostN)
  else n
set_option maxRecDepth 100000 in
set_option maxHeartbeats 4000000 in
theorem shift_ok (A : Option Addr) (c : Nat) (l : List S50) (rows cols : Int) (w : World) (hC : Kd.C k50 w A l.length l) (hle : l.length ≤ c) (hk : chk l = 0) :
  Calls Tryz.prog 37 #[.slice A l.length c, .int .i64 rows, .int .i64 cols] w fun e w' => ∃ v, e = .returned (.tuple #[v, .int .i64 0]) ∧ Kd.R k50 50 w' w.heap.size (fun _ => True) v (l.map (shN rows cols)) ∧ Below w.heap.size w w' := by
 obtain ⟨d, hd, -, hlen⟩ := Ncn (l := l) (K := 600) (by rw [chk_f, hk])
 have hpos := hd.pos.1
 have HCH := lh (Nas.calls 600 _ c l 0 w hC hle (by rw [chk_f, hk]))
 obtain ⟨ad, rfl, hf⟩ := C_flat hC (by omega)
 have HF := lh hf
 have HL := lh (show 1 ≤ l.length ∧ l.length ≤ 256 ∧ l.length ≤ c by omega)
 clear hC hle hk hd hlen hpos hf
 go_enter Tryz.func37, Tryz.ntmps37
 go_upto_region 4 with (go_at_call 28; (with_reducible refine (HCH.out).mono ?_); rintro en w1 ⟨rfl, hb⟩; have HB1 := lh hb; have HF1 := lh (show ∀ (j : Nat) v, (flat l)[j]? = some v → w1.cell? (ad.add j) = some v from fun j v hv => pw_cell_below hb (HF.out j v hv)); clear hb HCH HF)
 go_upto_region 5 with ((with_reducible refine gate_dst (N := 21) rfl ?_); refine make_event rfl (t := 22) (e := 50) (x := .tmp 20) (y := .tmp 20) rfl Tryz.underlying22 info50 (n := l.length) ?hx ?hy (by have := HL.out; omega) (by have := HL.out; omega) ?_; (case hx => rfl); (case hy => rfl); intro w2 cur hcur hb_ hl_; obtain ⟨g, hg⟩ : ∃ x_ : Nat, x_ = w1.heap.size := ⟨_, rfl⟩; rw [← hg] at hb_ ⊢; have G := lh (show w.heap.size ≤ g from hg ▸ HB1.out.size); have HB2 := lh (below_step HB1.out hl_); have HF2 := lh (show ∀ (j : Nat) v, (flat l)[j]? = some v → w2.cell? (ad.add j) = some v from fun j v hv => pw_cell_below hl_ (HF1.out j v hv)); have HC := lh hcur; have J := lh hb_; clear hcur hb_ hl_ hg HB1 HF1)
 go_upto_region 6 with (fail)
 obtain ⟨hrun, hj3, hp3⟩ := copy_run (P := Tryz.prog) (t := 22) (t' := 22) (ty := 3) (cap := l.length) (c := c) Tryz.underlying22 (sz := 20) (by kernel_rfl) J.out (Nby l) (by rw [Nby]; exact HC.out.symm) HF2.out (flat_one l)
 rw [hrun]
 have HB3 := lh (hp3.below w G.out HB2.out)
 have J3 := lh hj3
 generalize w2.setCells g 0 (flat l) = w3 at HB3 J3 ⊢
 clear hrun hj3 hp3 HB2 HF2 HC J
 go_wp2_with (fail)
 go_loopw [27] (fun v27 w' => ∃ i : Nat, i ≤ l.length ∧ v27 = .int .i64 i ∧ Hid (w'.heap[g]? = some (.cells (flat ((l.take i).map (shN rows cols) ++ l.drop i)).toArray 50 (0, 0))) ∧ Hid (Below w.heap.size w w')) (fun v27 _ => l.length - (intOf v27).toNat)
 case atStart => exact ⟨0, Nat.zero_le _, rfl, lh (by simpa using J3.out), HB3⟩
 case round =>
  obtain ⟨i, hi, rfl, HJ, HB⟩ := hrel
  by_cases hlt : i < l.length
  ·obtain ⟨x, r, hd⟩ : ∃ x r, l.drop i = x :: r := ⟨_, _, List.drop_eq_getElem_cons hlt⟩
   obtain ⟨a, ha⟩ : ∃ a_, a_ = (l.take i).map (shN rows cols) := ⟨_, rfl⟩
   have hal : a.length = i := by rw [ha, List.length_map, List.length_take]; omega
   have hnext : (l.take (i + 1)).map (shN rows cols) ++ l.drop (i + 1) = a ++ shN rows cols x :: r := by
    have h1 : l.take (i + 1) = l.take i ++ [x] := by
     rw [List.take_succ_eq_append_getElem hlt]
     rw [List.drop_eq_getElem_cons hlt] at hd
     injection hd with h1 h2
     rw [h1]
    have h2 : l.drop (i + 1) = r := by
     rw [List.drop_eq_getElem_cons hlt] at hd
     injection hd with h1 h2
    rw [h1, h2, List.map_append, ← ha, List.append_assoc]
    rfl
   rw [hd, ← ha] at HJ
   have HN := lh hnext
   have HA := lh hal
   have HI := lh (show i < l.length ∧ i ≤ 256 by have := HL.out; omega)
   have HM := lh (flat_mid a x r)
   rw [hal] at HM
   clear hd ha hal hnext hi
   obtain ⟨k0, ⟨vk, ⟨vn, vd⟩, vt, vb, ve⟩, op, nm, ar, ⟨s5, r5, c5, p5, q5⟩, ⟨s6, r6, c6, p6, q6⟩⟩ := x
   have hu50 := Tryz.underlying50
   go_upto_region 9 with (first
    | ((with_reducible refine gate_dst (N := 31) rfl ?_); refine Nav rfl (t := 50) (p := .tmp 30) rfl (g := g) (o' := i * 20) (e := 50) (cs := [.int .i64 k0, .int .i64 vk, .int .i64 vn, .int .i64 vd, .string vt, .bool vb, .int .i64 ve, .int .i64 op, .string nm, .int .i64 ar, .string s5, .int .i64 r5, .int .i64 c5, .bool p5, .bool q5, .string s6, .int .i64 r6, .int .i64 c6, .bool p6, .bool q6]) ?ha HJ.out ?hc hu50 rfl ?hi ?_; (case ha => rfl); (case hc => exact HM.out); (case hi => kernel_rfl))
    | ((with_reducible refine gate_dst (N := 11) rfl ?_); refine bX 11 #[.int .i64 0, .int .i64 0, .int .i64 0, .int .i64 0, .string ⟨#[]⟩, .bool false, .int .i64 0, .int .i64 0, .string ⟨#[]⟩, .int .i64 0, .string ⟨#[]⟩, .int .i64 0, .int .i64 0, .bool false, .bool false, .string ⟨#[]⟩, .int .i64 0, .int .i64 0, .bool false, .bool false] 50 ?_; intro g2 hg_ w4 hb_ hl_; have B4 := lh (below_step HB.out hl_); have J4 := lh (blk_below HJ.out hl_); have G2 := lh (show w.heap.size ≤ g2 from hg_ ▸ HB.out.size); have NE := lh (show g ≠ g2 by have := blk_lt HJ.out; omega); have I4 := lh hb_; clear hb_ hl_ hg_)
    | ((with_reducible refine gate_ (.store 50 (.tmp 11) (.tmp 31)) rfl ?_); refine sE I4.out 50 (.tmp 11) (.tmp 31) 0 (.agg #[.int .i64 k0, .int .i64 vk, .int .i64 vn, .int .i64 vd, .string vt, .bool vb, .int .i64 ve, .int .i64 op, .string nm, .int .i64 ar, .string s5, .int .i64 r5, .int .i64 c5, .bool p5, .bool q5, .string s6, .int .i64 r6, .int .i64 c6, .bool p6, .bool q6]) #[.int .i64 k0, .int .i64 vk, .int .i64 vn, .int .i64 vd, .string vt, .bool vb, .int .i64 ve, .int .i64 op, .string nm, .int .i64 ar, .string s5, .int .i64 r5, .int .i64 c5, .bool p5, .bool q5, .string s6, .int .i64 r6, .int .i64 c6, .bool p6, .bool q6] ?_; intro w5 hb_ hp_; have B5 := lh (hp_.below w G2.out B4.out); have J5 := lh (hp_.blk J4.out NE.out); have I5 := lh hb_; clear hb_ hp_ B4 J4 I4))
   have hw1 : wrap64 ((i : Int) + 1) = ((i + 1 : Nat) : Int) := by have := HI.out; unfold wrap64; omega
   have hu48 := Tryz.underlying48
   have f0 : w5.cell? ⟨g2, 0, none⟩ = some (.int .i64 k0) := (blk_cell I5.out 0).trans rfl
   obtain ⟨⟨⟨ms, mr, mc, mp, mq⟩, mo⟩, hm⟩ : ∃ q_, q_ = mvR rows cols ⟨s5, r5, c5, p5, q5⟩ := ⟨_, rfl⟩
   obtain ⟨⟨⟨ns, nr, nc, np, nq⟩, no⟩, hn⟩ : ∃ q_, q_ = mvR rows cols ⟨s6, r6, c6, p6, q6⟩ := ⟨_, rfl⟩
   have HV := lh (mv_calls rows cols ⟨s5, r5, c5, p5, q5⟩)
   have HV6 := lh (mv_calls rows cols ⟨s6, r6, c6, p6, q6⟩)
   rw [← hm] at HV
   rw [← hn] at HV6
   have HM5 := lh hm
   have HM6 := lh hn
   clear hm hn
   by_cases h2 : k0 = 2
   ·subst h2
    cases mo with
    | true =>
     have HS := lh (show shN rows cols ⟨2, ⟨vk, ⟨vn, vd⟩, vt, vb, ve⟩, op, nm, ar, ⟨s5, r5, c5, p5, q5⟩, ⟨s6, r6, c6, p6, q6⟩⟩ = ⟨2, ⟨vk, ⟨vn, vd⟩, vt, vb, ve⟩, op, nm, ar, ⟨ms, mr, mc, mp, mq⟩, ⟨s6, r6, c6, p6, q6⟩⟩ by unfold shN; rw [if_pos rfl, ← HM5.out]; rfl)
     clear HM5 HM6 HV6
     go_upto_region 12 with (first
      | ((with_reducible refine gate_dst (N := 42) rfl ?_); refine Nav rfl (t := 48) (p := .tmp 41) rfl (g := g2) (o' := 10) (e := 50) (cs := [.string s5, .int .i64 r5, .int .i64 c5, .bool p5, .bool q5]) ?ha I5.out ?hc hu48 rfl ?hi ?_; (case ha => rfl); (case hc => rfl); (case hi => kernel_rfl))
      | (go_at_call 61; (with_reducible refine (HV.out _).mono ?_); rintro en w6 ⟨rfl, hb⟩; have B6 := lh (below_step B5.out hb); have J6 := lh (blk_below J5.out hb); have I6 := lh (blk_below I5.out hb); clear hb B5 J5 I5)
      | ((with_reducible refine gate_ (.store 48 (.tmp 48) (.tmp 46)) rfl ?_); refine sE I6.out 48 (.tmp 48) (.tmp 46) 10 (.agg #[.string ms, .int .i64 mr, .int .i64 mc, .bool mp, .bool mq]) #[.int .i64 2, .int .i64 vk, .int .i64 vn, .int .i64 vd, .string vt, .bool vb, .int .i64 ve, .int .i64 op, .string nm, .int .i64 ar, .string ms, .int .i64 mr, .int .i64 mc, .bool mp, .bool mq, .string s6, .int .i64 r6, .int .i64 c6, .bool p6, .bool q6] ?_; intro w7 hb_ hp_; have B7 := lh (hp_.below w G2.out B6.out); have J7 := lh (hp_.blk J6.out NE.out); have I7 := lh hb_; clear hb_ hp_ B6 J6 I6))
     have f7 : w7.cell? ⟨g2, 0, none⟩ = some (.int .i64 2) := (blk_cell I7.out 0).trans rfl
     go_wp2_with (first
      | ((with_reducible refine gate_dst (N := 71) rfl ?_); refine lA I7.out 50 (.tmp 11) hu50 ?_)
      | ((with_reducible refine gate_ (.store 50 (.tmp 72) (.tmp 71)) rfl ?_); refine Nbb rfl rfl (t := 50) (p := .tmp 72) (x := .tmp 71) rfl (g := g) (o' := i * 20) (e := 50) (u := .agg #[.int .i64 2, .int .i64 vk, .int .i64 vn, .int .i64 vd, .string vt, .bool vb, .int .i64 ve, .int .i64 op, .string nm, .int .i64 ar, .string ms, .int .i64 mr, .int .i64 mc, .bool mp, .bool mq, .string s6, .int .i64 r6, .int .i64 c6, .bool p6, .bool q6]) (seg := c50 ⟨2, ⟨vk, ⟨vn, vd⟩, vt, vb, ve⟩, op, nm, ar, ⟨ms, mr, mc, mp, mq⟩, ⟨s6, r6, c6, p6, q6⟩⟩) ?ha ?hx ?hu ?ht J7.out ?hf ?h1 (HA.out ▸ set_mid a ⟨2, ⟨vk, ⟨vn, vd⟩, vt, vb, ve⟩, op, nm, ar, ⟨s5, r5, c5, p5, q5⟩, ⟨s6, r6, c6, p6, q6⟩⟩ ⟨2, ⟨vk, ⟨vn, vd⟩, vt, vb, ve⟩, op, nm, ar, ⟨ms, mr, mc, mp, mq⟩, ⟨s6, r6, c6, p6, q6⟩⟩ r : setRun (flat (a ++ ⟨2, ⟨vk, ⟨vn, vd⟩, vt, vb, ve⟩, op, nm, ar, ⟨s5, r5, c5, p5, q5⟩, ⟨s6, r6, c6, p6, q6⟩⟩ :: r)).toArray (i * 20) (c50 ⟨2, ⟨vk, ⟨vn, vd⟩, vt, vb, ve⟩, op, nm, ar, ⟨ms, mr, mc, mp, mq⟩, ⟨s6, r6, c6, p6, q6⟩⟩) = _) ?_; (case ha => rfl); (case hx => rfl); (case hu => rfl); (case ht => kernel_rfl); (case hf => rw [List.size_toArray, Nby, List.length_append, List.length_cons, HA.out]; show i * 20 + 20 ≤ _; omega); (case h1 => rfl); intro w8 hb_ hp_; have B8 := lh (hp_.below w G.out B7.out); have J8 := lh hb_; clear hb_ hp_ B7 J7 I7))
     rw [hw1]
     clear hw1 hlt
     go_roundw
     case rel => exact ⟨i + 1, by have := HI.out; omega, rfl, lh (by rw [HN.out, HS.out]; exact J8.out), B8⟩
     case measure => simp only [intOf]; have := HI.out; omega
    | false =>
     have HS := lh (show shN rows cols ⟨2, ⟨vk, ⟨vn, vd⟩, vt, vb, ve⟩, op, nm, ar, ⟨s5, r5, c5, p5, q5⟩, ⟨s6, r6, c6, p6, q6⟩⟩ = lostN by unfold shN; rw [if_pos rfl, ← HM5.out]; rfl)
     clear HM5 HM6 HV6
     go_upto_region 12 with (first
      | ((with_reducible refine gate_dst (N := 42) rfl ?_); refine Nav rfl (t := 48) (p := .tmp 41) rfl (g := g2) (o' := 10) (e := 50) (cs := [.string s5, .int .i64 r5, .int .i64 c5, .bool p5, .bool q5]) ?ha I5.out ?hc hu48 rfl ?hi ?_; (case ha => rfl); (case hc => rfl); (case hi => kernel_rfl))
      | (go_at_call 61; (with_reducible refine (HV.out _).mono ?_); rintro en w6 ⟨rfl, hb⟩; have B6 := lh (below_step B5.out hb); have J6 := lh (blk_below J5.out hb); have I6 := lh (blk_below I5.out hb); clear hb B5 J5 I5)
      | ((with_reducible refine gate_ (.store 48 (.tmp 48) (.tmp 46)) rfl ?_); refine sE I6.out 48 (.tmp 48) (.tmp 46) 10 (.agg #[.string ms, .int .i64 mr, .int .i64 mc, .bool mp, .bool mq]) #[.int .i64 2, .int .i64 vk, .int .i64 vn, .int .i64 vd, .string vt, .bool vb, .int .i64 ve, .int .i64 op, .string nm, .int .i64 ar, .string ms, .int .i64 mr, .int .i64 mc, .bool mp, .bool mq, .string s6, .int .i64 r6, .int .i64 c6, .bool p6, .bool q6] ?_; intro w7 hb_ hp_; have B7 := lh (hp_.below w G2.out B6.out); have J7 := lh (hp_.blk J6.out NE.out); have I7 := lh hb_; clear hb_ hp_ B6 J6 I6))
     have f7 : w7.cell? ⟨g2, 0, none⟩ = some (.int .i64 2) := (blk_cell I7.out 0).trans rfl
     go_wp2_with (first
      | (go_at_call 62; (with_reducible refine (Nbd.calls 3 4 0 0 ⟨#[]⟩ false 3 _ rfl).mono ?_); rintro en w8 ⟨rfl, hb⟩; have B8 := lh (below_step B7.out hb); have J8 := lh (blk_below J7.out hb); have I8 := lh (blk_below I7.out hb); clear hb B7 J7 I7)
      | ((with_reducible refine gate_ (.store 50 (.tmp 11) (.tmp 68)) rfl ?_); refine sE I8.out 50 (.tmp 11) (.tmp 68) 0 (.agg #[.int .i64 1, .int .i64 4, .int .i64 0, .int .i64 0, .string ⟨#[]⟩, .bool false, .int .i64 3, .int .i64 0, .string ⟨#[]⟩, .int .i64 0, .string ⟨#[]⟩, .int .i64 0, .int .i64 0, .bool false, .bool false, .string ⟨#[]⟩, .int .i64 0, .int .i64 0, .bool false, .bool false]) #[.int .i64 1, .int .i64 4, .int .i64 0, .int .i64 0, .string ⟨#[]⟩, .bool false, .int .i64 3, .int .i64 0, .string ⟨#[]⟩, .int .i64 0, .string ⟨#[]⟩, .int .i64 0, .int .i64 0, .bool false, .bool false, .string ⟨#[]⟩, .int .i64 0, .int .i64 0, .bool false, .bool false] ?_; intro w9 hb_ hp_; have B9 := lh (hp_.below w G2.out B8.out); have J9 := lh (hp_.blk J8.out NE.out); have I9 := lh hb_; clear hb_ hp_ B8 J8 I8)
      | ((with_reducible refine gate_dst (N := 71) rfl ?_); refine lA I9.out 50 (.tmp 11) hu50 ?_)
      | ((with_reducible refine gate_ (.store 50 (.tmp 72) (.tmp 71)) rfl ?_); refine Nbb rfl rfl (t := 50) (p := .tmp 72) (x := .tmp 71) rfl (g := g) (o' := i * 20) (e := 50) (u := .agg #[.int .i64 1, .int .i64 4, .int .i64 0, .int .i64 0, .string ⟨#[]⟩, .bool false, .int .i64 3, .int .i64 0, .string ⟨#[]⟩, .int .i64 0, .string ⟨#[]⟩, .int .i64 0, .int .i64 0, .bool false, .bool false, .string ⟨#[]⟩, .int .i64 0, .int .i64 0, .bool false, .bool false]) (seg := c50 lostN) ?ha ?hx ?hu ?ht J9.out ?hf ?h1 (HA.out ▸ set_mid a ⟨2, ⟨vk, ⟨vn, vd⟩, vt, vb, ve⟩, op, nm, ar, ⟨s5, r5, c5, p5, q5⟩, ⟨s6, r6, c6, p6, q6⟩⟩ lostN r : setRun (flat (a ++ ⟨2, ⟨vk, ⟨vn, vd⟩, vt, vb, ve⟩, op, nm, ar, ⟨s5, r5, c5, p5, q5⟩, ⟨s6, r6, c6, p6, q6⟩⟩ :: r)).toArray (i * 20) (c50 lostN) = _) ?_; (case ha => rfl); (case hx => rfl); (case hu => rfl); (case ht => kernel_rfl); (case hf => rw [List.size_toArray, Nby, List.length_append, List.length_cons, HA.out]; show i * 20 + 20 ≤ _; omega); (case h1 => rfl); intro w10 hb_ hp_; have B10 := lh (hp_.below w G.out B9.out); have J10 := lh hb_; clear hb_ hp_ B9 J9 I9))
     rw [hw1]
     clear hw1 hlt
     go_roundw
     case rel => exact ⟨i + 1, by have := HI.out; omega, rfl, lh (by rw [HN.out, HS.out]; exact J10.out), B10⟩
     case measure => simp only [intOf]; have := HI.out; omega
   ·have b2 : (k0 != 2) = true := bne_iff_ne.mpr h2
    by_cases h3 : k0 = 3
    ·subst h3
     clear h2 b2
     cases mo with
     | true =>
      cases no with
      | true =>
       have HS := lh (show shN rows cols ⟨3, ⟨vk, ⟨vn, vd⟩, vt, vb, ve⟩, op, nm, ar, ⟨s5, r5, c5, p5, q5⟩, ⟨s6, r6, c6, p6, q6⟩⟩ = ⟨3, ⟨vk, ⟨vn, vd⟩, vt, vb, ve⟩, op, nm, ar, ⟨ms, mr, mc, mp, mq⟩, ⟨ns, nr, nc, np, nq⟩⟩ by unfold shN; rw [if_neg (by show ¬ (3 : Int) = 2; decide), if_pos rfl, ← HM5.out, ← HM6.out]; rfl)
       clear HM5 HM6
       go_upto_region 12 with (first
      | ((with_reducible refine gate_dst (N := 42) rfl ?_); refine Nav rfl (t := 48) (p := .tmp 41) rfl (g := g2) (o' := 10) (e := 50) (cs := [.string s5, .int .i64 r5, .int .i64 c5, .bool p5, .bool q5]) ?ha I5.out ?hc hu48 rfl ?hi ?_; (case ha => rfl); (case hc => rfl); (case hi => kernel_rfl))
      | (go_at_call 61; (with_reducible refine (HV.out _).mono ?_); rintro en w6 ⟨rfl, hb⟩; have B6 := lh (below_step B5.out hb); have J6 := lh (blk_below J5.out hb); have I6 := lh (blk_below I5.out hb); clear hb B5 J5 I5)
      | ((with_reducible refine gate_ (.store 48 (.tmp 48) (.tmp 46)) rfl ?_); refine sE I6.out 48 (.tmp 48) (.tmp 46) 10 (.agg #[.string ms, .int .i64 mr, .int .i64 mc, .bool mp, .bool mq]) #[.int .i64 3, .int .i64 vk, .int .i64 vn, .int .i64 vd, .string vt, .bool vb, .int .i64 ve, .int .i64 op, .string nm, .int .i64 ar, .string ms, .int .i64 mr, .int .i64 mc, .bool mp, .bool mq, .string s6, .int .i64 r6, .int .i64 c6, .bool p6, .bool q6] ?_; intro w7 hb_ hp_; have B7 := lh (hp_.below w G2.out B6.out); have J7 := lh (hp_.blk J6.out NE.out); have I7 := lh hb_; clear hb_ hp_ B6 J6 I6))
       have f7 : w7.cell? ⟨g2, 0, none⟩ = some (.int .i64 3) := (blk_cell I7.out 0).trans rfl
       go_wp2_with (first
      | ((with_reducible refine gate_dst (N := 54) rfl ?_); refine Nav rfl (t := 48) (p := .tmp 53) rfl (g := g2) (o' := 15) (e := 50) (cs := [.string s6, .int .i64 r6, .int .i64 c6, .bool p6, .bool q6]) ?ha I7.out ?hc hu48 rfl ?hi ?_; (case ha => rfl); (case hc => rfl); (case hi => kernel_rfl))
      | (go_at_call 61; (with_reducible refine (HV6.out _).mono ?_); rintro en w8 ⟨rfl, hb⟩; have B8 := lh (below_step B7.out hb); have J8 := lh (blk_below J7.out hb); have I8 := lh (blk_below I7.out hb); clear hb B7 J7 I7)
      | ((with_reducible refine gate_ (.store 48 (.tmp 60) (.tmp 58)) rfl ?_); refine sE I8.out 48 (.tmp 60) (.tmp 58) 15 (.agg #[.string ns, .int .i64 nr, .int .i64 nc, .bool np, .bool nq]) #[.int .i64 3, .int .i64 vk, .int .i64 vn, .int .i64 vd, .string vt, .bool vb, .int .i64 ve, .int .i64 op, .string nm, .int .i64 ar, .string ms, .int .i64 mr, .int .i64 mc, .bool mp, .bool mq, .string ns, .int .i64 nr, .int .i64 nc, .bool np, .bool nq] ?_; intro w9 hb_ hp_; have B9 := lh (hp_.below w G2.out B8.out); have J9 := lh (hp_.blk J8.out NE.out); have I9 := lh hb_; clear hb_ hp_ B8 J8 I8)
      | ((with_reducible refine gate_dst (N := 71) rfl ?_); refine lA I9.out 50 (.tmp 11) hu50 ?_)
      | ((with_reducible refine gate_ (.store 50 (.tmp 72) (.tmp 71)) rfl ?_); refine Nbb rfl rfl (t := 50) (p := .tmp 72) (x := .tmp 71) rfl (g := g) (o' := i * 20) (e := 50) (u := .agg #[.int .i64 3, .int .i64 vk, .int .i64 vn, .int .i64 vd, .string vt, .bool vb, .int .i64 ve, .int .i64 op, .string nm, .int .i64 ar, .string ms, .int .i64 mr, .int .i64 mc, .bool mp, .bool mq, .string ns, .int .i64 nr, .int .i64 nc, .bool np, .bool nq]) (seg := c50 ⟨3, ⟨vk, ⟨vn, vd⟩, vt, vb, ve⟩, op, nm, ar, ⟨ms, mr, mc, mp, mq⟩, ⟨ns, nr, nc, np, nq⟩⟩) ?ha ?hx ?hu ?ht J9.out ?hf ?h1 (HA.out ▸ set_mid a ⟨3, ⟨vk, ⟨vn, vd⟩, vt, vb, ve⟩, op, nm, ar, ⟨s5, r5, c5, p5, q5⟩, ⟨s6, r6, c6, p6, q6⟩⟩ ⟨3, ⟨vk, ⟨vn, vd⟩, vt, vb, ve⟩, op, nm, ar, ⟨ms, mr, mc, mp, mq⟩, ⟨ns, nr, nc, np, nq⟩⟩ r : setRun (flat (a ++ ⟨3, ⟨vk, ⟨vn, vd⟩, vt, vb, ve⟩, op, nm, ar, ⟨s5, r5, c5, p5, q5⟩, ⟨s6, r6, c6, p6, q6⟩⟩ :: r)).toArray (i * 20) (c50 ⟨3, ⟨vk, ⟨vn, vd⟩, vt, vb, ve⟩, op, nm, ar, ⟨ms, mr, mc, mp, mq⟩, ⟨ns, nr, nc, np, nq⟩⟩) = _) ?_; (case ha => rfl); (case hx => rfl); (case hu => rfl); (case ht => kernel_rfl); (case hf => rw [List.size_toArray, Nby, List.length_append, List.length_cons, HA.out]; show i * 20 + 20 ≤ _; omega); (case h1 => rfl); intro w10 hb_ hp_; have B10 := lh (hp_.below w G.out B9.out); have J10 := lh hb_; clear hb_ hp_ B9 J9 I9))
       rw [hw1]
       clear hw1 hlt
       go_roundw
       case rel => exact ⟨i + 1, by have := HI.out; omega, rfl, lh (by rw [HN.out, HS.out]; exact J10.out), B10⟩
       case measure => simp only [intOf]; have := HI.out; omega
      | false =>
       have HS := lh (show shN rows cols ⟨3, ⟨vk, ⟨vn, vd⟩, vt, vb, ve⟩, op, nm, ar, ⟨s5, r5, c5, p5, q5⟩, ⟨s6, r6, c6, p6, q6⟩⟩ = lostN by unfold shN; rw [if_neg (by show ¬ (3 : Int) = 2; decide), if_pos rfl, ← HM5.out, ← HM6.out]; rfl)
       clear HM5 HM6
       go_upto_region 12 with (first
      | ((with_reducible refine gate_dst (N := 42) rfl ?_); refine Nav rfl (t := 48) (p := .tmp 41) rfl (g := g2) (o' := 10) (e := 50) (cs := [.string s5, .int .i64 r5, .int .i64 c5, .bool p5, .bool q5]) ?ha I5.out ?hc hu48 rfl ?hi ?_; (case ha => rfl); (case hc => rfl); (case hi => kernel_rfl))
      | (go_at_call 61; (with_reducible refine (HV.out _).mono ?_); rintro en w6 ⟨rfl, hb⟩; have B6 := lh (below_step B5.out hb); have J6 := lh (blk_below J5.out hb); have I6 := lh (blk_below I5.out hb); clear hb B5 J5 I5)
      | ((with_reducible refine gate_ (.store 48 (.tmp 48) (.tmp 46)) rfl ?_); refine sE I6.out 48 (.tmp 48) (.tmp 46) 10 (.agg #[.string ms, .int .i64 mr, .int .i64 mc, .bool mp, .bool mq]) #[.int .i64 3, .int .i64 vk, .int .i64 vn, .int .i64 vd, .string vt, .bool vb, .int .i64 ve, .int .i64 op, .string nm, .int .i64 ar, .string ms, .int .i64 mr, .int .i64 mc, .bool mp, .bool mq, .string s6, .int .i64 r6, .int .i64 c6, .bool p6, .bool q6] ?_; intro w7 hb_ hp_; have B7 := lh (hp_.below w G2.out B6.out); have J7 := lh (hp_.blk J6.out NE.out); have I7 := lh hb_; clear hb_ hp_ B6 J6 I6))
       have f7 : w7.cell? ⟨g2, 0, none⟩ = some (.int .i64 3) := (blk_cell I7.out 0).trans rfl
       go_wp2_with (first
      | ((with_reducible refine gate_dst (N := 54) rfl ?_); refine Nav rfl (t := 48) (p := .tmp 53) rfl (g := g2) (o' := 15) (e := 50) (cs := [.string s6, .int .i64 r6, .int .i64 c6, .bool p6, .bool q6]) ?ha I7.out ?hc hu48 rfl ?hi ?_; (case ha => rfl); (case hc => rfl); (case hi => kernel_rfl))
      | (go_at_call 61; (with_reducible refine (HV6.out _).mono ?_); rintro en w8 ⟨rfl, hb⟩; have B8 := lh (below_step B7.out hb); have J8 := lh (blk_below J7.out hb); have I8 := lh (blk_below I7.out hb); clear hb B7 J7 I7)
      | ((with_reducible refine gate_ (.store 48 (.tmp 60) (.tmp 58)) rfl ?_); refine sE I8.out 48 (.tmp 60) (.tmp 58) 15 (.agg #[.string ns, .int .i64 nr, .int .i64 nc, .bool np, .bool nq]) #[.int .i64 3, .int .i64 vk, .int .i64 vn, .int .i64 vd, .string vt, .bool vb, .int .i64 ve, .int .i64 op, .string nm, .int .i64 ar, .string ms, .int .i64 mr, .int .i64 mc, .bool mp, .bool mq, .string ns, .int .i64 nr, .int .i64 nc, .bool np, .bool nq] ?_; intro w9 hb_ hp_; have B9 := lh (hp_.below w G2.out B8.out); have J9 := lh (hp_.blk J8.out NE.out); have I9 := lh hb_; clear hb_ hp_ B8 J8 I8)
      | (go_at_call 62; (with_reducible refine (Nbd.calls 3 4 0 0 ⟨#[]⟩ false 3 _ rfl).mono ?_); rintro en w10 ⟨rfl, hb⟩; have B10 := lh (below_step B9.out hb); have J10 := lh (blk_below J9.out hb); have I10 := lh (blk_below I9.out hb); clear hb B9 J9 I9)
      | ((with_reducible refine gate_ (.store 50 (.tmp 11) (.tmp 68)) rfl ?_); refine sE I10.out 50 (.tmp 11) (.tmp 68) 0 (.agg #[.int .i64 1, .int .i64 4, .int .i64 0, .int .i64 0, .string ⟨#[]⟩, .bool false, .int .i64 3, .int .i64 0, .string ⟨#[]⟩, .int .i64 0, .string ⟨#[]⟩, .int .i64 0, .int .i64 0, .bool false, .bool false, .string ⟨#[]⟩, .int .i64 0, .int .i64 0, .bool false, .bool false]) #[.int .i64 1, .int .i64 4, .int .i64 0, .int .i64 0, .string ⟨#[]⟩, .bool false, .int .i64 3, .int .i64 0, .string ⟨#[]⟩, .int .i64 0, .string ⟨#[]⟩, .int .i64 0, .int .i64 0, .bool false, .bool false, .string ⟨#[]⟩, .int .i64 0, .int .i64 0, .bool false, .bool false] ?_; intro w11 hb_ hp_; have B11 := lh (hp_.below w G2.out B10.out); have J11 := lh (hp_.blk J10.out NE.out); have I11 := lh hb_; clear hb_ hp_ B10 J10 I10)
      | ((with_reducible refine gate_dst (N := 71) rfl ?_); refine lA I11.out 50 (.tmp 11) hu50 ?_)
      | ((with_reducible refine gate_ (.store 50 (.tmp 72) (.tmp 71)) rfl ?_); refine Nbb rfl rfl (t := 50) (p := .tmp 72) (x := .tmp 71) rfl (g := g) (o' := i * 20) (e := 50) (u := .agg #[.int .i64 1, .int .i64 4, .int .i64 0, .int .i64 0, .string ⟨#[]⟩, .bool false, .int .i64 3, .int .i64 0, .string ⟨#[]⟩, .int .i64 0, .string ⟨#[]⟩, .int .i64 0, .int .i64 0, .bool false, .bool false, .string ⟨#[]⟩, .int .i64 0, .int .i64 0, .bool false, .bool false]) (seg := c50 lostN) ?ha ?hx ?hu ?ht J11.out ?hf ?h1 (HA.out ▸ set_mid a ⟨3, ⟨vk, ⟨vn, vd⟩, vt, vb, ve⟩, op, nm, ar, ⟨s5, r5, c5, p5, q5⟩, ⟨s6, r6, c6, p6, q6⟩⟩ lostN r : setRun (flat (a ++ ⟨3, ⟨vk, ⟨vn, vd⟩, vt, vb, ve⟩, op, nm, ar, ⟨s5, r5, c5, p5, q5⟩, ⟨s6, r6, c6, p6, q6⟩⟩ :: r)).toArray (i * 20) (c50 lostN) = _) ?_; (case ha => rfl); (case hx => rfl); (case hu => rfl); (case ht => kernel_rfl); (case hf => rw [List.size_toArray, Nby, List.length_append, List.length_cons, HA.out]; show i * 20 + 20 ≤ _; omega); (case h1 => rfl); intro w12 hb_ hp_; have B12 := lh (hp_.below w G.out B11.out); have J12 := lh hb_; clear hb_ hp_ B11 J11 I11))
       rw [hw1]
       clear hw1 hlt
       go_roundw
       case rel => exact ⟨i + 1, by have := HI.out; omega, rfl, lh (by rw [HN.out, HS.out]; exact J12.out), B12⟩
       case measure => simp only [intOf]; have := HI.out; omega
     | false =>
      have HS := lh (show shN rows cols ⟨3, ⟨vk, ⟨vn, vd⟩, vt, vb, ve⟩, op, nm, ar, ⟨s5, r5, c5, p5, q5⟩, ⟨s6, r6, c6, p6, q6⟩⟩ = lostN by unfold shN; rw [if_neg (by show ¬ (3 : Int) = 2; decide), if_pos rfl, ← HM5.out]; rfl)
      clear HM5 HM6
      go_upto_region 12 with (first
      | ((with_reducible refine gate_dst (N := 42) rfl ?_); refine Nav rfl (t := 48) (p := .tmp 41) rfl (g := g2) (o' := 10) (e := 50) (cs := [.string s5, .int .i64 r5, .int .i64 c5, .bool p5, .bool q5]) ?ha I5.out ?hc hu48 rfl ?hi ?_; (case ha => rfl); (case hc => rfl); (case hi => kernel_rfl))
      | (go_at_call 61; (with_reducible refine (HV.out _).mono ?_); rintro en w6 ⟨rfl, hb⟩; have B6 := lh (below_step B5.out hb); have J6 := lh (blk_below J5.out hb); have I6 := lh (blk_below I5.out hb); clear hb B5 J5 I5)
      | ((with_reducible refine gate_ (.store 48 (.tmp 48) (.tmp 46)) rfl ?_); refine sE I6.out 48 (.tmp 48) (.tmp 46) 10 (.agg #[.string ms, .int .i64 mr, .int .i64 mc, .bool mp, .bool mq]) #[.int .i64 3, .int .i64 vk, .int .i64 vn, .int .i64 vd, .string vt, .bool vb, .int .i64 ve, .int .i64 op, .string nm, .int .i64 ar, .string ms, .int .i64 mr, .int .i64 mc, .bool mp, .bool mq, .string s6, .int .i64 r6, .int .i64 c6, .bool p6, .bool q6] ?_; intro w7 hb_ hp_; have B7 := lh (hp_.below w G2.out B6.out); have J7 := lh (hp_.blk J6.out NE.out); have I7 := lh hb_; clear hb_ hp_ B6 J6 I6))
      have f7 : w7.cell? ⟨g2, 0, none⟩ = some (.int .i64 3) := (blk_cell I7.out 0).trans rfl
      go_wp2_with (first
      | ((with_reducible refine gate_dst (N := 54) rfl ?_); refine Nav rfl (t := 48) (p := .tmp 53) rfl (g := g2) (o' := 15) (e := 50) (cs := [.string s6, .int .i64 r6, .int .i64 c6, .bool p6, .bool q6]) ?ha I7.out ?hc hu48 rfl ?hi ?_; (case ha => rfl); (case hc => rfl); (case hi => kernel_rfl))
      | (go_at_call 61; (with_reducible refine (HV6.out _).mono ?_); rintro en w8 ⟨rfl, hb⟩; have B8 := lh (below_step B7.out hb); have J8 := lh (blk_below J7.out hb); have I8 := lh (blk_below I7.out hb); clear hb B7 J7 I7)
      | ((with_reducible refine gate_ (.store 48 (.tmp 60) (.tmp 58)) rfl ?_); refine sE I8.out 48 (.tmp 60) (.tmp 58) 15 (.agg #[.string ns, .int .i64 nr, .int .i64 nc, .bool np, .bool nq]) #[.int .i64 3, .int .i64 vk, .int .i64 vn, .int .i64 vd, .string vt, .bool vb, .int .i64 ve, .int .i64 op, .string nm, .int .i64 ar, .string ms, .int .i64 mr, .int .i64 mc, .bool mp, .bool mq, .string ns, .int .i64 nr, .int .i64 nc, .bool np, .bool nq] ?_; intro w9 hb_ hp_; have B9 := lh (hp_.below w G2.out B8.out); have J9 := lh (hp_.blk J8.out NE.out); have I9 := lh hb_; clear hb_ hp_ B8 J8 I8)
      | (go_at_call 62; (with_reducible refine (Nbd.calls 3 4 0 0 ⟨#[]⟩ false 3 _ rfl).mono ?_); rintro en w10 ⟨rfl, hb⟩; have B10 := lh (below_step B9.out hb); have J10 := lh (blk_below J9.out hb); have I10 := lh (blk_below I9.out hb); clear hb B9 J9 I9)
      | ((with_reducible refine gate_ (.store 50 (.tmp 11) (.tmp 68)) rfl ?_); refine sE I10.out 50 (.tmp 11) (.tmp 68) 0 (.agg #[.int .i64 1, .int .i64 4, .int .i64 0, .int .i64 0, .string ⟨#[]⟩, .bool false, .int .i64 3, .int .i64 0, .string ⟨#[]⟩, .int .i64 0, .string ⟨#[]⟩, .int .i64 0, .int .i64 0, .bool false, .bool false, .string ⟨#[]⟩, .int .i64 0, .int .i64 0, .bool false, .bool false]) #[.int .i64 1, .int .i64 4, .int .i64 0, .int .i64 0, .string ⟨#[]⟩, .bool false, .int .i64 3, .int .i64 0, .string ⟨#[]⟩, .int .i64 0, .string ⟨#[]⟩, .int .i64 0, .int .i64 0, .bool false, .bool false, .string ⟨#[]⟩, .int .i64 0, .int .i64 0, .bool false, .bool false] ?_; intro w11 hb_ hp_; have B11 := lh (hp_.below w G2.out B10.out); have J11 := lh (hp_.blk J10.out NE.out); have I11 := lh hb_; clear hb_ hp_ B10 J10 I10)
      | ((with_reducible refine gate_dst (N := 71) rfl ?_); refine lA I11.out 50 (.tmp 11) hu50 ?_)
      | ((with_reducible refine gate_ (.store 50 (.tmp 72) (.tmp 71)) rfl ?_); refine Nbb rfl rfl (t := 50) (p := .tmp 72) (x := .tmp 71) rfl (g := g) (o' := i * 20) (e := 50) (u := .agg #[.int .i64 1, .int .i64 4, .int .i64 0, .int .i64 0, .string ⟨#[]⟩, .bool false, .int .i64 3, .int .i64 0, .string ⟨#[]⟩, .int .i64 0, .string ⟨#[]⟩, .int .i64 0, .int .i64 0, .bool false, .bool false, .string ⟨#[]⟩, .int .i64 0, .int .i64 0, .bool false, .bool false]) (seg := c50 lostN) ?ha ?hx ?hu ?ht J11.out ?hf ?h1 (HA.out ▸ set_mid a ⟨3, ⟨vk, ⟨vn, vd⟩, vt, vb, ve⟩, op, nm, ar, ⟨s5, r5, c5, p5, q5⟩, ⟨s6, r6, c6, p6, q6⟩⟩ lostN r : setRun (flat (a ++ ⟨3, ⟨vk, ⟨vn, vd⟩, vt, vb, ve⟩, op, nm, ar, ⟨s5, r5, c5, p5, q5⟩, ⟨s6, r6, c6, p6, q6⟩⟩ :: r)).toArray (i * 20) (c50 lostN) = _) ?_; (case ha => rfl); (case hx => rfl); (case hu => rfl); (case ht => kernel_rfl); (case hf => rw [List.size_toArray, Nby, List.length_append, List.length_cons, HA.out]; show i * 20 + 20 ≤ _; omega); (case h1 => rfl); intro w12 hb_ hp_; have B12 := lh (hp_.below w G.out B11.out); have J12 := lh hb_; clear hb_ hp_ B11 J11 I11))
      rw [hw1]
      clear hw1 hlt
      go_roundw
      case rel => exact ⟨i + 1, by have := HI.out; omega, rfl, lh (by rw [HN.out, HS.out]; exact J12.out), B12⟩
      case measure => simp only [intOf]; have := HI.out; omega
    ·have b3 : (k0 != 3) = true := bne_iff_ne.mpr h3
     have HS := lh (show shN rows cols ⟨k0, ⟨vk, ⟨vn, vd⟩, vt, vb, ve⟩, op, nm, ar, ⟨s5, r5, c5, p5, q5⟩, ⟨s6, r6, c6, p6, q6⟩⟩ = ⟨k0, ⟨vk, ⟨vn, vd⟩, vt, vb, ve⟩, op, nm, ar, ⟨s5, r5, c5, p5, q5⟩, ⟨s6, r6, c6, p6, q6⟩⟩ by unfold shN; rw [if_neg h2, if_neg h3])
     clear h2 h3 HV HV6 HM5 HM6
     go_wp2_with (fail)
     rw [hw1]
     clear hw1 hlt
     go_roundw
     case rel => exact ⟨i + 1, by have := HI.out; omega, rfl, lh (by rw [HN.out, HS.out]; exact J5.out), B5⟩
     case measure => simp only [intOf]; have := HI.out; omega
  ·obtain rfl : i = l.length := by omega
   have HR := lh (R_of_flat (base := w.heap.size) (xs := l.map (shN rows cols)) (by have := HJ.out; simpa using this) G.out (by rw [List.length_map]; have := HL.out; omega))
   rw [List.length_map] at HR
   clear hlt hi
   go_wp2_with (fail)
   go_ret2
   exact ⟨_, rfl, HR.out, HB.out⟩
set_option maxRecDepth 100000 in
theorem shift_bad (A : Option Addr) (c : Nat) (l : List S50) (rows cols : Int) (w : World) (hC : Kd.C k50 w A l.length l) (hle : l.length ≤ c) (hk : chk l ≠ 0) :
 Calls Tryz.prog 37 #[.slice A l.length c, .int .i64 rows, .int .i64 cols] w fun e w' => e = .returned (.tuple #[.slice none 0 0, .int .i64 (chk l)]) ∧ Below w.heap.size w w' := by
 have HCH := lh (Nas.calls 600 A c l (chk l) w hC hle (chk_f l))
 have b1 : (chk l != 0) = true := bne_iff_ne.mpr hk
 clear hC hle hk
 generalize chk l = e0 at HCH b1 ⊢
 go_enter Tryz.func37, Tryz.ntmps37
 go_wp2_with (go_at_call 28; (with_reducible refine (HCH.out).mono ?_); rintro en w1 ⟨rfl, hb⟩; have HB1 := lh hb; clear hb HCH)
 go_ret2
 exact ⟨rfl, HB1.out⟩
def msh.f (l0 : List S50) (a1 : Int) (a2 : Int) : Option (List S50 × Int) := some (if chk l0 = 0 then (l0.map (shN a1 a2), 0) else ([], chk l0))
theorem msh.calls (A0 : Option Addr) (c0 : Nat) (l0 : List (S50)) (a1 : Int) (a2 : Int) (r1 : List (S50)) (r2 : Int) (w : World) (hr0 : Kd.C k50 w A0 l0.length l0) (hc0 : l0.length ≤ c0) (h : msh.f l0 a1 a2 = some (r1, r2)) :
 Calls Tryz.prog 37 #[.slice A0 l0.length c0, .int .i64 a1, .int .i64 a2] w fun e w' => ∃ v0_ : Value, e = .returned (.tuple #[v0_, .int .i64 r2]) ∧ Kd.R k50 50 w' w.heap.size (fun _ => True) v0_ r1 ∧ Below w.heap.size w w' := by
 have e := Option.some.inj h
 by_cases hk : chk l0 = 0
 ·rw [if_pos hk] at e
  obtain ⟨rfl, rfl⟩ := Prod.mk.inj e
  exact shift_ok A0 c0 l0 a1 a2 w hr0 hc0 hk
 ·rw [if_neg hk] at e
  obtain ⟨rfl, rfl⟩ := Prod.mk.inj e
  exact (shift_bad A0 c0 l0 a1 a2 w hr0 hc0 hk).mono fun e w' ⟨h1, h2⟩ => ⟨_, h1, Kd.R_nil _ _ _ _ _, h2⟩
end Go.Proofs.YtejbbceidnaloaaGreatDoor.P
