import Derived.Test.YtejbbceidnaloaaGreatDoorF31
import Derived.Lib.DecodeN
set_option linter.unusedVariables false
set_option linter.unusedSimpArgs false
set_option maxRecDepth 100000
set_option maxHeartbeats 8000000
namespace Go.Proofs.YtejbbceidnaloaaGreatDoor.P
open Go.RowKit AW AL AM
def numOf (l : List UInt8) : Option (Nat × Nat) :=
 match l.drop (runL digB l) with
 | [] => if Nb0 0 (l.take (runL digB l)) ≤ 1000000000000000000 then mkN (Nb0 0 (l.take (runL digB l))) 1 else none
 | _ :: b => if Nb0 0 (l.take (runL digB l)) ≤ 1000000000000 ∧ b.length ≤ 6 then mkN (Nb0 0 (l.take (runL digB l)) * 10 ^ b.length + Nb0 0 b) (10 ^ b.length) else none
theorem runL_app (p : Int → Bool) : ∀ (a r : List UInt8), (∀ c ∈ a, p c.toNat = true) → (match r with | [] => True | c :: _ => p c.toNat = false) → runL p (a ++ r) = a.length
 | [], [], _, _ => rfl
 | [], c :: r, _, h => by simp only at h; rw [List.nil_append, runL, if_neg (by rw [h]; decide)]; rfl
 | c :: a, r, ha, h => by
  rw [List.cons_append, runL, if_pos (ha c (List.mem_cons_self ..)), runL_app p a r (fun x hx => ha x (List.mem_cons_of_mem _ hx)) h]
  rfl
theorem num_read {l : List UInt8} (h : NumTx l) (hl : l.length ≤ 10000) {K : Nat} (hK : 1000006 ≤ K) : Na5.f K ⟨l.toArray⟩ = some (asRead (numOf l)) := by
 obtain ⟨a, h0, hd, h⟩ := h
 have hda : ∀ c ∈ a, digB ((c.toNat : Nat) : Int) = true := fun c hc => (digB_iff c).2 (hd c hc)
 rcases h with rfl | ⟨b, hb0, hdb, rfl⟩
 ·have hr := runL_app digB l [] hda trivial
  rw [List.append_nil] at hr
  unfold numOf
  rw [hr, List.drop_length, List.take_length]
  exact read_int hl h0 hd (by omega)
 ·have hr := runL_app digB a (46 :: b) hda (show digB (((46 : UInt8).toNat : Nat) : Int) = false by decide)
  unfold numOf
  rw [hr, List.drop_left, List.take_left]
  simp only [List.length_append, List.length_cons] at hl
  exact read_frac (by omega) h0 hb0 hd hdb hK
theorem mkN_ok {n d x y : Nat} (hd : 1 ≤ d) (h : mkN n d = some (x, y)) : numB (x : Int) (y : Int) = true := by
 unfold mkN at h
 split at h
 ·rename_i hb
  obtain ⟨hx, hy⟩ := Prod.mk.inj (sI h)
  have hg : 0 < Nat.gcd n d := Nat.gcd_pos_of_pos_right _ (by omega)
  have h1 : 0 < d / Nat.gcd n d := Nat.div_pos (Nat.le_of_dvd (by omega) (Nat.gcd_dvd_right n d)) hg
  have hc : Nat.gcd (n / Nat.gcd n d) (d / Nat.gcd n d) = 1 := by
   rw [Nat.gcd_div (Nat.gcd_dvd_left n d) (Nat.gcd_dvd_right n d), Nat.div_self hg]
  rw [hx, hy] at hb hc
  rw [hy] at h1
  unfold numB
  exact decide_eq_true ⟨by omega, by omega, by omega, by omega, hc⟩
 ·cases h
theorem numOf_ok {l : List UInt8} {x y : Nat} (h : numOf l = some (x, y)) : numB (x : Int) (y : Int) = true := by
 unfold numOf at h
 split at h
 ·split at h
  ·exact mkN_ok (by decide) h
  ·cases h
 ·split at h
  ·exact mkN_ok (Nat.pos_of_ne_zero (by simp)) h
  ·cases h
def faultIx (s : ByteArray) : Nat := Nbu.findIdx (· == s)
def theO : Ops where
 num := fun s => (numOf s.data.toList).map fun (n, d) => ⟨1, ⟨(n : Int), (d : Int)⟩, eB, false, 0⟩
 txt := fun s => if plainB s then ⟨2, ⟨0, 0⟩, s, false, 0⟩ else ⟨4, ⟨0, 0⟩, eB, false, 2⟩
 flt := fun s => ⟨4, ⟨0, 0⟩, eB, false, (faultIx s : Int) + 1⟩
 tru := fun b => ⟨3, ⟨0, 0⟩, eB, b, 0⟩
 cell := cellO
 fn := fnB
 sh := Ndw
theorem tokA_mem {ts : List S39} (i : Int) : tokA ts i = zT ∨ tokA ts i ∈ ts := by
 unfold tokA
 by_cases h : i.toNat < ts.length
 ·right
  have e : ts.getD i.toNat zT = ts[i.toNat] := by simp [List.getD, h]
  rw [e]
  exact List.getElem_mem h
 ·left
  have e : ts[i.toNat]? = none := List.getElem?_eq_none (by omega)
  simp [List.getD, e]
theorem tok_at {ts : List S39} {n : Nat} (h : ∀ t ∈ ts, TokOk n t) (i : Int) : TokOk n (tokA ts i) := by
 rcases tokA_mem (ts := ts) i with e | e
 ·rw [e]
  exact ⟨Nat.zero_le _, fun hh => absurd hh (show ¬ (0 : Int) = 1 by decide), fun hh => absurd hh (show ¬ (0 : Int) = 4 by decide)⟩
 ·exact h _ e
theorem flt_any {s : ByteArray} (h : s ∈ Nbu) (w : World) (hG : GL w) : Calls Tryz.prog 147 #[.string s] w fun en w' => en = .returned (vV (theO.flt s)) ∧ Below w.heap.size w w' := by
 unfold Nbu at h
 simp only [List.mem_cons, List.not_mem_nil, or_false] at h
 rcases h with rfl | rfl | rfl | rfl | rfl | rfl | rfl | rfl
 ·exact Ncv 0 ⟨#[35, 68, 73, 86, 47, 48, 33]⟩ 1 1 (by simp [Nee]) w hG
 ·exact Ncv 1 ⟨#[35, 86, 65, 76, 85, 69, 33]⟩ 2 2 (by simp [Nee]) w hG
 ·exact Ncv 2 ⟨#[35, 82, 69, 70, 33]⟩ 3 3 (by simp [Nee]) w hG
 ·exact Ncv 3 ⟨#[35, 78, 85, 77, 33]⟩ 4 4 (by simp [Nee]) w hG
 ·exact Ncv 4 ⟨#[35, 78, 47, 65]⟩ 5 5 (by simp [Nee]) w hG
 ·exact Ncv 5 ⟨#[35, 67, 73, 82, 67, 76, 69, 33]⟩ 6 6 (by simp [Nee]) w hG
 ·exact Ncv 6 ⟨#[35, 76, 79, 78, 71, 33]⟩ 7 7 (by simp [Nee]) w hG
 ·exact Ncv 7 ⟨#[35, 65, 82, 71, 33]⟩ 8 8 (by simp [Nee]) w hG
theorem text_any {s : ByteArray} (hs : s.size ≤ 256) (w : World) : Calls Tryz.prog 182 #[.string s] w fun en w' => en = .returned (vV (theO.txt s)) ∧ Below w.heap.size w w' := by
 have hp : Naw.f 1000 s = some (plainB s) := by
  have := plain_l0 s (by omega) s.size 0 1000 (by omega) (by omega) (by omega)
  rw [List.drop_zero] at this
  exact this
 show Calls Tryz.prog 182 #[.string s] w fun en w' => en = .returned (vV (if plainB s then ⟨2, ⟨0, 0⟩, s, false, 0⟩ else ⟨4, ⟨0, 0⟩, eB, false, 2⟩)) ∧ Below w.heap.size w w'
 cases hb : plainB s with
 | true =>
  refine Nc7.calls 1000 s 2 0 0 s false 0 w ?_
  unfold Nc7.f
  rw [hp, hb]
  simp only [Option.bind_some, if_true]
  rw [if_neg (by omega)]
 | false =>
  refine Nc7.calls 1000 s 4 0 0 ⟨#[]⟩ false 2 w ?_
  unfold Nc7.f
  rw [hp, hb]
  rfl
theorem penv {ts : List S39} {n : Nat} (hn : n ≤ 10000) (h : ∀ t ∈ ts, TokOk n t) : PEnv theO ts where
 num := by
  intro i s h1 hs w hG
  have ht := tok_at h i
  have hx := ht.num h1
  have hz := ht.size
  rw [hs] at hx hz
  have hf := num_read hx (by have : s.data.toList.length = s.size := Array.length_toList; omega) (K := 1000006) (Nat.le_refl _)
  rw [← list_text] at hf
  cases hno : numOf s.data.toList with
  | none =>
   rw [hno] at hf
   refine (Na5.calls 1000006 s 0 0 false w hf).mono ?_
   rintro en w' ⟨rfl, hb⟩
   refine ⟨0, 0, ?_, hb, ?_⟩
   ·show _ = Ending.returned (.tuple #[_, .bool ((numOf s.data.toList).map _).isSome]); rw [hno]; rfl
   ·intro v hv
    change (numOf s.data.toList).map _ = some v at hv
    rw [hno] at hv; cases hv
  | some p =>
   obtain ⟨x, y⟩ := p
   rw [hno] at hf
   refine (Na5.calls 1000006 s (x : Int) (y : Int) true w hf).mono ?_
   rintro en w' ⟨rfl, hb⟩
   refine ⟨(x : Int), (y : Int), ?_, hb, ?_⟩
   ·show _ = Ending.returned (.tuple #[_, .bool ((numOf s.data.toList).map _).isSome]); rw [hno]; rfl
   ·intro v hv w2
    change (numOf s.data.toList).map _ = some v at hv
    rw [hno] at hv
    cases hv
    refine Ndb.calls 1000006 (x : Int) (y : Int) 1 (x : Int) (y : Int) ⟨#[]⟩ false 0 w2 ?_
    unfold Ndb.f
    rw [Nez _ _ _ (by omega), numOf_ok hno]
    rfl
 txt := fun i s h1 hs hz w => text_any hz w
 flt := fun i s h1 hs w hG => flt_any (by have := (tok_at h i).flt h1; rw [hs] at this; exact this) w hG
 tru := fun b w => Nd6.calls b 3 0 0 ⟨#[]⟩ b 0 w rfl
 fn := fun s w _ _ => Ned s w
 sh := fun s w _ => (Nd1 s w).mono fun e w' hh => ⟨hh.1, hh.2.below⟩
 size := fun i => by have := (tok_at h i).size; omega
def wholeX (ts : List S39) (e : Int) : Except (Int × Int) (List S50) := match Nds theO ts e (16 * ts.length + 12) with | some x => x | none => .error (50, 0)
theorem wholeX_f (ts : List S39) (e : Int) : Nds theO ts e (16 * ts.length + 12) = some (wholeX ts e) := by
 obtain ⟨x, hx⟩ := whole_fuel theO ts e (Nat.le_refl _)
 unfold wholeX
 rw [hx]
def chk (l : List S50) : Int := (Na7.f 600 l).getD 53
theorem chk_f (l : List S50) : Na7.f 600 l = some (chk l) := by
 obtain ⟨c, hc, _⟩ := check_some l (K := 600) (Nat.le_refl _)
 unfold chk
 rw [hc]; rfl
def Ndx (l : List UInt8) : List S50 × Int × Int :=
 if 1024 < l.length then ([], 2, 0) else
 match scanL l.length 0 l with
 | .error (c, p) => ([], c, p)
 | .ok ts => match wholeX ts (l.length : Int) with
  | .error (c, p) => ([], c, p)
  | .ok t => if chk t = 0 then (t, 0, 0) else ([], chk t, 0)
theorem wf_up {ts : List S39} {e : Int} {k : Nat} (hk : 16 * ts.length + 12 ≤ k) : Nds theO ts e k = some (wholeX ts e) := wholeF_le theO ts e hk (wholeX_f ts e)
theorem parse_any (l : List UInt8) (w : World) (hG : GL w) : Calls Tryz.prog 21 #[.string ⟨l.toArray⟩] w fun en w' => ∃ v, en = .returned (.tuple #[v, .int .i64 (Ndx l).2.1, .int .i64 (Ndx l).2.2]) ∧ Kd.R k50 50 w' w.heap.size (fun _ => True) v (Ndx l).1 ∧ Below w.heap.size w w' := by
 unfold Ndx
 have hs := scan_f l (K := 17 * l.length + 13) (by omega)
 by_cases hl : 1024 < l.length
 ·rw [if_pos hl] at hs ⊢
  refine (parse_scan hG hs (by decide)).mono ?_
  rintro en w' ⟨rfl, hb⟩
  exact ⟨_, rfl, Kd.R_nil _ _ _ _ _, hb⟩
 rw [if_neg hl] at hs ⊢
 cases hsc : scanL l.length 0 l with
 | error q =>
  obtain ⟨c, p⟩ := q
  rw [hsc] at hs
  refine (parse_scan hG hs (scan_er _ l _ _ c p (Nat.le_refl _) hsc)).mono ?_
  rintro en w' ⟨rfl, hb⟩
  exact ⟨_, rfl, Kd.R_nil _ _ _ _ _, hb⟩
 | ok ts =>
  rw [hsc] at hs
  obtain ⟨h1, h2⟩ := scan_ok _ l _ _ ts (Nat.le_refl _) hsc
  have hx := wf_up (ts := ts) (e := (l.length : Int)) (k := 17 * l.length + 13) (by omega)
  have hsz : ((⟨l.toArray⟩ : ByteArray).size : Int) = (l.length : Int) := by rw [Nak]
  have hp := parse_good (O := theO) (k := 17 * l.length + 13) (k2 := 600) (s := ⟨l.toArray⟩) hG (by rw [Nak]; omega) (ts := ts) (a := 0) hs (penv (by omega) h2) (fun _ => rfl) (by omega) (x := wholeX ts (l.length : Int)) (by rw [hsz]; exact hx)
   (fun c p he => by
     rw [he] at hx
     have := (whole_er theO ts _ _ c p hx).1
     omega)
   (cc := match wholeX ts (l.length : Int) with | .ok t => chk t | .error _ => 0)
   (fun t ht => by rw [ht]; exact chk_f t)
  refine hp.mono ?_
  intro en w' hh
  obtain ⟨hh, hb⟩ := hh
  simp only
  cases hw : wholeX ts (l.length : Int) with
  | error q =>
   obtain ⟨c, p⟩ := q
   rw [hw] at hh
   exact ⟨_, hh, Kd.R_nil _ _ _ _ _, hb⟩
  | ok t =>
   rw [hw] at hh
   simp only at hh
   show ∃ v, en = .returned (.tuple #[v, .int .i64 (if chk t = 0 then (t, (0 : Int), (0 : Int)) else ([], chk t, 0)).2.1, .int .i64 (if chk t = 0 then (t, (0 : Int), (0 : Int)) else ([], chk t, 0)).2.2]) ∧ Kd.R k50 50 w' w.heap.size (fun _ => True) v (if chk t = 0 then (t, (0 : Int), (0 : Int)) else ([], chk t, 0)).1 ∧ Below w.heap.size w w'
   by_cases hc : chk t = 0
   ·rw [if_pos hc] at hh ⊢
    obtain ⟨v, rfl, hr⟩ := hh
    exact ⟨v, rfl, hr, hb⟩
   ·rw [if_neg hc] at hh ⊢
    exact ⟨_, hh, Kd.R_nil _ _ _ _ _, hb⟩
theorem Ndq (b : ByteArray) : b.data.toList.length = b.size := Array.length_toList
theorem ite_p {α : Type} {P : Prop} [Decidable P] {a b : α} {p : α → Prop} (ha : p a) (hb : p b) : p (if P then a else b) := by split <;> assumption
theorem sign_len (o : Int) : 1 ≤ (signB o).size ∧ (signB o).size ≤ 2 := by
 have h : (fun b : ByteArray => 1 ≤ b.size ∧ b.size ≤ 2) (signB o) := by
  unfold signB
  repeat (refine ite_p (p := fun b : ByteArray => 1 ≤ b.size ∧ b.size ≤ 2) (by decide) ?_)
  decide
 exact h
theorem faults_pos (e : Int) (h1 : 1 ≤ e) (h8 : e ≤ 8) : 1 ≤ (Nbu.getD (e - 1).toNat ByteArray.empty).size := by
 have : e = 1 ∨ e = 2 ∨ e = 3 ∨ e = 4 ∨ e = 5 ∨ e = 6 ∨ e = 7 ∨ e = 8 := by omega
 rcases this with rfl | rfl | rfl | rfl | rfl | rfl | rfl | rfl <;> decide
theorem val_len {v : S46} (h : litB v = true) : 1 ≤ (Nd2 (valTk v)).length ∧ (Nd2 (valTk v)).length ≤ 600 := by
 rcases lit_cases h with ⟨h0, hN, h2, h3, h4, h5, h6⟩ | ⟨h0, h1, h2, h3, h4, h5, h6⟩ | ⟨h0, h1, h2, h3, h4⟩ | ⟨h0, h1, h2, h3, h4, h5, h6⟩
 ·have hb := hN
  unfold numB at hb
  obtain ⟨-, b1, b2, b3, -⟩ := of_decide_eq_true hb
  have hsz := num_len h5 b1 b2 b3
  have hp := dec_pos (v.f1.f0 / v.f1.f1).toNat
  have e : valTk v = (1, ⟨(numL v.f1.f0 v.f1.f1).toArray⟩) := by unfold valTk; rw [if_neg (by omega), if_neg (by omega), if_neg (by omega)]
  rw [e, tk_len _ (show ¬ (1 : Int) = 2 by decide)]
  show 1 ≤ (⟨(numL v.f1.f0 v.f1.f1).toArray⟩ : ByteArray).size ∧ (⟨(numL v.f1.f0 v.f1.f1).toArray⟩ : ByteArray).size ≤ 600
  rw [Nak]
  refine ⟨?_, by omega⟩
  unfold numL
  rw [List.length_append]; omega
 ·have e : valTk v = (2, v.f2) := by unfold valTk; rw [if_pos h0]
  rw [e]
  have e2 : Nd2 (2, v.f2) = ((⟨#[34]⟩ : ByteArray) ++ ⟨(dblL v.f2.data.toList).toArray⟩ ++ (⟨#[34]⟩ : ByteArray) : ByteArray).data.toList := by
   rw [← Net]; rfl
  rw [e2]
  have hl := dblL_len v.f2.data.toList
  rw [Ndq] at hl
  have h34 : (⟨#[34]⟩ : ByteArray).size = 1 := rfl
  have hd : (⟨(dblL v.f2.data.toList).toArray⟩ : ByteArray).size = (dblL v.f2.data.toList).length := Nak _
  rw [Ndq, ByteArray.size_append, ByteArray.size_append, h34]
  omega
 ·have e : valTk v = (3, if v.f3 then tTRUE else tFALSE) := by unfold valTk; rw [if_neg (by omega), if_neg (by omega), if_pos h0]
  rw [e, tk_len _ (show ¬ (3 : Int) = 2 by decide)]
  cases v.f3 <;> decide
 ·have e : valTk v = (4, Nbu.getD (v.f4 - 1).toNat ByteArray.empty) := by unfold valTk; rw [if_neg (by omega), if_pos h0]
  rw [e, tk_len _ (show ¬ (4 : Int) = 2 by decide)]
  have := faults_size v.f4 h5 h6
  have := faults_pos v.f4 h5 h6
  show 1 ≤ (Nbu.getD (v.f4 - 1).toNat ByteArray.empty).size ∧ (Nbu.getD (v.f4 - 1).toNat ByteArray.empty).size ≤ 600
  omega
theorem cel_len {r : S48} (h : refR r = true) : 1 ≤ (celL r).length ∧ (celL r).length ≤ 20 := by
 obtain ⟨-, h1, h2, h3, h4⟩ := Nep h
 have a := dec_le 4 (r.f1 + 1).toNat (by omega)
 have b := colL_len r.f2
 unfold celL
 simp only [List.length_append]
 cases r.f3 <;> cases r.f4 <;> simp <;> omega
theorem ref_len {r : S48} (h : refR r = true) : 1 ≤ (txt (refT theLf r)).length ∧ (txt (refT theLf r)).length ≤ 40 := by
 have hc := cel_len h
 have e : theLf.cel r = ⟨(celL r).toArray⟩ := rfl
 unfold refT
 by_cases h0 : r.f0 = eB
 ·rw [if_pos h0, txt_one, e, tk3]
  rw [Ndq, Nak]; omega
 ·have hs := (Nep h).1.resolve_left h0
  have hz := sheet_size hs
  rw [if_neg h0, Nby, Nby, txt_one, e, tk3, tk3]
  simp only [List.length_append, Ndq, Nak]
  have : (Nd2 (mk [33])).length = 1 := rfl
  omega
theorem bra_txt (b : Bool) (T : List Tk) : (txt T).length ≤ (txt (bra b T)).length ∧ (txt (bra b T)).length ≤ (txt T).length + 2 := by
 rw [txt_bra]
 cases b <;> simp <;> omega
theorem txt_mk (l : List UInt8) (U : List Tk) : (txt (mk l :: U)).length = l.length + (txt U).length := by
 rw [Nby, List.length_append]
 have : (Nd2 (mk l)).length = l.length := by
  show (Nd2 (5, mB l)).length = _
  rw [tk5, Ndq]
  exact Nak l
 rw [this]
theorem txt_sg (b : ByteArray) (U : List Tk) : (txt ((5, b) :: U)).length = b.size + (txt U).length := by
 rw [Nby, List.length_append, tk5, Ndq]
theorem txt_wd (b : ByteArray) (U : List Tk) : (txt ((3, b) :: U)).length = b.size + (txt U).length := by
 rw [Nby, List.length_append, tk3, Ndq]
theorem txt_app (T U : List Tk) : (txt (T ++ U)).length = (txt T).length + (txt U).length := by rw [Nbp, List.length_append]
theorem txt_le : ∀ k : Nat,
 (∀ (least : Int) (l : List S50) (T : List Tk) (q : List S50), (∀ n ∈ l, 0 ≤ Nbk n) → tkF theLf k least l = some (T, q) → 1 ≤ (txt T).length ∧ (txt T).length + 1 + 1000 * q.length ≤ 1000 * l.length) ∧
 (∀ (first : Bool) (m : Int) (l : List S50) (T : List Tk) (q : List S50), (∀ n ∈ l, 0 ≤ Nbk n) → atkF theLf k first m l = some (T, q) → (txt T).length + 1000 * q.length ≤ 1000 * l.length) := by
 intro k
 induction k with
 | zero =>
  refine ⟨?_, ?_⟩
  ·intro _ _ _ _ _ h; rw [tkF] at h; cases h
  ·intro _ _ _ _ _ _ h; rw [atkF] at h; cases h
 | succ k ih =>
  obtain ⟨ih1, ih2⟩ := ih
  refine ⟨?_, ?_⟩
  ·intro least l T q hg h
   cases l with
   | nil => rw [tkF] at h; cases h
   | cons n r =>
    have hn := good_of n (hg n (List.mem_cons_self ..))
    have hr : ∀ m ∈ r, 0 ≤ Nbk m := fun m hm => hg m (List.mem_cons_of_mem _ hm)
    obtain ⟨U, rfl, hU⟩ := nodeT h
    have hb := bra_txt (decide (Ndm n < least)) U
    rw [List.length_cons]
    suffices hs : 1 ≤ (txt U).length ∧ (txt U).length + 1 + 1000 * q.length ≤ 1000 * r.length + 998 by omega
    generalize Nbk n = cc at hn
    cases hn with
    | val v hv =>
     obtain ⟨rfl, rfl⟩ := Prod.mk.inj (sI hU)
     have := val_len hv
     show 1 ≤ (txt [valTk v]).length ∧ (txt [valTk v]).length + 1 + 1000 * r.length ≤ _
     rw [txt_one]; omega
    | cell s hs =>
     obtain ⟨rfl, rfl⟩ := Prod.mk.inj (sI hU)
     have := ref_len hs
     show 1 ≤ (txt (refT theLf s)).length ∧ (txt (refT theLf s)).length + 1 + 1000 * r.length ≤ _
     omega
    | area s u hs hu h0 =>
     obtain ⟨rfl, rfl⟩ := Prod.mk.inj (sI hU)
     have := ref_len hs
     have hc := cel_len hu
     show 1 ≤ (txt (refT theLf s ++ [mk [58], (3, ⟨(celL u).toArray⟩)])).length ∧ (txt (refT theLf s ++ [mk [58], (3, ⟨(celL u).toArray⟩)])).length + 1 + 1000 * r.length ≤ _
     rw [txt_app, txt_mk, txt_wd, Nak, Ndl]
     simp only [List.length_cons, List.length_nil]
     omega
    | un o h1 h3 =>
     by_cases ho : o = 3
     ·subst ho
      change (tkF theLf k 7 r).map (fun (T, q) => (T ++ [mk [37]], q)) = _ at hU
      obtain ⟨⟨V, q1⟩, hV, he⟩ := Option.map_eq_some_iff.1 hU
      obtain ⟨rfl, rfl⟩ := Prod.mk.inj he
      have := ih1 _ _ _ _ hr hV
      rw [txt_app, txt_mk, Ndl]
      simp only [List.length_cons, List.length_nil]
      omega
     ·change (if o = 3 then (tkF theLf k 7 r).map (fun (T, q) => (T ++ [mk [37]], q)) else (tkF theLf k 6 r).map fun (T, q) => ((5, signB o) :: T, q)) = _ at hU
      rw [if_neg ho] at hU
      obtain ⟨⟨V, q1⟩, hV, he⟩ := Option.map_eq_some_iff.1 hU
      obtain ⟨rfl, rfl⟩ := Prod.mk.inj he
      have := ih1 _ _ _ _ hr hV
      have := sign_len o
      rw [txt_sg]
      omega
    | bin o ho =>
     change (tkF theLf k (Nb9 o) r).bind (fun (T, q) => (tkF theLf k (Nb9 o + 1) q).map fun (U, p) => (T ++ (5, signB o) :: U, p)) = _ at hU
     obtain ⟨⟨V, q1⟩, hV, h2⟩ := Option.bind_eq_some_iff.1 hU
     obtain ⟨⟨V2, q2⟩, hV2, he⟩ := Option.map_eq_some_iff.1 h2
     obtain ⟨rfl, rfl⟩ := Prod.mk.inj he
     obtain ⟨p, -, rfl⟩ := (tk_suf theLf k).1 _ _ _ _ hV
     have a1 := ih1 _ _ _ _ hr hV
     have a2 := ih1 _ _ _ _ (fun m hm => hr m (List.mem_append_right _ hm)) hV2
     have := sign_len o
     rw [txt_app, txt_sg]
     omega
    | call m c hm h0 h30 =>
     change (atkF theLf k true _ r).map (fun (T, q) => ((3, m) :: mk [40] :: (T ++ [mk [41]]), q)) = _ at hU
     obtain ⟨⟨V, q1⟩, hV, he⟩ := Option.map_eq_some_iff.1 hU
     obtain ⟨rfl, rfl⟩ := Prod.mk.inj he
     have := ih2 _ _ _ _ _ hr hV
     have := fn_size hm
     rw [txt_wd, txt_mk, txt_app, txt_mk, Ndl]
     simp only [List.length_cons, List.length_nil]
     omega
  ·intro first m l T q hg h
   rw [atkF] at h
   split at h
   ·cases h; rw [Ndl, List.length_nil]; omega
   ·obtain ⟨⟨V, q1⟩, hV, h2⟩ := Option.bind_eq_some_iff.1 h
    obtain ⟨⟨V2, q2⟩, hV2, he⟩ := Option.map_eq_some_iff.1 h2
    obtain ⟨rfl, rfl⟩ := Prod.mk.inj he
    obtain ⟨p, -, rfl⟩ := (tk_suf theLf k).1 _ _ _ _ hV
    have a1 := ih1 _ _ _ _ hg hV
    have a2 := ih2 _ _ _ _ _ (fun m hm => hg m (List.mem_append_right _ hm)) hV2
    rw [txt_app]
    cases first with
    | true => simp only [if_true]; omega
    | false =>
     simp only [Bool.false_eq_true, if_false]
     rw [txt_mk]
     simp only [List.length_cons, List.length_nil]
     omega
def printL (l : List S50) : List UInt8 × Int := if chk l = 0 then (match tkF theLf 600 1 l with | some (T, _) => txt T | none => [], 0) else ([], chk l)
theorem print_tk {l : List S50} (h : chk l = 0) : ∃ T, tkF theLf 600 1 l = some (T, []) ∧ 1 ≤ (txt T).length ∧ (txt T).length ≤ 256000 := by
 obtain ⟨d, hd, -, hl⟩ := check_back (l := l) (K := 600) (by rw [chk_f, h])
 obtain ⟨T, -, hT⟩ := (tre_tk theLf 256).1 l d 600 1 [] hd hl (by omega)
 rw [List.append_nil] at hT
 have := (txt_le 600).1 1 l T [] hd.good hT
 exact ⟨T, hT, this.1, by simp only [List.length_nil] at this; omega⟩
theorem print_any {A : Option Addr} {c : Nat} {l : List S50} {w : World} (hG : GL w) (hC : Kd.C k50 w A l.length l) (hc : l.length ≤ c) :
 Calls Tryz.prog 26 #[.slice A l.length c] w fun en w' => en = .returned (.tuple #[.string ⟨(printL l).1.toArray⟩, .int .i64 (printL l).2]) ∧ Below w.heap.size w w' := by
 unfold printL
 by_cases h : chk l = 0
 ·rw [if_pos h]
  obtain ⟨T, hT, h1, h2⟩ := print_tk h
  rw [hT]
  exact print_tree hG hC hc (K := 600) (by rw [chk_f, h]) hT (by omega) (by intro hh; rw [hh] at h1; simp at h1)
 ·rw [if_neg h]
  exact print_err hC hc (chk_f l) h
def Nce.f (a0 : ByteArray) : Option (List S50 × Int × Int) := some (Ndx a0.data.toList)
theorem Nce.calls (a0 : ByteArray) (r1 : List (S50)) (r2 : Int) (r3 : Int) (w : World) (hG : GL w) (h : Nce.f a0 = some (r1, r2, r3)) :
 Calls Tryz.prog 21 #[.string a0] w fun e w' => ∃ v0_ : Value, e = .returned (.tuple #[v0_, .int .i64 r2, .int .i64 r3]) ∧ Kd.R k50 50 w' w.heap.size (fun _ => True) v0_ r1 ∧ Below w.heap.size w w' := by
 have e := sI h
 have := parse_any a0.data.toList w hG
 rw [← list_text, e] at this
 exact this
def Ndu.f (l0 : List (S50)) : Option (ByteArray × Int) := some (⟨(printL l0).1.toArray⟩, (printL l0).2)
theorem Ndu.calls (A0 : Option Addr) (c0 : Nat) (l0 : List (S50)) (r1 : ByteArray) (r2 : Int) (w : World) (hG : GL w) (hr0 : Kd.C k50 w A0 l0.length l0) (hc0 : l0.length ≤ c0) (h : Ndu.f l0 = some (r1, r2)) :
 Calls Tryz.prog 26 #[.slice A0 l0.length c0] w fun e w' => e = .returned (.tuple #[.string r1, .int .i64 r2]) ∧ Below w.heap.size w w' := by
 obtain ⟨rfl, rfl⟩ := Prod.mk.inj (sI h)
 exact print_any hG hr0 hc0
section
def ableL : List S50 := [nBin 11, nVal ⟨1, ⟨1, 1⟩, eB, false, 0⟩, nCell ⟨eB, 0, 0, false, false⟩]
theorem able_parse : Ndx [49, 43, 65, 49] = (ableL, 0, 0) := by kernel_rfl
theorem able_print : printL ableL = ([49, 43, 65, 49], 0) := by kernel_rfl
end
theorem cells_event {P : Program} {ops : Array Oper} {rest : List Oper} {o : Oper} {a : Act} {Q : Exit → Act → World → Prop} {W : World} (hgd : o.guard = none) {t : TypeId} {p : Operand} (ho : o.op = .load t p) {ad : Addr} {cs : List Value} {d : TypeDesc}
 (haddr : a.eval p = .pointer (some ad)) (hc : ∀ (j : Nat) v, cs[j]? = some v → W.cell? (ad.add j) = some v) (hu : P.underlying t = some d) (hd : d.isRow = true) (hi : (P.info? t).map (·.size) = some cs.length)
 (h : wpList P ops Q rest (a.put o.dst (.agg cs.toArray)) W) : wpList P ops Q (o :: rest) a W := by
 refine wpList_plain hgd fun K hKK => ?_
 have hrun := Ndh (P := P) W ad t cs d hc hu hd hi
 unfold Oper.wp execOp
 simp only [ho, haddr, Instr.loadAt, Instr.sureAddr, Sem.run_bind, Sem.run_pure, Result.andThen_ok, hrun]
 exact hKK _ _ h
theorem able5_any (w : World) (hG : GL w) : Calls Tryz.prog 23 #[] w fun e w' => e = .returned (.bool true) ∧ Below w.heap.size w w' := by
 have HP := lh (Nce.calls ⟨#[49, 43, 65, 49]⟩ ableL 0 0 w hG (by unfold Nce.f; exact congrArg some able_parse))
 have HG := lh hG
 have hu50 := Tryz.underlying50
 clear hG
 go_enter Tryz.func23, Tryz.ntmps23
 go_upto_region 2 with (go_at_call 21; (with_reducible refine (HP.out).mono ?_); rintro en w1 ⟨v, rfl, hr, hb⟩; have HB := lh hb; have HR := lh hr; clear hr hb)
 obtain ⟨A, c, rfl, hle, hC⟩ := Kd.R_reads HR.out
 have HPR := lh (Ndu.calls A c ableL ⟨#[49, 43, 65, 49]⟩ 0 w1 (HG.out.below HB.out) hC hle (by unfold Ndu.f; rw [able_print]))
 obtain ⟨ad, c0, rfl, hl0, hk0, hx0⟩ := Kd.C_get hC z50 0 (by decide) (by decide)
 obtain ⟨ad2, c2, e2, hl2, hk2, hx2⟩ := Kd.C_get hC z50 2 (by decide) (by decide)
 cases e2
 obtain rfl := Neq hk0
 obtain rfl := Neq hk2
 have HX0 := lh (show ∀ (j : Nat) v, ([.int .i64 5, .int .i64 0, .int .i64 0, .int .i64 0, .string ⟨#[]⟩, .bool false, .int .i64 0, .int .i64 11, .string ⟨#[]⟩, .int .i64 0, .string ⟨#[]⟩, .int .i64 0, .int .i64 0, .bool false, .bool false, .string ⟨#[]⟩, .int .i64 0, .int .i64 0, .bool false, .bool false] : List Value)[j]? = some v → w1.cell? (ad.add j) = some v from fun j v hv => by have := hx0 j v hv; rwa [show Int.toNat 0 * k50.sz + j = j by show 0 * 20 + j = j; omega] at this)
 have HX2 := lh (show w1.cell? (ad.add 40) = some (.int .i64 2) from hx2 0 (.int .i64 2) rfl)
 clear hx0 hx2 hk0 hk2 hl0 hl2 hC hle HR
 rw [show ableL.length = 3 from rfl] at HPR ⊢
 go_upto_region 3 with (go_at_call 26; (with_reducible refine (HPR.out).mono ?_); rintro en w2 ⟨rfl, hb⟩; have HB2 := lh hb; clear hb)
 have HY0 := lh (show ∀ (j : Nat) v, ([.int .i64 5, .int .i64 0, .int .i64 0, .int .i64 0, .string ⟨#[]⟩, .bool false, .int .i64 0, .int .i64 11, .string ⟨#[]⟩, .int .i64 0, .string ⟨#[]⟩, .int .i64 0, .int .i64 0, .bool false, .bool false, .string ⟨#[]⟩, .int .i64 0, .int .i64 0, .bool false, .bool false] : List Value)[j]? = some v → w2.cell? (ad.add j) = some v from fun j v hv => Nab HB2.out (HX0.out j v hv))
 have y2 : w2.cell? ⟨ad.block, ad.off + 40, none⟩ = some (.int .i64 2) := by have := Nab HB2.out HX2.out; simpa [Addr.add] using this
 go_wp2_with (first
  | ((with_reducible refine gD 30 rfl ?_); refine Nch (by kernel_rfl) ?_; refine cells_event rfl (t := 50) (p := .tmp 29) rfl (ad := ad) (cs := [.int .i64 5, .int .i64 0, .int .i64 0, .int .i64 0, .string ⟨#[]⟩, .bool false, .int .i64 0, .int .i64 11, .string ⟨#[]⟩, .int .i64 0, .string ⟨#[]⟩, .int .i64 0, .int .i64 0, .bool false, .bool false, .string ⟨#[]⟩, .int .i64 0, .int .i64 0, .bool false, .bool false]) ?ha HY0.out hu50 rfl ?hi ?_; (case ha => rfl); (case hi => kernel_rfl)))
 go_ret
 exact ⟨rfl, Nac HB.out HB2.out⟩
def able5_g.f : Option Bool := some true
theorem able5_g.calls (r : Bool) (w : World) (hG : GL w) (h : able5_g.f = some r) : Calls Tryz.prog 23 #[] w fun e w' => e = .returned (.bool r) ∧ Below w.heap.size w w' := by
 obtain rfl := sI h
 exact able5_any w hG
theorem neq50 {o : Oper} {a : Act} (x y : S50) (w : World) (ho : o.op = .binOp .neq 50 (.tmp 20) (.tmp 24) 50) (hx : a.eval (.tmp 20) = .agg (cs50 x).toArray) (hy : a.eval (.tmp 24) = .agg (cs50 y).toArray) :
 (execOp a.eval o).run Tryz.prog w = .ok (.value (.bool (!eqS x y))) w := by
 unfold execOp
 simp only [ho, hx, hy, Sem.run_bind, Sem.run_pure]
 rw [run_eqGuard_agg (hm := Tryz.eqGuardType50)]
 simp only [Result.andThen]
 rw [run_neq_struct, eq50V 9996 w x y]
 rfl
theorem same24_any (A1 A2 : Option Addr) (c1 c2 : Nat) (l1 l2 : List S50) (w : World) (hC1 : Kd.C k50 w A1 l1.length l1) (hC2 : Kd.C k50 w A2 l2.length l2) (hl : l1.length ≤ 1000000000000) : Calls Tryz.prog 24 #[.slice A1 l1.length c1, .slice A2 l2.length c2] w fun e w' => e = .returned (.bool (@decide (l1 = l2) (Classical.propDecidable _))) ∧ Below w.heap.size w w' := by
 have HC1 := lh hC1
 have HC2 := lh hC2
 have HL := lh hl
 have hu50 := Tryz.underlying50
 obtain ⟨r, hr⟩ : ∃ r : Bool, r = @decide (l1 = l2) (Classical.propDecidable _) := ⟨_, rfl⟩
 rw [← hr]
 have HR := lh hr
 clear hC1 hC2 hl hr
 by_cases hne : l1.length = l2.length
 ·have HNE := lh hne
  rw [← hne]
  clear hne
  go_enter Tryz.func24, Tryz.ntmps24
  go_wp2_with (fail)
  go_loopw [5] (fun v5 w' => ∃ i : Nat, i ≤ l1.length ∧ v5 = .int .i64 i ∧ Hid (∀ j, j < i → Nc2 l1 (j : Int) = Nc2 l2 (j : Int)) ∧ Hid (Below w.heap.size w w')) (fun v5 _ => l1.length - (intOf v5).toNat)
  case atStart => exact ⟨0, Nat.zero_le _, rfl, lh (fun j hj => by omega), lh (Below.refl _ _)⟩
  case round =>
   obtain ⟨i, hi, rfl, HE, HB⟩ := hrel
   by_cases hlt : i < l1.length
   ·obtain ⟨ad1, q1, rfl, hq1, hk1, hx0⟩ := Kd.C_get (Kd.C_below HC1.out HB.out) z50 (i : Int) (by omega) (by omega)
    obtain ⟨ad2, q2, rfl, hq2, hk2, hy0⟩ := Kd.C_get (Kd.C_below HC2.out HB.out) z50 (i : Int) (by omega) (by have := HNE.out; omega)
    obtain rfl := Neq hk1
    obtain rfl := Neq hk2
    have HX := lh hx0
    have HY := lh hy0
    obtain ⟨x, hxx⟩ : ∃ x_ : S50, x_ = Nc2 l1 (i : Int) := ⟨_, rfl⟩
    obtain ⟨y, hyy⟩ : ∃ x_ : S50, x_ = Nc2 l2 (i : Int) := ⟨_, rfl⟩
    have HXX := lh hxx
    have HYY := lh hyy
    have hx : ∀ (j : Nat) v, (cs50 x)[j]? = some v → wr.cell? ((ad1.add (i * 20)).add j) = some v := fun j v hv => by rw [add_add]; exact HX.out j v (by rw [hxx] at hv; exact hv)
    have hy : ∀ (j : Nat) v, (cs50 y)[j]? = some v → wr.cell? ((ad2.add (i * 20)).add j) = some v := fun j v hv => by rw [add_add]; exact HY.out j v (by rw [hyy] at hv; exact hv)
    clear hx0 hy0 hxx hyy hk1 hk2 hq1 hq2 HX HY
    have HI := lh hi
    have hlen2 : i < l2.length := by have := HNE.out; omega
    go_upto_region 6 with (fail)
    refine sP (n := 9) (S := fun w' => (∀ (j : Nat) v, (cs50 x)[j]? = some v → w'.cell? ((ad1.add (i * 20)).add j) = some v) ∧ ∀ (j : Nat) v, (cs50 y)[j]? = some v → w'.cell? ((ad2.add (i * 20)).add j) = some v) (ds := []) ⟨hx, hy⟩ (fun hHeld => ?_)
    refine pP 0 17 ?_
    refine pP 1 18 ?_
    refine pP 2 19 ?_
    refine pP 4 21 ?_
    refine pP 5 22 ?_
    refine pP 6 23 ?_
    refine tP 3 20 hHeld ?_ (hy := Or.inl ⟨by rfl, by rintro w' ⟨s0, s1⟩; refine Ne1 (t := 50) (p := .tmp 19) (ad := ad1.add (i * 20)) (cs := cs50 x) ?_ ?_ s0 hu50 rfl ?_; rfl; rfl; kernel_rfl⟩)
    refine tP 7 24 hHeld ?_ (hy := Or.inl ⟨by rfl, by rintro w' ⟨s0, s1⟩; refine Ne1 (t := 50) (p := .tmp 23) (ad := ad2.add (i * 20)) (cs := cs50 y) ?_ ?_ s1 hu50 rfl ?_; rfl; rfl; kernel_rfl⟩)
    refine pP 8 25 ?_ (hy := Or.inl ⟨by rfl, by intro w'; refine neq50 x y w' ?_ ?_ ?_; rfl; rfl; rfl⟩)
    refine done_ (by kernel_rfl) ?_
    cases hb : eqS x y with
    | true =>
     have hxy := Neb.1 hb
     have HXY := lh (show Nc2 l1 (i : Int) = Nc2 l2 (i : Int) by rw [← HXX.out, ← HYY.out, hxy])
     have hw1 : wrap64 ((i : Int) + 1) = (i : Int) + 1 := wr1 (by omega) (by have := HL.out; omega)
     have HB2 := lh (show Below w.heap.size w wr.drew from HB.out.drew)
     clear hxy hx hy
     go_wp2_with (fail)
     rw [hw1]
     clear hw1
     go_roundw
     case rel => exact ⟨i + 1, Nat.succ_le_of_lt hlt, rfl, lh (fun j hj => by rcases Nat.lt_succ_iff_lt_or_eq.1 hj with h | rfl; exact HE.out j h; exact HXY.out), HB2⟩
     case measure => simp only [intOf]; omega
    | false =>
     have hxy : ¬ x = y := fun h => by rw [Neb.2 h] at hb; cases hb
     have HRF := lh (show r = false by rw [HR.out]; exact @decide_eq_false _ (Classical.propDecidable _) (fun hh => hxy (by rw [HXX.out, HYY.out, hh])))
     have HB2 := lh (show Below w.heap.size w wr.drew from HB.out.drew)
     clear hxy hx hy
     go_wp2_with (fail)
     go_ret
     exact ⟨by rw [HRF.out]; rfl, HB2.out⟩
   ·obtain rfl : i = l1.length := by omega
    have HRT := lh (show r = true by
     rw [HR.out]
     refine @decide_eq_true _ (Classical.propDecidable _) (List.ext_getElem HNE.out fun j h1 h2 => ?_)
     have := HE.out j h1
     unfold Nc2 at this
     simpa [List.getD, h1, h2] using this)
    clear hi hlt
    go_wp2_with (fail)
    go_ret
    exact ⟨by rw [HRT.out]; rfl, HB.out⟩
 ·have HRF := lh (show r = false by rw [HR.out]; exact @decide_eq_false _ (Classical.propDecidable _) (fun hh => hne (by rw [hh])))
  have hb : ((l1.length : Int) != (l2.length : Int)) = true := by rw [bne_iff_ne]; omega
  clear hne
  go_enter Tryz.func24, Tryz.ntmps24
  go_wp2_with (fail)
  go_ret
  exact ⟨by rw [HRF.out]; rfl, Below.refl _ _⟩
def eqRows : List S50 → List S50 → Bool
 | [], [] => true
 | x :: l, y :: m => eqSB x y && eqRows l m
 | _, _ => false
theorem eqRows_iff : ∀ {l m : List S50}, eqRows l m = true ↔ l = m
 | [], [] => by simp [eqRows]
 | [], y :: m => by simp [eqRows]
 | x :: l, [] => by simp [eqRows]
 | x :: l, y :: m => by
  rw [eqRows, Bool.and_eq_true, eqSB_iff, eqRows_iff]
  simp
theorem eqRows_dec (l m : List S50) : eqRows l m = @decide (l = m) (Classical.propDecidable _) := by
 rw [Bool.eq_iff_iff, eqRows_iff]
 exact (@decide_eq_true_iff _ (Classical.propDecidable _)).symm
def Ndo.f (l0 : List (S50)) (l1 : List (S50)) : Option Bool := if l0.length ≤ 1000000000000 then some (eqRows l0 l1) else none
theorem Ndo.calls (A0 : Option Addr) (c0 : Nat) (l0 : List (S50)) (A1 : Option Addr) (c1 : Nat) (l1 : List (S50)) (r : Bool) (w : World) (hr0 : Kd.C k50 w A0 l0.length l0) (hc0 : l0.length ≤ c0) (hr1 : Kd.C k50 w A1 l1.length l1) (hc1 : l1.length ≤ c1) (h : Ndo.f l0 l1 = some r) :
 Calls Tryz.prog 24 #[.slice A0 l0.length c0, .slice A1 l1.length c1] w fun e w' => e = .returned (.bool r) ∧ Below w.heap.size w w' := by
 unfold Ndo.f at h
 split at h
 ·rename_i hl
  obtain rfl := sI h
  rw [eqRows_dec]
  exact same24_any A0 A1 c0 c1 l0 l1 w hr0 hr1 hl
 ·cases h
theorem quot_at (c : UInt8) (r : List UInt8) (h : (quotL (c :: r)).2.2 ≠ 0) : (quotL (c :: r)).2.1 ≤ (c :: r).length := by
 unfold quotL at h ⊢
 cases hq : qend ((c :: r).drop 1) with
 | none => simp
 | some e =>
  rw [hq] at h
  simp only at h ⊢
  cases hb : badAt ((c :: r).take (e + 2)) with
  | some i =>
   have := badAt_le _ _ hb
   rw [List.length_take] at this
   simp only; omega
  | none => rw [hb] at h; exact absurd rfl h
theorem next_at (c : UInt8) (r : List UInt8) (h : (nextL (c :: r)).2.2.2 ≠ 0) : (nextL (c :: r)).2.2.1 ≤ (c :: r).length := by
 rw [nextL] at h ⊢
 split
 ·exact num_le _
 rename_i hd
 rw [if_neg hd] at h
 split
 ·rename_i h34
  rw [if_pos h34] at h
  exact quot_at c r h
 ·split
  ·exact Nd0 _ _
  ·have hpre : ∀ L, (Na9 (c :: r) L).length ≤ (c :: r).length := by
    intro L
    obtain ⟨q, hq⟩ := Nda (c :: r) L
    have := congrArg List.length hq
    rw [List.length_append] at this
    omega
   split
   ·split
    ·simp
    ·exact hpre _
   ·split
    ·exact hpre _
    ·split <;> simp
theorem scan_at : ∀ (n : Nat) (l : List UInt8) (k p : Nat) (c q : Int), l.length ≤ n → scanL k p l = .error (c, q) → (p : Int) ≤ q ∧ q ≤ ((p + l.length : Nat) : Int)
 | n, l, 0, p, c, q, hn, h => by cases h
 | n, [], k + 1, p, c, q, hn, h => by cases h
 | 0, d :: r, k + 1, p, c, q, hn, h => by simp at hn
 | n + 1, d :: r, k + 1, p, c, q, hn, h => by
  simp only [List.length_cons] at hn
  rw [scanL] at h
  split at h
  ·have := scan_at n r k (p + 1) c q (by omega) h
   rw [List.length_cons]; omega
  ·split at h
   ·rename_i h0
    have hl := Nd9 d r h0
    split at h
    ·cases h
    ·rename_i e he
     cases h
     have := scan_at n _ k _ c q (by rw [List.length_drop, List.length_cons]; omega) he
     rw [List.length_drop] at this
     omega
   ·rename_i h0
    have := next_at d r h0
    cases h
    omega
theorem toks_at : ∀ (n : Nat) (l : List UInt8) (k p : Nat) (ts : List S39), l.length ≤ n → scanL k p l = .ok ts → ∀ t ∈ ts, (p : Int) ≤ t.f2 ∧ t.f2 ≤ ((p + l.length : Nat) : Int)
 | n, l, 0, p, ts, hn, h => by cases h; intro t ht; cases ht
 | n, [], k + 1, p, ts, hn, h => by cases h; intro t ht; cases ht
 | 0, c :: r, k + 1, p, ts, hn, h => by simp at hn
 | n + 1, c :: r, k + 1, p, ts, hn, h => by
  simp only [List.length_cons] at hn
  rw [scanL] at h
  split at h
  ·intro t ht
   have := toks_at n r k (p + 1) ts (by omega) h t ht
   rw [List.length_cons]; omega
  ·split at h
   ·rename_i h0
    have hl := Nd9 c r h0
    split at h
    ·rename_i us hu
     cases h
     intro t ht
     rcases List.mem_cons.1 ht with rfl | ht
     ·show (p : Int) ≤ (p : Int) ∧ (p : Int) ≤ _
      omega
     ·have := toks_at n _ k _ us (by rw [List.length_drop, List.length_cons]; omega) hu t ht
      rw [List.length_drop] at this
      omega
    ·cases h
   ·cases h
theorem fail_at {ts : List S39} {n : Nat} (h : ∀ t ∈ ts, (0 : Int) ≤ t.f2 ∧ t.f2 ≤ (n : Int)) (i : Int) : 0 ≤ Nbg ts (n : Int) i ∧ Nbg ts (n : Int) i ≤ n := by
 unfold Nbg
 split
 ·rcases tokA_mem (ts := ts) i with e | e
  ·rw [e]
   show (0 : Int) ≤ 0 ∧ (0 : Int) ≤ n
   omega
  ·exact h _ e
 ·omega
theorem parse_cases (l : List UInt8) : ((Ndx l).2.1 = 0 ∧ (Ndx l).2.2 = 0 ∧ chk (Ndx l).1 = 0) ∨ ((Ndx l).2.1 ≠ 0 ∧ (Ndx l).1 = [] ∧ 0 ≤ (Ndx l).2.2 ∧ (Ndx l).2.2 ≤ l.length) := by
 unfold Ndx
 by_cases hl : 1024 < l.length
 ·rw [if_pos hl]
  exact .inr ⟨by decide, rfl, by show (0 : Int) ≤ 0; omega, by show (0 : Int) ≤ _; omega⟩
 rw [if_neg hl]
 cases hsc : scanL l.length 0 l with
 | error q =>
  obtain ⟨c, p⟩ := q
  have h1 := scan_er _ l _ _ c p (Nat.le_refl _) hsc
  have h2 := scan_at _ l _ _ c p (Nat.le_refl _) hsc
  rw [Nat.zero_add] at h2
  exact .inr ⟨h1, rfl, h2.1, h2.2⟩
 | ok ts =>
  simp only
  have ht := toks_at _ l _ _ ts (Nat.le_refl _) hsc
  rw [Nat.zero_add] at ht
  cases hw : wholeX ts (l.length : Int) with
  | error q =>
   obtain ⟨c, p⟩ := q
   have hf := wholeX_f ts (l.length : Int)
   rw [hw] at hf
   obtain ⟨hc, i, hi⟩ := whole_er theO ts _ _ c p hf
   have hp := fail_at (n := l.length) ht i
   rw [← hi] at hp
   exact .inr ⟨by show c ≠ 0; omega, rfl, hp.1, hp.2⟩
  | ok t =>
   simp only
   by_cases hc : chk t = 0
   ·rw [if_pos hc]
    exact .inl ⟨rfl, rfl, hc⟩
   ·rw [if_neg hc]
    exact .inr ⟨hc, rfl, by show (0 : Int) ≤ 0; omega, by show (0 : Int) ≤ _; omega⟩
end Go.Proofs.YtejbbceidnaloaaGreatDoor.P
