import Derived.Test.YtejbbceidnaloaaGreatDoorJ30
import Derived.Lib.DecodeN
set_option linter.unusedVariables false
set_option linter.unusedSimpArgs false
set_option maxRecDepth 100000
set_option maxHeartbeats 8000000
namespace Go.Proofs.YtejbbceidnaloaaGreatDoor.P
open Go.RowKit Go.Proofs.YtejbbceidnaloaaGreatDoorW.PrintWords Go.Proofs.YtejbbceidnaloaaGreatDoorW.PrintLast Go.Proofs.YtejbbceidnaloaaGreatDoorW.PrintMore
def Er (ts : List S39) (e : Int) {α : Type} (r : Res α) : Prop := ∀ c p, r = some (.error (c, p)) → (c = 50 ∨ c = 3) ∧ ∃ i, p = Nbw ts e i
section
variable {ts : List S39} {e : Int}
theorem Er.none_ {α : Type} : Er ts e (none : Res α) := fun _ _ h => by cases h
theorem Er.ok {α : Type} (a : α) : Er ts e (okR a) := fun _ _ h => by cases h
theorem Er.er {α : Type} (i : Int) : Er ts e (erR 50 (Nbw ts e i) : Res α) := fun _ _ h => by cases h; exact ⟨.inl rfl, i, rfl⟩
theorem Er.er3 {α : Type} (i : Int) : Er ts e (erR 3 (Nbw ts e i) : Res α) := fun _ _ h => by cases h; exact ⟨.inr rfl, i, rfl⟩
theorem Er.bnd {α β : Type} {r : Res α} {f : α → Res β} (h : Er ts e r) (hf : ∀ a, Er ts e (f a)) : Er ts e (r.bnd f) := by
 intro c p hh
 cases r with
 | none => cases hh
 | some x =>
  cases x with
  | error q =>
   obtain ⟨c', p'⟩ := q
   have := h c' p' rfl
   cases hh
   exact this
  | ok a => exact hf a c p hh
theorem Er.ite {α : Type} {P : Prop} [Decidable P] {a b : Res α} (h1 : Er ts e a) (h2 : Er ts e b) : Er ts e (if P then a else b) := by split <;> assumption
end
section
variable (O : Ops) (ts : List S39) (e : Int)
theorem celF_er (i : Int) : Er ts e (celF O ts e i) := by
 unfold celF
 refine .ite ?_ (.er _)
 split
 ·exact .ok _
 ·exact .er _
theorem refF_er (s : ByteArray) (i : Int) : Er ts e (refF O ts e s i) := by
 unfold refF
 refine .bnd (celF_er O ts e i) fun a => ?_
 refine .ite (.bnd (celF_er O ts e _) fun b => .ok _) (.ok _)
theorem perF_er : ∀ (k : Nat) (out : List S50) (i : Int), Er ts e (perF ts k out i)
 | 0, _, _ => by rw [perF]; exact .none_
 | k + 1, out, i => by rw [perF]; exact .ite (perF_er k _ _) (.ok _)
theorem er_all : ∀ k : Nat, (∀ least i, Er ts e (binF O ts e k least i)) ∧ (∀ least l i, Er ts e (lopF O ts e k least l i)) ∧ (∀ i, Er ts e (sgnF O ts e k i)) ∧ (∀ i, Er ts e (parF O ts e k i)) ∧ (∀ w i, Er ts e (worF O ts e k w i)) ∧ (∀ m i, Er ts e (calF O ts e k m i)) ∧ (∀ m acc n i, Er ts e (argF O ts e k m acc n i)) := by
 intro k
 induction k with
 | zero =>
  refine ⟨?_, ?_, ?_, ?_, ?_, ?_, ?_⟩
  ·intro _ _; rw [binF]; exact .none_
  ·intro _ _ _; rw [lopF]; exact .none_
  ·intro _; rw [sgnF]; exact .none_
  ·intro _; rw [parF]; exact .none_
  ·intro _ _; rw [worF]; exact .none_
  ·intro _ _; rw [calF]; exact .none_
  ·intro _ _ _ _; rw [argF]; exact .none_
 | succ k ih =>
  obtain ⟨h1, h2, h3, h4, h5, h6, h7⟩ := ih
  refine ⟨?_, ?_, ?_, ?_, ?_, ?_, ?_⟩
  ·intro _ _; rw [binF]; exact .ite (h3 _) (.bnd (h1 _ _) fun a => h2 _ _ _)
  ·intro _ _ _; rw [lopF]; exact .ite (.ok _) (.bnd (h1 _ _) fun a => h2 _ _ _)
  ·intro _; rw [sgnF]; exact .ite (.bnd (h3 _) fun a => .ok _) (.ite (.bnd (h3 _) fun a => .ok _) (.bnd (h4 _) fun a => perF_er ts e _ _ _))
  ·intro _; rw [parF]
   refine .ite (.bnd (h1 _ _) fun a => .ite (.ok _) (.er _)) (.ite (.ite (h5 _ _) (.ite ?_ (.ite (.ite (.ok _) (.er _)) (.ite (.ok _) (.er _))))) (.er _))
   split
   ·exact .ok _
   ·exact .er _
  ·intro _ _; rw [worF]; exact .ite (h6 _ _) (.ite (.ite (refF_er O ts e _ _) (.er _)) (.ite (.ok _) (.ite (.ok _) (refF_er O ts e _ _))))
  ·intro _ _; rw [calF]; exact .ite (.ite (.ok _) (h7 _ _ _ _)) (.er _)
  ·intro _ _ _ _; rw [argF]; exact .bnd (h1 _ _) fun a => .ite (.ite (.er3 _) (h7 _ _ _ _)) (.ite (.ok _) (.er _))
theorem whole_er (k : Nat) : Er ts e (Nec O ts e k) := by
 unfold Nec
 exact .bnd ((er_all O ts e k).1 _ _) fun a => .ite (.er _) (.ok _)
theorem whole_fuel {k : Nat} (hk : 16 * ts.length + 12 ≤ k) : ∃ x, Nec O ts e k = some x := by
 obtain ⟨x, hx, _⟩ := (enough O ts e ts.length).1 (16 * ts.length + 12) 1 0 (by omega) (by omega) (by omega) (by omega) (by omega) (by omega)
 have : ∃ x, Nec O ts e (16 * ts.length + 12) = some x := by
  unfold Nec
  rw [hx]
  cases x with
  | error p => exact ⟨_, rfl⟩
  | ok p => obtain ⟨l, a⟩ := p; simp only [Res.bnd]; split <;> exact ⟨_, rfl⟩
 obtain ⟨y, hy⟩ := this
 exact ⟨y, wholeF_le O ts e hk hy⟩
end
def NumTx (l : List UInt8) : Prop := ∃ a, a ≠ [] ∧ (∀ c ∈ a, isDig c) ∧ (l = a ∨ ∃ b, b ≠ [] ∧ (∀ c ∈ b, isDig c) ∧ l = a ++ 46 :: b)
theorem digB_iff (c : UInt8) : digB ((c.toNat : Nat) : Int) = true ↔ isDig c := by
 unfold digB isDig
 rw [Bool.and_eq_true, decide_eq_true_eq, decide_eq_true_eq]
 omega
theorem runL_take (p : Int → Bool) : ∀ (l : List UInt8), ∀ c ∈ l.take (runL p l), p c.toNat = true
 | [], c, h => by simp at h
 | d :: r, c, h => by
  rw [runL] at h
  split at h
  ·rename_i hd
   rw [List.take_succ_cons] at h
   rcases List.mem_cons.1 h with rfl | h
   ·exact hd
   ·exact runL_take p r c h
  ·simp at h
theorem num_shape {c : UInt8} {r : List UInt8} (h : digB c.toNat = true) : NumTx ((c :: r).take (numLx (c :: r))) := by
 have hpos : 1 ≤ runL digB (c :: r) := by rw [runL, if_pos h]; omega
 have hle := Nep digB (c :: r)
 have hda : ∀ x ∈ (c :: r).take (runL digB (c :: r)), isDig x := fun x hx => (digB_iff x).1 (runL_take digB _ x hx)
 have hne : (c :: r).take (runL digB (c :: r)) ≠ [] := by
  intro hh
  have := congrArg List.length hh
  rw [List.length_take, List.length_nil] at this
  omega
 generalize hl : c :: r = l at *
 refine ⟨l.take (runL digB l), hne, hda, ?_⟩
 unfold numLx
 split
 ·exact .inl rfl
 ·rename_i d q hq
  by_cases hc : d = 46 ∧ 0 < runL digB q
  ·rw [if_pos hc]
   refine .inr ⟨q.take (runL digB q), ?_, fun x hx => (digB_iff x).1 (runL_take digB _ x hx), ?_⟩
   ·intro hh
    have := congrArg List.length hh
    rw [List.length_take, List.length_nil] at this
    have := Nep digB q
    omega
   ·have e : l = l.take (runL digB l) ++ (46 :: q) := by
     conv => lhs; rw [← List.take_append_drop (runL digB l) l, hq, hc.1]
    have hlen : (l.take (runL digB l)).length = runL digB l := by rw [List.length_take]; omega
    generalize hn : runL digB l = n at *
    generalize hA : l.take n = A at *
    rw [e, List.take_append, List.take_of_length_le (by omega), hlen, show n + (1 + runL digB q) - n = runL digB q + 1 by omega, List.take_succ_cons]
  ·rw [if_neg hc, Nat.add_zero]; exact .inl rfl
theorem replaceK_len (old new : List UInt8) (h : new.length ≤ old.length) : ∀ (k : Nat) (l : List UInt8), (Lib.replaceK old new k l).length ≤ l.length
 | 0, l => Nat.le_refl _
 | k + 1, l => by
  rcases Lib.index_spec l old with ⟨h1, _⟩ | ⟨i, h1, _⟩
  ·rw [Lib.replaceK, if_pos (by rw [h1]; rfl)]; exact Nat.le_refl _
  ·have hroom := Lib.index_room l old (by omega)
   rw [Lib.replaceK_hit _ _ _ _ _ h1]
   have ih := replaceK_len old new h k (l.drop (i + old.length))
   rw [List.length_drop] at ih
   simp only [List.length_append, List.length_take]
   omega
theorem undbl_len (l : List UInt8) : (undblL l).length ≤ l.length := by
 unfold undblL Lib.replaceAll Lib.replace
 rw [if_neg (by decide)]
 exact replaceK_len _ _ (by decide) _ _
structure TokOk (n : Nat) (t : S39) : Prop where
 size : t.f1.size ≤ n
 num : t.f0 = 1 → NumTx t.f1.data.toList
 flt : t.f0 = 4 → t.f1 ∈ Ncb
theorem fault_mem {b : List UInt8} (h : b ∈ Nc1) : (⟨b.toArray⟩ : ByteArray) ∈ Ncb := by
 unfold Nc1 at h
 obtain ⟨x, hx, rfl⟩ := List.mem_map.1 h
 rw [← list_text]; exact hx
theorem next_tok (c : UInt8) (r : List UInt8) (p : Int) (h : (nextL (c :: r)).2.2.2 = 0) : TokOk (c :: r).length ⟨(nextL (c :: r)).1, ⟨(nextL (c :: r)).2.1.toArray⟩, p⟩ := by
 have hb : ∀ L, (Nbm (c :: r) L).length ≤ (c :: r).length := by
  intro L
  obtain ⟨q, hq⟩ := Nd3 (c :: r) L
  have := congrArg List.length hq
  rw [List.length_append] at this
  omega
 rw [nextL] at h ⊢
 split
 ·rename_i hd
  exact ⟨by rw [Nan, List.length_take]; exact Nat.min_le_right _ _, fun _ => by simpa using num_shape hd, fun hh => absurd hh (show ¬ (1 : Int) = 4 by decide)⟩
 rename_i hd
 rw [if_neg hd] at h
 split
 ·refine ⟨?_, fun hh => absurd hh (show ¬ (2 : Int) = 1 by decide), fun hh => absurd hh (show ¬ (2 : Int) = 4 by decide)⟩
  show (⟨(quotL (c :: r)).1.toArray⟩ : ByteArray).size ≤ _
  rw [Nan]
  unfold quotL
  cases qend ((c :: r).drop 1) with
  | none => exact Nat.zero_le _
  | some e =>
   simp only
   cases badAt ((c :: r).take (e + 2)) with
   | some i => exact Nat.zero_le _
   | none =>
    have := undbl_len (((c :: r).drop 1).take e)
    rw [List.length_take, List.length_drop] at this
    show (undblL (((c :: r).drop 1).take e)).length ≤ _
    omega
 rename_i h34
 rw [if_neg h34] at h
 split
 ·exact ⟨by rw [Nan, List.length_take]; exact Nat.min_le_right _ _, fun hh => absurd hh (show ¬ (3 : Int) = 1 by decide), fun hh => absurd hh (show ¬ (3 : Int) = 4 by decide)⟩
 rename_i hl
 rw [if_neg hl] at h
 split
 ·rename_i h35
  rw [if_pos h35] at h
  split
  ·rename_i he
   rw [if_pos he] at h
   exact absurd h (by show ¬ (40 : Int) = 0; decide)
  ·rename_i he
   exact ⟨by rw [Nan]; exact hb _, fun hh => absurd hh (show ¬ (4 : Int) = 1 by decide), fun _ => fault_mem (begins_mem _ _ he)⟩
 ·split
  ·exact ⟨by rw [Nan]; exact hb _, fun hh => absurd hh (show ¬ (5 : Int) = 1 by decide), fun hh => absurd hh (show ¬ (5 : Int) = 4 by decide)⟩
  ·split
   ·exact ⟨by rw [Nan]; simp, fun hh => absurd hh (show ¬ (5 : Int) = 1 by decide), fun hh => absurd hh (show ¬ (5 : Int) = 4 by decide)⟩
   ·exact ⟨by rw [Nan]; simp, fun hh => absurd hh (show ¬ (0 : Int) = 1 by decide), fun hh => absurd hh (show ¬ (0 : Int) = 4 by decide)⟩
theorem TokOk.up {n m : Nat} {t : S39} (h : TokOk n t) (hm : n ≤ m) : TokOk m t := ⟨Nat.le_trans h.size hm, h.num, h.flt⟩
theorem scan_ok : ∀ (n : Nat) (l : List UInt8) (k p : Nat) (ts : List S39), l.length ≤ n → scanL k p l = .ok ts → ts.length ≤ l.length ∧ ∀ t ∈ ts, TokOk l.length t
 | n, l, 0, p, ts, hn, h => by cases h; exact ⟨Nat.zero_le _, fun t ht => by cases ht⟩
 | n, [], k + 1, p, ts, hn, h => by cases h; exact ⟨Nat.le_refl _, fun t ht => by cases ht⟩
 | 0, c :: r, k + 1, p, ts, hn, h => by simp at hn
 | n + 1, c :: r, k + 1, p, ts, hn, h => by
  simp only [List.length_cons] at hn
  rw [scanL] at h
  split at h
  ·obtain ⟨h1, h2⟩ := scan_ok n r k (p + 1) ts (by omega) h
   exact ⟨by simp; omega, fun t ht => (h2 t ht).up (by simp)⟩
  ·split at h
   ·rename_i h0
    have hl := next_len c r h0
    split at h
    ·rename_i us hu
     cases h
     obtain ⟨h1, h2⟩ := scan_ok n _ k _ us (by rw [List.length_drop, List.length_cons]; omega) hu
     rw [List.length_drop] at h1 h2
     refine ⟨by rw [List.length_cons]; omega, fun t ht => ?_⟩
     rcases List.mem_cons.1 ht with rfl | ht
     ·exact next_tok c r _ h0
     ·exact (h2 t ht).up (Nat.sub_le _ _)
    ·cases h
   ·cases h
theorem scan_er : ∀ (n : Nat) (l : List UInt8) (k p : Nat) (c q : Int), l.length ≤ n → scanL k p l = .error (c, q) → c ≠ 0
 | n, l, 0, p, c, q, hn, h => by cases h
 | n, [], k + 1, p, c, q, hn, h => by cases h
 | 0, d :: r, k + 1, p, c, q, hn, h => by simp at hn
 | n + 1, d :: r, k + 1, p, c, q, hn, h => by
  simp only [List.length_cons] at hn
  rw [scanL] at h
  split at h
  ·exact scan_er n r k (p + 1) c q (by omega) h
  ·split at h
   ·rename_i h0
    have hl := next_len d r h0
    split at h
    ·cases h
    ·rename_i e he
     cases h
     exact scan_er n _ k _ c q (by rw [List.length_drop, List.length_cons]; omega) he
   ·rename_i h0
    cases h
    exact h0
def numOf (l : List UInt8) : Option (Nat × Nat) :=
 match l.drop (runL digB l) with
 | [] => if Ncg 0 (l.take (runL digB l)) ≤ 1000000000000000000 then mkN (Ncg 0 (l.take (runL digB l))) 1 else none
 | _ :: b => if Ncg 0 (l.take (runL digB l)) ≤ 1000000000000 ∧ b.length ≤ 6 then mkN (Ncg 0 (l.take (runL digB l)) * 10 ^ b.length + Ncg 0 b) (10 ^ b.length) else none
theorem runL_app (p : Int → Bool) : ∀ (a r : List UInt8), (∀ c ∈ a, p c.toNat = true) → (match r with | [] => True | c :: _ => p c.toNat = false) → runL p (a ++ r) = a.length
 | [], [], _, _ => rfl
 | [], c :: r, _, h => by simp only at h; rw [List.nil_append, runL, if_neg (by rw [h]; decide)]; rfl
 | c :: a, r, ha, h => by
  rw [List.cons_append, runL, if_pos (ha c (List.mem_cons_self ..)), runL_app p a r (fun x hx => ha x (List.mem_cons_of_mem _ hx)) h]
  rfl
theorem num_read {l : List UInt8} (h : NumTx l) (hl : l.length ≤ 10000) {K : Nat} (hK : 1000006 ≤ K) : Nbi.f K ⟨l.toArray⟩ = some (asRead (numOf l)) := by
 obtain ⟨a, h0, hd, h⟩ := h
 have hda : ∀ c ∈ a, digB ((c.toNat : Nat) : Int) = true := fun c hc => (digB_iff c).2 (hd c hc)
 rcases h with rfl | ⟨b, hb0, hdb, rfl⟩
 ·have hr := runL_app digB l [] hda trivial
  rw [List.append_nil] at hr
  unfold numOf
  rw [hr, List.drop_length, List.take_length]
  exact read_int hl h0 hd (by omega)
 ·have hr := runL_app digB a (46 :: b) hda (show digB (((46 : UInt8).toNat : Nat) : Int) = false by decide)
  unfold numOf
  rw [hr, List.drop_left, List.take_left]
  simp only [List.length_append, List.length_cons] at hl
  exact read_frac (by omega) h0 hb0 hd hdb hK
theorem mkN_ok {n d x y : Nat} (hd : 1 ≤ d) (h : mkN n d = some (x, y)) : numB (x : Int) (y : Int) = true := by
 unfold mkN at h
 split at h
 ·rename_i hb
  obtain ⟨hx, hy⟩ := Prod.mk.inj (Option.some.inj h)
  have hg : 0 < Nat.gcd n d := Nat.gcd_pos_of_pos_right _ (by omega)
  have h1 : 0 < d / Nat.gcd n d := Nat.div_pos (Nat.le_of_dvd (by omega) (Nat.gcd_dvd_right n d)) hg
  have hc : Nat.gcd (n / Nat.gcd n d) (d / Nat.gcd n d) = 1 := by
   rw [Nat.gcd_div (Nat.gcd_dvd_left n d) (Nat.gcd_dvd_right n d), Nat.div_self hg]
  rw [hx, hy] at hb hc
  rw [hy] at h1
  unfold numB
  exact decide_eq_true ⟨by omega, by omega, by omega, by omega, hc⟩
 ·cases h
theorem numOf_ok {l : List UInt8} {x y : Nat} (h : numOf l = some (x, y)) : numB (x : Int) (y : Int) = true := by
 unfold numOf at h
 split at h
 ·split at h
  ·exact mkN_ok (by decide) h
  ·cases h
 ·split at h
  ·exact mkN_ok (Nat.pos_of_ne_zero (by simp)) h
  ·cases h
def faultIx (s : ByteArray) : Nat := Ncb.findIdx (· == s)
def theO : Ops where
 num := fun s => (numOf s.data.toList).map fun (n, d) => ⟨1, ⟨(n : Int), (d : Int)⟩, eB, false, 0⟩
 txt := fun s => if Ne0 s then ⟨2, ⟨0, 0⟩, s, false, 0⟩ else ⟨4, ⟨0, 0⟩, eB, false, 2⟩
 flt := fun s => ⟨4, ⟨0, 0⟩, eB, false, (faultIx s : Int) + 1⟩
 tru := fun b => ⟨3, ⟨0, 0⟩, eB, b, 0⟩
 cell := cellO
 fn := fnB
 sh := Ndx
theorem tokA_mem {ts : List S39} (i : Int) : tokA ts i = zT ∨ tokA ts i ∈ ts := by
 unfold tokA
 by_cases h : i.toNat < ts.length
 ·right
  have e : ts.getD i.toNat zT = ts[i.toNat] := by simp [List.getD, h]
  rw [e]
  exact List.getElem_mem h
 ·left
  have e : ts[i.toNat]? = none := List.getElem?_eq_none (by omega)
  simp [List.getD, e]
theorem tok_at {ts : List S39} {n : Nat} (h : ∀ t ∈ ts, TokOk n t) (i : Int) : TokOk n (tokA ts i) := by
 rcases tokA_mem (ts := ts) i with e | e
 ·rw [e]
  exact ⟨Nat.zero_le _, fun hh => absurd hh (show ¬ (0 : Int) = 1 by decide), fun hh => absurd hh (show ¬ (0 : Int) = 4 by decide)⟩
 ·exact h _ e
theorem flt_any {s : ByteArray} (h : s ∈ Ncb) (w : World) (hG : GL w) : Calls Tryz.prog 147 #[.string s] w fun en w' => en = .returned (vV (theO.flt s)) ∧ Below w.heap.size w w' := by
 unfold Ncb at h
 simp only [List.mem_cons, List.not_mem_nil, or_false] at h
 rcases h with rfl | rfl | rfl | rfl | rfl | rfl | rfl | rfl
 ·exact Nde 0 ⟨#[35, 68, 73, 86, 47, 48, 33]⟩ 1 1 (by simp [Nev]) w hG
 ·exact Nde 1 ⟨#[35, 86, 65, 76, 85, 69, 33]⟩ 2 2 (by simp [Nev]) w hG
 ·exact Nde 2 ⟨#[35, 82, 69, 70, 33]⟩ 3 3 (by simp [Nev]) w hG
 ·exact Nde 3 ⟨#[35, 78, 85, 77, 33]⟩ 4 4 (by simp [Nev]) w hG
 ·exact Nde 4 ⟨#[35, 78, 47, 65]⟩ 5 5 (by simp [Nev]) w hG
 ·exact Nde 5 ⟨#[35, 67, 73, 82, 67, 76, 69, 33]⟩ 6 6 (by simp [Nev]) w hG
 ·exact Nde 6 ⟨#[35, 76, 79, 78, 71, 33]⟩ 7 7 (by simp [Nev]) w hG
 ·exact Nde 7 ⟨#[35, 65, 82, 71, 33]⟩ 8 8 (by simp [Nev]) w hG
theorem text_any {s : ByteArray} (hs : s.size ≤ 256) (w : World) : Calls Tryz.prog 182 #[.string s] w fun en w' => en = .returned (vV (theO.txt s)) ∧ Below w.heap.size w w' := by
 have hp : Na7.f 1000 s = some (Ne0 s) := by
  have := plain_l0 s (by omega) s.size 0 1000 (by omega) (by omega) (by omega)
  rw [List.drop_zero] at this
  exact this
 show Calls Tryz.prog 182 #[.string s] w fun en w' => en = .returned (vV (if Ne0 s then ⟨2, ⟨0, 0⟩, s, false, 0⟩ else ⟨4, ⟨0, 0⟩, eB, false, 2⟩)) ∧ Below w.heap.size w w'
 cases hb : Ne0 s with
 | true =>
  refine Ndp.calls 1000 s 2 0 0 s false 0 w ?_
  unfold Ndp.f
  rw [hp, hb]
  simp only [Option.bind_some, if_true]
  rw [if_neg (by omega)]
 | false =>
  refine Ndp.calls 1000 s 4 0 0 ⟨#[]⟩ false 2 w ?_
  unfold Ndp.f
  rw [hp, hb]
  rfl
theorem penv {ts : List S39} {n : Nat} (hn : n ≤ 10000) (h : ∀ t ∈ ts, TokOk n t) : PEnv theO ts where
 num := by
  intro i s h1 hs w hG
  have ht := tok_at h i
  have hx := ht.num h1
  have hz := ht.size
  rw [hs] at hx hz
  have hf := num_read hx (by have : s.data.toList.length = s.size := Array.length_toList; omega) (K := 1000006) (Nat.le_refl _)
  rw [← list_text] at hf
  cases hno : numOf s.data.toList with
  | none =>
   rw [hno] at hf
   refine (Nbi.calls 1000006 s 0 0 false w hf).mono ?_
   rintro en w' ⟨rfl, hb⟩
   refine ⟨0, 0, ?_, hb, ?_⟩
   ·show _ = Ending.returned (.tuple #[_, .bool ((numOf s.data.toList).map _).isSome]); rw [hno]; rfl
   ·intro v hv
    change (numOf s.data.toList).map _ = some v at hv
    rw [hno] at hv; cases hv
  | some p =>
   obtain ⟨x, y⟩ := p
   rw [hno] at hf
   refine (Nbi.calls 1000006 s (x : Int) (y : Int) true w hf).mono ?_
   rintro en w' ⟨rfl, hb⟩
   refine ⟨(x : Int), (y : Int), ?_, hb, ?_⟩
   ·show _ = Ending.returned (.tuple #[_, .bool ((numOf s.data.toList).map _).isSome]); rw [hno]; rfl
   ·intro v hv w2
    change (numOf s.data.toList).map _ = some v at hv
    rw [hno] at hv
    cases hv
    refine Nds.calls 1000006 (x : Int) (y : Int) 1 (x : Int) (y : Int) ⟨#[]⟩ false 0 w2 ?_
    unfold Nds.f
    rw [Nfd _ _ _ (by omega), numOf_ok hno]
    rfl
 txt := fun i s h1 hs hz w => text_any hz w
 flt := fun i s h1 hs w hG => flt_any (by have := (tok_at h i).flt h1; rw [hs] at this; exact this) w hG
 tru := fun b w => Neo.calls b 3 0 0 ⟨#[]⟩ b 0 w rfl
 fn := fun s w _ _ => Neu s w
 sh := fun s w _ => (Nek s w).mono fun e w' hh => ⟨hh.1, hh.2.below⟩
 size := fun i => by have := (tok_at h i).size; omega
def wholeX (ts : List S39) (e : Int) : Except (Int × Int) (List S50) := match Nec theO ts e (16 * ts.length + 12) with | some x => x | none => .error (50, 0)
theorem wholeX_f (ts : List S39) (e : Int) : Nec theO ts e (16 * ts.length + 12) = some (wholeX ts e) := by
 obtain ⟨x, hx⟩ := whole_fuel theO ts e (Nat.le_refl _)
 unfold wholeX
 rw [hx]
def chk (l : List S50) : Int := (Na0.f 600 l).getD 53
theorem chk_f (l : List S50) : Na0.f 600 l = some (chk l) := by
 obtain ⟨c, hc, _⟩ := check_some l (K := 600) (Nat.le_refl _)
 unfold chk
 rw [hc]; rfl
def parseL (l : List UInt8) : List S50 × Int × Int :=
 if 1024 < l.length then ([], 2, 0) else
 match scanL l.length 0 l with
 | .error (c, p) => ([], c, p)
 | .ok ts => match wholeX ts (l.length : Int) with
  | .error (c, p) => ([], c, p)
  | .ok t => if chk t = 0 then (t, 0, 0) else ([], chk t, 0)
theorem wf_up {ts : List S39} {e : Int} {k : Nat} (hk : 16 * ts.length + 12 ≤ k) : Nec theO ts e k = some (wholeX ts e) := wholeF_le theO ts e hk (wholeX_f ts e)
theorem parse_any (l : List UInt8) (w : World) (hG : GL w) : Calls Tryz.prog 21 #[.string ⟨l.toArray⟩] w fun en w' => ∃ v, en = .returned (.tuple #[v, .int .i64 (parseL l).2.1, .int .i64 (parseL l).2.2]) ∧ Kd.R k50 50 w' w.heap.size (fun _ => True) v (parseL l).1 ∧ Below w.heap.size w w' := by
 unfold parseL
 have hs := scan_f l (K := 17 * l.length + 13) (by omega)
 by_cases hl : 1024 < l.length
 ·rw [if_pos hl] at hs ⊢
  refine (parse_scan hG hs (by decide)).mono ?_
  rintro en w' ⟨rfl, hb⟩
  exact ⟨_, rfl, Kd.R_nil _ _ _ _ _, hb⟩
 rw [if_neg hl] at hs ⊢
 cases hsc : scanL l.length 0 l with
 | error q =>
  obtain ⟨c, p⟩ := q
  rw [hsc] at hs
  refine (parse_scan hG hs (scan_er _ l _ _ c p (Nat.le_refl _) hsc)).mono ?_
  rintro en w' ⟨rfl, hb⟩
  exact ⟨_, rfl, Kd.R_nil _ _ _ _ _, hb⟩
 | ok ts =>
  rw [hsc] at hs
  obtain ⟨h1, h2⟩ := scan_ok _ l _ _ ts (Nat.le_refl _) hsc
  have hx := wf_up (ts := ts) (e := (l.length : Int)) (k := 17 * l.length + 13) (by omega)
  have hsz : ((⟨l.toArray⟩ : ByteArray).size : Int) = (l.length : Int) := by rw [Nan]
  have hp := parse_good (O := theO) (k := 17 * l.length + 13) (k2 := 600) (s := ⟨l.toArray⟩) hG (by rw [Nan]; omega) (ts := ts) (a := 0) hs (penv (by omega) h2) (fun _ => rfl) (by omega) (x := wholeX ts (l.length : Int)) (by rw [hsz]; exact hx)
   (fun c p he => by
     rw [he] at hx
     have := (whole_er theO ts _ _ c p hx).1
     omega)
   (cc := match wholeX ts (l.length : Int) with | .ok t => chk t | .error _ => 0)
   (fun t ht => by rw [ht]; exact chk_f t)
  refine hp.mono ?_
  intro en w' hh
  obtain ⟨hh, hb⟩ := hh
  simp only
  cases hw : wholeX ts (l.length : Int) with
  | error q =>
   obtain ⟨c, p⟩ := q
   rw [hw] at hh
   exact ⟨_, hh, Kd.R_nil _ _ _ _ _, hb⟩
  | ok t =>
   rw [hw] at hh
   simp only at hh
   show ∃ v, en = .returned (.tuple #[v, .int .i64 (if chk t = 0 then (t, (0 : Int), (0 : Int)) else ([], chk t, 0)).2.1, .int .i64 (if chk t = 0 then (t, (0 : Int), (0 : Int)) else ([], chk t, 0)).2.2]) ∧ Kd.R k50 50 w' w.heap.size (fun _ => True) v (if chk t = 0 then (t, (0 : Int), (0 : Int)) else ([], chk t, 0)).1 ∧ Below w.heap.size w w'
   by_cases hc : chk t = 0
   ·rw [if_pos hc] at hh ⊢
    obtain ⟨v, rfl, hr⟩ := hh
    exact ⟨v, rfl, hr, hb⟩
   ·rw [if_neg hc] at hh ⊢
    exact ⟨_, hh, Kd.R_nil _ _ _ _ _, hb⟩
theorem Nea (b : ByteArray) : b.data.toList.length = b.size := Array.length_toList
theorem ite_p {α : Type} {P : Prop} [Decidable P] {a b : α} {p : α → Prop} (ha : p a) (hb : p b) : p (if P then a else b) := by split <;> assumption
theorem sign_len (o : Int) : 1 ≤ (signB o).size ∧ (signB o).size ≤ 2 := by
 have h : (fun b : ByteArray => 1 ≤ b.size ∧ b.size ≤ 2) (signB o) := by
  unfold signB
  repeat (refine ite_p (p := fun b : ByteArray => 1 ≤ b.size ∧ b.size ≤ 2) (by decide) ?_)
  decide
 exact h
theorem faults_pos (e : Int) (h1 : 1 ≤ e) (h8 : e ≤ 8) : 1 ≤ (Ncb.getD (e - 1).toNat ByteArray.empty).size := by
 have : e = 1 ∨ e = 2 ∨ e = 3 ∨ e = 4 ∨ e = 5 ∨ e = 6 ∨ e = 7 ∨ e = 8 := by omega
 rcases this with rfl | rfl | rfl | rfl | rfl | rfl | rfl | rfl <;> decide
theorem val_len {v : S46} (h : litB v = true) : 1 ≤ (Nel (valTk v)).length ∧ (Nel (valTk v)).length ≤ 600 := by
 rcases lit_cases h with ⟨h0, hN, h2, h3, h4, h5, h6⟩ | ⟨h0, h1, h2, h3, h4, h5, h6⟩ | ⟨h0, h1, h2, h3, h4⟩ | ⟨h0, h1, h2, h3, h4, h5, h6⟩
 ·have hb := hN
  unfold numB at hb
  obtain ⟨-, b1, b2, b3, -⟩ := of_decide_eq_true hb
  have hsz := num_len h5 b1 b2 b3
  have hp := dec_pos (v.f1.f0 / v.f1.f1).toNat
  have e : valTk v = (1, ⟨(numL v.f1.f0 v.f1.f1).toArray⟩) := by unfold valTk; rw [if_neg (by omega), if_neg (by omega), if_neg (by omega)]
  rw [e, tk_len _ (show ¬ (1 : Int) = 2 by decide)]
  show 1 ≤ (⟨(numL v.f1.f0 v.f1.f1).toArray⟩ : ByteArray).size ∧ (⟨(numL v.f1.f0 v.f1.f1).toArray⟩ : ByteArray).size ≤ 600
  rw [Nan]
  refine ⟨?_, by omega⟩
  unfold numL
  rw [List.length_append]; omega
 ·have e : valTk v = (2, v.f2) := by unfold valTk; rw [if_pos h0]
  rw [e]
  have e2 : Nel (2, v.f2) = ((⟨#[34]⟩ : ByteArray) ++ ⟨(dblL v.f2.data.toList).toArray⟩ ++ (⟨#[34]⟩ : ByteArray) : ByteArray).data.toList := by
   rw [← Ne9]; rfl
  rw [e2]
  have hl := dblL_len v.f2.data.toList
  rw [Nea] at hl
  have h34 : (⟨#[34]⟩ : ByteArray).size = 1 := rfl
  have hd : (⟨(dblL v.f2.data.toList).toArray⟩ : ByteArray).size = (dblL v.f2.data.toList).length := Nan _
  rw [Nea, ByteArray.size_append, ByteArray.size_append, h34]
  omega
 ·have e : valTk v = (3, if v.f3 then tTRUE else tFALSE) := by unfold valTk; rw [if_neg (by omega), if_neg (by omega), if_pos h0]
  rw [e, tk_len _ (show ¬ (3 : Int) = 2 by decide)]
  cases v.f3 <;> decide
 ·have e : valTk v = (4, Ncb.getD (v.f4 - 1).toNat ByteArray.empty) := by unfold valTk; rw [if_neg (by omega), if_pos h0]
  rw [e, tk_len _ (show ¬ (4 : Int) = 2 by decide)]
  have := faults_size v.f4 h5 h6
  have := faults_pos v.f4 h5 h6
  show 1 ≤ (Ncb.getD (v.f4 - 1).toNat ByteArray.empty).size ∧ (Ncb.getD (v.f4 - 1).toNat ByteArray.empty).size ≤ 600
  omega
theorem cel_len {r : S48} (h : refR r = true) : 1 ≤ (celL r).length ∧ (celL r).length ≤ 20 := by
 obtain ⟨-, h1, h2, h3, h4⟩ := Ne6 h
 have a := dec_le 4 (r.f1 + 1).toNat (by omega)
 have b := colL_len r.f2
 unfold celL
 simp only [List.length_append]
 cases r.f3 <;> cases r.f4 <;> simp <;> omega
theorem ref_len {r : S48} (h : refR r = true) : 1 ≤ (txt (refT theLf r)).length ∧ (txt (refT theLf r)).length ≤ 40 := by
 have hc := cel_len h
 have e : theLf.cel r = ⟨(celL r).toArray⟩ := rfl
 unfold refT
 by_cases h0 : r.f0 = eB
 ·rw [if_pos h0, txt_one, e, tk3]
  rw [Nea, Nan]; omega
 ·have hs := (Ne6 h).1.resolve_left h0
  have hz := sheet_size hs
  rw [if_neg h0, Ncf, Ncf, txt_one, e, tk3, tk3]
  simp only [List.length_append, Nea, Nan]
  have : (Nel (mk [33])).length = 1 := rfl
  omega
theorem bra_txt (b : Bool) (T : List Tk) : (txt T).length ≤ (txt (bra b T)).length ∧ (txt (bra b T)).length ≤ (txt T).length + 2 := by
 rw [txt_bra]
 cases b <;> simp <;> omega
theorem txt_mk (l : List UInt8) (U : List Tk) : (txt (mk l :: U)).length = l.length + (txt U).length := by
 rw [Ncf, List.length_append]
 have : (Nel (mk l)).length = l.length := by
  show (Nel (5, mB l)).length = _
  rw [tk5, Nea]
  exact Nan l
 rw [this]
theorem txt_sg (b : ByteArray) (U : List Tk) : (txt ((5, b) :: U)).length = b.size + (txt U).length := by
 rw [Ncf, List.length_append, tk5, Nea]
theorem txt_wd (b : ByteArray) (U : List Tk) : (txt ((3, b) :: U)).length = b.size + (txt U).length := by
 rw [Ncf, List.length_append, tk3, Nea]
theorem txt_app (T U : List Tk) : (txt (T ++ U)).length = (txt T).length + (txt U).length := by rw [Nb6, List.length_append]
theorem txt_le : ∀ k : Nat,
 (∀ (least : Int) (l : List S50) (T : List Tk) (q : List S50), (∀ n ∈ l, 0 ≤ Nau n) → tkF theLf k least l = some (T, q) → 1 ≤ (txt T).length ∧ (txt T).length + 1 + 1000 * q.length ≤ 1000 * l.length) ∧
 (∀ (first : Bool) (m : Int) (l : List S50) (T : List Tk) (q : List S50), (∀ n ∈ l, 0 ≤ Nau n) → atkF theLf k first m l = some (T, q) → (txt T).length + 1000 * q.length ≤ 1000 * l.length) := by
 intro k
 induction k with
 | zero =>
  refine ⟨?_, ?_⟩
  ·intro _ _ _ _ _ h; rw [tkF] at h; cases h
  ·intro _ _ _ _ _ _ h; rw [atkF] at h; cases h
 | succ k ih =>
  obtain ⟨ih1, ih2⟩ := ih
  refine ⟨?_, ?_⟩
  ·intro least l T q hg h
   cases l with
   | nil => rw [tkF] at h; cases h
   | cons n r =>
    have hn := Nd9 n (hg n (List.mem_cons_self ..))
    have hr : ∀ m ∈ r, 0 ≤ Nau m := fun m hm => hg m (List.mem_cons_of_mem _ hm)
    obtain ⟨U, rfl, hU⟩ := nodeT h
    have hb := bra_txt (decide (Nd5 n < least)) U
    rw [List.length_cons]
    suffices hs : 1 ≤ (txt U).length ∧ (txt U).length + 1 + 1000 * q.length ≤ 1000 * r.length + 998 by omega
    generalize Nau n = cc at hn
    cases hn with
    | val v hv =>
     obtain ⟨rfl, rfl⟩ := Prod.mk.inj (Option.some.inj hU)
     have := val_len hv
     show 1 ≤ (txt [valTk v]).length ∧ (txt [valTk v]).length + 1 + 1000 * r.length ≤ _
     rw [txt_one]; omega
    | cell s hs =>
     obtain ⟨rfl, rfl⟩ := Prod.mk.inj (Option.some.inj hU)
     have := ref_len hs
     show 1 ≤ (txt (refT theLf s)).length ∧ (txt (refT theLf s)).length + 1 + 1000 * r.length ≤ _
     omega
    | area s u hs hu h0 =>
     obtain ⟨rfl, rfl⟩ := Prod.mk.inj (Option.some.inj hU)
     have := ref_len hs
     have hc := cel_len hu
     show 1 ≤ (txt (refT theLf s ++ [mk [58], (3, ⟨(celL u).toArray⟩)])).length ∧ (txt (refT theLf s ++ [mk [58], (3, ⟨(celL u).toArray⟩)])).length + 1 + 1000 * r.length ≤ _
     rw [txt_app, txt_mk, txt_wd, Nan, Nd4]
     simp only [List.length_cons, List.length_nil]
     omega
    | un o h1 h3 =>
     by_cases ho : o = 3
     ·subst ho
      change (tkF theLf k 7 r).map (fun (T, q) => (T ++ [mk [37]], q)) = _ at hU
      obtain ⟨⟨V, q1⟩, hV, he⟩ := Option.map_eq_some_iff.1 hU
      obtain ⟨rfl, rfl⟩ := Prod.mk.inj he
      have := ih1 _ _ _ _ hr hV
      rw [txt_app, txt_mk, Nd4]
      simp only [List.length_cons, List.length_nil]
      omega
     ·change (if o = 3 then (tkF theLf k 7 r).map (fun (T, q) => (T ++ [mk [37]], q)) else (tkF theLf k 6 r).map fun (T, q) => ((5, signB o) :: T, q)) = _ at hU
      rw [if_neg ho] at hU
      obtain ⟨⟨V, q1⟩, hV, he⟩ := Option.map_eq_some_iff.1 hU
      obtain ⟨rfl, rfl⟩ := Prod.mk.inj he
      have := ih1 _ _ _ _ hr hV
      have := sign_len o
      rw [txt_sg]
      omega
    | bin o ho =>
     change (tkF theLf k (Nct o) r).bind (fun (T, q) => (tkF theLf k (Nct o + 1) q).map fun (U, p) => (T ++ (5, signB o) :: U, p)) = _ at hU
     obtain ⟨⟨V, q1⟩, hV, h2⟩ := Option.bind_eq_some_iff.1 hU
     obtain ⟨⟨V2, q2⟩, hV2, he⟩ := Option.map_eq_some_iff.1 h2
     obtain ⟨rfl, rfl⟩ := Prod.mk.inj he
     obtain ⟨p, -, rfl⟩ := (tk_suf theLf k).1 _ _ _ _ hV
     have a1 := ih1 _ _ _ _ hr hV
     have a2 := ih1 _ _ _ _ (fun m hm => hr m (List.mem_append_right _ hm)) hV2
     have := sign_len o
     rw [txt_app, txt_sg]
     omega
    | call m c hm h0 h30 =>
     change (atkF theLf k true _ r).map (fun (T, q) => ((3, m) :: mk [40] :: (T ++ [mk [41]]), q)) = _ at hU
     obtain ⟨⟨V, q1⟩, hV, he⟩ := Option.map_eq_some_iff.1 hU
     obtain ⟨rfl, rfl⟩ := Prod.mk.inj he
     have := ih2 _ _ _ _ _ hr hV
     have := fn_size hm
     rw [txt_wd, txt_mk, txt_app, txt_mk, Nd4]
     simp only [List.length_cons, List.length_nil]
     omega
  ·intro first m l T q hg h
   rw [atkF] at h
   split at h
   ·cases h; rw [Nd4, List.length_nil]; omega
   ·obtain ⟨⟨V, q1⟩, hV, h2⟩ := Option.bind_eq_some_iff.1 h
    obtain ⟨⟨V2, q2⟩, hV2, he⟩ := Option.map_eq_some_iff.1 h2
    obtain ⟨rfl, rfl⟩ := Prod.mk.inj he
    obtain ⟨p, -, rfl⟩ := (tk_suf theLf k).1 _ _ _ _ hV
    have a1 := ih1 _ _ _ _ hg hV
    have a2 := ih2 _ _ _ _ _ (fun m hm => hg m (List.mem_append_right _ hm)) hV2
    rw [txt_app]
    cases first with
    | true => simp only [if_true]; omega
    | false =>
     simp only [Bool.false_eq_true, if_false]
     rw [txt_mk]
     simp only [List.length_cons, List.length_nil]
     omega
def printL (l : List S50) : List UInt8 × Int := if chk l = 0 then (match tkF theLf 600 1 l with | some (T, _) => txt T | none => [], 0) else ([], chk l)
theorem print_tk {l : List S50} (h : chk l = 0) : ∃ T, tkF theLf 600 1 l = some (T, []) ∧ 1 ≤ (txt T).length ∧ (txt T).length ≤ 256000 := by
 obtain ⟨d, hd, -, hl⟩ := check_back (l := l) (K := 600) (by rw [chk_f, h])
 obtain ⟨T, -, hT⟩ := (tre_tk theLf 256).1 l d 600 1 [] hd hl (by omega)
 rw [List.append_nil] at hT
 have := (txt_le 600).1 1 l T [] hd.good hT
 exact ⟨T, hT, this.1, by simp only [List.length_nil] at this; omega⟩
theorem print_any {A : Option Addr} {c : Nat} {l : List S50} {w : World} (hG : GL w) (hC : Kd.C k50 w A l.length l) (hc : l.length ≤ c) :
 Calls Tryz.prog 26 #[.slice A l.length c] w fun en w' => en = .returned (.tuple #[.string ⟨(printL l).1.toArray⟩, .int .i64 (printL l).2]) ∧ Below w.heap.size w w' := by
 unfold printL
 by_cases h : chk l = 0
 ·rw [if_pos h]
  obtain ⟨T, hT, h1, h2⟩ := print_tk h
  rw [hT]
  exact print_tree hG hC hc (K := 600) (by rw [chk_f, h]) hT (by omega) (by intro hh; rw [hh] at h1; simp at h1)
 ·rw [if_neg h]
  exact print_err hC hc (chk_f l) h
def Nef.f (a0 : ByteArray) : Option (List S50 × Int × Int) := some (parseL a0.data.toList)
theorem Nef.calls (a0 : ByteArray) (r1 : List (S50)) (r2 : Int) (r3 : Int) (w : World) (hG : GL w) (h : Nef.f a0 = some (r1, r2, r3)) :
 Calls Tryz.prog 21 #[.string a0] w fun e w' => ∃ v0_ : Value, e = .returned (.tuple #[v0_, .int .i64 r2, .int .i64 r3]) ∧ Kd.R k50 50 w' w.heap.size (fun _ => True) v0_ r1 ∧ Below w.heap.size w w' := by
 have e := Option.some.inj h
 have := parse_any a0.data.toList w hG
 rw [← list_text, e] at this
 exact this
def Nee.f (l0 : List (S50)) : Option (ByteArray × Int) := some (⟨(printL l0).1.toArray⟩, (printL l0).2)
theorem Nee.calls (A0 : Option Addr) (c0 : Nat) (l0 : List (S50)) (r1 : ByteArray) (r2 : Int) (w : World) (hG : GL w) (hr0 : Kd.C k50 w A0 l0.length l0) (hc0 : l0.length ≤ c0) (h : Nee.f l0 = some (r1, r2)) :
 Calls Tryz.prog 26 #[.slice A0 l0.length c0] w fun e w' => e = .returned (.tuple #[.string r1, .int .i64 r2]) ∧ Below w.heap.size w w' := by
 obtain ⟨rfl, rfl⟩ := Prod.mk.inj (Option.some.inj h)
 exact print_any hG hr0 hc0
theorem parts_cell {r : S48} (h : refR r = true) : Nau (nCell r) = 0 := by
 have h : refB r.f0 r.f1 r.f2 = true := h
 have hz : refB zR.f0 zR.f1 zR.f2 = true := by kernel_rfl
 unfold Nau Ndy
 rw [if_neg (by show ¬ (2 : Int) = 1; decide), if_pos (show (nCell r).f0 = 2 from rfl)]
 show partsV2 _ _ _ _ _ _ _ _ _ r.f0 r.f1 r.f2 r.f3 r.f4 _ _ _ _ _ (refB r.f0 r.f1 r.f2) _ = 0
 rw [h]
 kernel_rfl
theorem parts_area {r s : S48} (h : refR r = true) (hs : refR s = true) (he : s.f0 = eB) : Nau (nArea r s) = 0 := by
 obtain ⟨s0, s1, s2, s3, s4⟩ := s
 obtain rfl : s0 = eB := he
 have h : refB r.f0 r.f1 r.f2 = true := h
 have hs : refB eB s1 s2 = true := hs
 unfold Nau Ndy
 rw [if_neg (by show ¬ (3 : Int) = 1; decide), if_neg (by show ¬ (3 : Int) = 2; decide), if_pos (show (nArea r ⟨eB, s1, s2, s3, s4⟩).f0 = 3 from rfl)]
 show partsV3 _ _ _ _ _ _ _ _ _ r.f0 r.f1 r.f2 r.f3 r.f4 eB s1 s2 s3 s4 (refB r.f0 r.f1 r.f2) (refB eB s1 s2) = 0
 rw [h, hs]
 kernel_rfl
section
def ableL : List S50 := [nBin 11, nVal ⟨1, ⟨1, 1⟩, eB, false, 0⟩, nCell ⟨eB, 0, 0, false, false⟩]
theorem able_parse : parseL [49, 43, 65, 49] = (ableL, 0, 0) := by kernel_rfl
theorem able_print : printL ableL = ([49, 43, 65, 49], 0) := by kernel_rfl
end
theorem cells_event {P : Program} {ops : Array Oper} {rest : List Oper} {o : Oper} {a : Act} {Q : Exit → Act → World → Prop} {W : World} (hgd : o.guard = none) {t : TypeId} {p : Operand} (ho : o.op = .load t p) {ad : Addr} {cs : List Value} {d : TypeDesc}
 (haddr : a.eval p = .pointer (some ad)) (hc : ∀ (j : Nat) v, cs[j]? = some v → W.cell? (ad.add j) = some v) (hu : P.underlying t = some d) (hd : d.isRow = true) (hi : (P.info? t).map (·.size) = some cs.length)
 (h : wpList P ops Q rest (a.put o.dst (.agg cs.toArray)) W) : wpList P ops Q (o :: rest) a W := by
 refine wpList_plain hgd fun K hKK => ?_
 have hrun := Nd0 (P := P) W ad t cs d hc hu hd hi
 unfold Oper.wp execOp
 simp only [ho, haddr, Instr.loadAt, Instr.sureAddr, Sem.run_bind, Sem.run_pure, Result.andThen_ok, hrun]
 exact hKK _ _ h
theorem able5_any (w : World) (hG : GL w) : Calls Tryz.prog 23 #[] w fun e w' => e = .returned (.bool true) ∧ Below w.heap.size w w' := by
 have HP := lh (Nef.calls ⟨#[49, 43, 65, 49]⟩ ableL 0 0 w hG (by unfold Nef.f; exact congrArg some able_parse))
 have HG := lh hG
 have hu50 := Tryz.underlying50
 clear hG
 go_enter Tryz.func23, Tryz.ntmps23
 go_upto_region 2 with (go_at_call 21; (with_reducible refine (HP.out).mono ?_); rintro en w1 ⟨v, rfl, hr, hb⟩; have HB := lh hb; have HR := lh hr; clear hr hb)
 obtain ⟨A, c, rfl, hle, hC⟩ := Kd.R_reads HR.out
 have HPR := lh (Nee.calls A c ableL ⟨#[49, 43, 65, 49]⟩ 0 w1 (HG.out.below HB.out) hC hle (by unfold Nee.f; rw [able_print]))
 obtain ⟨ad, c0, rfl, hl0, hk0, hx0⟩ := Kd.C_get hC z50 0 (by decide) (by decide)
 obtain ⟨ad2, c2, e2, hl2, hk2, hx2⟩ := Kd.C_get hC z50 2 (by decide) (by decide)
 cases e2
 obtain rfl := Neh hk0
 obtain rfl := Neh hk2
 have HX0 := lh (show ∀ (j : Nat) v, ([.int .i64 5, .int .i64 0, .int .i64 0, .int .i64 0, .string ⟨#[]⟩, .bool false, .int .i64 0, .int .i64 11, .string ⟨#[]⟩, .int .i64 0, .string ⟨#[]⟩, .int .i64 0, .int .i64 0, .bool false, .bool false, .string ⟨#[]⟩, .int .i64 0, .int .i64 0, .bool false, .bool false] : List Value)[j]? = some v → w1.cell? (ad.add j) = some v from fun j v hv => by have := hx0 j v hv; rwa [show Int.toNat 0 * k50.sz + j = j by show 0 * 20 + j = j; omega] at this)
 have HX2 := lh (show w1.cell? (ad.add 40) = some (.int .i64 2) from hx2 0 (.int .i64 2) rfl)
 clear hx0 hx2 hk0 hk2 hl0 hl2 hC hle HR
 rw [show ableL.length = 3 from rfl] at HPR ⊢
 go_upto_region 3 with (go_at_call 26; (with_reducible refine (HPR.out).mono ?_); rintro en w2 ⟨rfl, hb⟩; have HB2 := lh hb; clear hb)
 have HY0 := lh (show ∀ (j : Nat) v, ([.int .i64 5, .int .i64 0, .int .i64 0, .int .i64 0, .string ⟨#[]⟩, .bool false, .int .i64 0, .int .i64 11, .string ⟨#[]⟩, .int .i64 0, .string ⟨#[]⟩, .int .i64 0, .int .i64 0, .bool false, .bool false, .string ⟨#[]⟩, .int .i64 0, .int .i64 0, .bool false, .bool false] : List Value)[j]? = some v → w2.cell? (ad.add j) = some v from fun j v hv => Nab HB2.out (HX0.out j v hv))
 have y2 : w2.cell? ⟨ad.block, ad.off + 40, none⟩ = some (.int .i64 2) := by have := Nab HB2.out HX2.out; simpa [Addr.add] using this
 go_wp2_with (first
  | ((with_reducible refine gD 30 rfl ?_); refine Nbh (by kernel_rfl) ?_; refine cells_event rfl (t := 50) (p := .tmp 29) rfl (ad := ad) (cs := [.int .i64 5, .int .i64 0, .int .i64 0, .int .i64 0, .string ⟨#[]⟩, .bool false, .int .i64 0, .int .i64 11, .string ⟨#[]⟩, .int .i64 0, .string ⟨#[]⟩, .int .i64 0, .int .i64 0, .bool false, .bool false, .string ⟨#[]⟩, .int .i64 0, .int .i64 0, .bool false, .bool false]) ?ha HY0.out hu50 rfl ?hi ?_; (case ha => rfl); (case hi => kernel_rfl)))
 go_ret
 exact ⟨rfl, Nac HB.out HB2.out⟩
def able5_g.f : Option Bool := some true
theorem able5_g.calls (r : Bool) (w : World) (hG : GL w) (h : able5_g.f = some r) : Calls Tryz.prog 23 #[] w fun e w' => e = .returned (.bool r) ∧ Below w.heap.size w w' := by
 obtain rfl := Option.some.inj h
 exact able5_any w hG
end Go.Proofs.YtejbbceidnaloaaGreatDoor.P
