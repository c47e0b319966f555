import Derived.Test.YtejbbceidnaloaaGreatDoorB32
set_option linter.unusedVariables false
set_option linter.unusedSimpArgs false
set_option maxRecDepth 100000
set_option maxHeartbeats 8000000
namespace Go.Proofs.YtejbbceidnaloaaGreatDoor.P
open Go.RowKit AW AL AM
def Er (ts : List S39) (e : Int) {α : Type} (r : Res α) : Prop := ∀ c p, r = some (.error (c, p)) → (c = 50 ∨ c = 3) ∧ ∃ i, p = Nbl ts e i
section
variable {ts : List S39} {e : Int}
theorem Er.none_ {α : Type} : Er ts e (none : Res α) := fun _ _ h => by cases h
theorem Er.ok {α : Type} (a : α) : Er ts e (okR a) := fun _ _ h => by cases h
theorem Er.er {α : Type} (i : Int) : Er ts e (erR 50 (Nbl ts e i) : Res α) := fun _ _ h => by cases h; exact ⟨.inl rfl, i, rfl⟩
theorem Er.er3 {α : Type} (i : Int) : Er ts e (erR 3 (Nbl ts e i) : Res α) := fun _ _ h => by cases h; exact ⟨.inr rfl, i, rfl⟩
theorem Er.bnd {α β : Type} {r : Res α} {f : α → Res β} (h : Er ts e r) (hf : ∀ a, Er ts e (f a)) : Er ts e (r.bnd f) := by
 intro c p hh
 cases r with
 | none => cases hh
 | some x =>
  cases x with
  | error q =>
   obtain ⟨c', p'⟩ := q
   have := h c' p' rfl
   cases hh
   exact this
  | ok a => exact hf a c p hh
theorem Er.ite {α : Type} {P : Prop} [Decidable P] {a b : Res α} (h1 : Er ts e a) (h2 : Er ts e b) : Er ts e (if P then a else b) := by split <;> assumption
end
section
variable (O : Ops) (ts : List S39) (e : Int)
theorem celF_er (i : Int) : Er ts e (celF O ts e i) := by
 unfold celF
 refine .ite ?_ (.er _)
 split
 ·exact .ok _
 ·exact .er _
theorem refF_er (s : ByteArray) (i : Int) : Er ts e (refF O ts e s i) := by
 unfold refF
 refine .bnd (celF_er O ts e i) fun a => ?_
 refine .ite (.bnd (celF_er O ts e _) fun b => .ok _) (.ok _)
theorem perF_er : ∀ (k : Nat) (out : List S50) (i : Int), Er ts e (perF ts k out i)
 | 0, _, _ => by rw [perF]; exact .none_
 | k + 1, out, i => by rw [perF]; exact .ite (perF_er k _ _) (.ok _)
theorem er_all : ∀ k : Nat, (∀ least i, Er ts e (binF O ts e k least i)) ∧ (∀ least l i, Er ts e (lopF O ts e k least l i)) ∧ (∀ i, Er ts e (sgnF O ts e k i)) ∧ (∀ i, Er ts e (parF O ts e k i)) ∧ (∀ w i, Er ts e (worF O ts e k w i)) ∧ (∀ m i, Er ts e (calF O ts e k m i)) ∧ (∀ m acc n i, Er ts e (argF O ts e k m acc n i)) := by
 intro k
 induction k with
 | zero =>
  refine ⟨?_, ?_, ?_, ?_, ?_, ?_, ?_⟩
  ·intro _ _; rw [binF]; exact .none_
  ·intro _ _ _; rw [lopF]; exact .none_
  ·intro _; rw [sgnF]; exact .none_
  ·intro _; rw [parF]; exact .none_
  ·intro _ _; rw [worF]; exact .none_
  ·intro _ _; rw [calF]; exact .none_
  ·intro _ _ _ _; rw [argF]; exact .none_
 | succ k ih =>
  obtain ⟨h1, h2, h3, h4, h5, h6, h7⟩ := ih
  refine ⟨?_, ?_, ?_, ?_, ?_, ?_, ?_⟩
  ·intro _ _; rw [binF]; exact .ite (h3 _) (.bnd (h1 _ _) fun a => h2 _ _ _)
  ·intro _ _ _; rw [lopF]; exact .ite (.ok _) (.bnd (h1 _ _) fun a => h2 _ _ _)
  ·intro _; rw [sgnF]; exact .ite (.bnd (h3 _) fun a => .ok _) (.ite (.bnd (h3 _) fun a => .ok _) (.bnd (h4 _) fun a => perF_er ts e _ _ _))
  ·intro _; rw [parF]
   refine .ite (.bnd (h1 _ _) fun a => .ite (.ok _) (.er _)) (.ite (.ite (h5 _ _) (.ite ?_ (.ite (.ite (.ok _) (.er _)) (.ite (.ok _) (.er _))))) (.er _))
   split
   ·exact .ok _
   ·exact .er _
  ·intro _ _; rw [worF]; exact .ite (h6 _ _) (.ite (.ite (refF_er O ts e _ _) (.er _)) (.ite (.ok _) (.ite (.ok _) (refF_er O ts e _ _))))
  ·intro _ _; rw [calF]; exact .ite (.ite (.ok _) (h7 _ _ _ _)) (.er _)
  ·intro _ _ _ _; rw [argF]; exact .bnd (h1 _ _) fun a => .ite (.ite (.er3 _) (h7 _ _ _ _)) (.ite (.ok _) (.er _))
theorem whole_er (k : Nat) : Er ts e (Ndi O ts e k) := by
 unfold Ndi
 exact .bnd ((er_all O ts e k).1 _ _) fun a => .ite (.er _) (.ok _)
theorem whole_fuel {k : Nat} (hk : 16 * ts.length + 12 ≤ k) : ∃ x, Ndi O ts e k = some x := by
 obtain ⟨x, hx, _⟩ := (enough O ts e ts.length).1 (16 * ts.length + 12) 1 0 (by omega) (by omega) (by omega) (by omega) (by omega) (by omega)
 have : ∃ x, Ndi O ts e (16 * ts.length + 12) = some x := by
  unfold Ndi
  rw [hx]
  cases x with
  | error p => exact ⟨_, rfl⟩
  | ok p => obtain ⟨l, a⟩ := p; simp only [Res.bnd]; split <;> exact ⟨_, rfl⟩
 obtain ⟨y, hy⟩ := this
 exact ⟨y, wholeF_le O ts e hk hy⟩
end
def NumTx (l : List UInt8) : Prop := ∃ a, a ≠ [] ∧ (∀ c ∈ a, isDig c) ∧ (l = a ∨ ∃ b, b ≠ [] ∧ (∀ c ∈ b, isDig c) ∧ l = a ++ 46 :: b)
theorem digB_iff (c : UInt8) : digB ((c.toNat : Nat) : Int) = true ↔ isDig c := by
 unfold digB isDig
 rw [Bool.and_eq_true, decide_eq_true_eq, decide_eq_true_eq]
 omega
theorem runL_take (p : Int → Bool) : ∀ (l : List UInt8), ∀ c ∈ l.take (runL p l), p c.toNat = true
 | [], c, h => by simp at h
 | d :: r, c, h => by
  rw [runL] at h
  split at h
  ·rename_i hd
   rw [List.take_succ_cons] at h
   rcases List.mem_cons.1 h with rfl | h
   ·exact hd
   ·exact runL_take p r c h
  ·simp at h
theorem num_shape {c : UInt8} {r : List UInt8} (h : digB c.toNat = true) : NumTx ((c :: r).take (numLx (c :: r))) := by
 have hpos : 1 ≤ runL digB (c :: r) := by rw [runL, if_pos h]; omega
 have hle := Ndw digB (c :: r)
 have hda : ∀ x ∈ (c :: r).take (runL digB (c :: r)), isDig x := fun x hx => (digB_iff x).1 (runL_take digB _ x hx)
 have hne : (c :: r).take (runL digB (c :: r)) ≠ [] := by
  intro hh
  have := congrArg List.length hh
  rw [List.length_take, List.length_nil] at this
  omega
 generalize hl : c :: r = l at *
 refine ⟨l.take (runL digB l), hne, hda, ?_⟩
 unfold numLx
 split
 ·exact .inl rfl
 ·rename_i d q hq
  by_cases hc : d = 46 ∧ 0 < runL digB q
  ·rw [if_pos hc]
   refine .inr ⟨q.take (runL digB q), ?_, fun x hx => (digB_iff x).1 (runL_take digB _ x hx), ?_⟩
   ·intro hh
    have := congrArg List.length hh
    rw [List.length_take, List.length_nil] at this
    have := Ndw digB q
    omega
   ·have e : l = l.take (runL digB l) ++ (46 :: q) := by
     conv => lhs; rw [← List.take_append_drop (runL digB l) l, hq, hc.1]
    have hlen : (l.take (runL digB l)).length = runL digB l := by rw [List.length_take]; omega
    generalize hn : runL digB l = n at *
    generalize hA : l.take n = A at *
    rw [e, List.take_append, List.take_of_length_le (by omega), hlen, show n + (1 + runL digB q) - n = runL digB q + 1 by omega, List.take_succ_cons]
  ·rw [if_neg hc, Nat.add_zero]; exact .inl rfl
theorem replaceK_len (old new : List UInt8) (h : new.length ≤ old.length) : ∀ (k : Nat) (l : List UInt8), (Lib.replaceK old new k l).length ≤ l.length
 | 0, l => Nat.le_refl _
 | k + 1, l => by
  rcases Lib.index_spec l old with ⟨h1, _⟩ | ⟨i, h1, _⟩
  ·rw [Lib.replaceK, if_pos (by rw [h1]; rfl)]; exact Nat.le_refl _
  ·have hroom := Lib.index_room l old (by omega)
   rw [Lib.replaceK_hit _ _ _ _ _ h1]
   have ih := replaceK_len old new h k (l.drop (i + old.length))
   rw [List.length_drop] at ih
   simp only [List.length_append, List.length_take]
   omega
theorem undbl_len (l : List UInt8) : (undblL l).length ≤ l.length := by
 unfold undblL Lib.replaceAll Lib.replace
 rw [if_neg (by decide)]
 exact replaceK_len _ _ (by decide) _ _
structure TokOk (n : Nat) (t : S39) : Prop where
 size : t.f1.size ≤ n
 num : t.f0 = 1 → NumTx t.f1.data.toList
 flt : t.f0 = 4 → t.f1 ∈ Nbx
theorem fault_mem {b : List UInt8} (h : b ∈ Nb9) : (⟨b.toArray⟩ : ByteArray) ∈ Nbx := by
 unfold Nb9 at h
 obtain ⟨x, hx, rfl⟩ := List.mem_map.1 h
 rw [← list_text]; exact hx
theorem next_tok (c : UInt8) (r : List UInt8) (p : Int) (h : (nextL (c :: r)).2.2.2 = 0) : TokOk (c :: r).length ⟨(nextL (c :: r)).1, ⟨(nextL (c :: r)).2.1.toArray⟩, p⟩ := by
 have hb : ∀ L, (Na1 (c :: r) L).length ≤ (c :: r).length := by
  intro L
  obtain ⟨q, hq⟩ := Ndt (c :: r) L
  have := congrArg List.length hq
  rw [List.length_append] at this
  omega
 rw [nextL] at h ⊢
 split
 ·rename_i hd
  exact ⟨by rw [Nal, List.length_take]; exact Nat.min_le_right _ _, fun _ => by simpa using num_shape hd, fun hh => absurd hh (show ¬ (1 : Int) = 4 by decide)⟩
 rename_i hd
 rw [if_neg hd] at h
 split
 ·refine ⟨?_, fun hh => absurd hh (show ¬ (2 : Int) = 1 by decide), fun hh => absurd hh (show ¬ (2 : Int) = 4 by decide)⟩
  show (⟨(quotL (c :: r)).1.toArray⟩ : ByteArray).size ≤ _
  rw [Nal]
  unfold quotL
  cases qend ((c :: r).drop 1) with
  | none => exact Nat.zero_le _
  | some e =>
   simp only
   cases badAt ((c :: r).take (e + 2)) with
   | some i => exact Nat.zero_le _
   | none =>
    have := undbl_len (((c :: r).drop 1).take e)
    rw [List.length_take, List.length_drop] at this
    show (undblL (((c :: r).drop 1).take e)).length ≤ _
    omega
 rename_i h34
 rw [if_neg h34] at h
 split
 ·exact ⟨by rw [Nal, List.length_take]; exact Nat.min_le_right _ _, fun hh => absurd hh (show ¬ (3 : Int) = 1 by decide), fun hh => absurd hh (show ¬ (3 : Int) = 4 by decide)⟩
 rename_i hl
 rw [if_neg hl] at h
 split
 ·rename_i h35
  rw [if_pos h35] at h
  split
  ·rename_i he
   rw [if_pos he] at h
   exact absurd h (by show ¬ (40 : Int) = 0; decide)
  ·rename_i he
   exact ⟨by rw [Nal]; exact hb _, fun hh => absurd hh (show ¬ (4 : Int) = 1 by decide), fun _ => fault_mem (begins_mem _ _ he)⟩
 ·split
  ·exact ⟨by rw [Nal]; exact hb _, fun hh => absurd hh (show ¬ (5 : Int) = 1 by decide), fun hh => absurd hh (show ¬ (5 : Int) = 4 by decide)⟩
  ·split
   ·exact ⟨by rw [Nal]; simp, fun hh => absurd hh (show ¬ (5 : Int) = 1 by decide), fun hh => absurd hh (show ¬ (5 : Int) = 4 by decide)⟩
   ·exact ⟨by rw [Nal]; simp, fun hh => absurd hh (show ¬ (0 : Int) = 1 by decide), fun hh => absurd hh (show ¬ (0 : Int) = 4 by decide)⟩
theorem TokOk.up {n m : Nat} {t : S39} (h : TokOk n t) (hm : n ≤ m) : TokOk m t := ⟨Nat.le_trans h.size hm, h.num, h.flt⟩
theorem scan_ok : ∀ (n : Nat) (l : List UInt8) (k p : Nat) (ts : List S39), l.length ≤ n → scanL k p l = .ok ts → ts.length ≤ l.length ∧ ∀ t ∈ ts, TokOk l.length t
 | n, l, 0, p, ts, hn, h => by cases h; exact ⟨Nat.zero_le _, fun t ht => by cases ht⟩
 | n, [], k + 1, p, ts, hn, h => by cases h; exact ⟨Nat.le_refl _, fun t ht => by cases ht⟩
 | 0, c :: r, k + 1, p, ts, hn, h => by simp at hn
 | n + 1, c :: r, k + 1, p, ts, hn, h => by
  simp only [List.length_cons] at hn
  rw [scanL] at h
  split at h
  ·obtain ⟨h1, h2⟩ := scan_ok n r k (p + 1) ts (by omega) h
   exact ⟨by simp; omega, fun t ht => (h2 t ht).up (by simp)⟩
  ·split at h
   ·rename_i h0
    have hl := Neg c r h0
    split at h
    ·rename_i us hu
     cases h
     obtain ⟨h1, h2⟩ := scan_ok n _ k _ us (by rw [List.length_drop, List.length_cons]; omega) hu
     rw [List.length_drop] at h1 h2
     refine ⟨by rw [List.length_cons]; omega, fun t ht => ?_⟩
     rcases List.mem_cons.1 ht with rfl | ht
     ·exact next_tok c r _ h0
     ·exact (h2 t ht).up (Nat.sub_le _ _)
    ·cases h
   ·cases h
theorem scan_er : ∀ (n : Nat) (l : List UInt8) (k p : Nat) (c q : Int), l.length ≤ n → scanL k p l = .error (c, q) → c ≠ 0
 | n, l, 0, p, c, q, hn, h => by cases h
 | n, [], k + 1, p, c, q, hn, h => by cases h
 | 0, d :: r, k + 1, p, c, q, hn, h => by simp at hn
 | n + 1, d :: r, k + 1, p, c, q, hn, h => by
  simp only [List.length_cons] at hn
  rw [scanL] at h
  split at h
  ·exact scan_er n r k (p + 1) c q (by omega) h
  ·split at h
   ·rename_i h0
    have hl := Neg d r h0
    split at h
    ·cases h
    ·rename_i e he
     cases h
     exact scan_er n _ k _ c q (by rw [List.length_drop, List.length_cons]; omega) he
   ·rename_i h0
    cases h
    exact h0
def numOf (l : List UInt8) : Option (Nat × Nat) :=
 match l.drop (runL digB l) with
 | [] => if Nb1 0 (l.take (runL digB l)) ≤ 1000000000000000000 then mkN (Nb1 0 (l.take (runL digB l))) 1 else none
 | _ :: b => if Nb1 0 (l.take (runL digB l)) ≤ 1000000000000 ∧ b.length ≤ 6 then mkN (Nb1 0 (l.take (runL digB l)) * 10 ^ b.length + Nb1 0 b) (10 ^ b.length) else none
theorem runL_app (p : Int → Bool) : ∀ (a r : List UInt8), (∀ c ∈ a, p c.toNat = true) → (match r with | [] => True | c :: _ => p c.toNat = false) → runL p (a ++ r) = a.length
 | [], [], _, _ => rfl
 | [], c :: r, _, h => by simp only at h; rw [List.nil_append, runL, if_neg (by rw [h]; decide)]; rfl
 | c :: a, r, ha, h => by
  rw [List.cons_append, runL, if_pos (ha c (List.mem_cons_self ..)), runL_app p a r (fun x hx => ha x (List.mem_cons_of_mem _ hx)) h]
  rfl
theorem num_read {l : List UInt8} (h : NumTx l) (hl : l.length ≤ 10000) {K : Nat} (hK : 1000006 ≤ K) : Na7.f K ⟨l.toArray⟩ = some (asRead (numOf l)) := by
 obtain ⟨a, h0, hd, h⟩ := h
 have hda : ∀ c ∈ a, digB ((c.toNat : Nat) : Int) = true := fun c hc => (digB_iff c).2 (hd c hc)
 rcases h with rfl | ⟨b, hb0, hdb, rfl⟩
 ·have hr := runL_app digB l [] hda trivial
  rw [List.append_nil] at hr
  unfold numOf
  rw [hr, List.drop_length, List.take_length]
  exact read_int hl h0 hd (by omega)
 ·have hr := runL_app digB a (46 :: b) hda (show digB (((46 : UInt8).toNat : Nat) : Int) = false by decide)
  unfold numOf
  rw [hr, List.drop_left, List.take_left]
  simp only [List.length_append, List.length_cons] at hl
  exact read_frac (by omega) h0 hb0 hd hdb hK
theorem mkN_ok {n d x y : Nat} (hd : 1 ≤ d) (h : mkN n d = some (x, y)) : numB (x : Int) (y : Int) = true := by
 unfold mkN at h
 split at h
 ·rename_i hb
  obtain ⟨hx, hy⟩ := Prod.mk.inj (sI h)
  have hg : 0 < Nat.gcd n d := Nat.gcd_pos_of_pos_right _ (by omega)
  have h1 : 0 < d / Nat.gcd n d := Nat.div_pos (Nat.le_of_dvd (by omega) (Nat.gcd_dvd_right n d)) hg
  have hc : Nat.gcd (n / Nat.gcd n d) (d / Nat.gcd n d) = 1 := by
   rw [Nat.gcd_div (Nat.gcd_dvd_left n d) (Nat.gcd_dvd_right n d), Nat.div_self hg]
  rw [hx, hy] at hb hc
  rw [hy] at h1
  unfold numB
  exact decide_eq_true ⟨by omega, by omega, by omega, by omega, hc⟩
 ·cases h
theorem numOf_ok {l : List UInt8} {x y : Nat} (h : numOf l = some (x, y)) : numB (x : Int) (y : Int) = true := by
 unfold numOf at h
 split at h
 ·split at h
  ·exact mkN_ok (by decide) h
  ·cases h
 ·split at h
  ·exact mkN_ok (Nat.pos_of_ne_zero (by simp)) h
  ·cases h
def faultIx (s : ByteArray) : Nat := Nbx.findIdx (· == s)
def theO : Ops where
 num := fun s => (numOf s.data.toList).map fun (n, d) => ⟨1, ⟨(n : Int), (d : Int)⟩, eB, false, 0⟩
 txt := fun s => if plainB s then ⟨2, ⟨0, 0⟩, s, false, 0⟩ else ⟨4, ⟨0, 0⟩, eB, false, 2⟩
 flt := fun s => ⟨4, ⟨0, 0⟩, eB, false, (faultIx s : Int) + 1⟩
 tru := fun b => ⟨3, ⟨0, 0⟩, eB, b, 0⟩
 cell := cellO
 fn := fnB
 sh := Nd5
theorem tokA_mem {ts : List S39} (i : Int) : tokA ts i = zT ∨ tokA ts i ∈ ts := by
 unfold tokA
 by_cases h : i.toNat < ts.length
 ·right
  have e : ts.getD i.toNat zT = ts[i.toNat] := by simp [List.getD, h]
  rw [e]
  exact List.getElem_mem h
 ·left
  have e : ts[i.toNat]? = none := List.getElem?_eq_none (by omega)
  simp [List.getD, e]
theorem tok_at {ts : List S39} {n : Nat} (h : ∀ t ∈ ts, TokOk n t) (i : Int) : TokOk n (tokA ts i) := by
 rcases tokA_mem (ts := ts) i with e | e
 ·rw [e]
  exact ⟨Nat.zero_le _, fun hh => absurd hh (show ¬ (0 : Int) = 1 by decide), fun hh => absurd hh (show ¬ (0 : Int) = 4 by decide)⟩
 ·exact h _ e
theorem flt_any {s : ByteArray} (h : s ∈ Nbx) (w : World) (hG : GL w) : Calls Tryz.prog 147 #[.string s] w fun en w' => en = .returned (vV (theO.flt s)) ∧ Below w.heap.size w w' := by
 unfold Nbx at h
 simp only [List.mem_cons, List.not_mem_nil, or_false] at h
 rcases h with rfl | rfl | rfl | rfl | rfl | rfl | rfl | rfl
 ·exact Nc2 0 ⟨#[35, 68, 73, 86, 47, 48, 33]⟩ 1 1 (by simp [Nel]) w hG
 ·exact Nc2 1 ⟨#[35, 86, 65, 76, 85, 69, 33]⟩ 2 2 (by simp [Nel]) w hG
 ·exact Nc2 2 ⟨#[35, 82, 69, 70, 33]⟩ 3 3 (by simp [Nel]) w hG
 ·exact Nc2 3 ⟨#[35, 78, 85, 77, 33]⟩ 4 4 (by simp [Nel]) w hG
 ·exact Nc2 4 ⟨#[35, 78, 47, 65]⟩ 5 5 (by simp [Nel]) w hG
 ·exact Nc2 5 ⟨#[35, 67, 73, 82, 67, 76, 69, 33]⟩ 6 6 (by simp [Nel]) w hG
 ·exact Nc2 6 ⟨#[35, 76, 79, 78, 71, 33]⟩ 7 7 (by simp [Nel]) w hG
 ·exact Nc2 7 ⟨#[35, 65, 82, 71, 33]⟩ 8 8 (by simp [Nel]) w hG
theorem text_any {s : ByteArray} (hs : s.size ≤ 256) (w : World) : Calls Tryz.prog 182 #[.string s] w fun en w' => en = .returned (vV (theO.txt s)) ∧ Below w.heap.size w w' := by
 have hp : Naw.f 1000 s = some (plainB s) := by
  have := plain_l0 s (by omega) s.size 0 1000 (by omega) (by omega) (by omega)
  rw [List.drop_zero] at this
  exact this
 show Calls Tryz.prog 182 #[.string s] w fun en w' => en = .returned (vV (if plainB s then ⟨2, ⟨0, 0⟩, s, false, 0⟩ else ⟨4, ⟨0, 0⟩, eB, false, 2⟩)) ∧ Below w.heap.size w w'
 cases hb : plainB s with
 | true =>
  refine Ndf.calls 1000 s 2 0 0 s false 0 w ?_
  unfold Ndf.f
  rw [hp, hb]
  simp only [Option.bind_some, if_true]
  rw [if_neg (by omega)]
 | false =>
  refine Ndf.calls 1000 s 4 0 0 ⟨#[]⟩ false 2 w ?_
  unfold Ndf.f
  rw [hp, hb]
  rfl
theorem penv {ts : List S39} {n : Nat} (hn : n ≤ 10000) (h : ∀ t ∈ ts, TokOk n t) : PEnv theO ts where
 num := by
  intro i s h1 hs w hG
  have ht := tok_at h i
  have hx := ht.num h1
  have hz := ht.size
  rw [hs] at hx hz
  have hf := num_read hx (by have : s.data.toList.length = s.size := Array.length_toList; omega) (K := 1000006) (Nat.le_refl _)
  rw [← list_text] at hf
  cases hno : numOf s.data.toList with
  | none =>
   rw [hno] at hf
   refine (Na7.calls 1000006 s 0 0 false w hf).mono ?_
   rintro en w' ⟨rfl, hb⟩
   refine ⟨0, 0, ?_, hb, ?_⟩
   ·show _ = Ending.returned (.tuple #[_, .bool ((numOf s.data.toList).map _).isSome]); rw [hno]; rfl
   ·intro v hv
    change (numOf s.data.toList).map _ = some v at hv
    rw [hno] at hv; cases hv
  | some p =>
   obtain ⟨x, y⟩ := p
   rw [hno] at hf
   refine (Na7.calls 1000006 s (x : Int) (y : Int) true w hf).mono ?_
   rintro en w' ⟨rfl, hb⟩
   refine ⟨(x : Int), (y : Int), ?_, hb, ?_⟩
   ·show _ = Ending.returned (.tuple #[_, .bool ((numOf s.data.toList).map _).isSome]); rw [hno]; rfl
   ·intro v hv w2
    change (numOf s.data.toList).map _ = some v at hv
    rw [hno] at hv
    cases hv
    refine Ndj.calls 1000006 (x : Int) (y : Int) 1 (x : Int) (y : Int) ⟨#[]⟩ false 0 w2 ?_
    unfold Ndj.f
    rw [Ne5 _ _ _ (by omega), numOf_ok hno]
    rfl
 txt := fun i s h1 hs hz w => text_any hz w
 flt := fun i s h1 hs w hG => flt_any (by have := (tok_at h i).flt h1; rw [hs] at this; exact this) w hG
 tru := fun b w => Ned.calls b 3 0 0 ⟨#[]⟩ b 0 w rfl
 fn := fun s w _ _ => Nek s w
 sh := fun s w _ => (Nea s w).mono fun e w' hh => ⟨hh.1, hh.2.below⟩
 size := fun i => by have := (tok_at h i).size; omega
def Ncw (ts : List S39) (e : Int) : Except (Int × Int) (List S50) := match Ndi theO ts e (16 * ts.length + 12) with | some x => x | none => .error (50, 0)
theorem wholeX_f (ts : List S39) (e : Int) : Ndi theO ts e (16 * ts.length + 12) = some (Ncw ts e) := by
 obtain ⟨x, hx⟩ := whole_fuel theO ts e (Nat.le_refl _)
 unfold Ncw
 rw [hx]
def chk (l : List S50) : Int := (Na2.f 600 l).getD 53
theorem chk_f (l : List S50) : Na2.f 600 l = some (chk l) := by
 obtain ⟨c, hc, _⟩ := check_some l (K := 600) (Nat.le_refl _)
 unfold chk
 rw [hc]; rfl
def Nd6 (l : List UInt8) : List S50 × Int × Int :=
 if 1024 < l.length then ([], 2, 0) else
 match scanL l.length 0 l with
 | .error (c, p) => ([], c, p)
 | .ok ts => match Ncw ts (l.length : Int) with
  | .error (c, p) => ([], c, p)
  | .ok t => if chk t = 0 then (t, 0, 0) else ([], chk t, 0)
theorem wf_up {ts : List S39} {e : Int} {k : Nat} (hk : 16 * ts.length + 12 ≤ k) : Ndi theO ts e k = some (Ncw ts e) := wholeF_le theO ts e hk (wholeX_f ts e)
theorem parse_any (l : List UInt8) (w : World) (hG : GL w) : Calls Tryz.prog 21 #[.string ⟨l.toArray⟩] w fun en w' => ∃ v, en = .returned (.tuple #[v, .int .i64 (Nd6 l).2.1, .int .i64 (Nd6 l).2.2]) ∧ Kd.R k50 50 w' w.heap.size (fun _ => True) v (Nd6 l).1 ∧ Below w.heap.size w w' := by
 unfold Nd6
 have hs := scan_f l (K := 17 * l.length + 13) (by omega)
 by_cases hl : 1024 < l.length
 ·rw [if_pos hl] at hs ⊢
  refine (parse_scan hG hs (by decide)).mono ?_
  rintro en w' ⟨rfl, hb⟩
  exact ⟨_, rfl, Kd.R_nil _ _ _ _ _, hb⟩
 rw [if_neg hl] at hs ⊢
 cases hsc : scanL l.length 0 l with
 | error q =>
  obtain ⟨c, p⟩ := q
  rw [hsc] at hs
  refine (parse_scan hG hs (scan_er _ l _ _ c p (Nat.le_refl _) hsc)).mono ?_
  rintro en w' ⟨rfl, hb⟩
  exact ⟨_, rfl, Kd.R_nil _ _ _ _ _, hb⟩
 | ok ts =>
  rw [hsc] at hs
  obtain ⟨h1, h2⟩ := scan_ok _ l _ _ ts (Nat.le_refl _) hsc
  have hx := wf_up (ts := ts) (e := (l.length : Int)) (k := 17 * l.length + 13) (by omega)
  have hsz : ((⟨l.toArray⟩ : ByteArray).size : Int) = (l.length : Int) := by rw [Nal]
  have hp := parse_good (O := theO) (k := 17 * l.length + 13) (k2 := 600) (s := ⟨l.toArray⟩) hG (by rw [Nal]; omega) (ts := ts) (a := 0) hs (penv (by omega) h2) (fun _ => rfl) (by omega) (x := Ncw ts (l.length : Int)) (by rw [hsz]; exact hx)
   (fun c p he => by
     rw [he] at hx
     have := (whole_er theO ts _ _ c p hx).1
     omega)
   (cc := match Ncw ts (l.length : Int) with | .ok t => chk t | .error _ => 0)
   (fun t ht => by rw [ht]; exact chk_f t)
  refine hp.mono ?_
  intro en w' hh
  obtain ⟨hh, hb⟩ := hh
  simp only
  cases hw : Ncw ts (l.length : Int) with
  | error q =>
   obtain ⟨c, p⟩ := q
   rw [hw] at hh
   exact ⟨_, hh, Kd.R_nil _ _ _ _ _, hb⟩
  | ok t =>
   rw [hw] at hh
   simp only at hh
   show ∃ v, en = .returned (.tuple #[v, .int .i64 (if chk t = 0 then (t, (0 : Int), (0 : Int)) else ([], chk t, 0)).2.1, .int .i64 (if chk t = 0 then (t, (0 : Int), (0 : Int)) else ([], chk t, 0)).2.2]) ∧ Kd.R k50 50 w' w.heap.size (fun _ => True) v (if chk t = 0 then (t, (0 : Int), (0 : Int)) else ([], chk t, 0)).1 ∧ Below w.heap.size w w'
   by_cases hc : chk t = 0
   ·rw [if_pos hc] at hh ⊢
    obtain ⟨v, rfl, hr⟩ := hh
    exact ⟨v, rfl, hr, hb⟩
   ·rw [if_neg hc] at hh ⊢
    exact ⟨_, hh, Kd.R_nil _ _ _ _ _, hb⟩
theorem Nd0 (b : ByteArray) : b.data.toList.length = b.size := Array.length_toList
theorem ite_p {α : Type} {P : Prop} [Decidable P] {a b : α} {p : α → Prop} (ha : p a) (hb : p b) : p (if P then a else b) := by split <;> assumption
theorem sign_len (o : Int) : 1 ≤ (signB o).size ∧ (signB o).size ≤ 2 := by
 have h : (fun b : ByteArray => 1 ≤ b.size ∧ b.size ≤ 2) (signB o) := by
  unfold signB
  repeat (refine ite_p (p := fun b : ByteArray => 1 ≤ b.size ∧ b.size ≤ 2) (by decide) ?_)
  decide
 exact h
theorem faults_pos (e : Int) (h1 : 1 ≤ e) (h8 : e ≤ 8) : 1 ≤ (Nbx.getD (e - 1).toNat ByteArray.empty).size := by
 have : e = 1 ∨ e = 2 ∨ e = 3 ∨ e = 4 ∨ e = 5 ∨ e = 6 ∨ e = 7 ∨ e = 8 := by omega
 rcases this with rfl | rfl | rfl | rfl | rfl | rfl | rfl | rfl <;> decide
theorem val_len {v : S46} (h : litB v = true) : 1 ≤ (Nco (valTk v)).length ∧ (Nco (valTk v)).length ≤ 600 := by
 rcases lit_cases h with ⟨h0, hN, h2, h3, h4, h5, h6⟩ | ⟨h0, h1, h2, h3, h4, h5, h6⟩ | ⟨h0, h1, h2, h3, h4⟩ | ⟨h0, h1, h2, h3, h4, h5, h6⟩
 ·have hb := hN
  unfold numB at hb
  obtain ⟨-, b1, b2, b3, -⟩ := of_decide_eq_true hb
  have hsz := num_len h5 b1 b2 b3
  have hp := dec_pos (v.f1.f0 / v.f1.f1).toNat
  have e : valTk v = (1, ⟨(numL v.f1.f0 v.f1.f1).toArray⟩) := by unfold valTk; rw [if_neg (by omega), if_neg (by omega), if_neg (by omega)]
  rw [e, tk_len _ (show ¬ (1 : Int) = 2 by decide)]
  show 1 ≤ (⟨(numL v.f1.f0 v.f1.f1).toArray⟩ : ByteArray).size ∧ (⟨(numL v.f1.f0 v.f1.f1).toArray⟩ : ByteArray).size ≤ 600
  rw [Nal]
  refine ⟨?_, by omega⟩
  unfold numL
  rw [List.length_append]; omega
 ·have e : valTk v = (2, v.f2) := by unfold valTk; rw [if_pos h0]
  rw [e]
  have e2 : Nco (2, v.f2) = ((⟨#[34]⟩ : ByteArray) ++ ⟨(dblL v.f2.data.toList).toArray⟩ ++ (⟨#[34]⟩ : ByteArray) : ByteArray).data.toList := by
   rw [← Ne0]; rfl
  rw [e2]
  have hl := dblL_len v.f2.data.toList
  rw [Nd0] at hl
  have h34 : (⟨#[34]⟩ : ByteArray).size = 1 := rfl
  have hd : (⟨(dblL v.f2.data.toList).toArray⟩ : ByteArray).size = (dblL v.f2.data.toList).length := Nal _
  rw [Nd0, ByteArray.size_append, ByteArray.size_append, h34]
  omega
 ·have e : valTk v = (3, if v.f3 then tTRUE else tFALSE) := by unfold valTk; rw [if_neg (by omega), if_neg (by omega), if_pos h0]
  rw [e, tk_len _ (show ¬ (3 : Int) = 2 by decide)]
  cases v.f3 <;> decide
 ·have e : valTk v = (4, Nbx.getD (v.f4 - 1).toNat ByteArray.empty) := by unfold valTk; rw [if_neg (by omega), if_pos h0]
  rw [e, tk_len _ (show ¬ (4 : Int) = 2 by decide)]
  have := faults_size v.f4 h5 h6
  have := faults_pos v.f4 h5 h6
  show 1 ≤ (Nbx.getD (v.f4 - 1).toNat ByteArray.empty).size ∧ (Nbx.getD (v.f4 - 1).toNat ByteArray.empty).size ≤ 600
  omega
theorem cel_len {r : S48} (h : refR r = true) : 1 ≤ (celL r).length ∧ (celL r).length ≤ 20 := by
 obtain ⟨-, h1, h2, h3, h4⟩ := Nev h
 have a := dec_le 4 (r.f1 + 1).toNat (by omega)
 have b := colL_len r.f2
 unfold celL
 simp only [List.length_append]
 cases r.f3 <;> cases r.f4 <;> simp <;> omega
theorem ref_len {r : S48} (h : refR r = true) : 1 ≤ (txt (refT theLf r)).length ∧ (txt (refT theLf r)).length ≤ 40 := by
 have hc := cel_len h
 have e : theLf.cel r = ⟨(celL r).toArray⟩ := rfl
 unfold refT
 by_cases h0 : r.f0 = eB
 ·rw [if_pos h0, Ne4, e, tk3]
  rw [Nd0, Nal]; omega
 ·have hs := (Nev h).1.resolve_left h0
  have hz := sheet_size hs
  rw [if_neg h0, Nb0, Nb0, Ne4, e, tk3, tk3]
  simp only [List.length_append, Nd0, Nal]
  have : (Nco (mk [33])).length = 1 := rfl
  omega
theorem bra_txt (b : Bool) (T : List Tk) : (txt T).length ≤ (txt (bra b T)).length ∧ (txt (bra b T)).length ≤ (txt T).length + 2 := by
 rw [txt_bra]
 cases b <;> simp <;> omega
theorem txt_mk (l : List UInt8) (U : List Tk) : (txt (mk l :: U)).length = l.length + (txt U).length := by
 rw [Nb0, List.length_append]
 have : (Nco (mk l)).length = l.length := by
  show (Nco (5, mB l)).length = _
  rw [tk5, Nd0]
  exact Nal l
 rw [this]
theorem txt_sg (b : ByteArray) (U : List Tk) : (txt ((5, b) :: U)).length = b.size + (txt U).length := by
 rw [Nb0, List.length_append, tk5, Nd0]
theorem txt_wd (b : ByteArray) (U : List Tk) : (txt ((3, b) :: U)).length = b.size + (txt U).length := by
 rw [Nb0, List.length_append, tk3, Nd0]
theorem txt_app (T U : List Tk) : (txt (T ++ U)).length = (txt T).length + (txt U).length := by rw [Nbr, List.length_append]
theorem txt_le : ∀ k : Nat,
 (∀ (least : Int) (l : List S50) (T : List Tk) (q : List S50), (∀ n ∈ l, 0 ≤ Nbi n) → tkF theLf k least l = some (T, q) → 1 ≤ (txt T).length ∧ (txt T).length + 1 + 1000 * q.length ≤ 1000 * l.length) ∧
 (∀ (first : Bool) (m : Int) (l : List S50) (T : List Tk) (q : List S50), (∀ n ∈ l, 0 ≤ Nbi n) → atkF theLf k first m l = some (T, q) → (txt T).length + 1000 * q.length ≤ 1000 * l.length) := by
 intro k
 induction k with
 | zero =>
  refine ⟨?_, ?_⟩
  ·intro _ _ _ _ _ h; rw [tkF] at h; cases h
  ·intro _ _ _ _ _ _ h; rw [atkF] at h; cases h
 | succ k ih =>
  obtain ⟨ih1, ih2⟩ := ih
  refine ⟨?_, ?_⟩
  ·intro least l T q hg h
   cases l with
   | nil => rw [tkF] at h; cases h
   | cons n r =>
    have hn := good_of n (hg n (List.mem_cons_self ..))
    have hr : ∀ m ∈ r, 0 ≤ Nbi m := fun m hm => hg m (List.mem_cons_of_mem _ hm)
    obtain ⟨U, rfl, hU⟩ := nodeT h
    have hb := bra_txt (decide (Ndv n < least)) U
    rw [List.length_cons]
    suffices hs : 1 ≤ (txt U).length ∧ (txt U).length + 1 + 1000 * q.length ≤ 1000 * r.length + 998 by omega
    generalize Nbi n = cc at hn
    cases hn with
    | val v hv =>
     obtain ⟨rfl, rfl⟩ := Prod.mk.inj (sI hU)
     have := val_len hv
     show 1 ≤ (txt [valTk v]).length ∧ (txt [valTk v]).length + 1 + 1000 * r.length ≤ _
     rw [Ne4]; omega
    | cell s hs =>
     obtain ⟨rfl, rfl⟩ := Prod.mk.inj (sI hU)
     have := ref_len hs
     show 1 ≤ (txt (refT theLf s)).length ∧ (txt (refT theLf s)).length + 1 + 1000 * r.length ≤ _
     omega
    | area s u hs hu h0 =>
     obtain ⟨rfl, rfl⟩ := Prod.mk.inj (sI hU)
     have := ref_len hs
     have hc := cel_len hu
     show 1 ≤ (txt (refT theLf s ++ [mk [58], (3, ⟨(celL u).toArray⟩)])).length ∧ (txt (refT theLf s ++ [mk [58], (3, ⟨(celL u).toArray⟩)])).length + 1 + 1000 * r.length ≤ _
     rw [txt_app, txt_mk, txt_wd, Nal, Ndu]
     simp only [List.length_cons, List.length_nil]
     omega
    | un o h1 h3 =>
     by_cases ho : o = 3
     ·subst ho
      change (tkF theLf k 7 r).map (fun (T, q) => (T ++ [mk [37]], q)) = _ at hU
      obtain ⟨⟨V, q1⟩, hV, he⟩ := Option.map_eq_some_iff.1 hU
      obtain ⟨rfl, rfl⟩ := Prod.mk.inj he
      have := ih1 _ _ _ _ hr hV
      rw [txt_app, txt_mk, Ndu]
      simp only [List.length_cons, List.length_nil]
      omega
     ·change (if o = 3 then (tkF theLf k 7 r).map (fun (T, q) => (T ++ [mk [37]], q)) else (tkF theLf k 6 r).map fun (T, q) => ((5, signB o) :: T, q)) = _ at hU
      rw [if_neg ho] at hU
      obtain ⟨⟨V, q1⟩, hV, he⟩ := Option.map_eq_some_iff.1 hU
      obtain ⟨rfl, rfl⟩ := Prod.mk.inj he
      have := ih1 _ _ _ _ hr hV
      have := sign_len o
      rw [txt_sg]
      omega
    | bin o ho =>
     change (tkF theLf k (Nbu o) r).bind (fun (T, q) => (tkF theLf k (Nbu o + 1) q).map fun (U, p) => (T ++ (5, signB o) :: U, p)) = _ at hU
     obtain ⟨⟨V, q1⟩, hV, h2⟩ := Option.bind_eq_some_iff.1 hU
     obtain ⟨⟨V2, q2⟩, hV2, he⟩ := Option.map_eq_some_iff.1 h2
     obtain ⟨rfl, rfl⟩ := Prod.mk.inj he
     obtain ⟨p, -, rfl⟩ := (tk_suf theLf k).1 _ _ _ _ hV
     have a1 := ih1 _ _ _ _ hr hV
     have a2 := ih1 _ _ _ _ (fun m hm => hr m (List.mem_append_right _ hm)) hV2
     have := sign_len o
     rw [txt_app, txt_sg]
     omega
    | call m c hm h0 h30 =>
     change (atkF theLf k true _ r).map (fun (T, q) => ((3, m) :: mk [40] :: (T ++ [mk [41]]), q)) = _ at hU
     obtain ⟨⟨V, q1⟩, hV, he⟩ := Option.map_eq_some_iff.1 hU
     obtain ⟨rfl, rfl⟩ := Prod.mk.inj he
     have := ih2 _ _ _ _ _ hr hV
     have := fn_size hm
     rw [txt_wd, txt_mk, txt_app, txt_mk, Ndu]
     simp only [List.length_cons, List.length_nil]
     omega
  ·intro first m l T q hg h
   rw [atkF] at h
   split at h
   ·cases h; rw [Ndu, List.length_nil]; omega
   ·obtain ⟨⟨V, q1⟩, hV, h2⟩ := Option.bind_eq_some_iff.1 h
    obtain ⟨⟨V2, q2⟩, hV2, he⟩ := Option.map_eq_some_iff.1 h2
    obtain ⟨rfl, rfl⟩ := Prod.mk.inj he
    obtain ⟨p, -, rfl⟩ := (tk_suf theLf k).1 _ _ _ _ hV
    have a1 := ih1 _ _ _ _ hg hV
    have a2 := ih2 _ _ _ _ _ (fun m hm => hg m (List.mem_append_right _ hm)) hV2
    rw [txt_app]
    cases first with
    | true => simp only [if_true]; omega
    | false =>
     simp only [Bool.false_eq_true, if_false]
     rw [txt_mk]
     simp only [List.length_cons, List.length_nil]
     omega
def printL (l : List S50) : List UInt8 × Int := if chk l = 0 then (match tkF theLf 600 1 l with | some (T, _) => txt T | none => [], 0) else ([], chk l)
theorem print_tk {l : List S50} (h : chk l = 0) : ∃ T, tkF theLf 600 1 l = some (T, []) ∧ 1 ≤ (txt T).length ∧ (txt T).length ≤ 256000 := by
 obtain ⟨d, hd, -, hl⟩ := Ney (l := l) (K := 600) (by rw [chk_f, h])
 obtain ⟨T, -, hT⟩ := (tre_tk theLf 256).1 l d 600 1 [] hd hl (by omega)
 rw [List.append_nil] at hT
 have := (txt_le 600).1 1 l T [] hd.good hT
 exact ⟨T, hT, this.1, by simp only [List.length_nil] at this; omega⟩
theorem print_any {A : Option Addr} {c : Nat} {l : List S50} {w : World} (hG : GL w) (hC : Kd.C k50 w A l.length l) (hc : l.length ≤ c) :
 Calls Tryz.prog 26 #[.slice A l.length c] w fun en w' => en = .returned (.tuple #[.string ⟨(printL l).1.toArray⟩, .int .i64 (printL l).2]) ∧ Below w.heap.size w w' := by
 unfold printL
 by_cases h : chk l = 0
 ·rw [if_pos h]
  obtain ⟨T, hT, h1, h2⟩ := print_tk h
  rw [hT]
  exact print_tree hG hC hc (K := 600) (by rw [chk_f, h]) hT (by omega) (by intro hh; rw [hh] at h1; simp at h1)
 ·rw [if_neg h]
  exact print_err hC hc (chk_f l) h
def Naz.f (a0 : ByteArray) : Option (List S50 × Int × Int) := some (Nd6 a0.data.toList)
theorem Naz.calls (a0 : ByteArray) (r1 : List (S50)) (r2 : Int) (r3 : Int) (w : World) (hG : GL w) (h : Naz.f a0 = some (r1, r2, r3)) :
 Calls Tryz.prog 21 #[.string a0] w fun e w' => ∃ v0_ : Value, e = .returned (.tuple #[v0_, .int .i64 r2, .int .i64 r3]) ∧ Kd.R k50 50 w' w.heap.size (fun _ => True) v0_ r1 ∧ Below w.heap.size w w' := by
 have e := sI h
 have := parse_any a0.data.toList w hG
 rw [← list_text, e] at this
 exact this
def Nd3.f (l0 : List (S50)) : Option (ByteArray × Int) := some (⟨(printL l0).1.toArray⟩, (printL l0).2)
theorem Nd3.calls (A0 : Option Addr) (c0 : Nat) (l0 : List (S50)) (r1 : ByteArray) (r2 : Int) (w : World) (hG : GL w) (hr0 : Kd.C k50 w A0 l0.length l0) (hc0 : l0.length ≤ c0) (h : Nd3.f l0 = some (r1, r2)) :
 Calls Tryz.prog 26 #[.slice A0 l0.length c0] w fun e w' => e = .returned (.tuple #[.string r1, .int .i64 r2]) ∧ Below w.heap.size w w' := by
 obtain ⟨rfl, rfl⟩ := Prod.mk.inj (sI h)
 exact print_any hG hr0 hc0
def toks : Nat → List Tk → List S39
 | _, [] => []
 | p, t :: T => ⟨t.1, t.2, (p : Int)⟩ :: toks (p + (Nco t).length) T
def Stop : List UInt8 → Prop
 | [] => True
 | c :: _ => c ∈ Ncp
def H61 : List UInt8 → Prop
 | [] => True
 | c :: _ => c ≠ 61 ∧ c ≠ 62
def appT (ts : List S39) : Except (Int × Int) (List S39) → Except (Int × Int) (List S39)
 | .ok us => .ok (ts ++ us)
 | .error e => .error e
def LexTo (T : List Tk) (r : List UInt8) : Prop := ∀ p k, (txt T ++ r).length ≤ k → scanL k p (txt T ++ r) = appT (toks p T) (scanL k (p + (txt T).length) r)
theorem appT_nil (x : Except (Int × Int) (List S39)) : appT [] x = x := by cases x <;> rfl
theorem appT_app (a b : List S39) (x : Except (Int × Int) (List S39)) : appT a (appT b x) = appT (a ++ b) x := by
 cases x with
 | error e => rfl
 | ok us => show Except.ok (a ++ (b ++ us)) = Except.ok (a ++ b ++ us); rw [List.append_assoc]
theorem LexTo.one {t : Tk} {r : List UInt8} (h : nextL (Nco t ++ r) = (t.1, t.2.data.toList, (Nco t).length, 0)) (h0 : ∃ c q, Nco t = c :: q ∧ c ≠ 32) : LexTo [t] r := by
 intro p k hk
 rw [Ne4] at hk ⊢
 obtain ⟨c, q, he, hc⟩ := h0
 obtain ⟨k, rfl⟩ : ∃ y, k = y + 1 := ⟨k - 1, by rw [he] at hk; simp at hk; omega⟩
 have hlen : ((Nco t ++ r).drop (Nco t).length) = r := List.drop_left
 rw [List.length_append] at hk
 have hpos : 1 ≤ (Nco t).length := by rw [he]; simp
 have hx : Nco t ++ r = c :: (q ++ r) := by rw [he]; rfl
 rw [hx, scanL, if_neg hc, ← hx, h]
 show (if (0 : Int) = 0 then _ else _) = _
 rw [if_pos rfl, hlen, scanL_up k r k (k + 1) _ (by omega) (by omega) (by omega)]
 show (match scanL (k + 1) (p + (Nco t).length) r with | .ok ts => (Except.ok (⟨t.1, ⟨t.2.data.toList.toArray⟩, (p : Int)⟩ :: ts) : Except (Int × Int) (List S39)) | .error e => Except.error e) = _
 rw [← list_text]
 cases scanL (k + 1) (p + (Nco t).length) r with
 | ok us => rfl
 | error e => rfl
theorem stop_facts {c : UInt8} (h : c ∈ Ncp) : digB c.toNat = false ∧ wordB c.toNat = false ∧ letB c.toNat = false ∧ c ≠ 34 ∧ c ≠ 46 ∧ c ≠ 32 ∧ c ≠ 35 ∧ c ≠ 36 := by
 unfold Ncp at h
 simp only [List.mem_cons, List.not_mem_nil, or_false] at h
 rcases h with rfl | rfl | rfl | rfl | rfl | rfl | rfl | rfl | rfl | rfl | rfl | rfl | rfl | rfl | rfl <;> decide
theorem stop_run (p : Int → Bool) (hp : ∀ c ∈ Ncp, p c.toNat = false) : ∀ r : List UInt8, Stop r → (match r with | [] => True | c :: _ => p c.toNat = false)
 | [], _ => trivial
 | c :: r, h => hp c h
theorem next_word {c : UInt8} {w r : List UInt8} (hc : letB c.toNat = true ∨ c = 36) (hw : ∀ x ∈ c :: w, wordB x.toNat = true) (hr : Stop r) : nextL ((c :: w) ++ r) = (3, c :: w, (c :: w).length, 0) := by
 have hd : digB c.toNat = false := by
  unfold digB
  rcases hc with hc | rfl
  ·unfold letB at hc
   cases hh : (decide (48 ≤ ((c.toNat : Nat) : Int)) && decide (((c.toNat : Nat) : Int) ≤ 57)) with
   | false => rfl
   | true =>
    simp only [Bool.and_eq_true, Bool.or_eq_true, decide_eq_true_eq] at hh hc
    omega
  ·decide
 have h34 : c ≠ 34 := by
  rintro rfl
  rcases hc with hc | hc
  ·revert hc; decide
  ·revert hc; decide
 have hrun := runL_app wordB (c :: w) r hw (stop_run wordB (fun x hx => (stop_facts hx).2.1) r hr)
 show nextL (c :: (w ++ r)) = _
 rw [nextL, if_neg (by rw [hd]; decide), if_neg h34, if_pos hc]
 rw [← List.cons_append, hrun, List.take_left]
theorem next_single {c : UInt8} {r : List UInt8} (h : c ∈ Ncp) (h60 : c = 60 ∨ c = 62 → H61 r) : nextL (c :: r) = (5, [c], 1, 0) := by
 obtain ⟨hd, hw, hl, h34, h46, h32, h35, h36⟩ := stop_facts h
 have hb : Na1 (c :: r) Nb6 = [] := by
  unfold Nb6 Nej
  simp only [List.map_cons, List.map_nil, Na1]
  by_cases h1 : c = 60 ∨ c = 62
  ·have hr := h60 h1
   cases r with
   | nil => simp [List.isPrefixOf]
   | cons d r =>
    unfold H61 at hr
    simp [List.isPrefixOf, Ne.symm hr.1, Ne.symm hr.2]
  ·have a1 : c ≠ 60 := fun hh => h1 (.inl hh)
   have a2 : c ≠ 62 := fun hh => h1 (.inr hh)
   simp [List.isPrefixOf, Ne.symm a1, Ne.symm a2]
 rw [nextL, if_neg (by rw [hd]; decide), if_neg h34, if_neg (show ¬ (letB c.toNat = true ∨ c = 36) from fun hh => hh.elim (fun h => by rw [hl] at h; cases h) h36), if_neg h35, if_neg (fun hh => hh hb), if_pos (List.contains_iff_mem.2 h)]
theorem word_ne {c : UInt8} (h : letB c.toNat = true ∨ c = 36) : c ≠ 32 ∧ c ≠ 61 ∧ c ≠ 62 := by
 rcases h with h | rfl
 ·refine ⟨?_, ?_, ?_⟩ <;> (rintro rfl; revert h; decide)
 ·decide
theorem lex_word {s : ByteArray} {c : UInt8} {w : List UInt8} (e : s.data.toList = c :: w) (hc : letB c.toNat = true ∨ c = 36) (hw : ∀ x ∈ c :: w, wordB x.toNat = true) {r : List UInt8} (hr : Stop r) : LexTo [(3, s)] r := by
 refine .one ?_ ⟨c, w, by rw [tk3, e], (word_ne hc).1⟩
 rw [tk3, e, next_word hc hw hr]
theorem lex_mark {c : UInt8} {r : List UInt8} (h : c ∈ Ncp) (h60 : c = 60 ∨ c = 62 → H61 r) : LexTo [mk [c]] r := by
 refine .one ?_ ⟨c, [], rfl, (stop_facts h).2.2.2.2.2.1⟩
 exact next_single h h60
theorem next_pair {a b : UInt8} {r : List UInt8} (h : [a, b] ∈ Nb6) : nextL ([a, b] ++ r) = (5, [a, b], 2, 0) ∧ a ≠ 32 := by
 have hh : (a = 60 ∧ b = 62) ∨ (a = 60 ∧ b = 61) ∨ (a = 62 ∧ b = 61) := by
  unfold Nb6 Nej at h
  simpa using h
 rcases hh with ⟨rfl, rfl⟩ | ⟨rfl, rfl⟩ | ⟨rfl, rfl⟩
 all_goals
  refine ⟨?_, by decide⟩
  rw [List.cons_append, nextL, if_neg (by decide), if_neg (by decide), if_neg (by decide), if_neg (by decide)]
  simp [Na1, Nb6, Nej, List.isPrefixOf]
def SgOk (m : ByteArray) : Prop := ∀ r, H61 r → LexTo [(5, m)] r ∧ Stop (m.data.toList ++ r)
theorem Ncq (c : UInt8) (h : c ∈ Ncp) : SgOk (mB [c]) := fun r hr => ⟨lex_mark h (fun _ => hr), h⟩
theorem sg_pair (a b : UInt8) (h : [a, b] ∈ Nb6) (ha : a ∈ Ncp) : SgOk (mB [a, b]) := fun r hr => ⟨.one (next_pair h).1 ⟨a, [b], rfl, (next_pair (r := r) h).2⟩, ha⟩
theorem sg_ok (o : Int) : SgOk (signB o) := by
 unfold signB
 refine ite_p (p := SgOk) (Ncq 38 (by decide)) ?_
 refine ite_p (p := SgOk) (Ncq 43 (by decide)) ?_
 refine ite_p (p := SgOk) (Ncq 43 (by decide)) ?_
 refine ite_p (p := SgOk) (Ncq 45 (by decide)) ?_
 refine ite_p (p := SgOk) (Ncq 45 (by decide)) ?_
 refine ite_p (p := SgOk) (Ncq 42 (by decide)) ?_
 refine ite_p (p := SgOk) (Ncq 47 (by decide)) ?_
 refine ite_p (p := SgOk) (Ncq 94 (by decide)) ?_
 refine ite_p (p := SgOk) (Ncq 61 (by decide)) ?_
 refine ite_p (p := SgOk) (sg_pair 60 62 (by decide) (by decide)) ?_
 refine ite_p (p := SgOk) (Ncq 60 (by decide)) ?_
 refine ite_p (p := SgOk) (sg_pair 60 61 (by decide) (by decide)) ?_
 refine ite_p (p := SgOk) (Ncq 62 (by decide)) ?_
 exact sg_pair 62 61 (by decide) (by decide)
end Go.Proofs.YtejbbceidnaloaaGreatDoor.P
