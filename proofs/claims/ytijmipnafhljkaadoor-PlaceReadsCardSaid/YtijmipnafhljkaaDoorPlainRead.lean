/-
  Reading names, plainly: what strconv.Atoi and Itoa make of a row's digits; Read's answer without them.
-/
import Derived.Test.YtijmipnafhljkaaDoorPlain
import Derived.Test.YtijmipnafhljkaaDoorGivenG
import Derived.Lib.ItoaNum
namespace Go.Proofs.YtijmipnafhljkaaDoor.P
open Go.RowKit Go.Proofs.YtijmipnafhljkaaDoorW.PrintWords Go.Proofs.YtijmipnafhljkaaDoorW.PrintLast Go.Proofs.YtijmipnafhljkaaDoorW.PrintMore
set_option linter.unusedVariables false
set_option linter.unusedSimpArgs false

def isDig (c : UInt8) : Prop := 48 ≤ c.toNat ∧ c.toNat ≤ 57
instance (c : UInt8) : Decidable (isDig c) := by unfold isDig; infer_instance
def decVal (a : Nat) (l : List UInt8) : Nat := l.foldl (fun a c => a * 10 + (c.toNat - 48)) a
theorem decVal_nil (a : Nat) : decVal a [] = a := by unfold decVal; exact List.foldl_nil
theorem decVal_cons (a : Nat) (c : UInt8) (l : List UInt8) : decVal a (c :: l) = decVal (a * 10 + (c.toNat - 48)) l := by unfold decVal; exact List.foldl_cons ..
theorem decVal_ge : ∀ (l : List UInt8) (a : Nat), a ≤ decVal a l := by
  intro l
  induction l with
  | nil => intro a; rw [decVal_nil]; exact Nat.le_refl _
  | cons c l ih =>
    intro a
    rw [decVal_cons]
    have := ih (a * 10 + (c.toNat - 48))
    omega
theorem decVal_snoc (d : UInt8) : ∀ (l : List UInt8) (a : Nat), decVal a (l ++ [d]) = decVal a l * 10 + (d.toNat - 48) := by
  intro l
  induction l with
  | nil => intro a; rw [List.nil_append, decVal_cons, decVal_nil, decVal_nil]
  | cons c l ih => intro a; rw [List.cons_append, decVal_cons, decVal_cons]; exact ih _
theorem decVal_len : ∀ (l : List UInt8) (a : Nat), a * 10 ^ l.length ≤ decVal a l := by
  intro l
  induction l with
  | nil => intro a; rw [decVal_nil, List.length_nil]; omega
  | cons c l ih =>
    intro a
    rw [decVal_cons, List.length_cons]
    refine Nat.le_trans ?_ (ih (a * 10 + (c.toNat - 48)))
    rw [Nat.pow_succ, Nat.mul_comm (10 ^ l.length) 10, ← Nat.mul_assoc]
    exact Nat.mul_le_mul_right _ (by omega)
theorem decVal_lt : ∀ (l : List UInt8) (a : Nat), (∀ c ∈ l, isDig c) → decVal a l < (a + 1) * 10 ^ l.length := by
  intro l
  induction l with
  | nil => intro a _; rw [decVal_nil, List.length_nil]; omega
  | cons c l ih =>
    intro a h
    rw [decVal_cons, List.length_cons]
    have hc := h c (List.mem_cons_self ..)
    refine Nat.lt_of_lt_of_le (ih (a * 10 + (c.toNat - 48)) (fun d hd => h d (List.mem_cons_of_mem _ hd))) ?_
    rw [Nat.pow_succ, Nat.mul_comm (10 ^ l.length) 10, ← Nat.mul_assoc]
    refine Nat.mul_le_mul_right _ ?_
    unfold isDig at hc
    omega
theorem parse_dec : ∀ (l : List UInt8) (a : Nat), (∀ c ∈ l, isDig c) → decVal a l ≤ 1000000000000000000 → Lib.parseUint10 a l = .ok (decVal a l) := by
  intro l
  induction l with
  | nil => intro a _ _; rw [decVal_nil, Lib.parseUint10]
  | cons c l ih =>
    intro a h hb
    have hc := h c (List.mem_cons_self ..)
    unfold isDig at hc
    rw [decVal_cons] at hb ⊢
    have hg := decVal_ge l (a * 10 + (c.toNat - 48))
    rw [Lib.parseUint10, if_pos hc, if_neg (by omega), if_neg (by omega)]
    exact ih _ (fun d hd => h d (List.mem_cons_of_mem _ hd)) hb
/-- A number as Go writes it: digits, the first no nought. -/
def canon (l : List UInt8) : Prop := (∀ c ∈ l, isDig c) ∧ ∃ c r, l = c :: r ∧ c.toNat ≠ 48
theorem dig_toNat {i : Nat} (h : i < 10) : (UInt8.ofNat (48 + i)).toNat = 48 + i := by
  rw [UInt8.toNat_ofNat']; omega
theorem dec_canon : ∀ (u : Nat), (∀ c ∈ Lib.decDigits u, isDig c) ∧ decVal 0 (Lib.decDigits u) = u ∧ (0 < u → canon (Lib.decDigits u)) := by
  intro u
  induction u using Nat.strongRecOn with
  | _ u ih =>
    unfold Lib.decDigits
    split
    · rename_i h
      have e := dig_toNat h
      have d : ∀ c ∈ [UInt8.ofNat (48 + u)], isDig c := by
        intro c hc
        rw [List.mem_singleton] at hc
        subst hc
        unfold isDig
        omega
      refine ⟨d, ?_, fun hu => ⟨d, _, _, rfl, by omega⟩⟩
      rw [decVal_cons, decVal_nil]
      omega
    · rename_i h
      obtain ⟨d, v, c⟩ := ih (u / 10) (by omega)
      have e := dig_toNat (i := u % 10) (by omega)
      have d' : ∀ c ∈ Lib.decDigits (u / 10) ++ [UInt8.ofNat (48 + u % 10)], isDig c := by
        intro x hx
        rcases List.mem_append.mp hx with hx | hx
        · exact d x hx
        · rw [List.mem_singleton] at hx
          subst hx
          unfold isDig
          omega
      refine ⟨d', ?_, fun hu => ⟨d', ?_⟩⟩
      · rw [decVal_snoc, v, e]; omega
      · obtain ⟨_, x, r, hx, hn⟩ := c (by omega)
        exact ⟨x, r ++ [UInt8.ofNat (48 + u % 10)], by rw [hx]; rfl, hn⟩
theorem canon_dec : ∀ (n : Nat) (l : List UInt8), l.length = n → canon l → Lib.decDigits (decVal 0 l) = l ∧ 1 ≤ decVal 0 l := by
  intro n
  induction n with
  | zero =>
    intro l hl h
    obtain ⟨_, c, r, rfl, _⟩ := h
    simp at hl
  | succ n ih =>
    intro l hl h
    obtain ⟨hd, c, r, hcr, hn⟩ := h
    have hne : l ≠ [] := by rw [hcr]; simp
    obtain ⟨l', d, rfl⟩ : ∃ l' d, l = l' ++ [d] := ⟨l.dropLast, l.getLast hne, (List.dropLast_concat_getLast hne).symm⟩
    have hdd := hd d (by simp)
    unfold isDig at hdd
    rw [decVal_snoc]
    cases l' with
    | nil =>
      simp only [List.nil_append, List.cons.injEq] at hcr
      obtain ⟨rfl, rfl⟩ := hcr
      simp only [decVal_nil, List.nil_append]
      rw [Lib.decDigits, dif_pos (by omega)]
      refine ⟨?_, by omega⟩
      congr 1
      apply UInt8.toNat_inj.mp
      rw [UInt8.toNat_ofNat']
      omega
    | cons x l'' =>
      simp only [List.cons_append, List.cons.injEq] at hcr
      obtain ⟨rfl, _⟩ := hcr
      obtain ⟨e, h1⟩ := ih (x :: l'') (by simp at hl ⊢; omega) ⟨fun y hy => hd y (List.mem_append_left _ hy), x, l'', rfl, hn⟩
      refine ⟨?_, by omega⟩
      rw [Lib.decDigits, dif_neg (by omega)]
      have e1 : (decVal 0 (x :: l'') * 10 + (d.toNat - 48)) / 10 = decVal 0 (x :: l'') := by omega
      have e2 : (decVal 0 (x :: l'') * 10 + (d.toNat - 48)) % 10 = d.toNat - 48 := by omega
      rw [e1, e2, e]
      congr 1
      congr 1
      apply UInt8.toNat_inj.mp
      rw [UInt8.toNat_ofNat']
      omega
theorem atoi_canon {l : List UInt8} (h : canon l) (hb : decVal 0 l ≤ 65536) : Lib.atoiAll l = .ok (decVal 0 l : Int) := by
  obtain ⟨hd, c, r, rfl, hn⟩ := h
  have hc := hd c (List.mem_cons_self ..)
  unfold isDig at hc
  unfold Lib.atoiAll
  simp only
  rw [if_neg (by omega)]
  unfold Lib.parseMag
  rw [if_neg (by simp), parse_dec _ 0 hd (by omega)]
  simp only
  rw [if_neg (by omega), if_neg (by omega), if_neg (by omega)]
/-- Is it a row's number? -/
def rowP (l : List UInt8) : Prop := canon l ∧ decVal 0 l ≤ 65536
theorem tailF_yes {T : ByteArray} {C : Int} (h : rowP T.data.toList) (h0 : 0 ≤ C) (h1 : C < 256) : tailF T C = ((decVal 0 T.data.toList : Int) - 1, C, true) := by
  obtain ⟨hc, hb⟩ := h
  obtain ⟨e, g⟩ := canon_dec _ _ rfl hc
  unfold tailF
  rw [atoi_canon hc hb]
  simp only
  rw [if_pos]
  refine ⟨?_, ⟨by omega, by omega⟩, h0, h1⟩
  unfold Lib.itoa
  rw [if_neg (by omega), Int.toNat_natCast, e]
theorem tailF_no {T : ByteArray} {C : Int} (h : ¬ (rowP T.data.toList ∧ 0 ≤ C ∧ C < 256)) : tailF T C = (0, 0, false) := by
  unfold tailF
  split
  · rename_i v hv
    split
    · rename_i hz
      obtain ⟨e, ⟨h1, h2⟩, h3⟩ := hz
      exfalso
      apply h
      unfold Lib.itoa at e
      rw [if_neg (by omega)] at e
      obtain ⟨d, w, c⟩ := dec_canon v.toNat
      rw [← e]
      exact ⟨⟨c (by omega), by omega⟩, h3⟩
    · rfl
  · rfl
end Go.Proofs.YtijmipnafhljkaaDoor.P
