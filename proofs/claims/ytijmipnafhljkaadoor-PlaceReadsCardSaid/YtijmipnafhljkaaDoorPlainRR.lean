/-
  Read as the document has it, plainly: the rows' digits.
-/
import Derived.Test.YtijmipnafhljkaaDoorPlainRA
import Derived.Test.YtijmipnafhljkaaDoorPx85
namespace Go.Proofs.YtijmipnafhljkaaDoor.P
open Go.RowKit Go.Proofs.YtijmipnafhljkaaDoorW.PrintWords Go.Proofs.YtijmipnafhljkaaDoorW.PrintLast Go.Proofs.YtijmipnafhljkaaDoorW.PrintMore
set_option linter.unusedVariables false
set_option linter.unusedSimpArgs false

theorem bt_at (l : List UInt8) (i : Nat) (h : i < l.length) : bt ⟨l.toArray⟩ (i : Int) = (l[i].toNat : Int) := by
  unfold bt
  rw [dif_pos (show (i : Int).toNat < (⟨l.toArray⟩ : ByteArray).size by rw [size_list]; omega)]
  rfl
/-- What the document makes of the digits. -/
noncomputable def rowV (C : Int) (v : Nat) (l : List UInt8) : Int × Int × Bool := if (∀ c ∈ l, isDig c) then (if C > 256 then (0, 0, false) else if decVal v l > 65536 then (0, 0, false) else ((decVal v l : Int) - 1, C - 1, true)) else (0, 0, false)
theorem rowV_nil (C : Int) (v : Nat) : rowV C v [] = if C > 256 then (0, 0, false) else if v > 65536 then (0, 0, false) else ((v : Int) - 1, C - 1, true) := by
  unfold rowV
  rw [if_pos (fun c hc => by cases hc), decVal_nil]
theorem rowV_bad (C : Int) (v : Nat) (c : UInt8) (l : List UInt8) (h : ¬ isDig c) : rowV C v (c :: l) = (0, 0, false) := by
  unfold rowV
  rw [if_neg (fun z => h (z c (List.mem_cons_self ..)))]
theorem rowV_cons (C : Int) (v : Nat) (c : UInt8) (l : List UInt8) (h : isDig c) : rowV C v (c :: l) = rowV C (v * 10 + (c.toNat - 48)) l := by
  unfold rowV
  rw [decVal_cons]
  by_cases z : ∀ d ∈ l, isDig d
  · rw [if_pos z, if_pos (fun d hd => by rcases List.mem_cons.mp hd with rfl | hd; exact h; exact z d hd)]
  · rw [if_neg z, if_neg (fun y => z (fun d hd => y d (List.mem_cons_of_mem _ hd)))]
theorem ref_l1 (l : List UInt8) (C : Int) (hC0 : 0 ≤ C) (hC : C ≤ 100000) (hl : l.length ≤ 140737488351232) : ∀ (d i v k : Nat), l.length - i = d → i ≤ l.length → (d = 0 → v < 100000) → (d = 1 → v < 10000) → (d = 2 → v < 1000) → (d = 3 → v < 100) → (d = 4 → v < 10) → (d = 5 → v < 1) → d ≤ 5 → d < k →
    whittleref3_Read.l1 k ⟨l.toArray⟩ C (v : Int) (i : Int) = some (rowV C v (l.drop i)) := by
  intro d
  induction d with
  | zero =>
    intro i v k hd hi v0 v1 v2 v3 v4 v5 h5 hk
    obtain ⟨k, rfl⟩ : ∃ m, k = m + 1 := ⟨k - 1, by omega⟩
    have hv' := v0 rfl
    rw [whittleref3_Read.l1, size_list, if_neg (by omega), List.drop_eq_nil_of_le (by omega), rowV_nil]
    have e1 : wrap64 ((v : Int) - 1) = (v : Int) - 1 := by unfold wrap64; omega
    have e2 : wrap64 (C - 1) = C - 1 := by unfold wrap64; omega
    rw [e1, e2]
    by_cases a : C > 256
    · rw [if_pos a, if_pos a]
    · rw [if_neg a, if_neg a]
      by_cases b : v > 65536
      · rw [if_pos (by omega), if_pos b]
      · rw [if_neg (by omega), if_neg b]
  | succ d ih =>
    intro i v k hd hi v0 v1 v2 v3 v4 v5 h5 hk
    obtain ⟨k, rfl⟩ : ∃ m, k = m + 1 := ⟨k - 1, by omega⟩
    have hlt : i < l.length := by omega
    rw [whittleref3_Read.l1, size_list, if_pos (by omega), if_pos (by omega), bt_at l i hlt, List.drop_eq_getElem_cons hlt]
    by_cases a : l[i].toNat < 48
    · rw [if_pos (by omega), rowV_bad _ _ _ _ (by unfold isDig; omega)]
    · rw [if_neg (by omega)]
      by_cases b : l[i].toNat > 57
      · rw [if_pos (by omega), rowV_bad _ _ _ _ (by unfold isDig; omega)]
      · rw [if_neg (by omega), rowV_cons _ _ _ _ (by unfold isDig; omega)]
        have hp : v < 100000 := by omega
        have e1 : wrap64 (wrap64 (10 * (v : Int)) + (((l[i].toNat : Int) - 48) % 256)) = ((v * 10 + (l[i].toNat - 48) : Nat) : Int) := by
          clear ih v0 v1 v2 v3 v4 v5
          obtain ⟨c, hc⟩ : ∃ c, l[i].toNat = c := ⟨_, rfl⟩
          rw [hc] at a b ⊢
          have q1 : wrap64 (10 * (v : Int)) = 10 * (v : Int) := by unfold wrap64; omega
          have q2 : ((c : Int) - 48) % 256 = (c : Int) - 48 := by omega
          have q3 : wrap64 (10 * (v : Int) + ((c : Int) - 48)) = 10 * (v : Int) + ((c : Int) - 48) := by unfold wrap64; omega
          rw [q1, q2, q3]
          omega
        have e2 : wrap64 ((i : Int) + 1) = ((i + 1 : Nat) : Int) := by unfold wrap64; omega
        rw [e1, e2]
        obtain ⟨c, hc⟩ : ∃ c, l[i].toNat - 48 = c := ⟨_, rfl⟩
        have hc9 : c ≤ 9 := by omega
        rw [hc]
        clear e1 e2 a b
        have z := ih (i + 1) (v * 10 + c) k (by omega) (by omega)
        exact z (by omega) (by omega) (by omega) (by omega) (by omega) (by omega) (by omega) (by omega)
/-- The document's second half: k letters stood ahead, which say the column C. -/
theorem ref_j1 (l : List UInt8) (n : Nat) (C : Int) (hC0 : 0 ≤ C) (hC : C ≤ 100000) (hC1 : 1 ≤ n → 1 ≤ C) (hl : l.length ≤ 140737488351232) (hn : n ≤ l.length) (h3 : n ≤ 3) (k : Nat) (hk : 8 ≤ k) :
    whittleref3_Read.j1 (k + 2) ⟨l.toArray⟩ (n : Int) C = some (if n = 1 ∨ n = 2 then rowL (l.drop n) (C - 1) else (0, 0, false)) := by
  rw [whittleref3_Read.j1, size_list]
  by_cases a : n < 1
  · rw [if_pos (by omega), whittleref3_Read.j2, if_pos rfl, if_neg (by omega)]
  · rw [if_neg (by omega)]
    by_cases b : n > 2
    · rw [if_pos (by omega), whittleref3_Read.j2, if_pos rfl, if_neg (by omega)]
    · rw [if_neg (by omega), if_pos (show n = 1 ∨ n = 2 by omega)]
      have no : ∀ (q : ¬ rowP (l.drop n)), rowL (l.drop n) (C - 1) = (0, 0, false) := fun q => by unfold rowL; rw [if_neg (fun z => q z.1)]
      by_cases c : l.length = n
      · rw [if_pos (by omega), whittleref3_Read.j2, if_pos rfl, no]
        rw [List.drop_eq_nil_of_le (by omega)]
        exact not_rowP_nil
      · rw [if_neg (by omega)]
        have ew : wrap64 ((n : Int) + 5) = (n : Int) + 5 := by unfold wrap64; omega
        rw [ew]
        have hlt : n < l.length := by omega
        have hd : l.drop n = l[n] :: l.drop (n + 1) := List.drop_eq_getElem_cons hlt
        by_cases e : l.length > n + 5
        · rw [if_pos (by omega), whittleref3_Read.j2, if_pos rfl, no]
          rintro ⟨cn, hv⟩
          obtain ⟨dg, x, r, hx, hx0⟩ := cn
          have hlen : (l.drop n).length = l.length - n := by simp
          rw [hx] at hv hlen dg
          have hxd := dg x (List.mem_cons_self ..)
          unfold isDig at hxd
          rw [decVal_cons] at hv
          have := decVal_len r (0 * 10 + (x.toNat - 48))
          have hr : 5 ≤ r.length := by simp only [List.length_cons] at hlen; omega
          have hp : 10 ^ 5 ≤ 10 ^ r.length := Nat.pow_le_pow_right (by decide) hr
          have h1 : 1 * 10 ^ r.length ≤ (0 * 10 + (x.toNat - 48)) * 10 ^ r.length := Nat.mul_le_mul_right _ (by omega)
          omega
        · rw [if_neg (by omega), if_pos (by omega), if_pos (by omega), bt_at l n hlt]
          by_cases f : l[n].toNat = 48
          · have : (((l[n].toNat : Int)) == 48) = true := by rw [f]; rfl
            rw [this, whittleref3_Read.j2, if_pos rfl, no]
            rintro ⟨⟨_, x, r, hx, hx0⟩, _⟩
            rw [hd] at hx
            injection hx with hx _
            subst hx
            exact hx0 f
          · have : (((l[n].toNat : Int)) == 48) = false := by simp; omega
            rw [this, whittleref3_Read.j2, if_neg (by simp)]
            have z := ref_l1 l C hC0 hC hl (l.length - n) n 0 k rfl (by omega) (by omega) (by omega) (by omega) (by omega) (by omega) (by omega) (by omega) (by omega)
            rw [show ((0 : Nat) : Int) = 0 from rfl] at z
            rw [z]
            congr 1
            unfold rowV
            by_cases g : ∀ c ∈ l.drop n, isDig c
            · rw [if_pos g]
              have cn : canon (l.drop n) := ⟨g, l[n], l.drop (n + 1), hd, f⟩
              unfold rowL
              by_cases v : decVal 0 (l.drop n) ≤ 65536
              · by_cases w : C ≤ 256
                · have w0 := hC1 (by omega)
                  rw [if_neg (by omega), if_neg (by omega), if_pos ⟨⟨cn, v⟩, by omega, by omega⟩]
                · rw [if_pos (show C > 256 by omega), if_neg (fun z : rowP (l.drop n) ∧ 0 ≤ C - 1 ∧ C - 1 < 256 => by omega)]
              · rw [if_neg (fun z : rowP (l.drop n) ∧ 0 ≤ C - 1 ∧ C - 1 < 256 => v z.1.2)]
                split
                · rfl
                · rw [if_pos (show decVal 0 (l.drop n) > 65536 by omega)]
            · rw [if_neg g, no]
              exact fun z => g z.1.1
end Go.Proofs.YtijmipnafhljkaaDoor.P
