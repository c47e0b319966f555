/-
  PlaceReads: every text is read, or is no name: the plain law and the contract.
-/
import Derived.Test.YtijmipnafhljkaaDoorPlainRR
import Derived.Test.YtijmipnafhljkaaDoorPtReads
namespace Go.Proofs.YtijmipnafhljkaaDoor.P
open Go.RowKit Go.Proofs.YtijmipnafhljkaaDoorW.PrintWords Go.Proofs.YtijmipnafhljkaaDoorW.PrintLast Go.Proofs.YtijmipnafhljkaaDoorW.PrintMore
set_option linter.unusedVariables false
set_option linter.unusedSimpArgs false

theorem ref_l0_up (l : List UInt8) (i : Nat) (C : Int) (k : Nat) (h : i < l.length) (h3 : i < 3) (hC0 : 0 ≤ C) (hC : C ≤ 1000) (u : upL l[i]) :
    whittleref3_Read.l0 (k + 1) ⟨l.toArray⟩ (i : Int) C = whittleref3_Read.l0 k ⟨l.toArray⟩ ((i + 1 : Nat) : Int) (26 * C + ((l[i].toNat : Int) - 65) + 1) := by
  obtain ⟨c, hc⟩ : ∃ c, l[i].toNat = c := ⟨_, rfl⟩
  unfold upL at u
  rw [whittleref3_Read.l0, size_list, if_pos (by omega), if_pos (by omega), if_pos (by omega), bt_at l i h]
  rw [hc] at u ⊢
  rw [if_pos (by omega), if_pos (by omega)]
  have q1 : wrap64 (26 * C) = 26 * C := by unfold wrap64; omega
  have q2 : ((c : Int) - 65) % 256 = (c : Int) - 65 := by omega
  have q3 : wrap64 (26 * C + ((c : Int) - 65)) = 26 * C + ((c : Int) - 65) := by unfold wrap64; omega
  have q4 : wrap64 (26 * C + ((c : Int) - 65) + 1) = 26 * C + ((c : Int) - 65) + 1 := by unfold wrap64; omega
  have q5 : wrap64 ((i : Int) + 1) = ((i + 1 : Nat) : Int) := by unfold wrap64; omega
  rw [q1, q2, q3, q4, q5]
theorem ref_l0_end (l : List UInt8) (i : Nat) (C : Int) (k : Nat) (h : ∀ q : i < l.length, i < 3 → ¬ upL l[i]) :
    whittleref3_Read.l0 (k + 1) ⟨l.toArray⟩ (i : Int) C = whittleref3_Read.j1 k ⟨l.toArray⟩ (i : Int) C := by
  rw [whittleref3_Read.l0, size_list]
  by_cases a : i < l.length
  · rw [if_pos (by omega)]
    by_cases b : i < 3
    · rw [if_pos (by omega), if_pos (by omega), bt_at l i a]
      have u := h a b
      unfold upL at u
      by_cases c : 65 ≤ l[i].toNat
      · rw [if_pos (by omega), if_neg (by omega)]
      · rw [if_neg (by omega)]
    · rw [if_neg (by omega)]
  · rw [if_neg (by omega)]
theorem refRead_f (l : List UInt8) (hl : l.length ≤ 140737488351232) (k : Nat) (hk : 20 ≤ k) : whittleref3_Read.f k ⟨l.toArray⟩ = some (readL l) := by
  obtain ⟨k, rfl⟩ : ∃ m, k = m + 6 := ⟨k - 6, by omega⟩
  unfold whittleref3_Read.f
  match l, hl with
  | [], hl =>
    have e := ref_l0_end [] 0 0 (k + 5) (fun q => by simp at q)
    have j := ref_j1 [] 0 0 (by omega) (by omega) (by omega) hl (by simp) (by omega) (k + 3) (by omega)
    rw [show ((0 : Nat) : Int) = 0 from rfl] at e j
    rw [e, j, if_neg (by omega)]
    rfl
  | a :: r, hl =>
    by_cases u : upL a
    · have e := ref_l0_up (a :: r) 0 0 (k + 5) (by simp) (by omega) (by omega) (by omega) u
      rw [show ((0 : Nat) : Int) = 0 from rfl] at e
      rw [e]
      simp only [List.getElem_cons_zero]
      have ua := u
      unfold upL at ua
      obtain ⟨A, hA⟩ : ∃ A : Int, 26 * 0 + ((a.toNat : Int) - 65) + 1 = A := ⟨_, rfl⟩
      rw [hA]
      match r, hl with
      | [], hl =>
        rw [ref_l0_end [a] 1 A (k + 4) (fun q => by simp at q), ref_j1 [a] 1 A (by omega) (by omega) (by omega) hl (by simp) (by omega) (k + 2) (by omega), if_pos (by omega), readL_one, if_pos u]
        have eA : A - 1 = (a.toNat : Int) - 65 := by omega
        rw [eA]
        rfl
      | b :: r, hl =>
        rw [readL_two, if_pos u]
        by_cases v : upL b
        · rw [if_pos v]
          have e := ref_l0_up (a :: b :: r) 1 A (k + 4) (by simp) (by omega) (by omega) (by omega) v
          rw [show (0 + 1 : Nat) = 1 from rfl, e]
          simp only [List.getElem_cons_succ, List.getElem_cons_zero]
          have va := v
          unfold upL at va
          obtain ⟨B, hB⟩ : ∃ B : Int, 26 * A + ((b.toNat : Int) - 65) + 1 = B := ⟨_, rfl⟩
          rw [hB, show (1 + 1 : Nat) = 2 from rfl]
          have eB : B - 1 = 26 * ((a.toNat : Int) - 65 + 1) + ((b.toNat : Int) - 65) := by omega
          match r, hl with
          | [], hl =>
            rw [ref_l0_end [a, b] 2 B (k + 3) (fun q => by simp at q), ref_j1 [a, b] 2 B (by omega) (by omega) (by omega) hl (by simp) (by omega) (k + 1) (by omega), if_pos (by omega), eB]
            rfl
          | c :: r, hl =>
            by_cases w : upL c
            · have e := ref_l0_up (a :: b :: c :: r) 2 B (k + 3) (by simp) (by omega) (by omega) (by omega) w
              rw [e]
              simp only [List.getElem_cons_succ, List.getElem_cons_zero]
              have wa := w
              unfold upL at wa
              rw [ref_l0_end (a :: b :: c :: r) 3 _ (k + 2) (fun q p => by omega), ref_j1 (a :: b :: c :: r) 3 _ (by omega) (by omega) (by omega) hl (by simp) (by omega) k (by omega), if_neg (by omega)]
              unfold rowL
              rw [if_neg]
              rintro ⟨⟨⟨d, _⟩, _⟩, _⟩
              have := d c (List.mem_cons_self ..)
              unfold isDig at this
              omega
            · rw [ref_l0_end (a :: b :: c :: r) 2 B (k + 3) (fun q p => w), ref_j1 (a :: b :: c :: r) 2 B (by omega) (by omega) (by omega) hl (by simp) (by omega) (k + 1) (by omega), if_pos (by omega), eB]
              rfl
        · rw [if_neg v, ref_l0_end (a :: b :: r) (0 + 1) A (k + 4) (fun q p => v), ref_j1 (a :: b :: r) (0 + 1) A (by omega) (by omega) (by omega) hl (by simp) (by omega) (k + 2) (by omega), if_pos (by omega)]
          have eA : A - 1 = (a.toNat : Int) - 65 := by omega
          rw [eA]
          rfl
    · have e := ref_l0_end (a :: r) 0 0 (k + 5) (fun q p => u)
      have j := ref_j1 (a :: r) 0 0 (by omega) (by omega) (by omega) hl (by simp) (by omega) (k + 3) (by omega)
      rw [show ((0 : Nat) : Int) = 0 from rfl] at e j
      rw [e, j, if_neg (by omega)]
      cases r with
      | nil => rw [readL_one, if_neg u]
      | cons b r => rw [readL_two, if_neg u]
theorem pairV_no (x : Int × Int × Bool) : pairV x (0, 0, false) = (0, 0, 0, 0, false) := by
  unfold pairV
  split
  · rfl
  · rfl
theorem refArea_l0 (l : List UInt8) (hl : l.length ≤ 140737488351232) : ∀ (d i k : Nat), l.length - i = d → i ≤ l.length → d + 30 < k → (∀ j, j < i → l[j]? ≠ some 58) →
    whittleref3_ReadArea.l0 k ⟨l.toArray⟩ (i : Int) = some (raL l) := by
  intro d
  induction d with
  | zero =>
    intro i k hd hi hk hno
    obtain ⟨k, rfl⟩ : ∃ m, k = m + 1 := ⟨k - 1, by omega⟩
    rw [whittleref3_ReadArea.l0, size_list, if_neg (by omega)]
    have hx : Lib.indexByte l 58 = -1 := by
      have hg := Lib.indexByte_ge l 58
      by_cases hn : Lib.indexByte l 58 = -1
      · exact hn
      · exfalso
        obtain ⟨o, ho⟩ : ∃ o : Nat, Lib.indexByte l 58 = o := ⟨(Lib.indexByte l 58).toNat, by omega⟩
        have hs := (Lib.indexByte_some ho).1
        rcases Nat.lt_or_ge o l.length with q | q
        · exact hno o (by omega) hs
        · rw [List.getElem?_eq_none q] at hs; cases hs
    unfold raL cutA cutB
    rw [if_pos hx, if_pos hx]
    have e : readL [] = (0, 0, false) := by rw [readL]
    rw [e, pairV_no]
  | succ d ih =>
    intro i k hd hi hk hno
    obtain ⟨k, rfl⟩ : ∃ m, k = m + 1 := ⟨k - 1, by omega⟩
    have hlt : i < l.length := by omega
    have ew : wrap64 ((i : Int) + 1) = ((i + 1 : Nat) : Int) := by unfold wrap64; omega
    have h58 : (58 : UInt8).toNat = 58 := rfl
    rw [whittleref3_ReadArea.l0, size_list, if_pos (by omega), if_pos (by omega), bt_at l i hlt]
    by_cases c : l[i] = 58
    · have hi' : l[i]? = some 58 := by rw [List.getElem?_eq_getElem hlt, c]
      have hx : Lib.indexByte l 58 = (i : Int) := by
        have hg := Lib.indexByte_ge l 58
        by_cases hn : Lib.indexByte l 58 = -1
        · exact absurd hi' (Lib.indexByte_none hn i)
        · obtain ⟨o, ho⟩ : ∃ o : Nat, Lib.indexByte l 58 = o := ⟨(Lib.indexByte l 58).toNat, by omega⟩
          obtain ⟨hs, hb⟩ := Lib.indexByte_some ho
          rw [ho]
          rcases Nat.lt_trichotomy o i with q | q | q
          · exact absurd hs (hno o q)
          · rw [q]
          · exact absurd hi' (hb i q)
      have hA : cutA l = l.take i := by unfold cutA; rw [hx, if_neg (by omega), Int.toNat_natCast]
      have hB : cutB l = l.drop (i + 1) := by unfold cutB; rw [hx, if_neg (by omega), Int.toNat_natCast]
      have z := drop_list' l (i + 1)
      rw [size_list] at z
      rw [if_pos (by rw [c, h58]; rfl), if_pos (by omega), Int.toNat_natCast, take_list, ew]
      rw [refRead_f (l.take i) (by rw [List.length_take]; omega) k (by omega)]
      simp only [Option.bind_some]
      rw [if_pos (by omega), if_pos (by omega), Int.toNat_natCast, z, refRead_f (l.drop (i + 1)) (by rw [List.length_drop]; omega) k (by omega)]
      simp only [Option.bind_some]
      unfold raL pairV
      rw [hA, hB]
      split
      · split <;> rfl
      · rfl
    · have c' : ¬ ((l[i].toNat : Int) = 58) := by
        intro q
        apply c
        apply UInt8.toNat_inj.mp
        omega
      rw [if_neg c', ew]
      refine ih (i + 1) k (by omega) (by omega) (by omega) (fun j hj => ?_)
      rcases Nat.lt_or_ge j i with q | q
      · exact hno j q
      · have : j = i := by omega
        subst this
        rw [List.getElem?_eq_getElem hlt]
        intro q'
        exact c (Option.some.inj q')
theorem reads_true (s : ByteArray) (hs : s.size ≤ 140737488351232) : whittlelaw3_PlaceReads_g.f (s.size + 60) s = some true := by
  obtain ⟨l, rfl⟩ : ∃ l : List UInt8, s = ⟨l.toArray⟩ := ⟨s.data.toList, list_text s⟩
  rw [size_list] at hs ⊢
  unfold whittlelaw3_PlaceReads_g.f whittleref3_ReadArea.f
  have z := refArea_l0 l hs l.length 0 (l.length + 60) rfl (by omega) (by omega) (fun j hj => by omega)
  rw [show ((0 : Nat) : Int) = 0 from rfl] at z
  rw [Read_f l hs, refRead_f l hs _ (by omega), ReadArea_f l hs]
  simp only [Option.bind_some]
  rw [z]
  simp only [Option.bind_some, able_true, if_true, beq_self_eq_true]
theorem reads_calls (W : World) (s : ByteArray) (w0 : s.size ≤ 140737488351232) (hG : GL W) :
    Calls Tryd.prog 14 #[.string s] W fun e w' => e = .returned (.bool true) ∧ Below W.heap.size W w' :=
  whittlelaw3_PlaceReads_g.calls _ s true W hG ⟨rfl⟩ (reads_true s w0)
end Go.Proofs.YtijmipnafhljkaaDoor.P
