import Derived.Test.YtejbbceidnaloaaGreatDoorY31
import Derived.Test.YtejbbceidnaloaaGreatDoorY24
namespace Go.Proofs.YtejbbceidnaloaaGreatDoor.R
open Go.ChangeShapes Go.WideShapes Go.ChangeAt Go.RowKit Go.Proofs.YtejbbceidnaloaaGreatDoor.P Go.Proofs.YtejbbceidnaloaaGreatDoorW.PrintWords
set_option linter.unusedVariables false
set_option linter.unusedSimpArgs false
section
set_option maxRecDepth 100000
theorem i64_wf {n : Int} (h : (Lit.int .i64 n).wf = true) : -9223372036854775808 ≤ n ∧ n ≤ 9223372036854775807 := bounds_i64 h
section
variable {H : Type} {enc : TypeId × Value → H} {W : World} {b0 base : Nat} {sp : Nat → Bool} {held : Bool} {v : Value} {d : DataW H} {p : List MemPlace}
theorem open_cell (hv : Value.okWide Tryz.prog W .any b0 64 v) (h : DataW.Trod enc Tryz.prog W base sp held 64 v d p) :
 ∃ a b c : Int, v = .agg #[.int .i64 a, .int .i64 b, .int .i64 c] ∧ (-9223372036854775808 ≤ a ∧ a ≤ 9223372036854775807) ∧ (-9223372036854775808 ≤ b ∧ b ≤ 9223372036854775807) ∧ (-9223372036854775808 ≤ c ∧ c ≤ 9223372036854775807) := by
 obtain ⟨v0, v1, v2, y0, y1, y2, n, rfl, _, _, h0, h1, h2⟩ := Joins.open_agg3 Tryz.underlying64 (by kernel_rfl) (by kernel_rfl) hv h
 obtain ⟨n0, e0, _, w0⟩ := DataW.trod_int Tryz.underlying3 h0
 obtain ⟨n1, e1, _, w1⟩ := DataW.trod_int Tryz.underlying3 h1
 obtain ⟨n2, e2, _, w2⟩ := DataW.trod_int Tryz.underlying3 h2
 simp only [List.cons.injEq, and_true] at e0 e1 e2
 subst e0 e1 e2
 exact ⟨n0, n1, n2, rfl, i64_wf w0, i64_wf w1, i64_wf w2⟩
theorem list_of {α : Type} {R : Nat → α → Prop} : ∀ {n : Nat}, (∀ i, i < n → ∃ x, R i x) → ∃ l : List α, l.length = n ∧ ∀ i x, l[i]? = some x → R i x := by
 intro n
 induction n with
 | zero => intro _; exact ⟨[], rfl, fun i x h => by simp at h⟩
 | succ n ih =>
  intro h
  obtain ⟨l, hl, hr⟩ := ih (fun i hi => h i (by omega))
  obtain ⟨x, hx⟩ := h n (by omega)
  refine ⟨l ++ [x], by simp [hl], fun i y hy => ?_⟩
  by_cases hi : i < l.length
  ·rw [List.getElem?_append_left hi] at hy; exact hr i y hy
  ·rw [List.getElem?_append_right (by omega)] at hy
   have : i - l.length = 0 := by
    rcases Nat.eq_zero_or_pos (i - l.length) with h0 | h0
    ·exact h0
    ·rw [List.getElem?_eq_none (by simp; omega)] at hy; cases hy
   rw [this] at hy
   simp at hy
   subst hy
   obtain rfl : i = n := by omega
   exact hx
def in64 (n : Int) : Prop := -9223372036854775808 ≤ n ∧ n ≤ 9223372036854775807
theorem open_cells {ts : List TypeId} {ds : List (DataW H)} {j : Nat} (hv : Value.okWide Tryz.prog W .any b0 65 v) (h : DataW.Trod enc Tryz.prog W base sp held 65 v d p)
 (hsz : (DataW.weightsEach Tryz.prog ts ds).all (· ≤ reachBytes) = true) (ht : ts[j]? = some 65) (hd : ds[j]? = some d) :
 ∃ (A : Option Addr) (c : Nat) (l : List P.S64), v = .slice A l.length c ∧ Kd.C P.k64 W A l.length l ∧ l.length ≤ c ∧ l.length * 24 ≤ 140737488351232 ∧ ∀ x ∈ l, in64 x.f0 ∧ in64 x.f1 ∧ in64 x.f2 := by
 have c1 : Tryz.prog.cellsOf 3 = 1 := by kernel_rfl
 have c3 : Tryz.prog.cellsOf 64 = 3 := by kernel_rfl
 have hb : Tryz.prog.bytesOf 64 = 24 := by kernel_rfl
 obtain ⟨A, len, cap, rfl⟩ := okWide_slice Tryz.underlying65 hv
 obtain ⟨fuel, hf⟩ := h
 rcases Deep.open_slice Tryz.underlying65 hf with ⟨hcs, _⟩ | ⟨a, len', cap', m, n, D, Pl, hcs, _, hl, hm, hmm, hx, hi⟩
 ·simp [Value.cells] at hcs
  obtain ⟨rfl, rfl, rfl⟩ := hcs
  exact ⟨none, 0, [], rfl, ⟨rfl, by simp, fun h => by simp at h⟩, by simp, by simp, fun x hx => by cases hx⟩
 ·simp [Value.cells] at hcs
  obtain ⟨rfl, rfl, rfl⟩ := hcs
  have hlm : len ≤ m := by rw [hmm]; split <;> omega
  obtain ⟨l, hll, hlr⟩ := list_of (R := fun i (x : P.S64) => (W.cell? (a.add (i * 3)) = some (.int .i64 x.f0) ∧ W.cell? (a.add (i * 3 + 1)) = some (.int .i64 x.f1) ∧ W.cell? (a.add (i * 3 + 2)) = some (.int .i64 x.f2)) ∧ in64 x.f0 ∧ in64 x.f1 ∧ in64 x.f2) (n := len) (fun i hin => by
   obtain ⟨cs', hc, ht'⟩ := hi i (by omega)
   rw [c3] at hc
   obtain ⟨xs, n', _, hx', _, hlen, hg⟩ := DataW.trod_struct Tryz.underlying64 ht'
   obtain ⟨_, hcl, hat⟩ := World.cells?_some hc
   match cs', hcl with
   | [u0, u1, u2], _ =>
    match xs, hlen with
    | [y0, y1, y2], _ =>
     obtain ⟨n0, e0, _, w0⟩ := DataW.trod_int Tryz.underlying3 (by simpa [c1] using hg 0 _ rfl : DataW.trod enc Tryz.prog W base sp held n' 3 [u0] = some y0)
     obtain ⟨n1, e1, _, w1⟩ := DataW.trod_int Tryz.underlying3 (by simpa [c1] using hg 1 _ rfl : DataW.trod enc Tryz.prog W base sp held n' 3 [u1] = some y1)
     obtain ⟨n2, e2, _, w2⟩ := DataW.trod_int Tryz.underlying3 (by simpa [c1] using hg 2 _ rfl : DataW.trod enc Tryz.prog W base sp held n' 3 [u2] = some y2)
     simp only [List.cons.injEq, and_true] at e0 e1 e2
     subst e0 e1 e2
     have h0 := hat 0 (by omega)
     have h1 := hat 1 (by omega)
     have h2 := hat 2 (by omega)
     rw [Deep.add_add] at h0 h1 h2
     exact ⟨⟨n0, n1, n2⟩, ⟨h0, h1, h2⟩, i64_wf w0, i64_wf w1, i64_wf w2⟩)
  subst hll
  refine ⟨some a, cap, l, rfl, ⟨rfl, by unfold maxLen at hm; omega, fun _ => ⟨a, rfl, fun i x hix => ?_⟩⟩, hl, ?_, fun x hx => ?_⟩
  ·obtain ⟨⟨h0, h1, h2⟩, _⟩ := hlr i x hix
   refine ⟨[.int .i64 x.f0, .int .i64 x.f1, .int .i64 x.f2], rfl, P.k64_mk W x, fun q u hq => ?_⟩
   match q with
   | 0 => simp at hq; subst hq; exact h0
   | 1 => simp at hq; subst hq; exact h1
   | 2 => simp at hq; subst hq; exact h2
   | q + 3 => simp at hq
  ·obtain ⟨hx, _⟩ := Prod.mk.inj hx
   subst hx
   have z := sized_slice hsz ht hd Tryz.underlying65
   rw [hb] at z
   have h1 : l.length ≤ ((List.range l.length).map D).length + ((List.range (m - l.length)).map fun j => D (l.length + j)).length := by simp
   exact Nat.le_trans (Nat.mul_le_mul_right _ h1) z
  ·obtain ⟨i, hi', rfl⟩ := List.getElem_of_mem hx
   exact (hlr i l[i] (List.getElem?_eq_getElem hi')).2
end
end
end Go.Proofs.YtejbbceidnaloaaGreatDoor.R
