/-
  The opening of a script (a slice of acts), for the row of PlaceCursors.
-/
import Derived.Test.YtijmipnafhljkaaDoorRowk
namespace Go.Proofs.YtijmipnafhljkaaDoor.R
open Go.ChangeShapes Go.WideShapes Go.ChangeAt Go.RowKit Go.Proofs.YtijmipnafhljkaaDoorW.PrintWords
set_option linter.unusedVariables false
set_option maxRecDepth 100000
section
variable {H : Type} {enc : TypeId × Value → H} {W : World} {b0 base : Nat} {sp : Nat → Bool} {held : Bool} {v : Value} {d : DataW H} {p : List MemPlace}
theorem open_acts (hv : Value.okWide Tryd.prog W .any b0 53 v) (h : DataW.Trod enc Tryd.prog W base sp held 53 v d p) :
    ∃ (A : Option Addr) (c n : Nat), v = .slice A n c ∧ n ≤ 9223372036854775807 ∧ ∀ i : Int, 0 ≤ i → i < n → ∃ ad kd m, A = some ad ∧ W.cell? (ad.add (i.toNat * 2)) = some (.int .i64 kd) ∧ W.cell? ⟨(ad.add (i.toNat * 2)).block, (ad.add (i.toNat * 2)).off + 1, none⟩ = some (.int .i64 m) := by
  have c1 : Tryd.prog.cellsOf 3 = 1 := by kernel_rfl
  have c3 : Tryd.prog.cellsOf 67 = 2 := by kernel_rfl
  obtain ⟨A, len, cap, rfl⟩ := okWide_slice Tryd.underlying53 hv
  obtain ⟨fuel, hf⟩ := h
  rcases Deep.open_slice Tryd.underlying53 hf with ⟨hcs, _⟩ | ⟨a, len', cap', m, n, D, Pl, hcs, _, hl, hm, hmm, hx, hi⟩
  · simp [Value.cells] at hcs
    obtain ⟨rfl, rfl, rfl⟩ := hcs
    exact ⟨none, 0, 0, rfl, by simp, fun i h0 h1 => by omega⟩
  · simp [Value.cells] at hcs
    obtain ⟨rfl, rfl, rfl⟩ := hcs
    have hlm : len ≤ m := by rw [hmm]; split <;> omega
    refine ⟨some a, cap, len, rfl, by unfold maxLen at hm; omega, fun i h0 h1 => ?_⟩
    obtain ⟨cs', hc, ht'⟩ := hi i.toNat (by omega)
    rw [c3] at hc
    obtain ⟨xs, n', _, hx', _, hlen, hg⟩ := DataW.trod_struct Tryd.underlying67 ht'
    obtain ⟨_, hcl, hat⟩ := World.cells?_some hc
    match cs', hcl with
    | [u0, u1], _ =>
      match xs, hlen with
      | [y0, y1], _ =>
        obtain ⟨n0, e0, _, w0⟩ := DataW.trod_int Tryd.underlying3 (by simpa [c1] using hg 0 _ rfl : DataW.trod enc Tryd.prog W base sp held n' 3 [u0] = some y0)
        obtain ⟨n1, e1, _, w1⟩ := DataW.trod_int Tryd.underlying3 (by simpa [c1] using hg 1 _ rfl : DataW.trod enc Tryd.prog W base sp held n' 3 [u1] = some y1)
        simp only [List.cons.injEq, and_true] at e0 e1
        subst e0 e1
        have h0 := hat 0 (by omega)
        have h1 := hat 1 (by omega)
        rw [Deep.add_add] at h0 h1
        refine ⟨a, n0, n1, rfl, h0, ?_⟩
        rw [← add_field _ _ 1 (by omega)]
        exact h1
end
end Go.Proofs.YtijmipnafhljkaaDoor.R
