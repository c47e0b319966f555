/-
  What the listed variables of strconv give a walk: the tables' facts.
-/
import Derived.Test.YtijmipnafhljkaaDoorRowk
import Derived.Stop.LaidErr
namespace Go.Proofs.YtijmipnafhljkaaDoor.R
open Go.ChangeShapes Go.WideShapes Go.ChangeAt Go.RowKit Go.Proofs.YtijmipnafhljkaaDoor.P
set_option linter.unusedVariables false
set_option maxRecDepth 100000

theorem var_one {P : Program} {n nm : String} {d : DataW Unit} {r : List (String × DataW Unit)} {W : World} {g : Nat} {ti : TypeId} {ms : Array (String × TypeId)}
    (h : laidMet P ((n, .iface nm d) :: r) W) (hg : P.globalNamed n = some g) (ht : (P.globals[g]?).map (·.type) = some ti) (hi : P.underlying ti = some (.interface ms)) (hc : P.cellsOf ti = 1) :
    ∃ t p, W.cell? ⟨g, 0, none⟩ = some (.iface t p) := by
  obtain ⟨ps, ⟨g0, t0, cs0, f0, p0, q0, hg0, ht0, hv0, hd0, _, e0⟩, _, hrows⟩ := h
  obtain rfl := Option.some.inj (hg.symm.trans hg0)
  obtain rfl := Option.some.inj (ht.symm.trans ht0)
  obtain ⟨l0⟩ := cs0
  have hv : W.cell? ⟨g, 0, none⟩ = l0[0]? := by simpa using World.var?_cell hg0 hv0 0
  cases f0 with
  | zero => simp [DataW.trod] at hd0
  | succ f0 =>
    simp only [DataW.trod, hi] at hd0
    rcases l0 with _ | ⟨x, _ | ⟨y, l⟩⟩
    · simp at hd0
    · cases x <;> first | (rw [hv]; exact ⟨_, _, rfl⟩) | (simp at hd0)
    · cases x <;> simp at hd0
theorem gl_of_laid {W : World} (h : laidMetH Tryd.prog laidList W) : GL W := by
  have h0 : laidMet Tryd.prog laidList W := h
  have h1 := laidMet.tail h0
  have h2 := laidMet.tail h1
  have h3 := laidMet.tail h2
  have h4 := laidMet.tail h3
  exact ⟨Lib.tabIs_of_head gTab (t := 114) (by kernel_rfl) Tryd.underlying114 Tryd.underlying100 (by kernel_rfl) (by kernel_rfl) h2,
    var_one h4 (by kernel_rfl) (ti := 85) (by kernel_rfl) Tryd.underlying85 (by kernel_rfl),
    var_one h3 (by kernel_rfl) (ti := 85) (by kernel_rfl) Tryd.underlying85 (by kernel_rfl)⟩
end Go.Proofs.YtijmipnafhljkaaDoor.R
