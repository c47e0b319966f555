/-
  What all rows of chapter 3 share: the world of the witness, and what the listed variables give; opening of arguments.
-/
import Derived.Test.YtijmipnafhljkaaDoorCards
import Derived.Test.YtijmipnafhljkaaDoorTie
import Derived.Test.YtijmipnafhljkaaDoorGiven
import Derived.WalkKit
import Derived.ProofKit
import Derived.OpenShut
import Derived.Below
import Derived.ShutString
import Derived.Deep.DeepHandedRow
import Derived.Deep.DeepWitnessRowRef
import Derived.Lib.LaidTab
import Derived.Lib.SmallJoins
import Derived.Deep.Fields
import Derived.Deep.Slices
import Derived.SizedLaws
namespace Go.Proofs.YtijmipnafhljkaaDoor.R
open Go.ChangeShapes Go.WideShapes Go.ChangeAt Go.RowKit Go.Proofs.YtijmipnafhljkaaDoorW.PrintWords
set_option linter.unusedVariables false
set_option maxRecDepth 100000

theorem own : ownKnob Tryd.prog.godebug = none := by kernel_rfl
theorem laidOut : laidOutB Tryd.prog = true := by kernel_rfl
def laidList {H : Type} : List (String × DataW H) := [("math/bits.deBruijn32tab", Rows.laid_math_bits_deBruijn32tab), ("math/bits.deBruijn64tab", Rows.laid_math_bits_deBruijn64tab), ("internal/strconv.uint64pow10", Rows.laid_internal_strconv_uint64pow10), ("strconv.ErrRange", Rows.laid_strconv_ErrRange), ("strconv.ErrSyntax", Rows.laid_strconv_ErrSyntax)]
def u8s (l : List Int) : Array Value := (l.map fun n => Value.int .u8 n).toArray
def tab32 : Array Value := u8s [0, 1, 28, 2, 29, 14, 24, 3, 30, 22, 20, 15, 25, 17, 4, 8, 31, 27, 13, 23, 21, 19, 16, 7, 26, 12, 18, 6, 11, 5, 10, 9]
def tab64 : Array Value := u8s [0, 1, 56, 2, 57, 49, 28, 3, 61, 58, 42, 50, 38, 29, 17, 4, 62, 47, 59, 36, 45, 43, 51, 22, 53, 39, 33, 30, 24, 18, 12, 5, 63, 55, 48, 27, 60, 41, 37, 16, 46, 35, 44, 21, 52, 32, 23, 11, 54, 26, 40, 15, 34, 20, 31, 10, 25, 14, 19, 9, 13, 8, 7, 6]
def tabP : Array Value := (Lib.pow10Tab.map fun n => Value.int .u64 n).toArray
noncomputable def low : Nat := (World.holding Tryd.prog default ⟨#[], #[], []⟩).heap.size
def sSyntax : ByteArray := ⟨#[105, 110, 118, 97, 108, 105, 100, 32, 115, 121, 110, 116, 97, 120]⟩
def sRange : ByteArray := ⟨#[118, 97, 108, 117, 101, 32, 111, 117, 116, 32, 111, 102, 32, 114, 97, 110, 103, 101]⟩
def put (cs : Array Value) : Obj → Obj
  | .cells _ t frozen => .cells cs t frozen
  | o => o
/-- A world that fits: the settled one, the listed variables holding what their initialisers lay. -/
noncomputable def laidWorld (os : Os) : World :=
  let w0 := World.holding Tryd.prog os ⟨#[.cells #[.string sSyntax] 122, .cells #[.string sRange] 122], #[], []⟩
  { w0 with heap := ((((w0.heap.modify 0 (put #[.iface 120 (.pointer (some ⟨low, 0, none⟩))])).modify 1 (put #[.iface 120 (.pointer (some ⟨low + 1, 0, none⟩))])).modify 3 (put tabP)).modify 4 (put tab32)).modify 5 (put tab64) }
theorem laid_met0 (os : Os) : laidMet Tryd.prog laidList ((laidWorld os).forCall (fun _ _ => 0) ⟨#[], #[], []⟩).memory :=
  laidMet_of_run' 8 (by kernel_rfl) (by kernel_rfl)
theorem laid_met (os : Os) (args : Array Value) : laidMet Tryd.prog laidList ((laidWorld os).forCall (fun _ _ => 0) ⟨#[], args, []⟩).memory :=
  laidMet_of_run' 8 (by kernel_rfl) (by kernel_rfl)

section
variable {H : Type} {enc : TypeId × Value → H} {W : World} {b0 base : Nat} {sp : Nat → Bool} {held : Bool} {v : Value} {d : DataW H} {p : List MemPlace}
theorem i64_wf {n : Int} (h : (Lit.int .i64 n).wf = true) : -9223372036854775808 ≤ n ∧ n ≤ 9223372036854775807 := by
  exact bounds_i64 h
theorem open_i64 {t : TypeId} (ht : Tryd.prog.underlying t = some (.int .i64)) (hv : Value.okWide Tryd.prog W .any b0 t v) (h : DataW.Trod enc Tryd.prog W base sp held t v d p) :
    ∃ n : Int, (-9223372036854775808 ≤ n ∧ n ≤ 9223372036854775807) ∧ v = .int .i64 n := by
  obtain ⟨n, hn, _, _, hw⟩ := open_int ht hv h
  exact ⟨n, i64_wf hw, hn⟩
theorem open_cell (hv : Value.okWide Tryd.prog W .any b0 23 v) (h : DataW.Trod enc Tryd.prog W base sp held 23 v d p) :
    ∃ a b c : Int, v = .agg #[.int .i64 a, .int .i64 b, .int .i64 c] ∧ (-9223372036854775808 ≤ a ∧ a ≤ 9223372036854775807) ∧ (-9223372036854775808 ≤ b ∧ b ≤ 9223372036854775807) ∧ (-9223372036854775808 ≤ c ∧ c ≤ 9223372036854775807) := by
  obtain ⟨v0, v1, v2, y0, y1, y2, n, rfl, _, _, h0, h1, h2⟩ := Joins.open_agg3 Tryd.underlying23 (by kernel_rfl) (by kernel_rfl) hv h
  obtain ⟨n0, e0, _, w0⟩ := DataW.trod_int Tryd.underlying3 h0
  obtain ⟨n1, e1, _, w1⟩ := DataW.trod_int Tryd.underlying3 h1
  obtain ⟨n2, e2, _, w2⟩ := DataW.trod_int Tryd.underlying3 h2
  simp only [List.cons.injEq, and_true] at e0 e1 e2
  subst e0 e1 e2
  exact ⟨n0, n1, n2, rfl, i64_wf w0, i64_wf w1, i64_wf w2⟩
theorem open_area (hv : Value.okWide Tryd.prog W .any b0 25 v) (h : DataW.Trod enc Tryd.prog W base sp held 25 v d p) :
    ∃ a b c d e : Int, v = .agg #[.int .i64 a, .int .i64 b, .int .i64 c, .int .i64 d, .int .i64 e] ∧ (-9223372036854775808 ≤ a ∧ a ≤ 9223372036854775807) ∧ (-9223372036854775808 ≤ b ∧ b ≤ 9223372036854775807) ∧ (-9223372036854775808 ≤ c ∧ c ≤ 9223372036854775807) ∧
      (-9223372036854775808 ≤ d ∧ d ≤ 9223372036854775807) ∧ (-9223372036854775808 ≤ e ∧ e ≤ 9223372036854775807) := by
  have cO : Tryd.prog.cellsOf 3 = 1 := by kernel_rfl
  obtain ⟨cs, rfl, hsz⟩ := okWide_struct Tryd.underlying25 hv
  obtain ⟨l⟩ := cs
  have hC : Tryd.prog.cellsOf 25 = 5 := by kernel_rfl
  match l, hsz.trans hC with
  | [c0, c1, c2, c3, c4], _ =>
    obtain ⟨fuel, hf⟩ := h
    obtain ⟨xs, n, _, hx, _, hlen, hg⟩ := DataW.trod_struct Tryd.underlying25 hf
    match xs, hlen with
    | [y0, y1, y2, y3, y4], _ =>
      obtain ⟨n0, e0, _, w0⟩ := DataW.trod_int Tryd.underlying3 (by simpa [Value.cells, cO] using hg 0 _ rfl : DataW.trod enc Tryd.prog W base sp held n 3 [c0] = some y0)
      obtain ⟨n1, e1, _, w1⟩ := DataW.trod_int Tryd.underlying3 (by simpa [Value.cells, cO] using hg 1 _ rfl : DataW.trod enc Tryd.prog W base sp held n 3 [c1] = some y1)
      obtain ⟨n2, e2, _, w2⟩ := DataW.trod_int Tryd.underlying3 (by simpa [Value.cells, cO] using hg 2 _ rfl : DataW.trod enc Tryd.prog W base sp held n 3 [c2] = some y2)
      obtain ⟨n3, e3, _, w3⟩ := DataW.trod_int Tryd.underlying3 (by simpa [Value.cells, cO] using hg 3 _ rfl : DataW.trod enc Tryd.prog W base sp held n 3 [c3] = some y3)
      obtain ⟨n4, e4, _, w4⟩ := DataW.trod_int Tryd.underlying3 (by simpa [Value.cells, cO] using hg 4 _ rfl : DataW.trod enc Tryd.prog W base sp held n 3 [c4] = some y4)
      simp only [List.cons.injEq, and_true] at e0 e1 e2 e3 e4
      subst e0 e1 e2 e3 e4
      exact ⟨n0, n1, n2, n3, n4, rfl, i64_wf w0, i64_wf w1, i64_wf w2, i64_wf w3, i64_wf w4⟩
theorem list_of {α : Type} {R : Nat → α → Prop} : ∀ {n : Nat}, (∀ i, i < n → ∃ x, R i x) → ∃ l : List α, l.length = n ∧ ∀ i x, l[i]? = some x → R i x := by
  intro n
  induction n with
  | zero => intro _; exact ⟨[], rfl, fun i x h => by simp at h⟩
  | succ n ih =>
    intro h
    obtain ⟨l, hl, hr⟩ := ih (fun i hi => h i (by omega))
    obtain ⟨x, hx⟩ := h n (by omega)
    refine ⟨l ++ [x], by simp [hl], fun i y hy => ?_⟩
    by_cases hi : i < l.length
    · rw [List.getElem?_append_left hi] at hy; exact hr i y hy
    · rw [List.getElem?_append_right (by omega)] at hy
      have : i - l.length = 0 := by
        rcases Nat.eq_zero_or_pos (i - l.length) with h0 | h0
        · exact h0
        · rw [List.getElem?_eq_none (by simp; omega)] at hy; cases hy
      rw [this] at hy
      simp at hy
      subst hy
      obtain rfl : i = n := by omega
      exact hx
def in64 (n : Int) : Prop := -9223372036854775808 ≤ n ∧ n ≤ 9223372036854775807
theorem open_cells {ts : List TypeId} {ds : List (DataW H)} {j : Nat} (hv : Value.okWide Tryd.prog W .any b0 42 v) (h : DataW.Trod enc Tryd.prog W base sp held 42 v d p)
    (hsz : (DataW.weightsEach Tryd.prog ts ds).all (· ≤ reachBytes) = true) (ht : ts[j]? = some 42) (hd : ds[j]? = some d) :
    ∃ (A : Option Addr) (c : Nat) (l : List P.S23), v = .slice A l.length c ∧ Kd.C P.k23 W A l.length l ∧ l.length ≤ c ∧ l.length * 24 ≤ 140737488351232 ∧ ∀ x ∈ l, in64 x.f0 ∧ in64 x.f1 ∧ in64 x.f2 := by
  have c1 : Tryd.prog.cellsOf 3 = 1 := by kernel_rfl
  have c3 : Tryd.prog.cellsOf 23 = 3 := by kernel_rfl
  have hb : Tryd.prog.bytesOf 23 = 24 := by kernel_rfl
  obtain ⟨A, len, cap, rfl⟩ := okWide_slice Tryd.underlying42 hv
  obtain ⟨fuel, hf⟩ := h
  rcases Deep.open_slice Tryd.underlying42 hf with ⟨hcs, _⟩ | ⟨a, len', cap', m, n, D, Pl, hcs, _, hl, hm, hmm, hx, hi⟩
  · simp [Value.cells] at hcs
    obtain ⟨rfl, rfl, rfl⟩ := hcs
    exact ⟨none, 0, [], rfl, ⟨rfl, by simp, fun h => by simp at h⟩, by simp, by simp, fun x hx => by cases hx⟩
  · simp [Value.cells] at hcs
    obtain ⟨rfl, rfl, rfl⟩ := hcs
    have hlm : len ≤ m := by rw [hmm]; split <;> omega
    obtain ⟨l, hll, hlr⟩ := list_of (R := fun i (x : P.S23) => (W.cell? (a.add (i * 3)) = some (.int .i64 x.f0) ∧ W.cell? (a.add (i * 3 + 1)) = some (.int .i64 x.f1) ∧ W.cell? (a.add (i * 3 + 2)) = some (.int .i64 x.f2)) ∧ in64 x.f0 ∧ in64 x.f1 ∧ in64 x.f2) (n := len) (fun i hin => by
      obtain ⟨cs', hc, ht'⟩ := hi i (by omega)
      rw [c3] at hc
      obtain ⟨xs, n', _, hx', _, hlen, hg⟩ := DataW.trod_struct Tryd.underlying23 ht'
      obtain ⟨_, hcl, hat⟩ := World.cells?_some hc
      match cs', hcl with
      | [u0, u1, u2], _ =>
        match xs, hlen with
        | [y0, y1, y2], _ =>
          obtain ⟨n0, e0, _, w0⟩ := DataW.trod_int Tryd.underlying3 (by simpa [c1] using hg 0 _ rfl : DataW.trod enc Tryd.prog W base sp held n' 3 [u0] = some y0)
          obtain ⟨n1, e1, _, w1⟩ := DataW.trod_int Tryd.underlying3 (by simpa [c1] using hg 1 _ rfl : DataW.trod enc Tryd.prog W base sp held n' 3 [u1] = some y1)
          obtain ⟨n2, e2, _, w2⟩ := DataW.trod_int Tryd.underlying3 (by simpa [c1] using hg 2 _ rfl : DataW.trod enc Tryd.prog W base sp held n' 3 [u2] = some y2)
          simp only [List.cons.injEq, and_true] at e0 e1 e2
          subst e0 e1 e2
          have h0 := hat 0 (by omega)
          have h1 := hat 1 (by omega)
          have h2 := hat 2 (by omega)
          rw [Deep.add_add] at h0 h1 h2
          exact ⟨⟨n0, n1, n2⟩, ⟨h0, h1, h2⟩, i64_wf w0, i64_wf w1, i64_wf w2⟩)
    subst hll
    refine ⟨some a, cap, l, rfl, ⟨rfl, by unfold maxLen at hm; omega, fun _ => ⟨a, rfl, fun i x hix => ?_⟩⟩, hl, ?_, fun x hx => ?_⟩
    · obtain ⟨⟨h0, h1, h2⟩, _⟩ := hlr i x hix
      refine ⟨[.int .i64 x.f0, .int .i64 x.f1, .int .i64 x.f2], rfl, P.k23_mk W x, fun q u hq => ?_⟩
      match q with
      | 0 => simp at hq; subst hq; exact h0
      | 1 => simp at hq; subst hq; exact h1
      | 2 => simp at hq; subst hq; exact h2
      | q + 3 => simp at hq
    · obtain ⟨hx, _⟩ := Prod.mk.inj hx
      subst hx
      have z := sized_slice hsz ht hd Tryd.underlying42
      rw [hb] at z
      have h1 : l.length ≤ ((List.range l.length).map D).length + ((List.range (m - l.length)).map fun j => D (l.length + j)).length := by simp
      exact Nat.le_trans (Nat.mul_le_mul_right _ h1) z
    · obtain ⟨i, hi', rfl⟩ := List.getElem_of_mem hx
      exact (hlr i l[i] (List.getElem?_eq_getElem hi')).2
end
end Go.Proofs.YtijmipnafhljkaaDoor.R
