import Derived.Test.YtejbbceidnaloaaGreatDoorCards
import Derived.Test.YtejbbceidnaloaaGreatDoorTie
import Derived.Test.YtejbbceidnaloaaGreatDoorB5
import Derived.ProofKit
import Derived.OpenShut
import Derived.ShutString
import Derived.Deep.DeepHandedRow
import Derived.Deep.DeepWitnessRowRef
import Derived.Lib.LaidTab
import Derived.Lib.LaidU8
import Derived.Deep.Fields
import Derived.Deep.Slices
import Derived.SizedLaws
import Derived.Lay
import Derived.Stop.LaidErr
set_option linter.unusedVariables false
set_option linter.unusedSimpArgs false
set_option maxRecDepth 100000
set_option maxHeartbeats 8000000
namespace Go.Proofs.YtejbbceidnaloaaGreatDoor.R
open Go.ChangeShapes Go.WideShapes Go.ChangeAt Go.RowKit Go.Proofs.YtejbbceidnaloaaGreatDoor.P AW
section
theorem own : ownKnob Tryz.prog.godebug = none := by kernel_rfl
theorem laidOut : laidOutB Tryz.prog = true := by kernel_rfl
def laidList : List (String × DataW Unit) := [("math/bits.deBruijn32tab", Rows.laid_math_bits_deBruijn32tab), ("math/bits.deBruijn64tab", Rows.laid_math_bits_deBruijn64tab), ("internal/strconv.uint64pow10", Rows.laid_internal_strconv_uint64pow10), ("unicode/utf8.acceptRanges", Rows.laid_unicode_utf8_acceptRanges), ("strconv.ErrRange", Rows.laid_strconv_ErrRange), ("strconv.ErrSyntax", Rows.laid_strconv_ErrSyntax), ("whittle/lex.pairs", Rows.laid_whittle_lex_pairs), ("whittle/lex.faults", Rows.laid_whittle_lex_faults), ("whittle/value.names", Rows.laid_whittle_value_names), ("unicode.CaseRanges", Rows.laid_unicode_CaseRanges), ("unicode/utf8.first", Rows.laid_unicode_utf8_first)]
noncomputable abbrev laidWorld (os : Os) : World := World.laidAll Tryz.prog os laidList
theorem laid_met (os : Os) (args : Array Value) : laidMet Tryz.prog laidList ((laidWorld os).forCall (fun _ _ => 0) ⟨#[], args, []⟩).memory := laidMet_laidAll _ (by kernel_rfl) (by kernel_rfl)
theorem witness {H : Type} {enc : TypeId × Value → H} {os : Os} {f : FuncId} {fn : Func} {s : OpenSpec} {conds : List PathCond} {apart : Bool} {laid : List (String × DataW Unit)} (args : Array Value)
    (hok : Input.okWideB Tryz.prog ((laidWorld os).forCall (fun _ _ => 0) ⟨#[], args, []⟩) f ⟨#[], args, []⟩ = true)
    (hrow : s.preRow enc Tryz.prog fn conds apart laid ((laidWorld os).forCall (fun _ _ => 0) ⟨#[], args, []⟩).memory args) :
    ∃ (w : World) (tape : Tape) (i : Input), w.os = os ∧ (w.forCall tape i).Shaped Tryz.prog ∧ i.vars = [] ∧ Input.okWide Tryz.prog (w.forCall tape i) .any w.heap.size f i ∧
      s.preRow enc Tryz.prog fn conds apart laid (w.forCall tape i).memory i.args ∧ ({ modest := false } : Assume).holds Tryz.prog (lone (Frame.enter Tryz.prog f i.args .normal) [] (w.forCall tape i)) :=
  ⟨laidWorld os, fun _ _ => 0, ⟨#[], args, []⟩, World.laidAll_os _ _ _, World.shaped_of_ZipB (by kernel_rfl) (by kernel_rfl), (Input.okWide_of_okWideB (base := 0) hok).1, (Input.okWide_of_okWideB hok).2, hrow, by
    simp only [Assume.holds]
    exact ⟨by simp, by simp, fun h => by simp at h, by simp, by simp⟩⟩
theorem cells_of_strs {H : Type} {enc : TypeId × Value → H} {P : Program} {w : World} {base : Nat} {sp : Nat → Bool} {held : Bool} {fuel : Nat} {t e : TypeId} {n : Nat} {cs : List Value} {zs : List (List UInt8)} {p : List MemPlace}
    (ht : P.underlying t = some (.array n e)) (he : P.underlying e = some .string) (hce : P.cellsOf e = 1) (hct : P.cellsOf t = n)
    (h : DataW.trod enc P w base sp held fuel t cs = some (.agg (zs.map fun z => .lit (.string z)), p)) : cs = zs.map fun z => Value.string ⟨z.toArray⟩ := by
  cases fuel with
  | zero => simp [DataW.trod] at h
  | succ fuel =>
    simp only [DataW.trod, ht, hce, hct, Nat.mul_one] at h
    split at h
    · rename_i hl
      obtain ⟨xs, hm, hx⟩ := Option.map_eq_some_iff.1 h
      have hxs : xs.map (·.1) = zs.map fun z => (DataW.lit (.string z) : DataW H) := by
        have := congrArg Prod.fst hx
        simpa using this
      have hxl : xs.length = n := by simpa using Lib.mapM_length hm
      have hzl : zs.length = n := by
        have := congrArg List.length hxs
        simp at this
        omega
      apply List.ext_getElem?
      intro i
      by_cases hi : i < n
      · obtain ⟨b, hb, hf⟩ := Lib.mapM_at hm i i (by simp [hi])
        obtain ⟨s, hc, rfl, _⟩ := DataW.trod_string he hf
        have h1 : cs[i]? = some (.string s) := by
          have := congrArg (·[0]?) hc
          simpa [List.getElem?_take, List.getElem?_drop] using this
        have h2 : (xs.map (·.1))[i]? = some (DataW.lit (.string s.data.toList) : DataW H) := by simp [hb]
        rw [hxs] at h2
        simp only [List.getElem?_map, Option.map_eq_some_iff, DataW.lit.injEq, Lit.string.injEq] at h2
        obtain ⟨z', hz', e⟩ := h2
        rw [h1, List.getElem?_map, hz', e]
        rfl
      · rw [List.getElem?_eq_none (by omega), List.getElem?_eq_none (by simp; omega)]
    · cases h
theorem c_strs {W : World} {g : Nat} {nm : String} {t e : TypeId} {zs : List (List UInt8)} (hr : Lib.VarReads Tryz.prog W nm (.agg (zs.map fun z => .lit (.string z)))) (hg : Tryz.prog.globalNamed nm = some g) (hty : (Tryz.prog.globals[g]?).map (·.type) = some t)
    (ht : Tryz.prog.underlying t = some (.array zs.length e)) (he : Tryz.prog.underlying e = some .string) (hce : Tryz.prog.cellsOf e = 1) (hct : Tryz.prog.cellsOf t = zs.length) (hn : zs.length ≤ 100) {L : List ByteArray} (hL : zs.map (fun z => (⟨z.toArray⟩ : ByteArray)) = L) : Kd.C Kd.string W (some ⟨g, 0, none⟩) L.length L := by
  subst hL
  obtain ⟨g', t', cs, fuel, p, h1, h2, h3, h4⟩ := hr
  obtain rfl := Option.some.inj (hg.symm.trans h1)
  obtain rfl := Option.some.inj (hty.symm.trans h2)
  have hc := cells_of_strs ht he hce hct h4
  refine ⟨rfl, by simp; omega, fun _ => ⟨_, rfl, fun i x hx => ⟨[.string x], rfl, rfl, fun q u hq => ?_⟩⟩⟩
  match q with
  | 0 =>
    obtain rfl := Option.some.inj hq
    have hv := World.var?_cell h1 h3 i
    rw [show ((⟨g, 0, none⟩ : Addr).add (i * Kd.string.sz + 0)) = ⟨g, i, none⟩ by simp [Addr.add, Kd.string, Kd.scalar]; intro h; exact h.symm]
    rw [hv, ← Array.getElem?_toList, hc, List.getElem?_map]
    rw [List.getElem?_map] at hx
    cases hz : zs[i]? with
    | none => rw [hz] at hx; cases hx
    | some z => rw [hz] at hx; obtain rfl := Option.some.inj hx; rfl
  | q + 1 => simp at hq
theorem var_one {n nm : String} {d : DataW Unit} {W : World} {g : Nat} {ti : TypeId} {ms : Array (String × TypeId)}
    (h : Lib.VarReads Tryz.prog W n (.iface nm d)) (hg : Tryz.prog.globalNamed n = some g) (ht : (Tryz.prog.globals[g]?).map (·.type) = some ti) (hi : Tryz.prog.underlying ti = some (.interface ms)) (hc : Tryz.prog.cellsOf ti = 1) :
    ∃ t p, W.cell? ⟨g, 0, none⟩ = some (.iface t p) := by
  obtain ⟨g0, t0, cs0, f0, p0, hg0, ht0, hv0, hd0⟩ := h
  obtain rfl := Option.some.inj (hg.symm.trans hg0)
  obtain rfl := Option.some.inj (ht.symm.trans ht0)
  obtain ⟨l0⟩ := cs0
  have hv : W.cell? ⟨g, 0, none⟩ = l0[0]? := by simpa using World.var?_cell hg0 hv0 0
  cases f0 with
  | zero => simp [DataW.trod] at hd0
  | succ f0 =>
    simp only [DataW.trod, hi] at hd0
    rcases l0 with _ | ⟨x, _ | ⟨y, l⟩⟩
    · simp at hd0
    · cases x <;> first | (rw [hv]; exact ⟨_, _, rfl⟩) | (simp at hd0)
    · cases x <;> simp at hd0
theorem gl_of_laid {W : World} (h : laidMetH Tryz.prog laidList W) (hsh : W.ShapedOpen Tryz.prog) : GL W := by
  have h0 : laidMet Tryz.prog laidList W := by rw [MakeChecks.laidMetH_plain _ _ _ (by kernel_rfl)] at h; exact h
  have r : ∀ (j : Nat) n d, laidList[j]? = some (n, d) → Lib.VarReads Tryz.prog W n d := fun j n d hj => Lib.laidMet.reads h0 (List.mem_of_getElem? hj)
  have h2 := laidMet.tail (laidMet.tail h0)
  exact ⟨Lib.tabIs_of_head gTab (t := 233) (by kernel_rfl) Tryz.underlying233 Tryz.underlying175 (by kernel_rfl) (by kernel_rfl) h2,
    var_one (r 5 _ _ rfl) (by kernel_rfl) (ti := 99) (by kernel_rfl) Tryz.underlying99 (by kernel_rfl),
    var_one (r 4 _ _ rfl) (by kernel_rfl) (ti := 99) (by kernel_rfl) Tryz.underlying99 (by kernel_rfl),
    cell_of_shapedOpen_int (zero := #[.int .i64 0]) (t := 3) hsh (of_decide_eq_true (by kernel_rfl)) (by kernel_rfl) rfl (by kernel_rfl) (by kernel_rfl) Tryz.underlying3,
    c_strs (zs := [[35, 68, 73, 86, 47, 48, 33], [35, 86, 65, 76, 85, 69, 33], [35, 82, 69, 70, 33], [35, 78, 85, 77, 33], [35, 78, 47, 65], [35, 67, 73, 82, 67, 76, 69, 33], [35, 76, 79, 78, 71, 33], [35, 65, 82, 71, 33]]) (r 7 _ _ rfl) (by kernel_rfl) (t := 134) (by kernel_rfl) Tryz.underlying134 Tryz.underlying9 (by kernel_rfl) (by kernel_rfl) (by decide) rfl,
    c_strs (zs := [[60, 62], [60, 61], [62, 61]]) (r 6 _ _ rfl) (by kernel_rfl) (t := 135) (by kernel_rfl) Tryz.underlying135 Tryz.underlying9 (by kernel_rfl) (by kernel_rfl) (by decide) rfl,
    c_strs (zs := [[35, 68, 73, 86, 47, 48, 33], [35, 86, 65, 76, 85, 69, 33], [35, 82, 69, 70, 33], [35, 78, 85, 77, 33], [35, 78, 47, 65], [35, 67, 73, 82, 67, 76, 69, 33], [35, 76, 79, 78, 71, 33], [35, 65, 82, 71, 33]]) (r 8 _ _ rfl) (by kernel_rfl) (t := 134) (by kernel_rfl) Tryz.underlying134 Tryz.underlying9 (by kernel_rfl) (by kernel_rfl) (by decide) rfl⟩
section
variable {H : Type} {enc : TypeId × Value → H} {W : World} {b0 base : Nat} {sp : Nat → Bool} {held : Bool} {v : Value} {d : DataW H} {p : List MemPlace}
theorem open_i64 {t : TypeId} (ht : Tryz.prog.underlying t = some (.int .i64)) (hv : Value.okWide Tryz.prog W .any b0 t v) (h : DataW.Trod enc Tryz.prog W base sp held t v d p) :
    ∃ n : Int, (-9223372036854775808 ≤ n ∧ n ≤ 9223372036854775807) ∧ v = .int .i64 n := by
  obtain ⟨n, hn, _, _, hw⟩ := open_int ht hv h
  exact ⟨n, bounds_i64 hw, hn⟩
end
end
end Go.Proofs.YtejbbceidnaloaaGreatDoor.R
