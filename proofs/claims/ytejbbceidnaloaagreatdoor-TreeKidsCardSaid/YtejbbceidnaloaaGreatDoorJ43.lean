import Derived.Test.YtejbbceidnaloaaGreatDoorCards
import Derived.Test.YtejbbceidnaloaaGreatDoorTie
import Derived.ProofKit
import Derived.OpenShut
import Derived.ShutString
import Derived.Deep.DeepHandedRow
import Derived.Deep.DeepWitnessRowRef
import Derived.Lib.LaidTab
import Derived.Lib.LaidU8
import Derived.Deep.Fields
import Derived.Deep.Slices
import Derived.SizedLaws
import Derived.Lay
import Derived.Stop.LaidErr
import Derived.Test.YtejbbceidnaloaaGreatDoorJ37
set_option linter.unusedVariables false
set_option linter.unusedSimpArgs false
set_option maxRecDepth 100000
set_option maxHeartbeats 8000000
namespace Go.Proofs.YtejbbceidnaloaaGreatDoor.R
open Go.ChangeShapes Go.WideShapes Go.ChangeAt Go.RowKit Go.Proofs.YtejbbceidnaloaaGreatDoor.P Go.Proofs.YtejbbceidnaloaaGreatDoorW.PrintWords
section
theorem own : ownKnob Tryz.prog.godebug = none := by kernel_rfl
theorem laidOut : laidOutB Tryz.prog = true := by kernel_rfl
def laidList : List (String × DataW Unit) := [("math/bits.deBruijn32tab", Rows.laid_math_bits_deBruijn32tab), ("math/bits.deBruijn64tab", Rows.laid_math_bits_deBruijn64tab), ("internal/strconv.uint64pow10", Rows.laid_internal_strconv_uint64pow10), ("unicode/utf8.acceptRanges", Rows.laid_unicode_utf8_acceptRanges), ("strconv.ErrRange", Rows.laid_strconv_ErrRange), ("strconv.ErrSyntax", Rows.laid_strconv_ErrSyntax), ("whittle/lex.pairs", Rows.laid_whittle_lex_pairs), ("whittle/lex.faults", Rows.laid_whittle_lex_faults), ("whittle/value.names", Rows.laid_whittle_value_names), ("unicode.CaseRanges", Rows.laid_unicode_CaseRanges), ("unicode/utf8.first", Rows.laid_unicode_utf8_first)]
noncomputable abbrev laidWorld (os : Os) : World := World.laidAll Tryz.prog os laidList
theorem laid_met (os : Os) (args : Array Value) : laidMet Tryz.prog laidList ((laidWorld os).forCall (fun _ _ => 0) ⟨#[], args, []⟩).memory := laidMet_laidAll _ (by kernel_rfl) (by kernel_rfl)
theorem witness {H : Type} {enc : TypeId × Value → H} {os : Os} {f : FuncId} {fn : Func} {s : OpenSpec} {conds : List PathCond} {apart : Bool} {laid : List (String × DataW Unit)} (args : Array Value)
    (hok : Input.okWideB Tryz.prog ((laidWorld os).forCall (fun _ _ => 0) ⟨#[], args, []⟩) f ⟨#[], args, []⟩ = true)
    (hrow : s.preRow enc Tryz.prog fn conds apart laid ((laidWorld os).forCall (fun _ _ => 0) ⟨#[], args, []⟩).memory args) :
    ∃ (w : World) (tape : Tape) (i : Input), w.os = os ∧ (w.forCall tape i).Shaped Tryz.prog ∧ i.vars = [] ∧ Input.okWide Tryz.prog (w.forCall tape i) .any w.heap.size f i ∧
      s.preRow enc Tryz.prog fn conds apart laid (w.forCall tape i).memory i.args ∧ ({ modest := false } : Assume).holds Tryz.prog (lone (Frame.enter Tryz.prog f i.args .normal) [] (w.forCall tape i)) :=
  ⟨laidWorld os, fun _ _ => 0, ⟨#[], args, []⟩, World.laidAll_os _ _ _, World.shaped_of_ZipB (by kernel_rfl) (by kernel_rfl), (Input.okWide_of_okWideB (base := 0) hok).1, (Input.okWide_of_okWideB hok).2, hrow, by
    simp only [Assume.holds]
    exact ⟨by simp, by simp, fun h => by simp at h, by simp, by simp⟩⟩
theorem cells_of_strs {H : Type} {enc : TypeId × Value → H} {P : Program} {w : World} {base : Nat} {sp : Nat → Bool} {held : Bool} {fuel : Nat} {t e : TypeId} {n : Nat} {cs : List Value} {zs : List (List UInt8)} {p : List MemPlace}
    (ht : P.underlying t = some (.array n e)) (he : P.underlying e = some .string) (hce : P.cellsOf e = 1) (hct : P.cellsOf t = n)
    (h : DataW.trod enc P w base sp held fuel t cs = some (.agg (zs.map fun z => .lit (.string z)), p)) : cs = zs.map fun z => Value.string ⟨z.toArray⟩ := by
  cases fuel with
  | zero => simp [DataW.trod] at h
  | succ fuel =>
    simp only [DataW.trod, ht, hce, hct, Nat.mul_one] at h
    split at h
    · rename_i hl
      obtain ⟨xs, hm, hx⟩ := Option.map_eq_some_iff.1 h
      have hxs : xs.map (·.1) = zs.map fun z => (DataW.lit (.string z) : DataW H) := by
        have := congrArg Prod.fst hx
        simpa using this
      have hxl : xs.length = n := by simpa using Lib.mapM_length hm
      have hzl : zs.length = n := by
        have := congrArg List.length hxs
        simp at this
        omega
      apply List.ext_getElem?
      intro i
      by_cases hi : i < n
      · obtain ⟨b, hb, hf⟩ := Lib.mapM_at hm i i (by simp [hi])
        obtain ⟨s, hc, rfl, _⟩ := DataW.trod_string he hf
        have h1 : cs[i]? = some (.string s) := by
          have := congrArg (·[0]?) hc
          simpa [List.getElem?_take, List.getElem?_drop] using this
        have h2 : (xs.map (·.1))[i]? = some (DataW.lit (.string s.data.toList) : DataW H) := by simp [hb]
        rw [hxs] at h2
        simp only [List.getElem?_map, Option.map_eq_some_iff, DataW.lit.injEq, Lit.string.injEq] at h2
        obtain ⟨z', hz', e⟩ := h2
        rw [h1, List.getElem?_map, hz', e]
        rfl
      · rw [List.getElem?_eq_none (by omega), List.getElem?_eq_none (by simp; omega)]
    · cases h
theorem c_strs {W : World} {g : Nat} {nm : String} {t e : TypeId} {zs : List (List UInt8)} (hr : Lib.VarReads Tryz.prog W nm (.agg (zs.map fun z => .lit (.string z)))) (hg : Tryz.prog.globalNamed nm = some g) (hty : (Tryz.prog.globals[g]?).map (·.type) = some t)
    (ht : Tryz.prog.underlying t = some (.array zs.length e)) (he : Tryz.prog.underlying e = some .string) (hce : Tryz.prog.cellsOf e = 1) (hct : Tryz.prog.cellsOf t = zs.length) (hn : zs.length ≤ 100) {L : List ByteArray} (hL : zs.map (fun z => (⟨z.toArray⟩ : ByteArray)) = L) : Kd.C Kd.string W (some ⟨g, 0, none⟩) L.length L := by
  subst hL
  obtain ⟨g', t', cs, fuel, p, h1, h2, h3, h4⟩ := hr
  obtain rfl := Option.some.inj (hg.symm.trans h1)
  obtain rfl := Option.some.inj (hty.symm.trans h2)
  have hc := cells_of_strs ht he hce hct h4
  refine ⟨rfl, by simp; omega, fun _ => ⟨_, rfl, fun i x hx => ⟨[.string x], rfl, rfl, fun q u hq => ?_⟩⟩⟩
  match q with
  | 0 =>
    obtain rfl := Option.some.inj hq
    have hv := World.var?_cell h1 h3 i
    rw [show ((⟨g, 0, none⟩ : Addr).add (i * Kd.string.sz + 0)) = ⟨g, i, none⟩ by simp [Addr.add, Kd.string, Kd.scalar]; intro h; exact h.symm]
    rw [hv, ← Array.getElem?_toList, hc, List.getElem?_map]
    rw [List.getElem?_map] at hx
    cases hz : zs[i]? with
    | none => rw [hz] at hx; cases hx
    | some z => rw [hz] at hx; obtain rfl := Option.some.inj hx; rfl
  | q + 1 => simp at hq
theorem var_one {n nm : String} {d : DataW Unit} {W : World} {g : Nat} {ti : TypeId} {ms : Array (String × TypeId)}
    (h : Lib.VarReads Tryz.prog W n (.iface nm d)) (hg : Tryz.prog.globalNamed n = some g) (ht : (Tryz.prog.globals[g]?).map (·.type) = some ti) (hi : Tryz.prog.underlying ti = some (.interface ms)) (hc : Tryz.prog.cellsOf ti = 1) :
    ∃ t p, W.cell? ⟨g, 0, none⟩ = some (.iface t p) := by
  obtain ⟨g0, t0, cs0, f0, p0, hg0, ht0, hv0, hd0⟩ := h
  obtain rfl := Option.some.inj (hg.symm.trans hg0)
  obtain rfl := Option.some.inj (ht.symm.trans ht0)
  obtain ⟨l0⟩ := cs0
  have hv : W.cell? ⟨g, 0, none⟩ = l0[0]? := by simpa using World.var?_cell hg0 hv0 0
  cases f0 with
  | zero => simp [DataW.trod] at hd0
  | succ f0 =>
    simp only [DataW.trod, hi] at hd0
    rcases l0 with _ | ⟨x, _ | ⟨y, l⟩⟩
    · simp at hd0
    · cases x <;> first | (rw [hv]; exact ⟨_, _, rfl⟩) | (simp at hd0)
    · cases x <;> simp at hd0
theorem gl_of_laid {W : World} (h : laidMetH Tryz.prog laidList W) (hsh : W.ShapedOpen Tryz.prog) : GL W := by
  have h0 : laidMet Tryz.prog laidList W := by rw [MakeChecks.laidMetH_plain _ _ _ (by kernel_rfl)] at h; exact h
  have r : ∀ (j : Nat) n d, laidList[j]? = some (n, d) → Lib.VarReads Tryz.prog W n d := fun j n d hj => Lib.laidMet.reads h0 (List.mem_of_getElem? hj)
  have h2 := laidMet.tail (laidMet.tail h0)
  exact ⟨Lib.tabIs_of_head gTab (t := 233) (by kernel_rfl) Tryz.underlying233 Tryz.underlying175 (by kernel_rfl) (by kernel_rfl) h2,
    var_one (r 5 _ _ rfl) (by kernel_rfl) (ti := 99) (by kernel_rfl) Tryz.underlying99 (by kernel_rfl),
    var_one (r 4 _ _ rfl) (by kernel_rfl) (ti := 99) (by kernel_rfl) Tryz.underlying99 (by kernel_rfl),
    cell_of_shapedOpen_int (zero := #[.int .i64 0]) (t := 3) hsh (of_decide_eq_true (by kernel_rfl)) (by kernel_rfl) rfl (by kernel_rfl) (by kernel_rfl) Tryz.underlying3,
    c_strs (zs := [[35, 68, 73, 86, 47, 48, 33], [35, 86, 65, 76, 85, 69, 33], [35, 82, 69, 70, 33], [35, 78, 85, 77, 33], [35, 78, 47, 65], [35, 67, 73, 82, 67, 76, 69, 33], [35, 76, 79, 78, 71, 33], [35, 65, 82, 71, 33]]) (r 7 _ _ rfl) (by kernel_rfl) (t := 134) (by kernel_rfl) Tryz.underlying134 Tryz.underlying9 (by kernel_rfl) (by kernel_rfl) (by decide) rfl,
    c_strs (zs := [[60, 62], [60, 61], [62, 61]]) (r 6 _ _ rfl) (by kernel_rfl) (t := 135) (by kernel_rfl) Tryz.underlying135 Tryz.underlying9 (by kernel_rfl) (by kernel_rfl) (by decide) rfl,
    c_strs (zs := [[35, 68, 73, 86, 47, 48, 33], [35, 86, 65, 76, 85, 69, 33], [35, 82, 69, 70, 33], [35, 78, 85, 77, 33], [35, 78, 47, 65], [35, 67, 73, 82, 67, 76, 69, 33], [35, 76, 79, 78, 71, 33], [35, 65, 82, 71, 33]]) (r 8 _ _ rfl) (by kernel_rfl) (t := 134) (by kernel_rfl) Tryz.underlying134 Tryz.underlying9 (by kernel_rfl) (by kernel_rfl) (by decide) rfl⟩
section
variable {H : Type} {enc : TypeId × Value → H} {W : World} {b0 base : Nat} {sp : Nat → Bool} {held : Bool} {v : Value} {d : DataW H} {p : List MemPlace}
theorem open_i64 {t : TypeId} (ht : Tryz.prog.underlying t = some (.int .i64)) (hv : Value.okWide Tryz.prog W .any b0 t v) (h : DataW.Trod enc Tryz.prog W base sp held t v d p) :
    ∃ n : Int, (-9223372036854775808 ≤ n ∧ n ≤ 9223372036854775807) ∧ v = .int .i64 n := by
  obtain ⟨n, hn, _, _, hw⟩ := open_int ht hv h
  exact ⟨n, bounds_i64 hw, hn⟩
end
end
section
section
variable {H : Type} {enc : TypeId × Value → H} {W : World} {b0 base : Nat} {sp : Nat → Bool} {held : Bool} {v : Value} {d : DataW H} {p : List MemPlace}
theorem list_ofz {α : Type} {R : Nat → α → Prop} : ∀ {n : Nat}, (∀ i, i < n → ∃ x, R i x) → ∃ l : List α, l.length = n ∧ ∀ i x, l[i]? = some x → R i x := by
 intro n
 induction n with
 | zero => intro _; exact ⟨[], rfl, fun i x h => by simp at h⟩
 | succ n ih =>
  intro h
  obtain ⟨l, hl, hr⟩ := ih (fun i hi => h i (by omega))
  obtain ⟨x, hx⟩ := h n (by omega)
  refine ⟨l ++ [x], by simp [hl], fun i y hy => ?_⟩
  by_cases hi : i < l.length
  ·rw [List.getElem?_append_left hi] at hy; exact hr i y hy
  ·rw [List.getElem?_append_right (by omega)] at hy
   have : i - l.length = 0 := by
    rcases Nat.eq_zero_or_pos (i - l.length) with h0 | h0
    ·exact h0
    ·rw [List.getElem?_eq_none (by simp; omega)] at hy; cases hy
   rw [this] at hy
   simp at hy
   subst hy
   obtain rfl : i = n := by omega
   exact hx
def in64z (n : Int) : Prop := -9223372036854775808 ≤ n ∧ n ≤ 9223372036854775807
theorem open_nodez {n' : Nat} {u0 u1 u2 u3 u4 u5 u6 u7 u8 u9 u10 u11 u12 u13 u14 u15 u16 u17 u18 u19 : Value} {y : DataW H × List MemPlace} (ht' : DataW.trod enc Tryz.prog W base sp held n' 50 [u0, u1, u2, u3, u4, u5, u6, u7, u8, u9, u10, u11, u12, u13, u14, u15, u16, u17, u18, u19] = some y) :
 ∃ x : S50, [u0, u1, u2, u3, u4, u5, u6, u7, u8, u9, u10, u11, u12, u13, u14, u15, u16, u17, u18, u19] = [.int .i64 x.f0, .int .i64 x.f1.f0, .int .i64 x.f1.f1.f0, .int .i64 x.f1.f1.f1, .string x.f1.f2, .bool x.f1.f3, .int .i64 x.f1.f4, .int .i64 x.f2, .string x.f3, .int .i64 x.f4, .string x.f5.f0, .int .i64 x.f5.f1, .int .i64 x.f5.f2, .bool x.f5.f3, .bool x.f5.f4, .string x.f6.f0, .int .i64 x.f6.f1, .int .i64 x.f6.f2, .bool x.f6.f3, .bool x.f6.f4] ∧ in64z x.f2 ∧ in64z x.f4 ∧ x.f1.f2.size ≤ 9223372036854775807 := by
 have cO3 : Tryz.prog.cellsOf 3 = 1 := by kernel_rfl
 have cO4 : Tryz.prog.cellsOf 4 = 1 := by kernel_rfl
 have cO9 : Tryz.prog.cellsOf 9 = 1 := by kernel_rfl
 have cO44 : Tryz.prog.cellsOf 44 = 2 := by kernel_rfl
 have cO46 : Tryz.prog.cellsOf 46 = 6 := by kernel_rfl
 have cO48 : Tryz.prog.cellsOf 48 = 5 := by kernel_rfl
 obtain ⟨xs0, n0, _, _, _, hlen0, hg0⟩ := DataW.trod_struct Tryz.underlying50 ht'
 match xs0, hlen0 with
 | [y0_0, y0_1, y0_2, y0_3, y0_4, y0_5, y0_6], _ =>
  obtain ⟨x0, e0, _, w0⟩ := DataW.trod_int Tryz.underlying3 (by simpa [cO3, cO4, cO9, cO44, cO46, cO48] using hg0 0 _ rfl : DataW.trod enc Tryz.prog W base sp held n0 3 [u0] = some y0_0)
  have q1 := (by simpa [cO3, cO4, cO9, cO44, cO46, cO48] using hg0 1 _ rfl : DataW.trod enc Tryz.prog W base sp held n0 46 [u1, u2, u3, u4, u5, u6] = some y0_1)
  obtain ⟨xs1, n1, _, _, _, hlen1, hg1⟩ := DataW.trod_struct Tryz.underlying46 q1
  match xs1, hlen1 with
  | [y1_0, y1_1, y1_2, y1_3, y1_4], _ =>
   obtain ⟨x1, e1, _, w1⟩ := DataW.trod_int Tryz.underlying3 (by simpa [cO3, cO4, cO9, cO44, cO46, cO48] using hg1 0 _ rfl : DataW.trod enc Tryz.prog W base sp held n1 3 [u1] = some y1_0)
   have q2 := (by simpa [cO3, cO4, cO9, cO44, cO46, cO48] using hg1 1 _ rfl : DataW.trod enc Tryz.prog W base sp held n1 44 [u2, u3] = some y1_1)
   obtain ⟨xs2, n2, _, _, _, hlen2, hg2⟩ := DataW.trod_struct Tryz.underlying44 q2
   match xs2, hlen2 with
   | [y2_0, y2_1], _ =>
    obtain ⟨x2, e2, _, w2⟩ := DataW.trod_int Tryz.underlying3 (by simpa [cO3, cO4, cO9, cO44, cO46, cO48] using hg2 0 _ rfl : DataW.trod enc Tryz.prog W base sp held n2 3 [u2] = some y2_0)
    obtain ⟨x3, e3, _, w3⟩ := DataW.trod_int Tryz.underlying3 (by simpa [cO3, cO4, cO9, cO44, cO46, cO48] using hg2 1 _ rfl : DataW.trod enc Tryz.prog W base sp held n2 3 [u3] = some y2_1)
    obtain ⟨x4, e4, _, z4⟩ := DataW.trod_string Tryz.underlying9 (by simpa [cO3, cO4, cO9, cO44, cO46, cO48] using hg1 2 _ rfl : DataW.trod enc Tryz.prog W base sp held n1 9 [u4] = some y1_2)
    obtain ⟨x5, e5, _⟩ := DataW.trod_bool Tryz.underlying4 (by simpa [cO3, cO4, cO9, cO44, cO46, cO48] using hg1 3 _ rfl : DataW.trod enc Tryz.prog W base sp held n1 4 [u5] = some y1_3)
    obtain ⟨x6, e6, _, w6⟩ := DataW.trod_int Tryz.underlying3 (by simpa [cO3, cO4, cO9, cO44, cO46, cO48] using hg1 4 _ rfl : DataW.trod enc Tryz.prog W base sp held n1 3 [u6] = some y1_4)
    obtain ⟨x7, e7, _, w7⟩ := DataW.trod_int Tryz.underlying3 (by simpa [cO3, cO4, cO9, cO44, cO46, cO48] using hg0 2 _ rfl : DataW.trod enc Tryz.prog W base sp held n0 3 [u7] = some y0_2)
    obtain ⟨x8, e8, _, _⟩ := DataW.trod_string Tryz.underlying9 (by simpa [cO3, cO4, cO9, cO44, cO46, cO48] using hg0 3 _ rfl : DataW.trod enc Tryz.prog W base sp held n0 9 [u8] = some y0_3)
    obtain ⟨x9, e9, _, w9⟩ := DataW.trod_int Tryz.underlying3 (by simpa [cO3, cO4, cO9, cO44, cO46, cO48] using hg0 4 _ rfl : DataW.trod enc Tryz.prog W base sp held n0 3 [u9] = some y0_4)
    have q10 := (by simpa [cO3, cO4, cO9, cO44, cO46, cO48] using hg0 5 _ rfl : DataW.trod enc Tryz.prog W base sp held n0 48 [u10, u11, u12, u13, u14] = some y0_5)
    obtain ⟨xs3, n3, _, _, _, hlen3, hg3⟩ := DataW.trod_struct Tryz.underlying48 q10
    match xs3, hlen3 with
    | [y3_0, y3_1, y3_2, y3_3, y3_4], _ =>
     obtain ⟨x10, e10, _, _⟩ := DataW.trod_string Tryz.underlying9 (by simpa [cO3, cO4, cO9, cO44, cO46, cO48] using hg3 0 _ rfl : DataW.trod enc Tryz.prog W base sp held n3 9 [u10] = some y3_0)
     obtain ⟨x11, e11, _, w11⟩ := DataW.trod_int Tryz.underlying3 (by simpa [cO3, cO4, cO9, cO44, cO46, cO48] using hg3 1 _ rfl : DataW.trod enc Tryz.prog W base sp held n3 3 [u11] = some y3_1)
     obtain ⟨x12, e12, _, w12⟩ := DataW.trod_int Tryz.underlying3 (by simpa [cO3, cO4, cO9, cO44, cO46, cO48] using hg3 2 _ rfl : DataW.trod enc Tryz.prog W base sp held n3 3 [u12] = some y3_2)
     obtain ⟨x13, e13, _⟩ := DataW.trod_bool Tryz.underlying4 (by simpa [cO3, cO4, cO9, cO44, cO46, cO48] using hg3 3 _ rfl : DataW.trod enc Tryz.prog W base sp held n3 4 [u13] = some y3_3)
     obtain ⟨x14, e14, _⟩ := DataW.trod_bool Tryz.underlying4 (by simpa [cO3, cO4, cO9, cO44, cO46, cO48] using hg3 4 _ rfl : DataW.trod enc Tryz.prog W base sp held n3 4 [u14] = some y3_4)
     have q15 := (by simpa [cO3, cO4, cO9, cO44, cO46, cO48] using hg0 6 _ rfl : DataW.trod enc Tryz.prog W base sp held n0 48 [u15, u16, u17, u18, u19] = some y0_6)
     obtain ⟨xs4, n4, _, _, _, hlen4, hg4⟩ := DataW.trod_struct Tryz.underlying48 q15
     match xs4, hlen4 with
     | [y4_0, y4_1, y4_2, y4_3, y4_4], _ =>
      obtain ⟨x15, e15, _, _⟩ := DataW.trod_string Tryz.underlying9 (by simpa [cO3, cO4, cO9, cO44, cO46, cO48] using hg4 0 _ rfl : DataW.trod enc Tryz.prog W base sp held n4 9 [u15] = some y4_0)
      obtain ⟨x16, e16, _, w16⟩ := DataW.trod_int Tryz.underlying3 (by simpa [cO3, cO4, cO9, cO44, cO46, cO48] using hg4 1 _ rfl : DataW.trod enc Tryz.prog W base sp held n4 3 [u16] = some y4_1)
      obtain ⟨x17, e17, _, w17⟩ := DataW.trod_int Tryz.underlying3 (by simpa [cO3, cO4, cO9, cO44, cO46, cO48] using hg4 2 _ rfl : DataW.trod enc Tryz.prog W base sp held n4 3 [u17] = some y4_2)
      obtain ⟨x18, e18, _⟩ := DataW.trod_bool Tryz.underlying4 (by simpa [cO3, cO4, cO9, cO44, cO46, cO48] using hg4 3 _ rfl : DataW.trod enc Tryz.prog W base sp held n4 4 [u18] = some y4_3)
      obtain ⟨x19, e19, _⟩ := DataW.trod_bool Tryz.underlying4 (by simpa [cO3, cO4, cO9, cO44, cO46, cO48] using hg4 4 _ rfl : DataW.trod enc Tryz.prog W base sp held n4 4 [u19] = some y4_4)
      simp only [List.cons.injEq, and_true] at e0 e1 e2 e3 e4 e5 e6 e7 e8 e9 e10 e11 e12 e13 e14 e15 e16 e17 e18 e19
      subst e0 e1 e2 e3 e4 e5 e6 e7 e8 e9 e10 e11 e12 e13 e14 e15 e16 e17 e18 e19
      exact ⟨⟨x0, ⟨x1, ⟨x2, x3⟩, x4, x5, x6⟩, x7, x8, x9, ⟨x10, x11, x12, x13, x14⟩, ⟨x15, x16, x17, x18, x19⟩⟩, rfl, bounds_i64 w7, bounds_i64 w9, by unfold maxLen at z4; omega⟩
theorem open_nodesz {ts : List TypeId} {ds : List (DataW H)} {j : Nat} (hv : Value.okWide Tryz.prog W .any b0 22 v) (h : DataW.Trod enc Tryz.prog W base sp held 22 v d p)
 (hsz : (DataW.weightsEach Tryz.prog ts ds).all (· ≤ reachBytes) = true) (ht : ts[j]? = some 22) (hd : ds[j]? = some d) :
 ∃ (A : Option Addr) (c : Nat) (l : List S50), v = .slice A l.length c ∧ Kd.C k50 W A l.length l ∧ l.length ≤ c ∧ l.length * 176 ≤ 140737488351232 ∧ Sz l := by
 have c50 : Tryz.prog.cellsOf 50 = 20 := by kernel_rfl
 have hb : Tryz.prog.bytesOf 50 = 176 := by kernel_rfl
 obtain ⟨A, len, cap, rfl⟩ := okWide_slice Tryz.underlying22 hv
 obtain ⟨fuel, hf⟩ := h
 rcases Deep.open_slice Tryz.underlying22 hf with ⟨hcs, _⟩ | ⟨a, len', cap', m, n, D, Pl, hcs, _, hl, hm, hmm, hx, hi⟩
 ·simp [Value.cells] at hcs
  obtain ⟨rfl, rfl, rfl⟩ := hcs
  exact ⟨none, 0, [], rfl, ⟨rfl, by simp, fun h => by simp at h⟩, by simp, by simp, fun x hx => by cases hx⟩
 ·simp [Value.cells] at hcs
  obtain ⟨rfl, rfl, rfl⟩ := hcs
  have hlm : len ≤ m := by rw [hmm]; split <;> omega
  obtain ⟨l, hll, hlr⟩ := list_ofz (R := fun i (x : S50) => (∀ (q : Nat) u, ([.int .i64 x.f0, .int .i64 x.f1.f0, .int .i64 x.f1.f1.f0, .int .i64 x.f1.f1.f1, .string x.f1.f2, .bool x.f1.f3, .int .i64 x.f1.f4, .int .i64 x.f2, .string x.f3, .int .i64 x.f4, .string x.f5.f0, .int .i64 x.f5.f1, .int .i64 x.f5.f2, .bool x.f5.f3, .bool x.f5.f4, .string x.f6.f0, .int .i64 x.f6.f1, .int .i64 x.f6.f2, .bool x.f6.f3, .bool x.f6.f4] : List Value)[q]? = some u → W.cell? (a.add (i * 20 + q)) = some u) ∧ x.f1.f2.size ≤ 9223372036854775807) (n := len) (fun i hin => by
   obtain ⟨cs', hc, ht'⟩ := hi i (by omega)
   rw [c50] at hc
   obtain ⟨_, hcl, hat⟩ := World.cells?_some hc
   match cs', hcl with
   | [u0, u1, u2, u3, u4, u5, u6, u7, u8, u9, u10, u11, u12, u13, u14, u15, u16, u17, u18, u19], _ =>
    obtain ⟨x, e, _, _, hzz⟩ := open_nodez ht'
    refine ⟨x, fun q u hq => ?_, hzz⟩
    rw [← e] at hq
    obtain ⟨hq20, -⟩ := List.getElem?_eq_some_iff.1 hq
    have hz := hat q (by simpa using hq20)
    rw [Deep.add_add] at hz
    exact hz.trans hq)
  subst hll
  refine ⟨some a, cap, l, rfl, ⟨rfl, by unfold maxLen at hm; omega, fun _ => ⟨a, rfl, fun i x hix => ⟨[.int .i64 x.f0, .int .i64 x.f1.f0, .int .i64 x.f1.f1.f0, .int .i64 x.f1.f1.f1, .string x.f1.f2, .bool x.f1.f3, .int .i64 x.f1.f4, .int .i64 x.f2, .string x.f3, .int .i64 x.f4, .string x.f5.f0, .int .i64 x.f5.f1, .int .i64 x.f5.f2, .bool x.f5.f3, .bool x.f5.f4, .string x.f6.f0, .int .i64 x.f6.f1, .int .i64 x.f6.f2, .bool x.f6.f3, .bool x.f6.f4], rfl, k50_mk W x, fun q u hq => (hlr i x hix).1 q u hq⟩⟩⟩, hl, ?_, fun x hx => by obtain ⟨i, hi', rfl⟩ := List.getElem_of_mem hx; exact (hlr i _ (List.getElem?_eq_getElem hi')).2⟩
  obtain ⟨hx, _⟩ := Prod.mk.inj hx
  subst hx
  have z := sized_slice hsz ht hd Tryz.underlying22
  rw [hb] at z
  have h1 : l.length ≤ ((List.range l.length).map D).length + ((List.range (m - l.length)).map fun j => D (l.length + j)).length := by simp
  exact Nat.le_trans (Nat.mul_le_mul_right _ h1) z
end
end
end Go.Proofs.YtejbbceidnaloaaGreatDoor.R
