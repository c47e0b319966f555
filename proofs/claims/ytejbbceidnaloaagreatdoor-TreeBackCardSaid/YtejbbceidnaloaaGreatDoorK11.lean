import Derived.Test.YtejbbceidnaloaaGreatDoorK10
namespace Go.Proofs.YtejbbceidnaloaaGreatDoor.R
open Go.ChangeShapes Go.WideShapes Go.ChangeAt Go.RowKit Go.Proofs.YtejbbceidnaloaaGreatDoor.P Go.Proofs.YtejbbceidnaloaaGreatDoorW.PrintWords
set_option linter.unusedVariables false
set_option linter.unusedSimpArgs false
section
set_option maxRecDepth 100000
section
variable {H : Type} {enc : TypeId × Value → H} {W : World} {b0 base : Nat} {sp : Nat → Bool} {held : Bool} {v : Value} {d : DataW H} {p : List MemPlace}
theorem list_of {α : Type} {R : Nat → α → Prop} : ∀ {n : Nat}, (∀ i, i < n → ∃ x, R i x) → ∃ l : List α, l.length = n ∧ ∀ i x, l[i]? = some x → R i x := by
  intro n
  induction n with
  | zero => intro _; exact ⟨[], rfl, fun i x h => by simp at h⟩
  | succ n ih =>
    intro h
    obtain ⟨l, hl, hr⟩ := ih (fun i hi => h i (by omega))
    obtain ⟨x, hx⟩ := h n (by omega)
    refine ⟨l ++ [x], by simp [hl], fun i y hy => ?_⟩
    by_cases hi : i < l.length
    · rw [List.getElem?_append_left hi] at hy; exact hr i y hy
    · rw [List.getElem?_append_right (by omega)] at hy
      have : i - l.length = 0 := by
        rcases Nat.eq_zero_or_pos (i - l.length) with h0 | h0
        · exact h0
        · rw [List.getElem?_eq_none (by simp; omega)] at hy; cases hy
      rw [this] at hy
      simp at hy
      subst hy
      obtain rfl : i = n := by omega
      exact hx
def in64 (n : Int) : Prop := -9223372036854775808 ≤ n ∧ n ≤ 9223372036854775807
theorem open_node {n' : Nat} {u0 u1 u2 u3 u4 u5 u6 u7 u8 u9 u10 u11 u12 u13 u14 u15 u16 u17 u18 u19 : Value} {y : DataW H × List MemPlace} (ht' : DataW.trod enc Tryz.prog W base sp held n' 50 [u0, u1, u2, u3, u4, u5, u6, u7, u8, u9, u10, u11, u12, u13, u14, u15, u16, u17, u18, u19] = some y) :
    ∃ x : S50, [u0, u1, u2, u3, u4, u5, u6, u7, u8, u9, u10, u11, u12, u13, u14, u15, u16, u17, u18, u19] = [.int .i64 x.f0, .int .i64 x.f1.f0, .int .i64 x.f1.f1.f0, .int .i64 x.f1.f1.f1, .string x.f1.f2, .bool x.f1.f3, .int .i64 x.f1.f4, .int .i64 x.f2, .string x.f3, .int .i64 x.f4, .string x.f5.f0, .int .i64 x.f5.f1, .int .i64 x.f5.f2, .bool x.f5.f3, .bool x.f5.f4, .string x.f6.f0, .int .i64 x.f6.f1, .int .i64 x.f6.f2, .bool x.f6.f3, .bool x.f6.f4] ∧ in64 x.f2 ∧ in64 x.f4 := by
  have cO3 : Tryz.prog.cellsOf 3 = 1 := by kernel_rfl
  have cO4 : Tryz.prog.cellsOf 4 = 1 := by kernel_rfl
  have cO9 : Tryz.prog.cellsOf 9 = 1 := by kernel_rfl
  have cO44 : Tryz.prog.cellsOf 44 = 2 := by kernel_rfl
  have cO46 : Tryz.prog.cellsOf 46 = 6 := by kernel_rfl
  have cO48 : Tryz.prog.cellsOf 48 = 5 := by kernel_rfl
  obtain ⟨xs0, n0, _, _, _, hlen0, hg0⟩ := DataW.trod_struct Tryz.underlying50 ht'
  match xs0, hlen0 with
  | [y0_0, y0_1, y0_2, y0_3, y0_4, y0_5, y0_6], _ =>
    obtain ⟨x0, e0, _, w0⟩ := DataW.trod_int Tryz.underlying3 (by simpa [cO3, cO4, cO9, cO44, cO46, cO48] using hg0 0 _ rfl : DataW.trod enc Tryz.prog W base sp held n0 3 [u0] = some y0_0)
    have q1 := (by simpa [cO3, cO4, cO9, cO44, cO46, cO48] using hg0 1 _ rfl : DataW.trod enc Tryz.prog W base sp held n0 46 [u1, u2, u3, u4, u5, u6] = some y0_1)
    obtain ⟨xs1, n1, _, _, _, hlen1, hg1⟩ := DataW.trod_struct Tryz.underlying46 q1
    match xs1, hlen1 with
    | [y1_0, y1_1, y1_2, y1_3, y1_4], _ =>
      obtain ⟨x1, e1, _, w1⟩ := DataW.trod_int Tryz.underlying3 (by simpa [cO3, cO4, cO9, cO44, cO46, cO48] using hg1 0 _ rfl : DataW.trod enc Tryz.prog W base sp held n1 3 [u1] = some y1_0)
      have q2 := (by simpa [cO3, cO4, cO9, cO44, cO46, cO48] using hg1 1 _ rfl : DataW.trod enc Tryz.prog W base sp held n1 44 [u2, u3] = some y1_1)
      obtain ⟨xs2, n2, _, _, _, hlen2, hg2⟩ := DataW.trod_struct Tryz.underlying44 q2
      match xs2, hlen2 with
      | [y2_0, y2_1], _ =>
        obtain ⟨x2, e2, _, w2⟩ := DataW.trod_int Tryz.underlying3 (by simpa [cO3, cO4, cO9, cO44, cO46, cO48] using hg2 0 _ rfl : DataW.trod enc Tryz.prog W base sp held n2 3 [u2] = some y2_0)
        obtain ⟨x3, e3, _, w3⟩ := DataW.trod_int Tryz.underlying3 (by simpa [cO3, cO4, cO9, cO44, cO46, cO48] using hg2 1 _ rfl : DataW.trod enc Tryz.prog W base sp held n2 3 [u3] = some y2_1)
        obtain ⟨x4, e4, _, _⟩ := DataW.trod_string Tryz.underlying9 (by simpa [cO3, cO4, cO9, cO44, cO46, cO48] using hg1 2 _ rfl : DataW.trod enc Tryz.prog W base sp held n1 9 [u4] = some y1_2)
        obtain ⟨x5, e5, _⟩ := DataW.trod_bool Tryz.underlying4 (by simpa [cO3, cO4, cO9, cO44, cO46, cO48] using hg1 3 _ rfl : DataW.trod enc Tryz.prog W base sp held n1 4 [u5] = some y1_3)
        obtain ⟨x6, e6, _, w6⟩ := DataW.trod_int Tryz.underlying3 (by simpa [cO3, cO4, cO9, cO44, cO46, cO48] using hg1 4 _ rfl : DataW.trod enc Tryz.prog W base sp held n1 3 [u6] = some y1_4)
        obtain ⟨x7, e7, _, w7⟩ := DataW.trod_int Tryz.underlying3 (by simpa [cO3, cO4, cO9, cO44, cO46, cO48] using hg0 2 _ rfl : DataW.trod enc Tryz.prog W base sp held n0 3 [u7] = some y0_2)
        obtain ⟨x8, e8, _, _⟩ := DataW.trod_string Tryz.underlying9 (by simpa [cO3, cO4, cO9, cO44, cO46, cO48] using hg0 3 _ rfl : DataW.trod enc Tryz.prog W base sp held n0 9 [u8] = some y0_3)
        obtain ⟨x9, e9, _, w9⟩ := DataW.trod_int Tryz.underlying3 (by simpa [cO3, cO4, cO9, cO44, cO46, cO48] using hg0 4 _ rfl : DataW.trod enc Tryz.prog W base sp held n0 3 [u9] = some y0_4)
        have q10 := (by simpa [cO3, cO4, cO9, cO44, cO46, cO48] using hg0 5 _ rfl : DataW.trod enc Tryz.prog W base sp held n0 48 [u10, u11, u12, u13, u14] = some y0_5)
        obtain ⟨xs3, n3, _, _, _, hlen3, hg3⟩ := DataW.trod_struct Tryz.underlying48 q10
        match xs3, hlen3 with
        | [y3_0, y3_1, y3_2, y3_3, y3_4], _ =>
          obtain ⟨x10, e10, _, _⟩ := DataW.trod_string Tryz.underlying9 (by simpa [cO3, cO4, cO9, cO44, cO46, cO48] using hg3 0 _ rfl : DataW.trod enc Tryz.prog W base sp held n3 9 [u10] = some y3_0)
          obtain ⟨x11, e11, _, w11⟩ := DataW.trod_int Tryz.underlying3 (by simpa [cO3, cO4, cO9, cO44, cO46, cO48] using hg3 1 _ rfl : DataW.trod enc Tryz.prog W base sp held n3 3 [u11] = some y3_1)
          obtain ⟨x12, e12, _, w12⟩ := DataW.trod_int Tryz.underlying3 (by simpa [cO3, cO4, cO9, cO44, cO46, cO48] using hg3 2 _ rfl : DataW.trod enc Tryz.prog W base sp held n3 3 [u12] = some y3_2)
          obtain ⟨x13, e13, _⟩ := DataW.trod_bool Tryz.underlying4 (by simpa [cO3, cO4, cO9, cO44, cO46, cO48] using hg3 3 _ rfl : DataW.trod enc Tryz.prog W base sp held n3 4 [u13] = some y3_3)
          obtain ⟨x14, e14, _⟩ := DataW.trod_bool Tryz.underlying4 (by simpa [cO3, cO4, cO9, cO44, cO46, cO48] using hg3 4 _ rfl : DataW.trod enc Tryz.prog W base sp held n3 4 [u14] = some y3_4)
          have q15 := (by simpa [cO3, cO4, cO9, cO44, cO46, cO48] using hg0 6 _ rfl : DataW.trod enc Tryz.prog W base sp held n0 48 [u15, u16, u17, u18, u19] = some y0_6)
          obtain ⟨xs4, n4, _, _, _, hlen4, hg4⟩ := DataW.trod_struct Tryz.underlying48 q15
          match xs4, hlen4 with
          | [y4_0, y4_1, y4_2, y4_3, y4_4], _ =>
            obtain ⟨x15, e15, _, _⟩ := DataW.trod_string Tryz.underlying9 (by simpa [cO3, cO4, cO9, cO44, cO46, cO48] using hg4 0 _ rfl : DataW.trod enc Tryz.prog W base sp held n4 9 [u15] = some y4_0)
            obtain ⟨x16, e16, _, w16⟩ := DataW.trod_int Tryz.underlying3 (by simpa [cO3, cO4, cO9, cO44, cO46, cO48] using hg4 1 _ rfl : DataW.trod enc Tryz.prog W base sp held n4 3 [u16] = some y4_1)
            obtain ⟨x17, e17, _, w17⟩ := DataW.trod_int Tryz.underlying3 (by simpa [cO3, cO4, cO9, cO44, cO46, cO48] using hg4 2 _ rfl : DataW.trod enc Tryz.prog W base sp held n4 3 [u17] = some y4_2)
            obtain ⟨x18, e18, _⟩ := DataW.trod_bool Tryz.underlying4 (by simpa [cO3, cO4, cO9, cO44, cO46, cO48] using hg4 3 _ rfl : DataW.trod enc Tryz.prog W base sp held n4 4 [u18] = some y4_3)
            obtain ⟨x19, e19, _⟩ := DataW.trod_bool Tryz.underlying4 (by simpa [cO3, cO4, cO9, cO44, cO46, cO48] using hg4 4 _ rfl : DataW.trod enc Tryz.prog W base sp held n4 4 [u19] = some y4_4)
            simp only [List.cons.injEq, and_true] at e0 e1 e2 e3 e4 e5 e6 e7 e8 e9 e10 e11 e12 e13 e14 e15 e16 e17 e18 e19
            subst e0 e1 e2 e3 e4 e5 e6 e7 e8 e9 e10 e11 e12 e13 e14 e15 e16 e17 e18 e19
            exact ⟨⟨x0, ⟨x1, ⟨x2, x3⟩, x4, x5, x6⟩, x7, x8, x9, ⟨x10, x11, x12, x13, x14⟩, ⟨x15, x16, x17, x18, x19⟩⟩, rfl, bounds_i64 w7, bounds_i64 w9⟩
theorem open_nodes {ts : List TypeId} {ds : List (DataW H)} {j : Nat} (hv : Value.okWide Tryz.prog W .any b0 22 v) (h : DataW.Trod enc Tryz.prog W base sp held 22 v d p)
    (hsz : (DataW.weightsEach Tryz.prog ts ds).all (· ≤ reachBytes) = true) (ht : ts[j]? = some 22) (hd : ds[j]? = some d) :
    ∃ (A : Option Addr) (c : Nat) (l : List S50), v = .slice A l.length c ∧ Kd.C k50 W A l.length l ∧ l.length ≤ c ∧ l.length * 176 ≤ 140737488351232 := by
  have c50 : Tryz.prog.cellsOf 50 = 20 := by kernel_rfl
  have hb : Tryz.prog.bytesOf 50 = 176 := by kernel_rfl
  obtain ⟨A, len, cap, rfl⟩ := okWide_slice Tryz.underlying22 hv
  obtain ⟨fuel, hf⟩ := h
  rcases Deep.open_slice Tryz.underlying22 hf with ⟨hcs, _⟩ | ⟨a, len', cap', m, n, D, Pl, hcs, _, hl, hm, hmm, hx, hi⟩
  · simp [Value.cells] at hcs
    obtain ⟨rfl, rfl, rfl⟩ := hcs
    exact ⟨none, 0, [], rfl, ⟨rfl, by simp, fun h => by simp at h⟩, by simp, by simp⟩
  · simp [Value.cells] at hcs
    obtain ⟨rfl, rfl, rfl⟩ := hcs
    have hlm : len ≤ m := by rw [hmm]; split <;> omega
    obtain ⟨l, hll, hlr⟩ := list_of (R := fun i (x : S50) => ∀ (q : Nat) u, ([.int .i64 x.f0, .int .i64 x.f1.f0, .int .i64 x.f1.f1.f0, .int .i64 x.f1.f1.f1, .string x.f1.f2, .bool x.f1.f3, .int .i64 x.f1.f4, .int .i64 x.f2, .string x.f3, .int .i64 x.f4, .string x.f5.f0, .int .i64 x.f5.f1, .int .i64 x.f5.f2, .bool x.f5.f3, .bool x.f5.f4, .string x.f6.f0, .int .i64 x.f6.f1, .int .i64 x.f6.f2, .bool x.f6.f3, .bool x.f6.f4] : List Value)[q]? = some u → W.cell? (a.add (i * 20 + q)) = some u) (n := len) (fun i hin => by
      obtain ⟨cs', hc, ht'⟩ := hi i (by omega)
      rw [c50] at hc
      obtain ⟨_, hcl, hat⟩ := World.cells?_some hc
      match cs', hcl with
      | [u0, u1, u2, u3, u4, u5, u6, u7, u8, u9, u10, u11, u12, u13, u14, u15, u16, u17, u18, u19], _ =>
        obtain ⟨x, e, _⟩ := open_node ht'
        refine ⟨x, fun q u hq => ?_⟩
        rw [← e] at hq
        obtain ⟨hq20, -⟩ := List.getElem?_eq_some_iff.1 hq
        have hz := hat q (by simpa using hq20)
        rw [Deep.add_add] at hz
        exact hz.trans hq)
    subst hll
    refine ⟨some a, cap, l, rfl, ⟨rfl, by unfold maxLen at hm; omega, fun _ => ⟨a, rfl, fun i x hix => ⟨[.int .i64 x.f0, .int .i64 x.f1.f0, .int .i64 x.f1.f1.f0, .int .i64 x.f1.f1.f1, .string x.f1.f2, .bool x.f1.f3, .int .i64 x.f1.f4, .int .i64 x.f2, .string x.f3, .int .i64 x.f4, .string x.f5.f0, .int .i64 x.f5.f1, .int .i64 x.f5.f2, .bool x.f5.f3, .bool x.f5.f4, .string x.f6.f0, .int .i64 x.f6.f1, .int .i64 x.f6.f2, .bool x.f6.f3, .bool x.f6.f4], rfl, k50_mk W x, fun q u hq => hlr i x hix q u hq⟩⟩⟩, hl, ?_⟩
    obtain ⟨hx, _⟩ := Prod.mk.inj hx
    subst hx
    have z := sized_slice hsz ht hd Tryz.underlying22
    rw [hb] at z
    have h1 : l.length ≤ ((List.range l.length).map D).length + ((List.range (m - l.length)).map fun j => D (l.length + j)).length := by simp
    exact Nat.le_trans (Nat.mul_le_mul_right _ h1) z
end
end
end Go.Proofs.YtejbbceidnaloaaGreatDoor.R
