import Derived.Test.YtejbbceidnaloaaGreatDoorV35
set_option linter.unusedVariables false
set_option linter.unusedSimpArgs false
set_option maxRecDepth 100000
set_option maxHeartbeats 8000000
namespace Go.Proofs.YtejbbceidnaloaaGreatDoor.P
open Go.RowKit AW AL AM
def Nds.f (k : Nat) (a0 : ByteArray) : Option (Int × Int × Int × ByteArray × Bool × Int) := (Na5.f k a0).bind fun t102 => (if t102 = true then (if (a0.size : Int) > 256 then ((Nb1.f 7).bind fun bt103 => (some (bt103.1, bt103.2.1, bt103.2.2.1, bt103.2.2.2.1, bt103.2.2.2.2.1, bt103.2.2.2.2.2))) else (some (2, 0, 0, a0, false, 0))) else ((Nb1.f 2).bind fun bt109 => (some (bt109.1, bt109.2.1, bt109.2.2.1, bt109.2.2.2.1, bt109.2.2.2.2.1, bt109.2.2.2.2.2))))
theorem Nds.calls (k : Nat) (a0 : ByteArray) (r1 r2 r3 : Int) (r4 : ByteArray) (r5 : Bool) (r6 : Int) (w : World) (h : Nds.f k a0 = some (r1, r2, r3, r4, r5, r6)) :
 Calls Tryz.prog 182 #[.string a0] w fun e w' => e = .returned (.agg #[.int .i64 r1, .int .i64 r2, .int .i64 r3, .string r4, .bool r5, .int .i64 r6]) ∧ Below w.heap.size w w' := by
 have hu46 := Tryz.underlying46
 have HB := aM (Below.refl w.heap.size w)
 have H := h
 unfold Nds.f at H
 clear h
 replace H := bS H
 obtain ⟨t102, A20, H⟩ := H
 try dsimp only at H
 have A2 := aM A20
 clear A20
 by_cases c3 : t102 = true
 ·subst c3
  rw [if_pos rfl] at H
  by_cases c4 : (a0.size : Int) > 256
  ·rw [if_pos c4] at H
   have c4b0 : decide (256 < (a0.size : Int)) = true := decide_eq_true c4
   have c4b1 : decide (256 < a0.size) = true := decide_eq_true (by omega)
   clear c4
   replace H := bS H
   obtain ⟨⟨t103, t104, t105, t106, t107, t108⟩, A50, H⟩ := H
   try dsimp only at H
   have A5 := aM A50
   clear A50
   simp only [sJ, pJ] at H
   obtain ⟨rfl, rfl, rfl, rfl, rfl, rfl⟩ := H
   go_enter Tryz.func182, Tryz.ntmps182
   go_wp2_with (first | ((with_reducible refine gD 2 rfl ?_); refine bX 2 #[.int .i64 0, .int .i64 0, .int .i64 0, .string ⟨#[]⟩, .bool false, .int .i64 0] 46 ?_; intro gb101 hg w6 hbox hb; replace HB := bK w hbox hg hb; obtain ⟨BK101, GW101, HB⟩ := HB; have GE101 := GW101; clear hb hbox hg) | ((with_reducible refine gC 134 rfl ?_); refine gL 5 Tryz.func134 #[.string a0] ?_; (with_reducible refine (Na5.calls k a0 true _ A2.out).mono ?_); rintro e w' ⟨rfl, ⟨nd, rfl⟩⟩; refine ⟨_, rfl, ?_⟩; (try (rw [Ncx w6]; generalize hq_ : World.drewN w6 _ = w6; have n0_ : Nah (w6.heap[gb101]? = some (.cells #[.int .i64 0, .int .i64 0, .int .i64 0, .string ⟨#[]⟩, .bool false, .int .i64 0] 46 (0, 0))) := ⟨by rw [← hq_]; exact (bd BK101.out)⟩; have n1_ : Nah (Below w.heap.size w w6) := ⟨by rw [← hq_]; exact bE⟩; clear BK101 HB hq_; have BK101 := n0_; have HB := n1_; clear n0_ n1_))) | ((with_reducible refine gC 62 rfl ?_); refine gL 12 Tryz.func62 #[.int .i64 7] ?_; (with_reducible refine (Nb1.calls 7 t103 t104 t105 t106 t107 t108 _ A5.out).mono ?_); rintro e w7 ⟨rfl, hb⟩; refine ⟨_, rfl, ?_⟩; replace BK101 := aM (Nac (g := gb101) (o := .cells #[.int .i64 0, .int .i64 0, .int .i64 0, .string ⟨#[]⟩, .bool false, .int .i64 0] 46 (0, 0)) (bd BK101.out) hb); replace HB := aM (Nab bE hb); (try clear hb); obtain ⟨hcz8_0, hcz8_1, hcz8_2, hcz8_3, hcz8_4, hcz8_5, hfz8_0, hfz8_1, hfz8_2, hfz8_3, hfz8_4, hfz8_5⟩ := bc6 BK101.out))
   refine bodyPost_ret (results_cell_row rfl _ _ gb101 46 #[.int .i64 t103, .int .i64 t104, .int .i64 t105, .string t106, .bool t107, .int .i64 t108] (0, 0) _ rfl (bP BK101.out) Tryz.underlying46 rfl (by kernel_rfl)) rfl ?_
   exact ⟨eR, bE⟩
  ·rw [if_neg c4] at H
   have c4b0 : decide (256 < (a0.size : Int)) = false := decide_eq_false c4
   have c4b1 : decide (256 < a0.size) = false := decide_eq_false (by omega)
   clear c4
   simp only [sJ, pJ] at H
   obtain ⟨rfl, rfl, rfl, rfl, rfl, rfl⟩ := H
   go_enter Tryz.func182, Tryz.ntmps182
   go_wp2_with (first | ((with_reducible refine gD 2 rfl ?_); refine bX 2 #[.int .i64 0, .int .i64 0, .int .i64 0, .string ⟨#[]⟩, .bool false, .int .i64 0] 46 ?_; intro gb101 hg w9 hbox hb; replace HB := bK w hbox hg hb; obtain ⟨BK101, GW101, HB⟩ := HB; have GE101 := GW101; clear hb hbox hg) | ((with_reducible refine gC 134 rfl ?_); refine gL 5 Tryz.func134 #[.string a0] ?_; (with_reducible refine (Na5.calls k a0 true _ A2.out).mono ?_); rintro e w' ⟨rfl, ⟨nd, rfl⟩⟩; refine ⟨_, rfl, ?_⟩; (try (rw [Ncx w9]; generalize hq_ : World.drewN w9 _ = w9; have n0_ : Nah (w9.heap[gb101]? = some (.cells #[.int .i64 0, .int .i64 0, .int .i64 0, .string ⟨#[]⟩, .bool false, .int .i64 0] 46 (0, 0))) := ⟨by rw [← hq_]; exact (bd BK101.out)⟩; have n1_ : Nah (Below w.heap.size w w9) := ⟨by rw [← hq_]; exact bE⟩; clear BK101 HB hq_; have BK101 := n0_; have HB := n1_; clear n0_ n1_)); obtain ⟨hcz10_0, hcz10_1, hcz10_2, hcz10_3, hcz10_4, hcz10_5, hfz10_0, hfz10_1, hfz10_2, hfz10_3, hfz10_4, hfz10_5⟩ := bc6 BK101.out))
   refine bodyPost_ret (results_cell_row rfl _ _ gb101 46 #[.int .i64 2, .int .i64 0, .int .i64 0, .string a0, .bool false, .int .i64 0] (0, 0) _ rfl (bP BK101.out) Tryz.underlying46 rfl (by kernel_rfl)) rfl ?_
   exact ⟨eR, bE⟩
 ·replace c3 := Bool.eq_false_iff.mpr c3
  subst c3
  rw [if_neg fT] at H
  replace H := bS H
  obtain ⟨⟨t109, t110, t111, t112, t113, t114⟩, A110, H⟩ := H
  try dsimp only at H
  have A11 := aM A110
  clear A110
  simp only [sJ, pJ] at H
  obtain ⟨rfl, rfl, rfl, rfl, rfl, rfl⟩ := H
  go_enter Tryz.func182, Tryz.ntmps182
  go_wp2_with (first | ((with_reducible refine gD 2 rfl ?_); refine bX 2 #[.int .i64 0, .int .i64 0, .int .i64 0, .string ⟨#[]⟩, .bool false, .int .i64 0] 46 ?_; intro gb101 hg w12 hbox hb; replace HB := bK w hbox hg hb; obtain ⟨BK101, GW101, HB⟩ := HB; have GE101 := GW101; clear hb hbox hg) | ((with_reducible refine gC 134 rfl ?_); refine gL 5 Tryz.func134 #[.string a0] ?_; (with_reducible refine (Na5.calls k a0 false _ A2.out).mono ?_); rintro e w' ⟨rfl, ⟨nd, rfl⟩⟩; refine ⟨_, rfl, ?_⟩; (try (rw [Ncx w12]; generalize hq_ : World.drewN w12 _ = w12; have n0_ : Nah (w12.heap[gb101]? = some (.cells #[.int .i64 0, .int .i64 0, .int .i64 0, .string ⟨#[]⟩, .bool false, .int .i64 0] 46 (0, 0))) := ⟨by rw [← hq_]; exact (bd BK101.out)⟩; have n1_ : Nah (Below w.heap.size w w12) := ⟨by rw [← hq_]; exact bE⟩; clear BK101 HB hq_; have BK101 := n0_; have HB := n1_; clear n0_ n1_))) | ((with_reducible refine gC 62 rfl ?_); refine gL 7 Tryz.func62 #[.int .i64 2] ?_; (with_reducible refine (Nb1.calls 2 t109 t110 t111 t112 t113 t114 _ A11.out).mono ?_); rintro e w13 ⟨rfl, hb⟩; refine ⟨_, rfl, ?_⟩; replace BK101 := aM (Nac (g := gb101) (o := .cells #[.int .i64 0, .int .i64 0, .int .i64 0, .string ⟨#[]⟩, .bool false, .int .i64 0] 46 (0, 0)) (bd BK101.out) hb); replace HB := aM (Nab bE hb); (try clear hb); obtain ⟨hcz14_0, hcz14_1, hcz14_2, hcz14_3, hcz14_4, hcz14_5, hfz14_0, hfz14_1, hfz14_2, hfz14_3, hfz14_4, hfz14_5⟩ := bc6 BK101.out))
  refine bodyPost_ret (results_cell_row rfl _ _ gb101 46 #[.int .i64 t109, .int .i64 t110, .int .i64 t111, .string t112, .bool t113, .int .i64 t114] (0, 0) _ rfl (bP BK101.out) Tryz.underlying46 rfl (by kernel_rfl)) rfl ?_
  exact ⟨eR, bE⟩
def Ner.f (a0 : Bool) : Option (Int × Int × Int × ByteArray × Bool × Int) := some (3, 0, 0, (⟨#[]⟩ : ByteArray), a0, 0)
theorem Ner.calls (a0 : Bool) (r1 r2 r3 : Int) (r4 : ByteArray) (r5 : Bool) (r6 : Int) (w : World) (h : Ner.f a0 = some (r1, r2, r3, r4, r5, r6)) :
 Calls Tryz.prog 187 #[.bool a0] w fun e w' => e = .returned (.agg #[.int .i64 r1, .int .i64 r2, .int .i64 r3, .string r4, .bool r5, .int .i64 r6]) ∧ Below w.heap.size w w' := by
 have hu46 := Tryz.underlying46
 have HB := aM (Below.refl w.heap.size w)
 have H := h
 unfold Ner.f at H
 clear h
 simp only [sJ, pJ] at H
 obtain ⟨rfl, rfl, rfl, rfl, rfl, rfl⟩ := H
 go_enter Tryz.func187, Tryz.ntmps187
 go_wp2_with (first | ((with_reducible refine gD 2 rfl ?_); refine bX 2 #[.int .i64 0, .int .i64 0, .int .i64 0, .string ⟨#[]⟩, .bool false, .int .i64 0] 46 ?_; intro gb101 hg w2 hbox hb; replace HB := bK w hbox hg hb; obtain ⟨BK101, GW101, HB⟩ := HB; have GE101 := GW101; clear hb hbox hg; obtain ⟨hcz3_0, hcz3_1, hcz3_2, hcz3_3, hcz3_4, hcz3_5, hfz3_0, hfz3_1, hfz3_2, hfz3_3, hfz3_4, hfz3_5⟩ := bc6 BK101.out))
 refine bodyPost_ret (results_cell_row rfl _ _ gb101 46 #[.int .i64 3, .int .i64 0, .int .i64 0, .string ⟨#[]⟩, .bool a0, .int .i64 0] (0, 0) _ rfl (bP BK101.out) Tryz.underlying46 rfl (by kernel_rfl)) rfl ?_
 exact ⟨eR, bE⟩
def Er (ts : List S39) (e : Int) {α : Type} (r : Res α) : Prop := ∀ c p, r = some (.error (c, p)) → (c = 50 ∨ c = 3) ∧ ∃ i, p = Nby ts e i
section
variable {ts : List S39} {e : Int}
theorem Er.none_ {α : Type} : Er ts e (none : Res α) := fun _ _ h => by cases h
theorem Er.ok {α : Type} (a : α) : Er ts e (okR a) := fun _ _ h => by cases h
theorem Er.er {α : Type} (i : Int) : Er ts e (erR 50 (Nby ts e i) : Res α) := fun _ _ h => by cases h; exact ⟨.inl rfl, i, rfl⟩
theorem Er.er3 {α : Type} (i : Int) : Er ts e (erR 3 (Nby ts e i) : Res α) := fun _ _ h => by cases h; exact ⟨.inr rfl, i, rfl⟩
theorem Er.bnd {α β : Type} {r : Res α} {f : α → Res β} (h : Er ts e r) (hf : ∀ a, Er ts e (f a)) : Er ts e (r.bnd f) := by
 intro c p hh
 cases r with
 | none => cases hh
 | some x =>
  cases x with
  | error q =>
   obtain ⟨c', p'⟩ := q
   have := h c' p' rfl
   cases hh
   exact this
  | ok a => exact hf a c p hh
theorem Er.ite {α : Type} {P : Prop} [Decidable P] {a b : Res α} (h1 : Er ts e a) (h2 : Er ts e b) : Er ts e (if P then a else b) := by split <;> assumption
end
section
variable (O : Ops) (ts : List S39) (e : Int)
theorem celF_er (i : Int) : Er ts e (celF O ts e i) := by
 unfold celF
 refine .ite ?_ (.er _)
 split
 ·exact .ok _
 ·exact .er _
theorem refF_er (s : ByteArray) (i : Int) : Er ts e (refF O ts e s i) := by
 unfold refF
 refine .bnd (celF_er O ts e i) fun a => ?_
 refine .ite (.bnd (celF_er O ts e _) fun b => .ok _) (.ok _)
theorem perF_er : ∀ (k : Nat) (out : List S50) (i : Int), Er ts e (perF ts k out i)
 | 0, _, _ => by rw [perF]; exact .none_
 | k + 1, out, i => by rw [perF]; exact .ite (perF_er k _ _) (.ok _)
theorem er_all : ∀ k : Nat, (∀ least i, Er ts e (binF O ts e k least i)) ∧ (∀ least l i, Er ts e (lopF O ts e k least l i)) ∧ (∀ i, Er ts e (sgnF O ts e k i)) ∧ (∀ i, Er ts e (parF O ts e k i)) ∧ (∀ w i, Er ts e (worF O ts e k w i)) ∧ (∀ m i, Er ts e (calF O ts e k m i)) ∧ (∀ m acc n i, Er ts e (argF O ts e k m acc n i)) := by
 intro k
 induction k with
 | zero =>
  refine ⟨?_, ?_, ?_, ?_, ?_, ?_, ?_⟩
  ·intro _ _; rw [binF]; exact .none_
  ·intro _ _ _; rw [lopF]; exact .none_
  ·intro _; rw [sgnF]; exact .none_
  ·intro _; rw [parF]; exact .none_
  ·intro _ _; rw [worF]; exact .none_
  ·intro _ _; rw [calF]; exact .none_
  ·intro _ _ _ _; rw [argF]; exact .none_
 | succ k ih =>
  obtain ⟨h1, h2, h3, h4, h5, h6, h7⟩ := ih
  refine ⟨?_, ?_, ?_, ?_, ?_, ?_, ?_⟩
  ·intro _ _; rw [binF]; exact .ite (h3 _) (.bnd (h1 _ _) fun a => h2 _ _ _)
  ·intro _ _ _; rw [lopF]; exact .ite (.ok _) (.bnd (h1 _ _) fun a => h2 _ _ _)
  ·intro _; rw [sgnF]; exact .ite (.bnd (h3 _) fun a => .ok _) (.ite (.bnd (h3 _) fun a => .ok _) (.bnd (h4 _) fun a => perF_er ts e _ _ _))
  ·intro _; rw [parF]
   refine .ite (.bnd (h1 _ _) fun a => .ite (.ok _) (.er _)) (.ite (.ite (h5 _ _) (.ite ?_ (.ite (.ite (.ok _) (.er _)) (.ite (.ok _) (.er _))))) (.er _))
   split
   ·exact .ok _
   ·exact .er _
  ·intro _ _; rw [worF]; exact .ite (h6 _ _) (.ite (.ite (refF_er O ts e _ _) (.er _)) (.ite (.ok _) (.ite (.ok _) (refF_er O ts e _ _))))
  ·intro _ _; rw [calF]; exact .ite (.ite (.ok _) (h7 _ _ _ _)) (.er _)
  ·intro _ _ _ _; rw [argF]; exact .bnd (h1 _ _) fun a => .ite (.ite (.er3 _) (h7 _ _ _ _)) (.ite (.ok _) (.er _))
theorem whole_er (k : Nat) : Er ts e (Neg O ts e k) := by
 unfold Neg
 exact .bnd ((er_all O ts e k).1 _ _) fun a => .ite (.er _) (.ok _)
theorem whole_fuel {k : Nat} (hk : 16 * ts.length + 12 ≤ k) : ∃ x, Neg O ts e k = some x := by
 obtain ⟨x, hx, _⟩ := (enough O ts e ts.length).1 (16 * ts.length + 12) 1 0 (by omega) (by omega) (by omega) (by omega) (by omega) (by omega)
 have : ∃ x, Neg O ts e (16 * ts.length + 12) = some x := by
  unfold Neg
  rw [hx]
  cases x with
  | error p => exact ⟨_, rfl⟩
  | ok p => obtain ⟨l, a⟩ := p; simp only [Res.bnd]; split <;> exact ⟨_, rfl⟩
 obtain ⟨y, hy⟩ := this
 exact ⟨y, wholeF_le O ts e hk hy⟩
end
def NumTx (l : List UInt8) : Prop := ∃ a, a ≠ [] ∧ (∀ c ∈ a, isDig c) ∧ (l = a ∨ ∃ b, b ≠ [] ∧ (∀ c ∈ b, isDig c) ∧ l = a ++ 46 :: b)
theorem digB_iff (c : UInt8) : digB ((c.toNat : Nat) : Int) = true ↔ isDig c := by
 unfold digB isDig
 rw [Bool.and_eq_true, decide_eq_true_eq, decide_eq_true_eq]
 omega
theorem runL_take (p : Int → Bool) : ∀ (l : List UInt8), ∀ c ∈ l.take (runL p l), p c.toNat = true
 | [], c, h => by simp at h
 | d :: r, c, h => by
  rw [runL] at h
  split at h
  ·rename_i hd
   rw [List.take_succ_cons] at h
   rcases List.mem_cons.1 h with rfl | h
   ·exact hd
   ·exact runL_take p r c h
  ·simp at h
theorem num_shape {c : UInt8} {r : List UInt8} (h : digB c.toNat = true) : NumTx ((c :: r).take (numLx (c :: r))) := by
 have hpos : 1 ≤ runL digB (c :: r) := by rw [runL, if_pos h]; omega
 have hle := Net digB (c :: r)
 have hda : ∀ x ∈ (c :: r).take (runL digB (c :: r)), isDig x := fun x hx => (digB_iff x).1 (runL_take digB _ x hx)
 have hne : (c :: r).take (runL digB (c :: r)) ≠ [] := by
  intro hh
  have := congrArg List.length hh
  rw [List.length_take, List.length_nil] at this
  omega
 generalize hl : c :: r = l at *
 refine ⟨l.take (runL digB l), hne, hda, ?_⟩
 unfold numLx
 split
 ·exact .inl rfl
 ·rename_i d q hq
  by_cases hc : d = 46 ∧ 0 < runL digB q
  ·rw [if_pos hc]
   refine .inr ⟨q.take (runL digB q), ?_, fun x hx => (digB_iff x).1 (runL_take digB _ x hx), ?_⟩
   ·intro hh
    have := congrArg List.length hh
    rw [List.length_take, List.length_nil] at this
    have := Net digB q
    omega
   ·have e : l = l.take (runL digB l) ++ (46 :: q) := by
     conv => lhs; rw [← List.take_append_drop (runL digB l) l, hq, hc.1]
    have hlen : (l.take (runL digB l)).length = runL digB l := by rw [List.length_take]; omega
    generalize hn : runL digB l = n at *
    generalize hA : l.take n = A at *
    rw [e, List.take_append, List.take_of_length_le (by omega), hlen, show n + (1 + runL digB q) - n = runL digB q + 1 by omega, List.take_succ_cons]
  ·rw [if_neg hc, Nat.add_zero]; exact .inl rfl
theorem replaceK_len (old new : List UInt8) (h : new.length ≤ old.length) : ∀ (k : Nat) (l : List UInt8), (Lib.replaceK old new k l).length ≤ l.length
 | 0, l => Nat.le_refl _
 | k + 1, l => by
  rcases Lib.index_spec l old with ⟨h1, _⟩ | ⟨i, h1, _⟩
  ·rw [Lib.replaceK, if_pos (by rw [h1]; rfl)]; exact Nat.le_refl _
  ·have hroom := Lib.index_room l old (by omega)
   rw [Lib.replaceK_hit _ _ _ _ _ h1]
   have ih := replaceK_len old new h k (l.drop (i + old.length))
   rw [List.length_drop] at ih
   simp only [List.length_append, List.length_take]
   omega
theorem undbl_len (l : List UInt8) : (undblL l).length ≤ l.length := by
 unfold undblL Lib.replaceAll Lib.replace
 rw [if_neg (by decide)]
 exact replaceK_len _ _ (by decide) _ _
structure TokOk (n : Nat) (t : S39) : Prop where
 size : t.f1.size ≤ n
 num : t.f0 = 1 → NumTx t.f1.data.toList
 flt : t.f0 = 4 → t.f1 ∈ Ncg
theorem fault_mem {b : List UInt8} (h : b ∈ Nc3) : (⟨b.toArray⟩ : ByteArray) ∈ Ncg := by
 unfold Nc3 at h
 obtain ⟨x, hx, rfl⟩ := List.mem_map.1 h
 rw [← list_text]; exact hx
theorem next_tok (c : UInt8) (r : List UInt8) (p : Int) (h : (nextL (c :: r)).2.2.2 = 0) : TokOk (c :: r).length ⟨(nextL (c :: r)).1, ⟨(nextL (c :: r)).2.1.toArray⟩, p⟩ := by
 have hb : ∀ L, (Nbn (c :: r) L).length ≤ (c :: r).length := by
  intro L
  obtain ⟨q, hq⟩ := Nd8 (c :: r) L
  have := congrArg List.length hq
  rw [List.length_append] at this
  omega
 rw [nextL] at h ⊢
 split
 ·rename_i hd
  exact ⟨by rw [Nal, List.length_take]; exact Nat.min_le_right _ _, fun _ => by simpa using num_shape hd, fun hh => absurd hh (show ¬ (1 : Int) = 4 by decide)⟩
 rename_i hd
 rw [if_neg hd] at h
 split
 ·refine ⟨?_, fun hh => absurd hh (show ¬ (2 : Int) = 1 by decide), fun hh => absurd hh (show ¬ (2 : Int) = 4 by decide)⟩
  show (⟨(quotL (c :: r)).1.toArray⟩ : ByteArray).size ≤ _
  rw [Nal]
  unfold quotL
  cases qend ((c :: r).drop 1) with
  | none => exact Nat.zero_le _
  | some e =>
   simp only
   cases badAt ((c :: r).take (e + 2)) with
   | some i => exact Nat.zero_le _
   | none =>
    have := undbl_len (((c :: r).drop 1).take e)
    rw [List.length_take, List.length_drop] at this
    show (undblL (((c :: r).drop 1).take e)).length ≤ _
    omega
 rename_i h34
 rw [if_neg h34] at h
 split
 ·exact ⟨by rw [Nal, List.length_take]; exact Nat.min_le_right _ _, fun hh => absurd hh (show ¬ (3 : Int) = 1 by decide), fun hh => absurd hh (show ¬ (3 : Int) = 4 by decide)⟩
 rename_i hl
 rw [if_neg hl] at h
 split
 ·rename_i h35
  rw [if_pos h35] at h
  split
  ·rename_i he
   rw [if_pos he] at h
   exact absurd h (by show ¬ (40 : Int) = 0; decide)
  ·rename_i he
   exact ⟨by rw [Nal]; exact hb _, fun hh => absurd hh (show ¬ (4 : Int) = 1 by decide), fun _ => fault_mem (begins_mem _ _ he)⟩
 ·split
  ·exact ⟨by rw [Nal]; exact hb _, fun hh => absurd hh (show ¬ (5 : Int) = 1 by decide), fun hh => absurd hh (show ¬ (5 : Int) = 4 by decide)⟩
  ·split
   ·exact ⟨by rw [Nal]; simp, fun hh => absurd hh (show ¬ (5 : Int) = 1 by decide), fun hh => absurd hh (show ¬ (5 : Int) = 4 by decide)⟩
   ·exact ⟨by rw [Nal]; simp, fun hh => absurd hh (show ¬ (0 : Int) = 1 by decide), fun hh => absurd hh (show ¬ (0 : Int) = 4 by decide)⟩
theorem TokOk.up {n m : Nat} {t : S39} (h : TokOk n t) (hm : n ≤ m) : TokOk m t := ⟨Nat.le_trans h.size hm, h.num, h.flt⟩
theorem scan_ok : ∀ (n : Nat) (l : List UInt8) (k p : Nat) (ts : List S39), l.length ≤ n → scanL k p l = .ok ts → ts.length ≤ l.length ∧ ∀ t ∈ ts, TokOk l.length t
 | n, l, 0, p, ts, hn, h => by cases h; exact ⟨Nat.zero_le _, fun t ht => by cases ht⟩
 | n, [], k + 1, p, ts, hn, h => by cases h; exact ⟨Nat.le_refl _, fun t ht => by cases ht⟩
 | 0, c :: r, k + 1, p, ts, hn, h => by simp at hn
 | n + 1, c :: r, k + 1, p, ts, hn, h => by
  simp only [List.length_cons] at hn
  rw [scanL] at h
  split at h
  ·obtain ⟨h1, h2⟩ := scan_ok n r k (p + 1) ts (by omega) h
   exact ⟨by simp; omega, fun t ht => (h2 t ht).up (by simp)⟩
  ·split at h
   ·rename_i h0
    have hl := next_len c r h0
    split at h
    ·rename_i us hu
     cases h
     obtain ⟨h1, h2⟩ := scan_ok n _ k _ us (by rw [List.length_drop, List.length_cons]; omega) hu
     rw [List.length_drop] at h1 h2
     refine ⟨by rw [List.length_cons]; omega, fun t ht => ?_⟩
     rcases List.mem_cons.1 ht with rfl | ht
     ·exact next_tok c r _ h0
     ·exact (h2 t ht).up (Nat.sub_le _ _)
    ·cases h
   ·cases h
theorem scan_er : ∀ (n : Nat) (l : List UInt8) (k p : Nat) (c q : Int), l.length ≤ n → scanL k p l = .error (c, q) → c ≠ 0
 | n, l, 0, p, c, q, hn, h => by cases h
 | n, [], k + 1, p, c, q, hn, h => by cases h
 | 0, d :: r, k + 1, p, c, q, hn, h => by simp at hn
 | n + 1, d :: r, k + 1, p, c, q, hn, h => by
  simp only [List.length_cons] at hn
  rw [scanL] at h
  split at h
  ·exact scan_er n r k (p + 1) c q (by omega) h
  ·split at h
   ·rename_i h0
    have hl := next_len d r h0
    split at h
    ·cases h
    ·rename_i e he
     cases h
     exact scan_er n _ k _ c q (by rw [List.length_drop, List.length_cons]; omega) he
   ·rename_i h0
    cases h
    exact h0
def numOf (l : List UInt8) : Option (Nat × Nat) :=
 match l.drop (runL digB l) with
 | [] => if Nck 0 (l.take (runL digB l)) ≤ 1000000000000000000 then mkN (Nck 0 (l.take (runL digB l))) 1 else none
 | _ :: b => if Nck 0 (l.take (runL digB l)) ≤ 1000000000000 ∧ b.length ≤ 6 then mkN (Nck 0 (l.take (runL digB l)) * 10 ^ b.length + Nck 0 b) (10 ^ b.length) else none
theorem runL_app (p : Int → Bool) : ∀ (a r : List UInt8), (∀ c ∈ a, p c.toNat = true) → (match r with | [] => True | c :: _ => p c.toNat = false) → runL p (a ++ r) = a.length
 | [], [], _, _ => rfl
 | [], c :: r, _, h => by simp only at h; rw [List.nil_append, runL, if_neg (by rw [h]; decide)]; rfl
 | c :: a, r, ha, h => by
  rw [List.cons_append, runL, if_pos (ha c (List.mem_cons_self ..)), runL_app p a r (fun x hx => ha x (List.mem_cons_of_mem _ hx)) h]
  rfl
theorem num_read {l : List UInt8} (h : NumTx l) (hl : l.length ≤ 10000) {K : Nat} (hK : 1000006 ≤ K) : Nbi.f K ⟨l.toArray⟩ = some (asRead (numOf l)) := by
 obtain ⟨a, h0, hd, h⟩ := h
 have hda : ∀ c ∈ a, digB ((c.toNat : Nat) : Int) = true := fun c hc => (digB_iff c).2 (hd c hc)
 rcases h with rfl | ⟨b, hb0, hdb, rfl⟩
 ·have hr := runL_app digB l [] hda trivial
  rw [List.append_nil] at hr
  unfold numOf
  rw [hr, List.drop_length, List.take_length]
  exact read_int hl h0 hd (by omega)
 ·have hr := runL_app digB a (46 :: b) hda (show digB (((46 : UInt8).toNat : Nat) : Int) = false by decide)
  unfold numOf
  rw [hr, List.drop_left, List.take_left]
  simp only [List.length_append, List.length_cons] at hl
  exact read_frac (by omega) h0 hb0 hd hdb hK
theorem mkN_ok {n d x y : Nat} (hd : 1 ≤ d) (h : mkN n d = some (x, y)) : numB (x : Int) (y : Int) = true := by
 unfold mkN at h
 split at h
 ·rename_i hb
  obtain ⟨hx, hy⟩ := Prod.mk.inj (sI h)
  have hg : 0 < Nat.gcd n d := Nat.gcd_pos_of_pos_right _ (by omega)
  have h1 : 0 < d / Nat.gcd n d := Nat.div_pos (Nat.le_of_dvd (by omega) (Nat.gcd_dvd_right n d)) hg
  have hc : Nat.gcd (n / Nat.gcd n d) (d / Nat.gcd n d) = 1 := by
   rw [Nat.gcd_div (Nat.gcd_dvd_left n d) (Nat.gcd_dvd_right n d), Nat.div_self hg]
  rw [hx, hy] at hb hc
  rw [hy] at h1
  unfold numB
  exact decide_eq_true ⟨by omega, by omega, by omega, by omega, hc⟩
 ·cases h
theorem numOf_ok {l : List UInt8} {x y : Nat} (h : numOf l = some (x, y)) : numB (x : Int) (y : Int) = true := by
 unfold numOf at h
 split at h
 ·split at h
  ·exact mkN_ok (by decide) h
  ·cases h
 ·split at h
  ·exact mkN_ok (Nat.pos_of_ne_zero (by simp)) h
  ·cases h
def faultIx (s : ByteArray) : Nat := Ncg.findIdx (· == s)
def theO : Ops where
 num := fun s => (numOf s.data.toList).map fun (n, d) => ⟨1, ⟨(n : Int), (d : Int)⟩, eB, false, 0⟩
 txt := fun s => if Ne2 s then ⟨2, ⟨0, 0⟩, s, false, 0⟩ else ⟨4, ⟨0, 0⟩, eB, false, 2⟩
 flt := fun s => ⟨4, ⟨0, 0⟩, eB, false, (faultIx s : Int) + 1⟩
 tru := fun b => ⟨3, ⟨0, 0⟩, eB, b, 0⟩
 cell := cellO
 fn := fnB
 sh := Nd3
theorem tokA_mem {ts : List S39} (i : Int) : tokA ts i = zT ∨ tokA ts i ∈ ts := by
 unfold tokA
 by_cases h : i.toNat < ts.length
 ·right
  have e : ts.getD i.toNat zT = ts[i.toNat] := by simp [List.getD, h]
  rw [e]
  exact List.getElem_mem h
 ·left
  have e : ts[i.toNat]? = none := List.getElem?_eq_none (by omega)
  simp [List.getD, e]
theorem tok_at {ts : List S39} {n : Nat} (h : ∀ t ∈ ts, TokOk n t) (i : Int) : TokOk n (tokA ts i) := by
 rcases tokA_mem (ts := ts) i with e | e
 ·rw [e]
  exact ⟨Nat.zero_le _, fun hh => absurd hh (show ¬ (0 : Int) = 1 by decide), fun hh => absurd hh (show ¬ (0 : Int) = 4 by decide)⟩
 ·exact h _ e
theorem flt_any {s : ByteArray} (h : s ∈ Ncg) (w : World) (hG : GL w) : Calls Tryz.prog 147 #[.string s] w fun en w' => en = .returned (vV (theO.flt s)) ∧ Below w.heap.size w w' := by
 unfold Ncg at h
 simp only [List.mem_cons, List.not_mem_nil, or_false] at h
 rcases h with rfl | rfl | rfl | rfl | rfl | rfl | rfl | rfl
 ·exact Ndg 0 ⟨#[35, 68, 73, 86, 47, 48, 33]⟩ 1 1 (by simp [Ney]) w hG
 ·exact Ndg 1 ⟨#[35, 86, 65, 76, 85, 69, 33]⟩ 2 2 (by simp [Ney]) w hG
 ·exact Ndg 2 ⟨#[35, 82, 69, 70, 33]⟩ 3 3 (by simp [Ney]) w hG
 ·exact Ndg 3 ⟨#[35, 78, 85, 77, 33]⟩ 4 4 (by simp [Ney]) w hG
 ·exact Ndg 4 ⟨#[35, 78, 47, 65]⟩ 5 5 (by simp [Ney]) w hG
 ·exact Ndg 5 ⟨#[35, 67, 73, 82, 67, 76, 69, 33]⟩ 6 6 (by simp [Ney]) w hG
 ·exact Ndg 6 ⟨#[35, 76, 79, 78, 71, 33]⟩ 7 7 (by simp [Ney]) w hG
 ·exact Ndg 7 ⟨#[35, 65, 82, 71, 33]⟩ 8 8 (by simp [Ney]) w hG
theorem text_any {s : ByteArray} (hs : s.size ≤ 256) (w : World) : Calls Tryz.prog 182 #[.string s] w fun en w' => en = .returned (vV (theO.txt s)) ∧ Below w.heap.size w w' := by
 have hp : Na5.f 1000 s = some (Ne2 s) := by
  have := plain_l0 s (by omega) s.size 0 1000 (by omega) (by omega) (by omega)
  rw [List.drop_zero] at this
  exact this
 show Calls Tryz.prog 182 #[.string s] w fun en w' => en = .returned (vV (if Ne2 s then ⟨2, ⟨0, 0⟩, s, false, 0⟩ else ⟨4, ⟨0, 0⟩, eB, false, 2⟩)) ∧ Below w.heap.size w w'
 cases hb : Ne2 s with
 | true =>
  refine Nds.calls 1000 s 2 0 0 s false 0 w ?_
  unfold Nds.f
  rw [hp, hb]
  simp only [Option.bind_some, if_true]
  rw [if_neg (by omega)]
 | false =>
  refine Nds.calls 1000 s 4 0 0 ⟨#[]⟩ false 2 w ?_
  unfold Nds.f
  rw [hp, hb]
  rfl
theorem penv {ts : List S39} {n : Nat} (hn : n ≤ 10000) (h : ∀ t ∈ ts, TokOk n t) : PEnv theO ts where
 num := by
  intro i s h1 hs w hG
  have ht := tok_at h i
  have hx := ht.num h1
  have hz := ht.size
  rw [hs] at hx hz
  have hf := num_read hx (by have : s.data.toList.length = s.size := Array.length_toList; omega) (K := 1000006) (Nat.le_refl _)
  rw [← list_text] at hf
  cases hno : numOf s.data.toList with
  | none =>
   rw [hno] at hf
   refine (Nbi.calls 1000006 s 0 0 false w hf).mono ?_
   rintro en w' ⟨rfl, hb⟩
   refine ⟨0, 0, ?_, hb, ?_⟩
   ·show _ = Ending.returned (.tuple #[_, .bool ((numOf s.data.toList).map _).isSome]); rw [hno]; rfl
   ·intro v hv
    change (numOf s.data.toList).map _ = some v at hv
    rw [hno] at hv; cases hv
  | some p =>
   obtain ⟨x, y⟩ := p
   rw [hno] at hf
   refine (Nbi.calls 1000006 s (x : Int) (y : Int) true w hf).mono ?_
   rintro en w' ⟨rfl, hb⟩
   refine ⟨(x : Int), (y : Int), ?_, hb, ?_⟩
   ·show _ = Ending.returned (.tuple #[_, .bool ((numOf s.data.toList).map _).isSome]); rw [hno]; rfl
   ·intro v hv w2
    change (numOf s.data.toList).map _ = some v at hv
    rw [hno] at hv
    cases hv
    refine Ndw.calls 1000006 (x : Int) (y : Int) 1 (x : Int) (y : Int) ⟨#[]⟩ false 0 w2 ?_
    unfold Ndw.f
    rw [Nfh _ _ _ (by omega), numOf_ok hno]
    rfl
 txt := fun i s h1 hs hz w => text_any hz w
 flt := fun i s h1 hs w hG => flt_any (by have := (tok_at h i).flt h1; rw [hs] at this; exact this) w hG
 tru := fun b w => Ner.calls b 3 0 0 ⟨#[]⟩ b 0 w rfl
 fn := fun s w _ _ => Nex s w
 sh := fun s w _ => (Nem s w).mono fun e w' hh => ⟨hh.1, hh.2.below⟩
 size := fun i => by have := (tok_at h i).size; omega
def wholeX (ts : List S39) (e : Int) : Except (Int × Int) (List S50) := match Neg theO ts e (16 * ts.length + 12) with | some x => x | none => .error (50, 0)
theorem wholeX_f (ts : List S39) (e : Int) : Neg theO ts e (16 * ts.length + 12) = some (wholeX ts e) := by
 obtain ⟨x, hx⟩ := whole_fuel theO ts e (Nat.le_refl _)
 unfold wholeX
 rw [hx]
def chk (l : List S50) : Int := (Na7.f 600 l).getD 53
theorem chk_f (l : List S50) : Na7.f 600 l = some (chk l) := by
 obtain ⟨c, hc, _⟩ := check_some l (K := 600) (Nat.le_refl _)
 unfold chk
 rw [hc]; rfl
def parseL (l : List UInt8) : List S50 × Int × Int :=
 if 1024 < l.length then ([], 2, 0) else
 match scanL l.length 0 l with
 | .error (c, p) => ([], c, p)
 | .ok ts => match wholeX ts (l.length : Int) with
  | .error (c, p) => ([], c, p)
  | .ok t => if chk t = 0 then (t, 0, 0) else ([], chk t, 0)
theorem wf_up {ts : List S39} {e : Int} {k : Nat} (hk : 16 * ts.length + 12 ≤ k) : Neg theO ts e k = some (wholeX ts e) := wholeF_le theO ts e hk (wholeX_f ts e)
theorem parse_any (l : List UInt8) (w : World) (hG : GL w) : Calls Tryz.prog 21 #[.string ⟨l.toArray⟩] w fun en w' => ∃ v, en = .returned (.tuple #[v, .int .i64 (parseL l).2.1, .int .i64 (parseL l).2.2]) ∧ Kd.R k50 50 w' w.heap.size (fun _ => True) v (parseL l).1 ∧ Below w.heap.size w w' := by
 unfold parseL
 have hs := scan_f l (K := 17 * l.length + 13) (by omega)
 by_cases hl : 1024 < l.length
 ·rw [if_pos hl] at hs ⊢
  refine (parse_scan hG hs (by decide)).mono ?_
  rintro en w' ⟨rfl, hb⟩
  exact ⟨_, rfl, Kd.R_nil _ _ _ _ _, hb⟩
 rw [if_neg hl] at hs ⊢
 cases hsc : scanL l.length 0 l with
 | error q =>
  obtain ⟨c, p⟩ := q
  rw [hsc] at hs
  refine (parse_scan hG hs (scan_er _ l _ _ c p (Nat.le_refl _) hsc)).mono ?_
  rintro en w' ⟨rfl, hb⟩
  exact ⟨_, rfl, Kd.R_nil _ _ _ _ _, hb⟩
 | ok ts =>
  rw [hsc] at hs
  obtain ⟨h1, h2⟩ := scan_ok _ l _ _ ts (Nat.le_refl _) hsc
  have hx := wf_up (ts := ts) (e := (l.length : Int)) (k := 17 * l.length + 13) (by omega)
  have hsz : ((⟨l.toArray⟩ : ByteArray).size : Int) = (l.length : Int) := by rw [Nal]
  have hp := parse_good (O := theO) (k := 17 * l.length + 13) (k2 := 600) (s := ⟨l.toArray⟩) hG (by rw [Nal]; omega) (ts := ts) (a := 0) hs (penv (by omega) h2) (fun _ => rfl) (by omega) (x := wholeX ts (l.length : Int)) (by rw [hsz]; exact hx)
   (fun c p he => by
     rw [he] at hx
     have := (whole_er theO ts _ _ c p hx).1
     omega)
   (cc := match wholeX ts (l.length : Int) with | .ok t => chk t | .error _ => 0)
   (fun t ht => by rw [ht]; exact chk_f t)
  refine hp.mono ?_
  intro en w' hh
  obtain ⟨hh, hb⟩ := hh
  simp only
  cases hw : wholeX ts (l.length : Int) with
  | error q =>
   obtain ⟨c, p⟩ := q
   rw [hw] at hh
   exact ⟨_, hh, Kd.R_nil _ _ _ _ _, hb⟩
  | ok t =>
   rw [hw] at hh
   simp only at hh
   show ∃ v, en = .returned (.tuple #[v, .int .i64 (if chk t = 0 then (t, (0 : Int), (0 : Int)) else ([], chk t, 0)).2.1, .int .i64 (if chk t = 0 then (t, (0 : Int), (0 : Int)) else ([], chk t, 0)).2.2]) ∧ Kd.R k50 50 w' w.heap.size (fun _ => True) v (if chk t = 0 then (t, (0 : Int), (0 : Int)) else ([], chk t, 0)).1 ∧ Below w.heap.size w w'
   by_cases hc : chk t = 0
   ·rw [if_pos hc] at hh ⊢
    obtain ⟨v, rfl, hr⟩ := hh
    exact ⟨v, rfl, hr, hb⟩
   ·rw [if_neg hc] at hh ⊢
    exact ⟨_, hh, Kd.R_nil _ _ _ _ _, hb⟩
end Go.Proofs.YtejbbceidnaloaaGreatDoor.P
