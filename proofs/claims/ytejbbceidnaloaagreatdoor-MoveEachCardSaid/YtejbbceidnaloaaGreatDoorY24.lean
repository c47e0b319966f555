import Derived.Test.YtejbbceidnaloaaGreatDoorY23
import Derived.Lib.DecodeN
namespace Go.Proofs.YtejbbceidnaloaaGreatDoor.P
open Go.RowKit Go.Proofs.YtejbbceidnaloaaGreatDoorW.PrintWords Go.Proofs.YtejbbceidnaloaaGreatDoorW.PrintLast Go.Proofs.YtejbbceidnaloaaGreatDoorW.PrintMore
set_option linter.unusedVariables false
set_option linter.unusedSimpArgs false
theorem quot_at (c : UInt8) (r : List UInt8) (h : (quotL (c :: r)).2.2 ≠ 0) : (quotL (c :: r)).2.1 ≤ (c :: r).length := by
 unfold quotL at h ⊢
 cases hq : qend ((c :: r).drop 1) with
 | none => simp
 | some e =>
  rw [hq] at h
  simp only at h ⊢
  cases hb : badAt ((c :: r).take (e + 2)) with
  | some i =>
   have := badAt_le _ _ hb
   rw [List.length_take] at this
   simp only; omega
  | none => rw [hb] at h; exact absurd rfl h
theorem next_at (c : UInt8) (r : List UInt8) (h : (nextL (c :: r)).2.2.2 ≠ 0) : (nextL (c :: r)).2.2.1 ≤ (c :: r).length := by
 rw [nextL] at h ⊢
 split
 ·exact num_le _
 rename_i hd
 rw [if_neg hd] at h
 split
 ·rename_i h34
  rw [if_pos h34] at h
  exact quot_at c r h
 ·split
  ·exact runL_le _ _
  ·have hpre : ∀ L, (beginsL (c :: r) L).length ≤ (c :: r).length := by
    intro L
    obtain ⟨q, hq⟩ := begins_pre (c :: r) L
    have := congrArg List.length hq
    rw [List.length_append] at this
    omega
   split
   ·split
    ·simp
    ·exact hpre _
   ·split
    ·exact hpre _
    ·split <;> simp
theorem scan_at : ∀ (n : Nat) (l : List UInt8) (k p : Nat) (c q : Int), l.length ≤ n → scanL k p l = .error (c, q) → (p : Int) ≤ q ∧ q ≤ ((p + l.length : Nat) : Int)
 | n, l, 0, p, c, q, hn, h => by cases h
 | n, [], k + 1, p, c, q, hn, h => by cases h
 | 0, d :: r, k + 1, p, c, q, hn, h => by simp at hn
 | n + 1, d :: r, k + 1, p, c, q, hn, h => by
  simp only [List.length_cons] at hn
  rw [scanL] at h
  split at h
  ·have := scan_at n r k (p + 1) c q (by omega) h
   rw [List.length_cons]; omega
  ·split at h
   ·rename_i h0
    have hl := next_len d r h0
    split at h
    ·cases h
    ·rename_i e he
     cases h
     have := scan_at n _ k _ c q (by rw [List.length_drop, List.length_cons]; omega) he
     rw [List.length_drop] at this
     omega
   ·rename_i h0
    have := next_at d r h0
    cases h
    omega
theorem toks_at : ∀ (n : Nat) (l : List UInt8) (k p : Nat) (ts : List S39), l.length ≤ n → scanL k p l = .ok ts → ∀ t ∈ ts, (p : Int) ≤ t.f2 ∧ t.f2 ≤ ((p + l.length : Nat) : Int)
 | n, l, 0, p, ts, hn, h => by cases h; intro t ht; cases ht
 | n, [], k + 1, p, ts, hn, h => by cases h; intro t ht; cases ht
 | 0, c :: r, k + 1, p, ts, hn, h => by simp at hn
 | n + 1, c :: r, k + 1, p, ts, hn, h => by
  simp only [List.length_cons] at hn
  rw [scanL] at h
  split at h
  ·intro t ht
   have := toks_at n r k (p + 1) ts (by omega) h t ht
   rw [List.length_cons]; omega
  ·split at h
   ·rename_i h0
    have hl := next_len c r h0
    split at h
    ·rename_i us hu
     cases h
     intro t ht
     rcases List.mem_cons.1 ht with rfl | ht
     ·show (p : Int) ≤ (p : Int) ∧ (p : Int) ≤ _
      omega
     ·have := toks_at n _ k _ us (by rw [List.length_drop, List.length_cons]; omega) hu t ht
      rw [List.length_drop] at this
      omega
    ·cases h
   ·cases h
theorem fail_at {ts : List S39} {n : Nat} (h : ∀ t ∈ ts, (0 : Int) ≤ t.f2 ∧ t.f2 ≤ (n : Int)) (i : Int) : 0 ≤ failAt ts (n : Int) i ∧ failAt ts (n : Int) i ≤ n := by
 unfold failAt
 split
 ·rcases tokA_mem (ts := ts) i with e | e
  ·rw [e]
   show (0 : Int) ≤ 0 ∧ (0 : Int) ≤ n
   omega
  ·exact h _ e
 ·omega
theorem parse_cases (l : List UInt8) : ((parseL l).2.1 = 0 ∧ (parseL l).2.2 = 0 ∧ chk (parseL l).1 = 0) ∨ ((parseL l).2.1 ≠ 0 ∧ (parseL l).1 = [] ∧ 0 ≤ (parseL l).2.2 ∧ (parseL l).2.2 ≤ l.length) := by
 unfold parseL
 by_cases hl : 1024 < l.length
 ·rw [if_pos hl]
  exact .inr ⟨by decide, rfl, by show (0 : Int) ≤ 0; omega, by show (0 : Int) ≤ _; omega⟩
 rw [if_neg hl]
 cases hsc : scanL l.length 0 l with
 | error q =>
  obtain ⟨c, p⟩ := q
  have h1 := scan_er _ l _ _ c p (Nat.le_refl _) hsc
  have h2 := scan_at _ l _ _ c p (Nat.le_refl _) hsc
  rw [Nat.zero_add] at h2
  exact .inr ⟨h1, rfl, h2.1, h2.2⟩
 | ok ts =>
  simp only
  have ht := toks_at _ l _ _ ts (Nat.le_refl _) hsc
  rw [Nat.zero_add] at ht
  cases hw : wholeX ts (l.length : Int) with
  | error q =>
   obtain ⟨c, p⟩ := q
   have hf := wholeX_f ts (l.length : Int)
   rw [hw] at hf
   obtain ⟨hc, i, hi⟩ := whole_er theO ts _ _ c p hf
   have hp := fail_at (n := l.length) ht i
   rw [← hi] at hp
   exact .inr ⟨by show c ≠ 0; omega, rfl, hp.1, hp.2⟩
  | ok t =>
   simp only
   by_cases hc : chk t = 0
   ·rw [if_pos hc]
    exact .inl ⟨rfl, rfl, hc⟩
   ·rw [if_neg hc]
    exact .inr ⟨hc, rfl, by show (0 : Int) ≤ 0; omega, by show (0 : Int) ≤ _; omega⟩
section
set_option maxRecDepth 100000
theorem able6_true : ab6.f = some true := by kernel_rfl
theorem cut61_nil : strings_CutPrefix.f ⟨([] : List UInt8).toArray⟩ ⟨#[61]⟩ = some (⟨([] : List UInt8).toArray⟩, false) := by kernel_rfl
theorem cut61_cons (c : UInt8) (r : List UInt8) : strings_CutPrefix.f ⟨(c :: r).toArray⟩ ⟨#[61]⟩ = some (if c = 61 then (⟨r.toArray⟩, true) else (⟨(c :: r).toArray⟩, false)) := by
 unfold strings_CutPrefix.f stringslite_CutPrefix.f stringslite_HasPrefix.f
 have hs : (((⟨(c :: r).toArray⟩ : ByteArray).size : Nat) : Int) = (r.length : Int) + 1 := by simp [ByteArray.size]
 have h1 : (((⟨#[61]⟩ : ByteArray).size : Nat) : Int) = 1 := rfl
 have h2 : (⟨(c :: r).toArray⟩ : ByteArray).extract 0 (1 : Int).toNat = ⟨([c] : List UInt8).toArray⟩ := ext_take (c :: r) 1
 have h3 : (⟨(c :: r).toArray⟩ : ByteArray).extract (1 : Int).toNat (⟨(c :: r).toArray⟩ : ByteArray).size = ⟨r.toArray⟩ := ext_drop (c :: r) 1
 rw [hs, h1, h2, h3, if_pos (by omega), if_pos (by omega), if_pos (by omega)]
 simp only [Option.bind_some]
 by_cases hc : c = 61
 ·subst hc
  rw [if_pos rfl, show (((⟨([61] : List UInt8).toArray⟩ : ByteArray).toList == (⟨#[61]⟩ : ByteArray).toList)) = true from by simp, if_pos rfl, if_pos (by omega), if_pos (by omega)]
  rfl
 ·rw [if_neg hc, show (((⟨([c] : List UInt8).toArray⟩ : ByteArray).toList == (⟨#[61]⟩ : ByteArray).toList)) = false from by rw [beq_eq_false_iff_ne, ByteArray.toList_eq, ByteArray.toList_eq]; intro h; injection h with h; exact hc h, if_neg (by decide)]
  rfl
theorem copy_plain (l : List UInt8) (h : l.head? ≠ some 61) (a b : Int) : mcp.f ⟨l.toArray⟩ a b = some (⟨l.toArray⟩, 0) := by
 unfold mcp.f
 cases l with
 | nil => rw [cut61_nil]; rfl
 | cons c r =>
  rw [cut61_cons, if_neg (by intro hc; subst hc; exact h rfl)]
  rfl
end
theorem toList_eq {a b : ByteArray} : a.toList = b.toList ↔ a = b := by
 rw [ByteArray.toList_eq, ByteArray.toList_eq]
 exact ⟨fun h => lb_ext h, fun h => by rw [h]⟩
section
set_option maxRecDepth 100000
set_option maxHeartbeats 4000000
def able6_g.f : Option Bool := some true
theorem able6_g.calls (r : Bool) (w : World) (hG : GL w) (h : able6_g.f = some r) : Calls Tryz.prog 39 #[] w fun e w' => e = .returned (.bool r) ∧ Below w.heap.size w w' := by
 obtain rfl := Option.some.inj h
 exact ab6.calls true w hG able6_true
end
structure S64 where
 f0 : Int
 f1 : Int
 f2 : Int
def z64 : S64 := ⟨(0 : Int), (0 : Int), (0 : Int)⟩
def k64 : Kd S64 := Kd.iso (Kd.pair (Kd.int .i64) (Kd.pair (Kd.int .i64) (Kd.int .i64))) (fun x : S64 => (x.f0, x.f1, x.f2))
theorem k64_open {w : World} {x : S64} {cs : List Value} (h : k64.K w x cs) : cs = [.int .i64 x.f0, .int .i64 x.f1, .int .i64 x.f2] := by
 obtain ⟨_, _, rfl, rfl, ⟨_, _, rfl, rfl, rfl⟩⟩ := h
 exact rfl
theorem k64_mk (w : World) (x : S64)  : k64.K w x [.int .i64 x.f0, .int .i64 x.f1, .int .i64 x.f2] := ⟨[.int .i64 x.f0], [.int .i64 x.f1, .int .i64 x.f2], rfl, rfl, ⟨[.int .i64 x.f1], [.int .i64 x.f2], rfl, rfl, rfl⟩⟩
def rd_T64 (xs : List S64) (i : Int) : S64 := xs.getD i.toNat z64
theorem at_T64 {w : World} {A : Option Addr} {n : Nat} {xs : List S64} (h : Kd.C k64 w A n xs) (i : Int) (h0 : 0 ≤ i) (h1 : i < n) : ∃ ad , A = some ad ∧ w.cell? (ad.add (i.toNat * 3)) = some (.int .i64 (rd_T64 xs i).f0) ∧ w.cell? ⟨(ad.add (i.toNat * 3)).block, (ad.add (i.toNat * 3)).off + 1, none⟩ = some (.int .i64 (rd_T64 xs i).f1) ∧ w.cell? ⟨(ad.add (i.toNat * 3)).block, (ad.add (i.toNat * 3)).off + 2, none⟩ = some (.int .i64 (rd_T64 xs i).f2) := by
 obtain ⟨ad, c, e, _, hK, hc0⟩ := Kd.C_get h z64 i h0 h1
 have hc : ∀ j u, c[j]? = some u → w.cell? (ad.add (i.toNat * 3 + j)) = some u := hc0
 obtain rfl := k64_open hK
 exact ⟨ad, e, hc 0 _ rfl, by rw [← add_field _ _ 1 (by omega)]; exact hc 1 _ rfl, by rw [← add_field _ _ 2 (by omega)]; exact hc 2 _ rfl⟩
theorem info64 : (Tryz.prog.info? 64).map (fun i => (i.zero, i.size, i.bytes)) = some (some (.agg #[(.int .i64 0), (.int .i64 0), (.int .i64 0)]), 3, 24) := by kernel_rfl
theorem info9 : (Tryz.prog.info? 9).map (fun i => (i.zero, i.size, i.bytes)) = some (some (.string ⟨#[]⟩), 1, 16) := by kernel_rfl
end Go.Proofs.YtejbbceidnaloaaGreatDoor.P
namespace Go.Proofs.YtejbbceidnaloaaGreatDoorW.PrintWords
open Go.RowKit
set_option linter.unusedVariables false
set_option linter.unusedSimpArgs false
section
variable {α : Type} {R R' : α → List Value → Prop} {e : TypeId} {size : Nat} {w w1 : World} {base : Nat} {v : Value} {ps : List α}
theorem OwnRow.ne_block (h : OwnRow R e size w base v ps) {g : Nat} {t : TypeId} {cells : Array Value} (hb : w.heap[g]? = some (.cells cells t (0, 0))) (ht : e ≠ t) : some g ≠ v.ownBlock := by
  obtain ⟨inner, ho, hr⟩ := h
  exact own_ne ho hb ht
end
namespace Kd
section
variable {α : Type} {d : Kd α} {e : Nat} {w w1 : World} {base : Nat} {ok ok' : Nat → Prop} {v : Value} {xs : List α}
theorem R_far (h : d.R e w base ok v xs) {p : Addr} (hok : ∀ k, ok k → k ≠ p.block) (u : Value) : d.R e (w.setCell p u) base ok v xs := R_step h (fun k ho _ => Below.heap_setCell w p u k (hok k ho))
end
end Kd
namespace Kd
section
variable {α : Type} {d : Kd α} {e : Nat} {w w1 : World} {base : Nat} {ok ok' : Nat → Prop} {v : Value} {xs : List α}
theorem R_ne (h : d.R e w base ok v xs) {g t : Nat} {cells : Array Value} (hb : w.heap[g]? = some (.cells cells t (0, 0))) (ht : e ≠ t) : some g ≠ v.ownBlock := OwnRow.ne_block h.2 hb ht
end
end Kd
namespace Kd
section
variable {α β : Type} {d : Kd α} {d' : Kd β} {e e' : Nat} {w w1 W : World} {base b b' : Nat} {ok ok' okv oku : Nat → Prop} {v u : Value} {xs : List α} {ys : List β}
theorem R_away (h : d.R e w base ok v xs) {g : Nat} (hok : ∀ k, ok k → k ≠ g) : some g ≠ v.ownBlock := fun e => hok g (h.1 g e.symm) rfl
end
end Kd
namespace Kd
section
variable {α : Type} {d : Kd α} {e base g : Nat} {ok : Nat → Prop} {w w1 : World} {v : Value} {xs : List α} {o : Obj}
theorem R_newB (h : d.R e w1 w.heap.size ok v xs) (hb : w.heap[g]? = some o) : d.R e w1 w.heap.size (fun k => ok k ∧ k ≠ g) v xs := R_mono (R_bound h) (fun k hk => ⟨hk.1, by have := blk_lt hb; have := hk.2.1; omega⟩)
end
end Kd
end Go.Proofs.YtejbbceidnaloaaGreatDoorW.PrintWords
namespace Go.Proofs.YtejbbceidnaloaaGreatDoor.P
open Go.RowKit Go.Proofs.YtejbbceidnaloaaGreatDoorW.PrintWords Go.Proofs.YtejbbceidnaloaaGreatDoorW.PrintLast Go.Proofs.YtejbbceidnaloaaGreatDoorW.PrintMore
set_option linter.unusedVariables false
set_option linter.unusedSimpArgs false
section
attribute [local go_sem] max2_int min2_int max_two min_two max_three min_three max_four min_four
mutual
def mfl.l0 : Nat → ByteArray → List (S64) → List (S64) → Int → Int → Int → Int → Int → Option (List ByteArray × Int)
 | 0, _, _, _, _, _, _, _, _ => none
 | k + 1, x0, x2, x15, x16, x17, x102000, x102001, x102002 => if x17 < x16 then (if 0 ≤ x17 then (if x17 < (x15.length : Int) then ((Nad.f ((rd_T64 x15 x17).f0) ((rd_T64 x15 x17).f1) ((rd_T64 x15 x17).f2)).bind fun t104 => (if t104 = true then (mfl.l0 k x0 x2 x15 x16 (wrap64 (x17 + 1)) x102000 x102001 x102002) else (some (([] : List ByteArray), 110)))) else (none)) else (none)) else ((Nad.f x102000 x102001 x102002).bind fun t105 => (if t105 = true then (mfl.l1 k x0 ([] : List ByteArray) x2 (x2.length : Int) 0 x102000 x102001 x102002) else (some (([] : List ByteArray), 110))))
def mfl.l1 : Nat → ByteArray → List ByteArray → List (S64) → Int → Int → Int → Int → Int → Option (List ByteArray × Int)
 | 0, _, _, _, _, _, _, _, _ => none
 | k + 1, x0, x10, x28, x29, x30, x102000, x102001, x102002 => if x30 < x29 then (if 0 ≤ x30 then (if x30 < (x28.length : Int) then ((mcp.f x0 (wrap64 (((rd_T64 x28 x30).f1) - x102001)) (wrap64 (((rd_T64 x28 x30).f2) - x102002))).bind fun bt108 => (if bt108.2 = 0 then (if x10.length < 8796093022208 then (mfl.l1 k x0 (x10 ++ [bt108.1]) x28 x29 (wrap64 (x30 + 1)) x102000 x102001 x102002) else (none)) else (some (([] : List ByteArray), bt108.2)))) else (none)) else (none)) else (some (x10, 0))
end
def mfl.f (k : Nat) (a0 : ByteArray) (a1_0 : Int) (a1_1 : Int) (a1_2 : Int) (l2 : List (S64)) : Option (List ByteArray × Int) := mfl.l0 k a0 l2 l2 (l2.length : Int) 0 a1_0 a1_1 a1_2
set_option maxHeartbeats 8000000 in
set_option maxRecDepth 100000 in
theorem mfl.calls (k : Nat) (a0 : ByteArray) (a1_0 : Int) (a1_1 : Int) (a1_2 : Int) (A2 : Option Addr) (c2 : Nat) (l2 : List (S64)) (r1 : List ByteArray) (r2 : Int) (w : World) (hr2 : Kd.C k64 w A2 l2.length l2) (hc2 : l2.length ≤ c2) (hG : GL w) (h : mfl.f k a0 a1_0 a1_1 a1_2 l2 = some (r1, r2)) :
 Calls Tryz.prog 44 #[.string a0, .agg #[.int .i64 a1_0, .int .i64 a1_1, .int .i64 a1_2], .slice A2 l2.length c2] w fun e w' => ∃ v0_ : Value, e = .returned (.tuple #[v0_, .int .i64 r2]) ∧ Kd.R Kd.string 9 w' w.heap.size (fun _ => True) v0_ r1 ∧ Below w.heap.size w w' := by
 have hu64 := Tryz.underlying64
 have HR2 := aM hr2
 have HC2 := aM hc2
 clear hr2 hc2
 have HB := aM (Below.refl w.heap.size w)
 have H := h
 unfold mfl.f at H
 clear h
 have H' := aM H
 clear H
 go_enter Tryz.func44, Tryz.ntmps44
 go_wp2_with (first | ((with_reducible refine gate_dst (N := 4) rfl ?_); refine bX 4 #[.int .i64 a1_0, .int .i64 a1_1, .int .i64 a1_2] 64 ?_; intro gb101 hg w4 hbox hb; have BK101 := aM (hbox); have GW101 := aM ((by rw [hg]; exact (below_size bE) : w.heap.size ≤ gb101)); have GE101 := GW101; replace HB := aM (below_step bE hb); clear hb hbox hg))
 go_loopg [17] k (fun kq v17 w' => ∃ (x17_1 : Int), v17 = .int .i64 x17_1 ∧ Aside0 (mfl.l0 kq a0 l2 l2 (l2.length : Int) x17_1 a1_0 a1_1 a1_2 = some (r1, r2)) ∧ Aside0 (kq ≤ k) ∧ Aside0 (w'.heap[gb101]? = some (.cells #[.int .i64 a1_0, .int .i64 a1_1, .int .i64 a1_2] 64 (0, 0))) ∧ Aside0 (Below w.heap.size w w'))
 case atStart => exact ⟨(0), (by first | rfl | (simp; done) | (simp [*]; done)), H', ⟨Nat.le_refl _⟩, ⟨BK101.out⟩, ⟨bE⟩⟩
 case round =>
  clear H'
  try clear c2
  try clear p2
  try clear c4
  obtain ⟨x17_1, rfl, HA, HK1, BK101, HB⟩ := hrel
  cases gk with
  | zero => exact absurd HA.out (by simp [mfl.l0])
  | succ k1 =>
   have H := HA.out
   clear HA
   simp only [mfl.l0] at H
   by_cases c5 : x17_1 < (l2.length : Int)
   ·rw [if_pos c5] at H
    have c5b0 : decide (x17_1 < (l2.length : Int)) = true := decide_eq_true c5
    clear c5
    by_cases c6 : 0 ≤ x17_1
    ·rw [if_pos c6] at H
     have c6b0 : decide (0 ≤ x17_1) = true := decide_eq_true c6
     clear c6
     by_cases c7 : x17_1 < (l2.length : Int)
     ·rw [if_pos c7] at H
      have c7b0 : decide (x17_1 < (l2.length : Int)) = true := decide_eq_true c7
      clear c7
      replace H := Option.bind_eq_some_iff.mp H
      obtain ⟨t104, A80, H⟩ := H
      try dsimp only at H
      have A8 := aM A80
      clear A80
      by_cases c9 : t104 = true
      ·subst c9
       rw [if_pos rfl] at H
       have H' := aM H
       clear H
       have p102 : 0 ≤ (x17_1 : Int) := of_decide_eq_true (by first | (with_reducible assumption) | assumption)
       have q102 : x17_1 < (l2.length : Int) := of_decide_eq_true (by first | (with_reducible assumption) | assumption)
       obtain ⟨ad102, e102, hx102_0, hx102_1, hx102_2⟩ := at_T64 HR2.out x17_1 p102 q102
       cases e102
       replace hx102_0 := (HB.out.cell (World.block_lt_of_cell? w _ hx102_0)).trans hx102_0
       replace hx102_1 := (HB.out.cell (World.block_lt_of_cell? w _ hx102_1)).trans hx102_1
       replace hx102_2 := (HB.out.cell (World.block_lt_of_cell? w _ hx102_2)).trans hx102_2
       replace p102 := eq_true p102
       replace q102 := eq_true q102
       go_wp2_with (first | ((with_reducible refine gate_dst (N := 9) rfl ?_); refine bX 9 #[.int .i64 0, .int .i64 0, .int .i64 0] 64 ?_; intro gb103 hg w10 hbox hb; have BK103 := aM (hbox); have GW103 := aM ((by rw [hg]; exact (below_size bE) : w.heap.size ≤ gb103)); have GE103 := GW103; have NB101_103 := aM ((by rw [hg]; exact Nat.ne_of_lt (blk_lt (g := gb101) (o := .cells #[.int .i64 a1_0, .int .i64 a1_1, .int .i64 a1_2] 64 (0, 0)) (bd BK101.out)) : gb101 ≠ gb103)); have NB103_101 := aM ((by rw [hg]; exact Nat.ne_of_gt (blk_lt (g := gb101) (o := .cells #[.int .i64 a1_0, .int .i64 a1_1, .int .i64 a1_2] 64 (0, 0)) (bd BK101.out)) : gb103 ≠ gb101)); replace BK101 := aM (blk_below (g := gb101) (o := .cells #[.int .i64 a1_0, .int .i64 a1_1, .int .i64 a1_2] 64 (0, 0)) (bd BK101.out) hb); replace HB := aM (below_step bE hb); clear hb hbox hg; have hnb11 := NB103_101.out; have hnc11 := NB101_103.out; obtain ⟨hcz12_0, hcz12_1, hcz12_2, hfz12_0, hfz12_1, hfz12_2⟩ := bc3 BK103.out) | ((with_reducible refine gate_callee (f := 65) rfl ?_); refine gL 22 Tryz.func65 #[.agg #[.int .i64 ((rd_T64 l2 x17_1).f0), .int .i64 ((rd_T64 l2 x17_1).f1), .int .i64 ((rd_T64 l2 x17_1).f2)]] ?_; (with_reducible refine (Nad.calls ((rd_T64 l2 x17_1).f0) ((rd_T64 l2 x17_1).f1) ((rd_T64 l2 x17_1).f2) true _ A8.out).mono ?_); rintro e w13 ⟨rfl, hb⟩; refine ⟨_, rfl, ?_⟩; replace BK101 := aM (blk_below (g := gb101) (o := .cells #[.int .i64 a1_0, .int .i64 a1_1, .int .i64 a1_2] 64 (0, 0)) (by (repeat refine blk_far ?_ NB101_103.out _); exact BK101.out) hb); replace BK103 := aM (blk_below (g := gb103) (o := .cells #[.int .i64 ((rd_T64 l2 x17_1).f0), .int .i64 ((rd_T64 l2 x17_1).f1), .int .i64 ((rd_T64 l2 x17_1).f2)] 64 (0, 0)) (bP BK103.out) hb); replace HB := aM (below_step bE hb); (try clear hb)))
       go_roundg k1
       case measure => have := HK1.out; omega
       case rel => exact ⟨(wrap64 (x17_1 + 1)), (by first | rfl | (simp; done) | (simp [*]; done)), H', ⟨by have := HK1.out; omega⟩, ⟨BK101.out⟩, ⟨bE⟩⟩
      ·replace c9 := Bool.eq_false_iff.mpr c9
       subst c9
       rw [if_neg Bool.false_ne_true] at H
       simp only [Option.some.injEq, Prod.mk.injEq] at H
       obtain ⟨rfl, rfl⟩ := H
       have p102 : 0 ≤ (x17_1 : Int) := of_decide_eq_true (by first | (with_reducible assumption) | assumption)
       have q102 : x17_1 < (l2.length : Int) := of_decide_eq_true (by first | (with_reducible assumption) | assumption)
       obtain ⟨ad102, e102, hx102_0, hx102_1, hx102_2⟩ := at_T64 HR2.out x17_1 p102 q102
       cases e102
       replace hx102_0 := (HB.out.cell (World.block_lt_of_cell? w _ hx102_0)).trans hx102_0
       replace hx102_1 := (HB.out.cell (World.block_lt_of_cell? w _ hx102_1)).trans hx102_1
       replace hx102_2 := (HB.out.cell (World.block_lt_of_cell? w _ hx102_2)).trans hx102_2
       replace p102 := eq_true p102
       replace q102 := eq_true q102
       go_wp2_with (first | ((with_reducible refine gate_dst (N := 9) rfl ?_); refine bX 9 #[.int .i64 0, .int .i64 0, .int .i64 0] 64 ?_; intro gb103 hg w14 hbox hb; have BK103 := aM (hbox); have GW103 := aM ((by rw [hg]; exact (below_size bE) : w.heap.size ≤ gb103)); have GE103 := GW103; have NB101_103 := aM ((by rw [hg]; exact Nat.ne_of_lt (blk_lt (g := gb101) (o := .cells #[.int .i64 a1_0, .int .i64 a1_1, .int .i64 a1_2] 64 (0, 0)) (bd BK101.out)) : gb101 ≠ gb103)); have NB103_101 := aM ((by rw [hg]; exact Nat.ne_of_gt (blk_lt (g := gb101) (o := .cells #[.int .i64 a1_0, .int .i64 a1_1, .int .i64 a1_2] 64 (0, 0)) (bd BK101.out)) : gb103 ≠ gb101)); replace BK101 := aM (blk_below (g := gb101) (o := .cells #[.int .i64 a1_0, .int .i64 a1_1, .int .i64 a1_2] 64 (0, 0)) (bd BK101.out) hb); replace HB := aM (below_step bE hb); clear hb hbox hg; have hnb15 := NB103_101.out; have hnc15 := NB101_103.out; obtain ⟨hcz16_0, hcz16_1, hcz16_2, hfz16_0, hfz16_1, hfz16_2⟩ := bc3 BK103.out) | ((with_reducible refine gate_callee (f := 65) rfl ?_); refine gL 22 Tryz.func65 #[.agg #[.int .i64 ((rd_T64 l2 x17_1).f0), .int .i64 ((rd_T64 l2 x17_1).f1), .int .i64 ((rd_T64 l2 x17_1).f2)]] ?_; (with_reducible refine (Nad.calls ((rd_T64 l2 x17_1).f0) ((rd_T64 l2 x17_1).f1) ((rd_T64 l2 x17_1).f2) false _ A8.out).mono ?_); rintro e w17 ⟨rfl, hb⟩; refine ⟨_, rfl, ?_⟩; replace BK101 := aM (blk_below (g := gb101) (o := .cells #[.int .i64 a1_0, .int .i64 a1_1, .int .i64 a1_2] 64 (0, 0)) (by (repeat refine blk_far ?_ NB101_103.out _); exact BK101.out) hb); replace BK103 := aM (blk_below (g := gb103) (o := .cells #[.int .i64 ((rd_T64 l2 x17_1).f0), .int .i64 ((rd_T64 l2 x17_1).f1), .int .i64 ((rd_T64 l2 x17_1).f2)] 64 (0, 0)) (bP BK103.out) hb); replace HB := aM (below_step bE hb); (try clear hb)))
       go_ret2
       exact ⟨_, eR, by first | exact Kd.R_nil _ _ _ _ _ | exact Kd.N_nil _ _ _ _ _ | exact Kd.V_nil _ _ _ _ _ | exact Kd.Q_nil _ _ _ _ _ | exact Kd.S_nil _ _ _ _ _, bE⟩
     ·rw [if_neg c7] at H
      exact absurd H (by simp)
    ·rw [if_neg c6] at H
     exact absurd H (by simp)
   ·rw [if_neg c5] at H
    have c5b0 : decide (x17_1 < (l2.length : Int)) = false := decide_eq_false c5
    clear c5
    replace H := Option.bind_eq_some_iff.mp H
    obtain ⟨t105, A180, H⟩ := H
    try dsimp only at H
    have A18 := aM A180
    clear A180
    by_cases c19 : t105 = true
    ·subst c19
     rw [if_pos rfl] at H
     have H' := aM H
     clear H
     have hcz20_0 : wr.cell? ⟨gb101, 0, none⟩ = some (.int .i64 a1_0) := (blk_cell BK101.out 0).trans rfl
     have hcz20_1 : wr.cell? ⟨gb101, 1, none⟩ = some (.int .i64 a1_1) := (blk_cell BK101.out 1).trans rfl
     have hcz20_2 : wr.cell? ⟨gb101, 2, none⟩ = some (.int .i64 a1_2) := (blk_cell BK101.out 2).trans rfl
     have hfz20_0 := blk_frozen BK101.out 0
     have hfz20_1 := blk_frozen BK101.out 1
     have hfz20_2 := blk_frozen BK101.out 2
     go_wp2_with (first | ((with_reducible refine gate_callee (f := 65) rfl ?_); refine gL 26 Tryz.func65 #[.agg #[.int .i64 a1_0, .int .i64 a1_1, .int .i64 a1_2]] ?_; (with_reducible refine (Nad.calls a1_0 a1_1 a1_2 true _ A18.out).mono ?_); rintro e w21 ⟨rfl, hb⟩; refine ⟨_, rfl, ?_⟩; replace BK101 := aM (blk_below (g := gb101) (o := .cells #[.int .i64 a1_0, .int .i64 a1_1, .int .i64 a1_2] 64 (0, 0)) (bd BK101.out) hb); replace HB := aM (below_step bE hb); (try clear hb)))
     go_loopg [10, 30] k1 (fun kq v10 v30 w' => ∃ (x10_2 : List ByteArray) (x30_2 : Int), v30 = .int .i64 x30_2 ∧ Aside0 (mfl.l1 kq a0 x10_2 l2 (l2.length : Int) x30_2 a1_0 a1_1 a1_2 = some (r1, r2)) ∧ Aside0 (kq ≤ k1) ∧ Aside0 (Kd.R Kd.string 9 w' w.heap.size (fun _ => True) v10 x10_2) ∧ Aside0 (w'.heap[gb101]? = some (.cells #[.int .i64 a1_0, .int .i64 a1_1, .int .i64 a1_2] 64 (0, 0))) ∧ Aside0 (Below w.heap.size w w'))
     case atStart => exact ⟨(([] : List ByteArray)), (0), (by first | rfl | (simp; done) | (simp [*]; done)), H', ⟨Nat.le_refl _⟩, ⟨by first | exact Kd.R_nil _ _ _ _ _ | exact Kd.N_nil _ _ _ _ _ | exact Kd.V_nil _ _ _ _ _ | exact Kd.Q_nil _ _ _ _ _ | exact Kd.S_nil _ _ _ _ _⟩, ⟨BK101.out⟩, ⟨bE⟩⟩
     case round =>
      clear H'
      try clear c1
      try clear p1
      try clear q1
      try clear hx1
      try clear c2
      try clear p2
      try clear c4
      try clear c5
      try clear c5b0
      try clear c6
      try clear c6b0
      try clear p6
      try clear c7
      try clear c7b0
      try clear c9
      try clear p10
      try clear q10
      try clear hx10
      try clear c11
      try clear c15
      try clear c19
      try clear hcz12_0
      try clear hcz12_1
      try clear hcz12_2
      try clear hcz16_0
      try clear hcz16_1
      try clear hcz16_2
      try clear hcz20_0
      try clear hcz20_1
      try clear hcz20_2
      try clear hfz12_0
      try clear hfz12_1
      try clear hfz12_2
      try clear hfz16_0
      try clear hfz16_1
      try clear hfz16_2
      try clear hfz20_0
      try clear hfz20_1
      try clear hfz20_2
      try clear hx102_0
      try clear hx102_1
      try clear hx102_2
      try clear p102
      try clear p2
      try clear q102
      obtain ⟨x10_2, x30_2, rfl, HA, HK2, HO_10, BK101, HB⟩ := hrel
      cases gk with
      | zero => exact absurd HA.out (by simp [mfl.l1])
      | succ k2 =>
       have H := HA.out
       clear HA
       simp only [mfl.l1] at H
       by_cases c22 : x30_2 < (l2.length : Int)
       ·rw [if_pos c22] at H
        have c22b0 : decide (x30_2 < (l2.length : Int)) = true := decide_eq_true c22
        clear c22
        by_cases c23 : 0 ≤ x30_2
        ·rw [if_pos c23] at H
         have c23b0 : decide (0 ≤ x30_2) = true := decide_eq_true c23
         clear c23
         by_cases c24 : x30_2 < (l2.length : Int)
         ·rw [if_pos c24] at H
          have c24b0 : decide (x30_2 < (l2.length : Int)) = true := decide_eq_true c24
          clear c24
          replace H := Option.bind_eq_some_iff.mp H
          obtain ⟨⟨t108, t109⟩, A250, H⟩ := H
          try dsimp only at H
          have A25 := aM A250
          clear A250
          by_cases c26 : t109 = 0
          ·rw [if_pos c26] at H
           obtain ⟨c26b0, c26b1⟩ := bqT c26
           clear c26
           by_cases c27 : x10_2.length < 8796093022208
           ·rw [if_pos c27] at H
            have LMc27 := aM c27
            clear c27
            obtain ⟨y110, hy110⟩ : ∃ y_ : List ByteArray, y_ = (x10_2 ++ [t108]) := ⟨_, rfl⟩
            replace H : (mfl.l1 k2 a0 y110 l2 (l2.length : Int) (wrap64 (x30_2 + 1)) a1_0 a1_1 a1_2) = some (r1, r2) := by first | (rw [hy110]; with_reducible exact H) | (have H2_ := (Option.bind_some _ _).symm.trans H; rw [hy110]; with_reducible exact H2_) | (have H2_ := (Option.bind_some _ _).symm.trans H; with_reducible exact H2_) | with_reducible exact H | (rw [hy110]; exact H) | exact H
            have Ny110 := aM hy110
            clear hy110
            have H' := aM H
            clear H
            have p106 : 0 ≤ (x30_2 : Int) := of_decide_eq_true (by first | (with_reducible assumption) | assumption)
            have q106 : x30_2 < (l2.length : Int) := of_decide_eq_true (by first | (with_reducible assumption) | assumption)
            obtain ⟨ad106, e106, hx106_0, hx106_1, hx106_2⟩ := at_T64 HR2.out x30_2 p106 q106
            cases e106
            replace hx106_0 := (HB.out.cell (World.block_lt_of_cell? w _ hx106_0)).trans hx106_0
            replace hx106_1 := (HB.out.cell (World.block_lt_of_cell? w _ hx106_1)).trans hx106_1
            replace hx106_2 := (HB.out.cell (World.block_lt_of_cell? w _ hx106_2)).trans hx106_2
            replace p106 := eq_true p106
            replace q106 := eq_true q106
            go_wp2_with (first | ((with_reducible refine gate_dst (N := 12) rfl ?_); refine bX 12 #[.int .i64 0, .int .i64 0, .int .i64 0] 64 ?_; intro gb107 hg w28 hbox hb; have BK107 := aM (hbox); have GW107 := aM ((by rw [hg]; exact (below_size bE) : w.heap.size ≤ gb107)); have GE107 := GW107; have NB101_107 := aM ((by rw [hg]; exact Nat.ne_of_lt (blk_lt (g := gb101) (o := .cells #[.int .i64 a1_0, .int .i64 a1_1, .int .i64 a1_2] 64 (0, 0)) (bd BK101.out)) : gb101 ≠ gb107)); have NB107_101 := aM ((by rw [hg]; exact Nat.ne_of_gt (blk_lt (g := gb101) (o := .cells #[.int .i64 a1_0, .int .i64 a1_1, .int .i64 a1_2] 64 (0, 0)) (bd BK101.out)) : gb107 ≠ gb101)); replace HO_10 := aM (Kd.R_below (by (with_reducible repeat (first | apply Kd.R_alloc | apply Kd.R_drewN | apply Kd.R_drew)); exact HO_10.out) hb); replace BK101 := aM (blk_below (g := gb101) (o := .cells #[.int .i64 a1_0, .int .i64 a1_1, .int .i64 a1_2] 64 (0, 0)) (bd BK101.out) hb); replace HB := aM (below_step bE hb); clear hb hbox hg; have hnb29 := NB107_101.out; have hnc29 := NB101_107.out; obtain ⟨hcz30_0, hcz30_1, hcz30_2, hfz30_0, hfz30_1, hfz30_2⟩ := bc3 BK107.out; obtain ⟨hcz31_0, hcz31_1, hcz31_2, hfz31_0, hfz31_1, hfz31_2⟩ := bc3 BK101.out) | ((with_reducible refine gate_callee (f := 41) rfl ?_); refine gL 46 Tryz.func41 #[.string a0, .int .i64 (wrap64 (((rd_T64 l2 x30_2).f1) - a1_1)), .int .i64 (wrap64 (((rd_T64 l2 x30_2).f2) - a1_2))] ?_; (with_reducible refine (mcp.calls a0 (wrap64 (((rd_T64 l2 x30_2).f1) - a1_1)) (wrap64 (((rd_T64 l2 x30_2).f2) - a1_2)) t108 t109 _ ?side1 A25.out).mono ?_); (case side1 => exact GL.below hG bE); rintro e w32 ⟨rfl, hb⟩; refine ⟨_, rfl, ?_⟩; have n0_ := aM (Kd.R_below (by (with_reducible repeat (first | apply Kd.R_alloc | apply Kd.R_drewN | apply Kd.R_drew)); exact (Kd.R_mono (Kd.R_far (p := ⟨gb107, 2, none⟩) (Kd.R_far (p := ⟨gb107, 1, none⟩) (Kd.R_far (p := ⟨gb107, 0, none⟩) (Kd.R_types HO_10.out BK107.out (by decide)) (fun _ hk => hk.2) (.int .i64 ((rd_T64 l2 x30_2).f0))) (fun _ hk => hk.2) (.int .i64 ((rd_T64 l2 x30_2).f1))) (fun _ hk => hk.2) (.int .i64 ((rd_T64 l2 x30_2).f2))) (fun _ h_ => h_.1))) hb); have n1_ := aM (blk_below (g := gb101) (o := .cells #[.int .i64 a1_0, .int .i64 a1_1, .int .i64 a1_2] 64 (0, 0)) (by (repeat refine blk_far ?_ NB101_107.out _); exact BK101.out) hb); have n2_ := aM (blk_below (g := gb107) (o := .cells #[.int .i64 ((rd_T64 l2 x30_2).f0), .int .i64 ((rd_T64 l2 x30_2).f1), .int .i64 ((rd_T64 l2 x30_2).f2)] 64 (0, 0)) (bP BK107.out) hb); have n3_ := aM (below_step bE hb); clear HO_10; clear BK101; clear BK107; clear HB; have HO_10 := n0_; have BK101 := n1_; have BK107 := n2_; have HB := n3_; clear n0_ n1_ n2_ n3_; (try clear hb)) | ((with_reducible refine gate_builtin (b := .append) (xs := #[.tmp 52, .tmp 54]) rfl ?_); at_builtin; refine Kd.R_append Kd.string (w0 := w) w.heap.size rfl (.tmp 52) (.tmp 54) 51 9 (.string ⟨#[]⟩) 16 rfl Tryz.underlying51 info9 rfl (by decide) (by omega) u10 x10_2 t108 [.string t108] (fun _ => True) (fun _ => False) rfl rfl ?aP (fun _ hk => hk.elim) ?aF ?aO ?aB ?aS ?aL ?_; (case aP => exact rfl); (case aB => exact bE); (case aF => exact (fun _ _ => trivial)); (case aO => exact (by (with_reducible repeat (first | apply Kd.R_alloc | apply Kd.R_drewN | apply Kd.R_drew)); exact HO_10.out)); (case aS => exact (below_size bE)); (case aL => have := LMc27.out; omega); intro v111 w33 ho hb hg hat; rw [← Ny110.out] at ho; have n0_ := aM (blk_grown (g := gb101) (o := .cells #[.int .i64 a1_0, .int .i64 a1_1, .int .i64 a1_2] 64 (0, 0)) (bd BK101.out) hg (Kd.R_ne HO_10.out BK101.out (by decide))); have n1_ := aM (blk_grown (g := gb107) (o := .cells #[.int .i64 ((rd_T64 l2 x30_2).f0), .int .i64 ((rd_T64 l2 x30_2).f1), .int .i64 ((rd_T64 l2 x30_2).f2)] 64 (0, 0)) (bd BK107.out) hg (Kd.R_ne HO_10.out BK107.out (by decide))); have n2_ := aM (hb); have n3_ := aM (ho); clear BK101; clear BK107; clear HB; clear HO_10; have BK101 := n0_; have BK107 := n1_; have HB := n2_; have HO112 := n3_; clear n0_ n1_ n2_ n3_; clear ho hb hg hat))
            go_roundg k2
            case measure => have := HK1.out; have := HK2.out; omega
            case rel => exact ⟨(y110), (wrap64 (x30_2 + 1)), (by first | rfl | (simp; done) | (simp [*]; done)), H', ⟨by have := HK1.out; have := HK2.out; omega⟩, ⟨by (with_reducible repeat (first | apply Kd.R_alloc | apply Kd.R_drewN | apply Kd.R_drew)); exact HO112.out⟩, ⟨BK101.out⟩, ⟨bE⟩⟩
           ·rw [if_neg c27] at H
            exact absurd H (by simp)
          ·rw [if_neg c26] at H
           obtain ⟨c26b0, c26b1⟩ := bqF c26
           simp only [Option.some.injEq, Prod.mk.injEq] at H
           obtain ⟨rfl, rfl⟩ := H
           have p106 : 0 ≤ (x30_2 : Int) := of_decide_eq_true (by first | (with_reducible assumption) | assumption)
           have q106 : x30_2 < (l2.length : Int) := of_decide_eq_true (by first | (with_reducible assumption) | assumption)
           obtain ⟨ad106, e106, hx106_0, hx106_1, hx106_2⟩ := at_T64 HR2.out x30_2 p106 q106
           cases e106
           replace hx106_0 := (HB.out.cell (World.block_lt_of_cell? w _ hx106_0)).trans hx106_0
           replace hx106_1 := (HB.out.cell (World.block_lt_of_cell? w _ hx106_1)).trans hx106_1
           replace hx106_2 := (HB.out.cell (World.block_lt_of_cell? w _ hx106_2)).trans hx106_2
           replace p106 := eq_true p106
           replace q106 := eq_true q106
           go_wp2_with (first | ((with_reducible refine gate_dst (N := 12) rfl ?_); refine bX 12 #[.int .i64 0, .int .i64 0, .int .i64 0] 64 ?_; intro gb107 hg w34 hbox hb; have BK107 := aM (hbox); have GW107 := aM ((by rw [hg]; exact (below_size bE) : w.heap.size ≤ gb107)); have GE107 := GW107; have NB101_107 := aM ((by rw [hg]; exact Nat.ne_of_lt (blk_lt (g := gb101) (o := .cells #[.int .i64 a1_0, .int .i64 a1_1, .int .i64 a1_2] 64 (0, 0)) (bd BK101.out)) : gb101 ≠ gb107)); have NB107_101 := aM ((by rw [hg]; exact Nat.ne_of_gt (blk_lt (g := gb101) (o := .cells #[.int .i64 a1_0, .int .i64 a1_1, .int .i64 a1_2] 64 (0, 0)) (bd BK101.out)) : gb107 ≠ gb101)); replace HO_10 := aM (Kd.R_below (by (with_reducible repeat (first | apply Kd.R_alloc | apply Kd.R_drewN | apply Kd.R_drew)); exact HO_10.out) hb); replace BK101 := aM (blk_below (g := gb101) (o := .cells #[.int .i64 a1_0, .int .i64 a1_1, .int .i64 a1_2] 64 (0, 0)) (bd BK101.out) hb); replace HB := aM (below_step bE hb); clear hb hbox hg; have hnb35 := NB107_101.out; have hnc35 := NB101_107.out; obtain ⟨hcz36_0, hcz36_1, hcz36_2, hfz36_0, hfz36_1, hfz36_2⟩ := bc3 BK107.out; obtain ⟨hcz37_0, hcz37_1, hcz37_2, hfz37_0, hfz37_1, hfz37_2⟩ := bc3 BK101.out) | ((with_reducible refine gate_callee (f := 41) rfl ?_); refine gL 46 Tryz.func41 #[.string a0, .int .i64 (wrap64 (((rd_T64 l2 x30_2).f1) - a1_1)), .int .i64 (wrap64 (((rd_T64 l2 x30_2).f2) - a1_2))] ?_; (with_reducible refine (mcp.calls a0 (wrap64 (((rd_T64 l2 x30_2).f1) - a1_1)) (wrap64 (((rd_T64 l2 x30_2).f2) - a1_2)) t108 t109 _ ?side1 A25.out).mono ?_); (case side1 => exact GL.below hG bE); rintro e w38 ⟨rfl, hb⟩; refine ⟨_, rfl, ?_⟩; have n0_ := aM (Kd.R_below (by (with_reducible repeat (first | apply Kd.R_alloc | apply Kd.R_drewN | apply Kd.R_drew)); exact (Kd.R_mono (Kd.R_far (p := ⟨gb107, 2, none⟩) (Kd.R_far (p := ⟨gb107, 1, none⟩) (Kd.R_far (p := ⟨gb107, 0, none⟩) (Kd.R_types HO_10.out BK107.out (by decide)) (fun _ hk => hk.2) (.int .i64 ((rd_T64 l2 x30_2).f0))) (fun _ hk => hk.2) (.int .i64 ((rd_T64 l2 x30_2).f1))) (fun _ hk => hk.2) (.int .i64 ((rd_T64 l2 x30_2).f2))) (fun _ h_ => h_.1))) hb); have n1_ := aM (blk_below (g := gb101) (o := .cells #[.int .i64 a1_0, .int .i64 a1_1, .int .i64 a1_2] 64 (0, 0)) (by (repeat refine blk_far ?_ NB101_107.out _); exact BK101.out) hb); have n2_ := aM (blk_below (g := gb107) (o := .cells #[.int .i64 ((rd_T64 l2 x30_2).f0), .int .i64 ((rd_T64 l2 x30_2).f1), .int .i64 ((rd_T64 l2 x30_2).f2)] 64 (0, 0)) (bP BK107.out) hb); have n3_ := aM (below_step bE hb); clear HO_10; clear BK101; clear BK107; clear HB; have HO_10 := n0_; have BK101 := n1_; have BK107 := n2_; have HB := n3_; clear n0_ n1_ n2_ n3_; (try clear hb)))
           go_ret2
           exact ⟨_, eR, by first | exact Kd.R_nil _ _ _ _ _ | exact Kd.N_nil _ _ _ _ _ | exact Kd.V_nil _ _ _ _ _ | exact Kd.Q_nil _ _ _ _ _ | exact Kd.S_nil _ _ _ _ _, bE⟩
         ·rw [if_neg c24] at H
          exact absurd H (by simp)
        ·rw [if_neg c23] at H
         exact absurd H (by simp)
       ·rw [if_neg c22] at H
        have c22b0 : decide (x30_2 < (l2.length : Int)) = false := decide_eq_false c22
        clear c22
        simp only [Option.some.injEq, Prod.mk.injEq] at H
        obtain ⟨rfl, rfl⟩ := H
        go_wp2
        go_ret2
        exact ⟨_, eR, by (with_reducible repeat (first | apply Kd.R_alloc | apply Kd.R_drewN | apply Kd.R_drew)); exact HO_10.out, bE⟩
    ·replace c19 := Bool.eq_false_iff.mpr c19
     subst c19
     rw [if_neg Bool.false_ne_true] at H
     simp only [Option.some.injEq, Prod.mk.injEq] at H
     obtain ⟨rfl, rfl⟩ := H
     have hcz39_0 : wr.cell? ⟨gb101, 0, none⟩ = some (.int .i64 a1_0) := (blk_cell BK101.out 0).trans rfl
     have hcz39_1 : wr.cell? ⟨gb101, 1, none⟩ = some (.int .i64 a1_1) := (blk_cell BK101.out 1).trans rfl
     have hcz39_2 : wr.cell? ⟨gb101, 2, none⟩ = some (.int .i64 a1_2) := (blk_cell BK101.out 2).trans rfl
     have hfz39_0 := blk_frozen BK101.out 0
     have hfz39_1 := blk_frozen BK101.out 1
     have hfz39_2 := blk_frozen BK101.out 2
     go_wp2_with (first | ((with_reducible refine gate_callee (f := 65) rfl ?_); refine gL 26 Tryz.func65 #[.agg #[.int .i64 a1_0, .int .i64 a1_1, .int .i64 a1_2]] ?_; (with_reducible refine (Nad.calls a1_0 a1_1 a1_2 false _ A18.out).mono ?_); rintro e w40 ⟨rfl, hb⟩; refine ⟨_, rfl, ?_⟩; replace BK101 := aM (blk_below (g := gb101) (o := .cells #[.int .i64 a1_0, .int .i64 a1_1, .int .i64 a1_2] 64 (0, 0)) (bd BK101.out) hb); replace HB := aM (below_step bE hb); (try clear hb)))
     go_ret2
     exact ⟨_, eR, by first | exact Kd.R_nil _ _ _ _ _ | exact Kd.N_nil _ _ _ _ _ | exact Kd.V_nil _ _ _ _ _ | exact Kd.Q_nil _ _ _ _ _ | exact Kd.S_nil _ _ _ _ _, bE⟩
end
end Go.Proofs.YtejbbceidnaloaaGreatDoor.P
