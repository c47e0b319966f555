/-
  PlaceCursors: for every area and every script the law answers true: the program's cursor and the document's go through the same states.
-/
import Derived.Test.YtijmipnafhljkaaDoorPlainAt
import Derived.Test.YtijmipnafhljkaaDoorPtNext
import Derived.Test.YtijmipnafhljkaaDoorPtRCur
import Derived.Test.YtijmipnafhljkaaDoorPx66
import Derived.WalkKit
import Derived.LoopTactic
import Derived.Deep.RegionWith
import Derived.Below
namespace Go.Proofs.YtijmipnafhljkaaDoor.P
open Go.RowKit Go.Proofs.YtijmipnafhljkaaDoorW.PrintWords Go.Proofs.YtijmipnafhljkaaDoorW.PrintLast Go.Proofs.YtijmipnafhljkaaDoorW.PrintMore
set_option linter.unusedVariables false
set_option linter.unusedSimpArgs false

theorem refRight_f (s r c : Int) : whittleref3_Right.f s r c = some (decide (cellP s r c)) := by
  unfold whittleref3_Right.f
  by_cases h : cellP s r c
  · obtain ⟨h1, h2, h3, h4, h5, h6⟩ := h
    simp [cellP, h1, h2, h3, h4, h5, h6]
  · rw [decide_eq_false h]
    unfold cellP at h
    by_cases h1 : s ≥ 0 <;> by_cases h2 : s < 16 <;> by_cases h3 : r ≥ 0 <;> by_cases h4 : r < 65536 <;> by_cases h5 : c ≥ 0 <;> by_cases h6 : c < 256 <;> simp [h1, h2, h3, h4, h5, h6] <;> omega
theorem refRightArea_f (s t l b r : Int) : whittleref3_RightArea.f s t l b r = some (decide (areaP s t l b r)) := by
  unfold whittleref3_RightArea.f
  by_cases h : areaP s t l b r
  · obtain ⟨h1, h2, h3, h4, h5, h6, h7, h8⟩ := h
    simp [areaP, h1, h2, h3, h4, h5, h6, h7, h8]
  · rw [decide_eq_false h]
    unfold areaP at h
    by_cases h1 : s ≥ 0
    · by_cases h2 : s < 16
      · by_cases h3 : t ≥ 0
        · by_cases h4 : t ≤ b
          · by_cases h5 : b < 65536
            · by_cases h6 : l ≥ 0
              · by_cases h7 : l ≤ r
                · simp [h1, h2, h3, h4, h5, h6, h7]; omega
                · simp [h1, h2, h3, h4, h5, h6, h7]
              · simp [h1, h2, h3, h4, h5, h6]
            · simp [h1, h2, h3, h4, h5]
          · simp [h1, h2, h3, h4]
        · simp [h1, h2, h3]
      · simp [h1, h2]
    · simp [h1]
theorem refSize_f (s t l b r : Int) : whittleref3_Size.f s t l b r = some (sizeV s t l b r) := by
  unfold whittleref3_Size.f sizeV
  simp only [refRightArea_f, Option.bind_some, decide_eq_true_eq]
  by_cases h : areaP s t l b r
  · rw [if_pos h, if_pos h]
    unfold areaP at h
    have z := size_range (t := t) (l := l) (b := b) (r := r) (by omega) (by omega) (by omega) (by omega) (by omega) (by omega)
    have e : wrap64 (wrap64 (b - t) + 1) = b - t + 1 := by unfold wrap64; omega
    have e' : wrap64 (wrap64 (r - l) + 1) = r - l + 1 := by unfold wrap64; omega
    rw [e, e', Int.mul_comm]
    unfold wrap64
    congr 1; omega
  · rw [if_neg h, if_neg h]
theorem refAt_f (s t l b r n : Int) : whittleref3_At.f s t l b r n = some (atV s t l b r n) := by
  unfold whittleref3_At.f atV
  by_cases h0 : n < 0
  · rw [if_pos h0, if_neg (by omega)]
  · rw [if_neg h0]
    simp only [refSize_f, Option.bind_some]
    by_cases h1 : n ≥ sizeV s t l b r
    · rw [if_pos h1, if_neg (by omega)]
    · have ha := sizeV_area (s := s) (t := t) (l := l) (b := b) (r := r) (by omega)
      obtain ⟨w1, w2, w3, w4⟩ := area_wide ha
      have hr := row_lt (n := n) (w := r - l + 1) (h := b - t + 1) w1 (by omega) (by rw [← sizeV_pos ha]; omega)
      have hm := Int.emod_lt_of_pos n (show 0 < r - l + 1 by omega)
      have hm0 := Int.emod_nonneg n (show r - l + 1 ≠ 0 by omega)
      have ha' := ha
      unfold areaP at ha'
      have ew : wrap64 (wrap64 (r - l) + 1) = r - l + 1 := by unfold wrap64; omega
      rw [if_neg h1, ew, if_neg (show ¬ r - l + 1 = 0 by omega), if_pos (show 0 ≤ n ∧ n < sizeV s t l b r by omega), Int.tdiv_eq_ediv_of_nonneg (by omega), Int.tmod_eq_emod_of_nonneg (by omega)]
      have e1 : wrap64 (n / (r - l + 1)) = n / (r - l + 1) := by unfold wrap64; omega
      rw [e1]
      have e2 : wrap64 (t + n / (r - l + 1)) = t + n / (r - l + 1) := by unfold wrap64; omega
      have e3 : wrap64 (l + n % (r - l + 1)) = l + n % (r - l + 1) := by unfold wrap64; omega
      rw [e2, e3]
theorem Peek_f (k : Nat) (s t l b r p q : Int) (hp : 0 ≤ p) (hq : 0 ≤ q) (hs : p + q = sizeV s t l b r) :
    place_Span_Peek.f (k + 1) s t l b r p q = some ((atV s t l b r p).1, (atV s t l b r p).2.1, (atV s t l b r p).2.2.1, (atV s t l b r p).2.2.2, s, t, l, b, r, p, q) := by
  unfold place_Span_Peek.f
  by_cases h : q = 0
  · rw [if_pos h]
    unfold atV
    rw [if_neg (by omega)]
  · rw [if_neg h, At_f]
    rfl
/-- How many a step passes. -/
def stepV (q : Int) : Int := if q = 0 then 0 else 1
theorem Next_f (k : Nat) (s t l b r p q : Int) (hp : 0 ≤ p) (hq : 0 ≤ q) (hs : p + q = sizeV s t l b r) :
    place_Cursor_Next.f (k + 1) s t l b r p q = some ((atV s t l b r p).1, (atV s t l b r p).2.1, (atV s t l b r p).2.2.1, (atV s t l b r p).2.2.2, s, t, l, b, r, p + stepV q, q - stepV q) := by
  have z := sizeV_le s t l b r
  unfold place_Cursor_Next.f place_Cursor_Skip.f
  rw [Peek_f k s t l b r p q hp hq hs]
  simp only [Option.bind_some]
  have e : mx 0 (mn 1 q) = stepV q := by unfold mx mn stepV; (repeat' split) <;> omega
  have b1 : 0 ≤ stepV q ∧ stepV q ≤ 1 := by unfold stepV; split <;> omega
  have e1 : wrap64 (p + stepV q) = p + stepV q := by unfold wrap64; omega
  have e2 : wrap64 (q - stepV q) = q - stepV q := by unfold wrap64; omega
  rw [e, e1, e2]

section
variable {w0 w : World} {g : Nat} {s t l b r p q : Int} {x1 x2 x3 : Int} {x4 : Bool}
theorem c_peek (hp : 0 ≤ p) (hq : 0 ≤ q) (hs : p + q = sizeV s t l b r) (hx : atV s t l b r p = (x1, x2, x3, x4)) (hI : IsS57 w0 w g s t l b r p q) (hB : Below w0.heap.size w0 w) :
    Calls Tryd.prog 47 #[.pointer (some ⟨g, 0, none⟩)] w fun e w' => e = .returned (.tuple #[.agg #[.int .i64 x1, .int .i64 x2, .int .i64 x3], .bool x4]) ∧ IsS57 w0 w' g s t l b r p q ∧ Below w0.heap.size w0 w' ∧ KeepBut w w' g none :=
  place_Span_Peek.calls 1 g s t l b r p q x1 x2 x3 x4 s t l b r p q w0 w hI hB (by rw [Peek_f 0 s t l b r p q hp hq hs, hx])
theorem c_next (hp : 0 ≤ p) (hq : 0 ≤ q) (hs : p + q = sizeV s t l b r) (hx : atV s t l b r p = (x1, x2, x3, x4)) (hI : IsS57 w0 w g s t l b r p q) (hB : Below w0.heap.size w0 w) :
    Calls Tryd.prog 40 #[.pointer (some ⟨g, 0, none⟩)] w fun e w' => e = .returned (.tuple #[.agg #[.int .i64 x1, .int .i64 x2, .int .i64 x3], .bool x4]) ∧ IsS57 w0 w' g s t l b r (p + stepV q) (q - stepV q) ∧ Below w0.heap.size w0 w' ∧ KeepBut w w' g none :=
  place_Cursor_Next.calls 1 g s t l b r p q x1 x2 x3 x4 s t l b r (p + stepV q) (q - stepV q) w0 w hI hB (by rw [Next_f 0 s t l b r p q hp hq hs, hx])
theorem c_passed (hI : IsS57 w0 w g s t l b r p q) (hB : Below w0.heap.size w0 w) :
    Calls Tryd.prog 42 #[.pointer (some ⟨g, 0, none⟩)] w fun e w' => e = .returned (.int .i64 p) ∧ IsS57 w0 w' g s t l b r p q ∧ Below w0.heap.size w0 w' ∧ KeepBut w w' g none :=
  place_Span_Passed.calls g s t l b r p q p s t l b r p q w0 w hI hB rfl
theorem c_left (hI : IsS57 w0 w g s t l b r p q) (hB : Below w0.heap.size w0 w) :
    Calls Tryd.prog 41 #[.pointer (some ⟨g, 0, none⟩)] w fun e w' => e = .returned (.int .i64 q) ∧ IsS57 w0 w' g s t l b r p q ∧ Below w0.heap.size w0 w' ∧ KeepBut w w' g none :=
  place_Span_Left.calls g s t l b r p q q s t l b r p q w0 w hI hB rfl
/-- How many a skip passes. -/
def skipV (n q : Int) : Int := mx 0 (mn n q)
theorem skipV_range (n : Int) {q : Int} (hq : 0 ≤ q) : 0 ≤ skipV n q ∧ skipV n q ≤ q := by unfold skipV mx mn; (repeat' split) <;> omega
theorem stepV_range {q : Int} (hq : 0 ≤ q) : 0 ≤ stepV q ∧ stepV q ≤ 1 ∧ stepV q ≤ q := by unfold stepV; split <;> omega
theorem c_skip {n : Int} (hp : 0 ≤ p) (hq : 0 ≤ q) (hs : p + q = sizeV s t l b r) (hI : IsS57 w0 w g s t l b r p q) (hB : Below w0.heap.size w0 w) :
    Calls Tryd.prog 43 #[.pointer (some ⟨g, 0, none⟩), .int .i64 n] w fun e w' => e = .returned (.int .i64 (skipV n q)) ∧ IsS57 w0 w' g s t l b r (p + skipV n q) (q - skipV n q) ∧ Below w0.heap.size w0 w' ∧ KeepBut w w' g none :=
  place_Cursor_Skip.calls g s t l b r p q n (skipV n q) s t l b r (p + skipV n q) (q - skipV n q) w0 w hI hB (by
    have z := sizeV_le s t l b r
    have y := skipV_range n hq
    unfold place_Cursor_Skip.f
    rw [show mx 0 (mn n q) = skipV n q from rfl, show wrap64 (p + skipV n q) = p + skipV n q from by unfold wrap64; omega, show wrap64 (q - skipV n q) = q - skipV n q from by unfold wrap64; omega])
theorem d_peek (hx : atV s t l b r p = (x1, x2, x3, x4)) (hI : IsS82 w0 w g s t l b r p) (hB : Below w0.heap.size w0 w) :
    Calls Tryd.prog 67 #[.pointer (some ⟨g, 0, none⟩)] w fun e w' => e = .returned (.tuple #[.agg #[.int .i64 x1, .int .i64 x2, .int .i64 x3], .bool x4]) ∧ IsS82 w0 w' g s t l b r p ∧ Below w0.heap.size w0 w' ∧ KeepBut w w' g none :=
  whittleref3_Cursor_Peek.calls g s t l b r p x1 x2 x3 x4 s t l b r p w0 w hI hB (by unfold whittleref3_Cursor_Peek.f; rw [refAt_f, hx]; rfl)
theorem d_passed (hI : IsS82 w0 w g s t l b r p) (hB : Below w0.heap.size w0 w) :
    Calls Tryd.prog 68 #[.pointer (some ⟨g, 0, none⟩)] w fun e w' => e = .returned (.int .i64 p) ∧ IsS82 w0 w' g s t l b r p ∧ Below w0.heap.size w0 w' ∧ KeepBut w w' g none :=
  whittleref3_Cursor_Passed.calls g s t l b r p p s t l b r p w0 w hI hB rfl
theorem left_eq (hp : 0 ≤ p) (hq : 0 ≤ q) (hs : p + q = sizeV s t l b r) : whittleref3_Cursor_Left.f s t l b r p = some (q, s, t, l, b, r, p) := by
  have z := sizeV_le s t l b r
  unfold whittleref3_Cursor_Left.f
  rw [refSize_f]
  simp only [Option.bind_some]
  rw [show wrap64 (sizeV s t l b r - p) = q from by unfold wrap64; omega]
theorem d_left (hp : 0 ≤ p) (hq : 0 ≤ q) (hs : p + q = sizeV s t l b r) (hI : IsS82 w0 w g s t l b r p) (hB : Below w0.heap.size w0 w) :
    Calls Tryd.prog 69 #[.pointer (some ⟨g, 0, none⟩)] w fun e w' => e = .returned (.int .i64 q) ∧ IsS82 w0 w' g s t l b r p ∧ Below w0.heap.size w0 w' ∧ KeepBut w w' g none :=
  whittleref3_Cursor_Left.calls g s t l b r p q s t l b r p w0 w hI hB (left_eq hp hq hs)
theorem at_is (hp : 0 ≤ p) (hq : 0 ≤ q) (hs : p + q = sizeV s t l b r) (hx : atV s t l b r p = (x1, x2, x3, x4)) : (if x4 = true then p + 1 else p) = p + stepV q := by
  unfold stepV
  unfold atV at hx
  by_cases h : q = 0
  · rw [if_neg (by omega)] at hx
    simp only [Prod.mk.injEq] at hx
    obtain ⟨_, _, _, rfl⟩ := hx
    rw [if_pos h]; simp
  · rw [if_pos (by omega)] at hx
    simp only [Prod.mk.injEq] at hx
    obtain ⟨_, _, _, rfl⟩ := hx
    rw [if_neg h]; simp
theorem d_next (hp : 0 ≤ p) (hq : 0 ≤ q) (hs : p + q = sizeV s t l b r) (hx : atV s t l b r p = (x1, x2, x3, x4)) (hI : IsS82 w0 w g s t l b r p) (hB : Below w0.heap.size w0 w) :
    Calls Tryd.prog 45 #[.pointer (some ⟨g, 0, none⟩)] w fun e w' => e = .returned (.tuple #[.agg #[.int .i64 x1, .int .i64 x2, .int .i64 x3], .bool x4]) ∧ IsS82 w0 w' g s t l b r (p + stepV q) ∧ Below w0.heap.size w0 w' ∧ KeepBut w w' g none :=
  whittleref3_Cursor_Next.calls g s t l b r p x1 x2 x3 x4 s t l b r (p + stepV q) w0 w hI hB (by
    have z := sizeV_le s t l b r
    have e := at_is hp hq hs hx
    unfold whittleref3_Cursor_Next.f; rw [refAt_f, hx]
    simp only [Option.bind_some]
    cases x4
    · simp at e ⊢; omega
    · have e1 : wrap64 (p + 1) = p + 1 := by unfold wrap64; omega
      simp only [if_true] at e ⊢
      rw [e1, e])
theorem d_skip {n : Int} (hp : 0 ≤ p) (hq : 0 ≤ q) (hs : p + q = sizeV s t l b r) (hI : IsS82 w0 w g s t l b r p) (hB : Below w0.heap.size w0 w) :
    Calls Tryd.prog 46 #[.pointer (some ⟨g, 0, none⟩), .int .i64 n] w fun e w' => e = .returned (.int .i64 (skipV n q)) ∧ IsS82 w0 w' g s t l b r (p + skipV n q) ∧ Below w0.heap.size w0 w' ∧ KeepBut w w' g none :=
  whittleref3_Cursor_Skip.calls g s t l b r p n (skipV n q) s t l b r (p + skipV n q) w0 w hI hB (by
    have z := sizeV_le s t l b r
    have y := skipV_range n hq
    unfold whittleref3_Cursor_Skip.f
    rw [left_eq hp hq hs]
    simp only [Option.bind_some]
    rw [show mx 0 (mn n q) = skipV n q from rfl, show wrap64 (p + skipV n q) = p + skipV n q from by unfold wrap64; omega])
end
/-- Both cursors: the program's has passed p, q are left; the document's has passed n. -/
structure Both (w0 w : World) (g h : Nat) (s t l b r p q n : Int) : Prop where
  c : IsS57 w0 w g s t l b r p q
  d : IsS82 w0 w h s t l b r n
  B : Below w0.heap.size w0 w
theorem Both.ne {w0 w : World} {g h : Nat} {s t l b r p q n : Int} (k : Both w0 w g h s t l b r p q n) : g ≠ h := k.c.ne_blk k.d.1 (by decide)
theorem Both.byC {w0 w w1 : World} {g h : Nat} {s t l b r p q n p1 q1 : Int} (k : Both w0 w g h s t l b r p q n) (hI : IsS57 w0 w1 g s t l b r p1 q1) (hB : Below w0.heap.size w0 w1) (hk : KeepBut w w1 g none) : Both w0 w1 g h s t l b r p1 q1 n :=
  ⟨hI, ⟨hk.blk k.d.1 k.ne.symm (by simp), k.d.2⟩, hB⟩
theorem Both.byD {w0 w w1 : World} {g h : Nat} {s t l b r p q n n1 : Int} (k : Both w0 w g h s t l b r p q n) (hI : IsS82 w0 w1 h s t l b r n1) (hB : Below w0.heap.size w0 w1) (hk : KeepBut w w1 h none) : Both w0 w1 g h s t l b r p q n1 :=
  ⟨⟨hk.blk k.c.1 k.ne (by simp), k.c.2⟩, hI, hB⟩
theorem Both.byO {w0 w w1 : World} {g h o : Nat} {s t l b r p q n : Int} (k : Both w0 w g h s t l b r p q n) (hB : Below w0.heap.size w0 w1) (hk : KeepBut w w1 o none) (h1 : g ≠ o) (h2 : h ≠ o) : Both w0 w1 g h s t l b r p q n :=
  ⟨⟨hk.blk k.c.1 h1 (by simp), k.c.2⟩, ⟨hk.blk k.d.1 h2 (by simp), k.d.2⟩, hB⟩
theorem Both.below {w0 w w1 : World} {g h : Nat} {s t l b r p q n : Int} (k : Both w0 w g h s t l b r p q n) (hb : Below w.heap.size w w1) : Both w0 w1 g h s t l b r p q n :=
  ⟨k.c.below hb, k.d.below hb, below_step k.B hb⟩
abbrev set3 (w : World) (g : Nat) (a b c : Value) : World := ((w.setCell ⟨g, 0, none⟩ a).setCell ⟨g, 1, none⟩ b).setCell ⟨g, 2, none⟩ c
theorem set3_blk {w : World} {g : Nat} {t : TypeId} {x y z : Value} (h : w.heap[g]? = some (.cells #[x, y, z] t (0, 0))) (a b c : Value) : (set3 w g a b c).heap[g]? = some (.cells #[a, b, c] t (0, 0)) :=
  blk_put (blk_put (blk_put h 0 a rfl) 1 b rfl) 2 c rfl
theorem set3_far {w : World} {g o : Nat} {t : TypeId} {cs : Array Value} (h : w.heap[g]? = some (.cells cs t (0, 0))) (ho : g ≠ o) (a b c : Value) : (set3 w o a b c).heap[g]? = some (.cells cs t (0, 0)) :=
  blk_far (blk_far (blk_far h ho _) ho _) ho _
theorem Both.set3 {w0 w : World} {g h o : Nat} {s t l b r p q n : Int} (k : Both w0 w g h s t l b r p q n) (h1 : g ≠ o) (h2 : h ≠ o) (h3 : w0.heap.size ≤ o) (x y z : Value) : Both w0 (P.set3 w o x y z) g h s t l b r p q n :=
  ⟨((k.c.far h1 _).far h1 _).far h1 _, ((k.d.far h2 _).far h2 _).far h2 _, ((k.B.setCell h3 _).setCell h3 _).setCell h3 _⟩
theorem Both.nec {w0 w : World} {g h o : Nat} {s t l b r p q n : Int} {cs : Array Value} (k : Both w0 w g h s t l b r p q n) (ho : w.heap[o]? = some (.cells cs 23 (0, 0))) : g ≠ o ∧ h ≠ o := ⟨k.c.ne_blk ho (by decide), k.d.ne_blk ho (by decide)⟩
set_option maxHeartbeats 2000000 in
set_option maxRecDepth 100000 in
theorem looks_true {w0 w : World} {gc gd : Nat} {s t l b r p q : Int} (hp : 0 ≤ p) (hq : 0 ≤ q) (hs : p + q = sizeV s t l b r) (k : Both w0 w gc gd s t l b r p q p) :
    Calls Tryd.prog 44 #[.pointer (some ⟨gc, 0, none⟩), .pointer (some ⟨gd, 0, none⟩)] w fun e w' => e = .returned (.bool true) ∧ Both w0 w' gc gd s t l b r p q p := by
  obtain ⟨⟨x1, x2, x3, x4⟩, hx⟩ : ∃ v, atV s t l b r p = v := ⟨_, rfl⟩
  have Hx := Lib.hid hx
  have Hs := Lib.hid hs
  clear hx hs
  have hu23 := Tryd.underlying23
  go_enter Tryd.func44, Tryd.ntmps44
  go_wp2_with fail
  refine (c_peek hp hq Hs.out Hx.out k.c k.B).mono ?_
  rintro e w1 ⟨rfl, hI1, hB1, hK1⟩
  have k1 := k.byC hI1 hB1 hK1
  clear hI1 hB1 hK1
  go_wp2_with (first | ((with_reducible refine gate_dst (N := 5) rfl ?_); refine box_event ?hg (N := 5) ?hd (cs := #[.int .i64 0, .int .i64 0, .int .i64 0]) (t := 23) ?hr ?_; (case hd => rfl); (case hg => rfl); (case hr => first | (go_simp; done) | (go_simp; rfl)); intro g5 hg_ w2 hbg5 hl_; have k2 := k1.below hl_; have cg5_0 : w2.cell? ⟨g5, 0, none⟩ = some (.int .i64 0) := (blk_cell hbg5 0).trans rfl; have fg5_0 := blk_frozen hbg5 0; have cg5_1 : w2.cell? ⟨g5, 1, none⟩ = some (.int .i64 0) := (blk_cell hbg5 1).trans rfl; have fg5_1 := blk_frozen hbg5 1; have cg5_2 : w2.cell? ⟨g5, 2, none⟩ = some (.int .i64 0) := (blk_cell hbg5 2).trans rfl; have fg5_2 := blk_frozen hbg5 2; have hz5 : w0.heap.size ≤ g5 := hg_ ▸ k1.B.size; clear hl_ hg_))
  have k3 := k2.set3 (k2.nec hbg5).1 (k2.nec hbg5).2 hz5 (.int .i64 x1) (.int .i64 x2) (.int .i64 x3)
  have b5 := set3_blk hbg5 (.int .i64 x1) (.int .i64 x2) (.int .i64 x3)
  refine (d_peek Hx.out k3.d k3.B).mono ?_
  rintro e w4 ⟨rfl, hI4, hB4, hK4⟩
  have k4 := k3.byD hI4 hB4 hK4
  have d5 := hK4.blk b5 (k3.nec b5).2.symm (by simp)
  clear hI4 hB4 hK4 b5 hbg5 cg5_0 cg5_1 cg5_2 fg5_0 fg5_1 fg5_2
  go_wp2_with (first | ((with_reducible refine gate_dst (N := 7) rfl ?_); refine box_event ?hg (N := 7) ?hd (cs := #[.int .i64 0, .int .i64 0, .int .i64 0]) (t := 23) ?hr ?_; (case hd => rfl); (case hg => rfl); (case hr => first | (go_simp; done) | (go_simp; rfl)); intro g7 hg_ w5 hbg7 hl_; have k5 := k4.below hl_; have cg7_0 : w5.cell? ⟨g7, 0, none⟩ = some (.int .i64 0) := (blk_cell hbg7 0).trans rfl; have fg7_0 := blk_frozen hbg7 0; have cg7_1 : w5.cell? ⟨g7, 1, none⟩ = some (.int .i64 0) := (blk_cell hbg7 1).trans rfl; have fg7_1 := blk_frozen hbg7 1; have cg7_2 : w5.cell? ⟨g7, 2, none⟩ = some (.int .i64 0) := (blk_cell hbg7 2).trans rfl; have fg7_2 := blk_frozen hbg7 2; have hz7 : w0.heap.size ≤ g7 := hg_ ▸ k4.B.size; have n57 : g5 ≠ g7 := (by have := blk_lt d5; omega); have n75 : g7 ≠ g5 := n57.symm; have e5 := blk_below d5 hl_; have q5_0 : w5.cell? ⟨g5, 0, none⟩ = some (.int .i64 x1) := (blk_cell e5 0).trans rfl; have q5_1 : w5.cell? ⟨g5, 1, none⟩ = some (.int .i64 x2) := (blk_cell e5 1).trans rfl; have q5_2 : w5.cell? ⟨g5, 2, none⟩ = some (.int .i64 x3) := (blk_cell e5 2).trans rfl; clear hl_ hg_))
  have k6 := k5.set3 (k5.nec hbg7).1 (k5.nec hbg7).2 hz7 (.int .i64 x1) (.int .i64 x2) (.int .i64 x3)
  clear hbg7 cg7_0 cg7_1 cg7_2 fg7_0 fg7_1 fg7_2 q5_0 q5_1 q5_2 d5 e5
  refine (c_passed k6.c k6.B).mono ?_
  rintro e w7 ⟨rfl, hI7, hB7, hK7⟩
  have k7 := k6.byC hI7 hB7 hK7
  clear hI7 hB7 hK7 k6
  go_wp2_with fail
  refine (d_passed k7.d k7.B).mono ?_
  rintro e w8 ⟨rfl, hI8, hB8, hK8⟩
  have k8 := k7.byD hI8 hB8 hK8
  clear hI8 hB8 hK8 k7
  go_wp2_with fail
  refine (c_left k8.c k8.B).mono ?_
  rintro e w9 ⟨rfl, hI9, hB9, hK9⟩
  have k9 := k8.byC hI9 hB9 hK9
  clear hI9 hB9 hK9 k8
  go_wp2_with fail
  refine (d_left hp hq Hs.out k9.d k9.B).mono ?_
  rintro e w10 ⟨rfl, hI10, hB10, hK10⟩
  have k10 := k9.byD hI10 hB10 hK10
  clear hI10 hB10 hK10 k9
  go_wp2_with fail
  go_ret
  exact ⟨rfl, k10⟩

theorem cell_of_below {W w' : World} (hB : Below W.heap.size W w') {p : Addr} {v : Value} (h : W.cell? p = some v) : w'.cell? p = some v := (hB.cell (World.block_lt_of_cell? W p h)).trans h
abbrev set7 (w : World) (g : Nat) (a b c d e f h : Value) : World := ((((((w.setCell ⟨g, 0, none⟩ a).setCell ⟨g, 1, none⟩ b).setCell ⟨g, 2, none⟩ c).setCell ⟨g, 3, none⟩ d).setCell ⟨g, 4, none⟩ e).setCell ⟨g, 5, none⟩ f).setCell ⟨g, 6, none⟩ h
theorem set7_is {w0 w : World} {g : Nat} {x1 x2 x3 x4 x5 x6 x7 : Int} (k : IsS57 w0 w g x1 x2 x3 x4 x5 x6 x7) (a b c d e f h : Int) : IsS57 w0 (set7 w g (.int .i64 a) (.int .i64 b) (.int .i64 c) (.int .i64 d) (.int .i64 e) (.int .i64 f) (.int .i64 h)) g a b c d e f h :=
  ((((((k.set_0 a).set_1 b).set_2 c).set_3 d).set_4 e).set_5 f).set_6 h
theorem set7_below {w0 w : World} {g : Nat} (hB : Below w0.heap.size w0 w) (hz : w0.heap.size ≤ g) (a b c d e f h : Value) : Below w0.heap.size w0 (set7 w g a b c d e f h) :=
  ((((((hB.setCell hz _).setCell hz _).setCell hz _).setCell hz _).setCell hz _).setCell hz _).setCell hz _
theorem set7_other {w : World} {g o : Nat} {ob : Obj} (k : w.heap[o]? = some ob) (h : o ≠ g) (a b c d e f i : Value) : (set7 w g a b c d e f i).heap[o]? = some ob := by
  unfold set7
  rw [Below.heap_setCell _ _ _ _ h, Below.heap_setCell _ _ _ _ h, Below.heap_setCell _ _ _ _ h, Below.heap_setCell _ _ _ _ h, Below.heap_setCell _ _ _ _ h, Below.heap_setCell _ _ _ _ h, Below.heap_setCell _ _ _ _ h]
  exact k
theorem IsS57.set3' {w0 w : World} {g o : Nat} {x1 x2 x3 x4 x5 x6 x7 : Int} (k : IsS57 w0 w g x1 x2 x3 x4 x5 x6 x7) (h : g ≠ o) (a b c : Value) : IsS57 w0 (set3 w o a b c) g x1 x2 x3 x4 x5 x6 x7 := ((k.far h a).far h b).far h c
theorem next_none : place_Cursor_Next.f 1 0 0 0 0 0 0 0 = some (0, 0, 0, false, 0, 0, 0, 0, 0, 0, 0) := by
  unfold place_Cursor_Next.f place_Span_Peek.f place_Cursor_Skip.f
  rw [if_pos rfl]
  simp only [Option.bind_some]
  rw [show mx 0 (mn 1 0) = 0 from by unfold mx mn; decide, show wrap64 (0 + 0) = 0 from by unfold wrap64; omega, show wrap64 (0 - 0) = 0 from by unfold wrap64; omega]
theorem skip_none : place_Cursor_Skip.f 0 0 0 0 0 0 0 5 = some (0, 0, 0, 0, 0, 0, 0, 0) := by
  unfold place_Cursor_Skip.f
  rw [show mx 0 (mn 5 0) = 0 from by unfold mx mn; decide, show wrap64 (0 + 0) = 0 from by unfold wrap64; omega, show wrap64 (0 - 0) = 0 from by unfold wrap64; omega]
theorem set7_keep (w : World) (g : Nat) (a b c d e f h : Value) : KeepBut w (set7 w g a b c d e f h) g none :=
  (((((((KeepBut.refl w g none).set_ 0 a).set_ 1 b).set_ 2 c).set_ 3 d).set_ 4 e).set_ 5 f).set_ 6 h
theorem Both.drew {w0 w : World} {g h : Nat} {s t l b r p q n : Int} (k : Both w0 w g h s t l b r p q n) : Both w0 w.drew g h s t l b r p q n := ⟨k.c.drew, k.d.drew, k.B.drew⟩
theorem over_c (s t l b r : Int) : place_Over.f s t l b r = some (s, t, l, b, r, 0, sizeV s t l b r) := by
  unfold place_Over.f
  rw [Size_f]
  rfl
theorem over_d (s t l b r : Int) : whittleref3_Over.f s t l b r = some (s, t, l, b, r, 0) := rfl
set_option maxHeartbeats 4000000 in
set_option maxRecDepth 100000 in
theorem cursors_walk (W : World) (s t l b r : Int) (A : Option Addr) (c n : Nat) (hn : n ≤ 9223372036854775807) (hr : ∀ i : Int, 0 ≤ i → i < n → ∃ ad kd m, A = some ad ∧ W.cell? (ad.add (i.toNat * 2)) = some (.int .i64 kd) ∧ W.cell? ⟨(ad.add (i.toNat * 2)).block, (ad.add (i.toNat * 2)).off + 1, none⟩ = some (.int .i64 m)) :
    Calls Tryd.prog 11 #[.agg #[.int .i64 s, .int .i64 t, .int .i64 l, .int .i64 b, .int .i64 r], .slice A n c] W fun e w' => e = .returned (.bool true) ∧ Below W.heap.size W w' := by
  have hu23 := Tryd.underlying23
  have hu25 := Tryd.underlying25
  have hu57 := Tryd.underlying57
  have HR := Lib.hid hr
  clear hr
  go_enter Tryd.func11, Tryd.ntmps11
  go_wp2_with (first | ((with_reducible refine gate_dst (N := 2) rfl ?_); refine box_event ?hg (N := 2) ?hd (cs := #[.int .i64 s, .int .i64 t, .int .i64 l, .int .i64 b, .int .i64 r]) (t := 25) ?hr ?_; (case hd => rfl); (case hg => rfl); (case hr => first | (go_simp; done) | (go_simp; rfl)); intro g2 hg_ w1 hbg2 hl_; have cg2_0 : w1.cell? ⟨g2, 0, none⟩ = some (.int .i64 s) := (blk_cell hbg2 0).trans rfl; have fg2_0 := blk_frozen hbg2 0; have cg2_1 : w1.cell? ⟨g2, 1, none⟩ = some (.int .i64 t) := (blk_cell hbg2 1).trans rfl; have fg2_1 := blk_frozen hbg2 1; have cg2_2 : w1.cell? ⟨g2, 2, none⟩ = some (.int .i64 l) := (blk_cell hbg2 2).trans rfl; have fg2_2 := blk_frozen hbg2 2; have cg2_3 : w1.cell? ⟨g2, 3, none⟩ = some (.int .i64 b) := (blk_cell hbg2 3).trans rfl; have fg2_3 := blk_frozen hbg2 3; have cg2_4 : w1.cell? ⟨g2, 4, none⟩ = some (.int .i64 r) := (blk_cell hbg2 4).trans rfl; have fg2_4 := blk_frozen hbg2 4; have B1 := Lib.hid ((Below.refl W.heap.size W).trans hl_); clear hl_ hg_))
  refine (place_Over.calls s t l b r s t l b r 0 (sizeV s t l b r) w1 (over_c s t l b r)).mono ?_
  rintro e w2 ⟨rfl, hl2⟩
  have B2 := below_step B1.out hl2
  have hb2 := blk_below hbg2 hl2
  clear hl2 hbg2 B1 cg2_0 fg2_0 cg2_1 fg2_1 cg2_2 fg2_2 cg2_3 fg2_3 cg2_4 fg2_4
  have c2_0 : w2.cell? ⟨g2, 0, none⟩ = some (.int .i64 s) := (blk_cell hb2 0).trans rfl
  have c2_1 : w2.cell? ⟨g2, 1, none⟩ = some (.int .i64 t) := (blk_cell hb2 1).trans rfl
  have c2_2 : w2.cell? ⟨g2, 2, none⟩ = some (.int .i64 l) := (blk_cell hb2 2).trans rfl
  have c2_3 : w2.cell? ⟨g2, 3, none⟩ = some (.int .i64 b) := (blk_cell hb2 3).trans rfl
  have c2_4 : w2.cell? ⟨g2, 4, none⟩ = some (.int .i64 r) := (blk_cell hb2 4).trans rfl
  have H2 := Lib.hid hb2
  have HB2 := Lib.hid B2
  clear hb2 B2
  go_wp2_with (first | ((with_reducible refine gate_dst (N := 5) rfl ?_); refine box_event ?hg (N := 5) ?hd (cs := #[.int .i64 0, .int .i64 0, .int .i64 0, .int .i64 0, .int .i64 0, .int .i64 0, .int .i64 0]) (t := 57) ?hr ?_; (case hd => rfl); (case hg => rfl); (case hr => first | (go_simp; done) | (go_simp; rfl)); intro g5 hg_ w3 hbg5 hl_; have cg5_0 : w3.cell? ⟨g5, 0, none⟩ = some (.int .i64 0) := (blk_cell hbg5 0).trans rfl; have fg5_0 := blk_frozen hbg5 0; have cg5_1 : w3.cell? ⟨g5, 1, none⟩ = some (.int .i64 0) := (blk_cell hbg5 1).trans rfl; have fg5_1 := blk_frozen hbg5 1; have cg5_2 : w3.cell? ⟨g5, 2, none⟩ = some (.int .i64 0) := (blk_cell hbg5 2).trans rfl; have fg5_2 := blk_frozen hbg5 2; have cg5_3 : w3.cell? ⟨g5, 3, none⟩ = some (.int .i64 0) := (blk_cell hbg5 3).trans rfl; have fg5_3 := blk_frozen hbg5 3; have cg5_4 : w3.cell? ⟨g5, 4, none⟩ = some (.int .i64 0) := (blk_cell hbg5 4).trans rfl; have fg5_4 := blk_frozen hbg5 4; have cg5_5 : w3.cell? ⟨g5, 5, none⟩ = some (.int .i64 0) := (blk_cell hbg5 5).trans rfl; have fg5_5 := blk_frozen hbg5 5; have cg5_6 : w3.cell? ⟨g5, 6, none⟩ = some (.int .i64 0) := (blk_cell hbg5 6).trans rfl; have fg5_6 := blk_frozen hbg5 6; have hz5 : W.heap.size ≤ g5 := hg_ ▸ HB2.out.size; have n25 : g2 ≠ g5 := (by have := blk_lt H2.out; omega); have n52 : g5 ≠ g2 := n25.symm; have H3 := Lib.hid (blk_below H2.out hl_); have HB3 := Lib.hid (below_step HB2.out hl_); have q2_0 : w3.cell? ⟨g2, 0, none⟩ = some (.int .i64 s) := (blk_cell H3.out 0).trans rfl; have q2_1 : w3.cell? ⟨g2, 1, none⟩ = some (.int .i64 t) := (blk_cell H3.out 1).trans rfl; have q2_2 : w3.cell? ⟨g2, 2, none⟩ = some (.int .i64 l) := (blk_cell H3.out 2).trans rfl; have q2_3 : w3.cell? ⟨g2, 3, none⟩ = some (.int .i64 b) := (blk_cell H3.out 3).trans rfl; have q2_4 : w3.cell? ⟨g2, 4, none⟩ = some (.int .i64 r) := (blk_cell H3.out 4).trans rfl; clear hl_ hg_))
  have D5 := Lib.hid (set7_is (⟨hbg5, hz5⟩ : IsS57 W w3 g5 0 0 0 0 0 0 0) s t l b r 0 (sizeV s t l b r))
  have B4 := Lib.hid (set7_below HB3.out hz5 (.int .i64 s) (.int .i64 t) (.int .i64 l) (.int .i64 b) (.int .i64 r) (.int .i64 0) (.int .i64 (sizeV s t l b r)))
  clear hbg5 cg5_0 fg5_0 cg5_1 fg5_1 cg5_2 fg5_2 cg5_3 fg5_3 cg5_4 fg5_4 cg5_5 fg5_5 cg5_6 fg5_6 q2_0 q2_1 q2_2 q2_3 q2_4 H2 HB2 H3 HB3 n25 n52
  refine (whittleref3_Over.calls s t l b r s t l b r 0 W _ B4.out (over_d s t l b r)).mono ?_
  rintro e w4 ⟨gd, rfl, hD, hB, hl4⟩
  have k4 : Both W w4 g5 gd s t l b r 0 (sizeV s t l b r) 0 := ⟨D5.out.below hl4, hD, hB⟩
  clear hD hB hl4 D5 B4
  go_wp2_with (first | ((with_reducible refine gate_dst (N := 7) rfl ?_); refine box_event ?hg (N := 7) ?hd (cs := #[.int .i64 0, .int .i64 0, .int .i64 0, .int .i64 0, .int .i64 0, .int .i64 0, .int .i64 0]) (t := 57) ?hr ?_; (case hd => rfl); (case hg => rfl); (case hr => first | (go_simp; done) | (go_simp; rfl)); intro g7 hg_ w5 hbg7 hl_; have k5 := k4.below hl_; have hz7 : W.heap.size ≤ g7 := hg_ ▸ k4.B.size; have n57 : g5 ≠ g7 := (by have := k4.c.lt; omega); have nd7 : gd ≠ g7 := (by have := k4.d.lt; omega); clear hl_ hg_))
  have i7 : IsS57 W w5 g7 0 0 0 0 0 0 0 := ⟨hbg7, hz7⟩
  clear hbg7
  refine (place_Cursor_Next.calls 1 g7 0 0 0 0 0 0 0 0 0 0 false 0 0 0 0 0 0 0 W w5 i7 k5.B next_none).mono ?_
  rintro e w6 ⟨rfl, hI6, hB6, hK6⟩
  have k6 := k5.byO hB6 hK6 n57 nd7
  clear hB6 hK6 i7 k5
  go_wp2_with (first | ((with_reducible refine gate_dst (N := 8) rfl ?_); refine box_event ?hg (N := 8) ?hd (cs := #[.int .i64 0, .int .i64 0, .int .i64 0]) (t := 23) ?hr ?_; (case hd => rfl); (case hg => rfl); (case hr => first | (go_simp; done) | (go_simp; rfl)); intro g8 hg_ w7 hbg8 hl_; have k7 := k6.below hl_; have cg8_0 : w7.cell? ⟨g8, 0, none⟩ = some (.int .i64 0) := (blk_cell hbg8 0).trans rfl; have fg8_0 := blk_frozen hbg8 0; have cg8_1 : w7.cell? ⟨g8, 1, none⟩ = some (.int .i64 0) := (blk_cell hbg8 1).trans rfl; have fg8_1 := blk_frozen hbg8 1; have cg8_2 : w7.cell? ⟨g8, 2, none⟩ = some (.int .i64 0) := (blk_cell hbg8 2).trans rfl; have fg8_2 := blk_frozen hbg8 2; have hz8 : W.heap.size ≤ g8 := hg_ ▸ k6.B.size; have n58 : g5 ≠ g8 := (by have := k6.c.lt; omega); have nd8 : gd ≠ g8 := (by have := k6.d.lt; omega); have n78 : g7 ≠ g8 := (by have := hI6.lt; omega); have i7 := hI6.below hl_; clear hl_ hg_))
  have k8 := k7.set3 n58 nd8 hz8 (.int .i64 0) (.int .i64 0) (.int .i64 0)
  have i8 := i7.set3' n78 (.int .i64 0) (.int .i64 0) (.int .i64 0)
  clear hbg8 cg8_0 fg8_0 cg8_1 fg8_1 cg8_2 fg8_2 k7 i7
  refine (place_Span_Left.calls g7 0 0 0 0 0 0 0 0 0 0 0 0 0 0 0 W _ i8 k8.B rfl).mono ?_
  rintro e w8 ⟨rfl, hI, hB, hK⟩
  have k9 := k8.byO hB hK n57 nd7
  clear hB hK i8 k8 k6 hI6
  go_wp2_with fail
  refine (place_Span_Passed.calls g7 0 0 0 0 0 0 0 0 0 0 0 0 0 0 0 W _ hI k9.B rfl).mono ?_
  rintro e w9 ⟨rfl, hI9, hB, hK⟩
  have k10 := k9.byO hB hK n57 nd7
  clear hB hK hI k9
  go_wp2_with fail
  refine (place_Cursor_Skip.calls g7 0 0 0 0 0 0 0 5 0 0 0 0 0 0 0 0 W _ hI9 k10.B skip_none).mono ?_
  rintro e w10 ⟨rfl, hI10, hB, hK⟩
  have k11 := k10.byO hB hK n57 nd7
  clear hB hK hI9 k10 hI10
  go_wp2_with fail
  refine (whittlelaw3_able.calls true w10 able_true).mono ?_
  rintro e w11 ⟨rfl, hl⟩
  have k12 := k11.below hl
  clear hl k11
  go_wp2_with fail
  have z := sizeV_le s t l b r
  refine (looks_true (Int.le_refl 0) z.1 (by omega) k12).mono ?_
  rintro e w12 ⟨rfl, k13⟩
  clear k12
  go_wp2_with fail
  have hz0 := z.1
  clear z
  go_loopw [10] (fun v wr => ∃ i p q : Int, v = .int .i64 i ∧ 0 ≤ i ∧ i ≤ n ∧ 0 ≤ p ∧ 0 ≤ q ∧ Hid (p + q = sizeV s t l b r) ∧ Both W wr g5 gd s t l b r p q p) (fun v _ => n - (intOf v).toNat)
  case atStart => exact ⟨0, 0, sizeV s t l b r, rfl, by omega, by omega, by omega, hz0, Lib.hid (by omega), k13⟩
  case round =>
    obtain ⟨i, p, q, rfl, hi0, hin, hp, hq, hs, kk⟩ := hrel
    by_cases hlt : i < n
    · have hd1 : decide (i < n) = true := decide_eq_true hlt
      by_cases h2k : i < 2000
      · have hd2 : decide (i < 2000) = true := decide_eq_true h2k
        obtain ⟨ad, kd, m, rfl, hk0, hk1⟩ := HR.out i hi0 hlt
        have q0 := cell_of_below kk.B hk0
        have q1 := cell_of_below kk.B hk1
        obtain ⟨⟨x1, x2, x3, x4⟩, hx⟩ : ∃ v, atV s t l b r p = v := ⟨_, rfl⟩
        have Hx := Lib.hid hx
        clear hx
        have hst := stepV_range hq
        have hsk := skipV_range m hq
        by_cases h1 : kd = 1
        · subst h1
          go_wp2_with fail
          refine (c_next hp hq hs.out Hx.out kk.c kk.B).mono ?_
          rintro e w13 ⟨rfl, hI, hB, hK⟩
          have k14 := kk.byC hI hB hK
          clear hI hB hK kk q0 q1
          go_wp2_with (first | ((with_reducible refine gate_dst (N := 11) rfl ?_); refine box_event ?hg (N := 11) ?hd (cs := #[.int .i64 0, .int .i64 0, .int .i64 0]) (t := 23) ?hr ?_; (case hd => rfl); (case hg => rfl); (case hr => first | (go_simp; done) | (go_simp; rfl)); intro g11 hg_ w14 hbg11 hl_; have k15 := k14.below hl_; have cg11_0 : w14.cell? ⟨g11, 0, none⟩ = some (.int .i64 0) := (blk_cell hbg11 0).trans rfl; have fg11_0 := blk_frozen hbg11 0; have cg11_1 : w14.cell? ⟨g11, 1, none⟩ = some (.int .i64 0) := (blk_cell hbg11 1).trans rfl; have fg11_1 := blk_frozen hbg11 1; have cg11_2 : w14.cell? ⟨g11, 2, none⟩ = some (.int .i64 0) := (blk_cell hbg11 2).trans rfl; have fg11_2 := blk_frozen hbg11 2; have hz11 : W.heap.size ≤ g11 := hg_ ▸ k14.B.size; clear hl_ hg_))
          have k16 := k15.set3 (k15.nec hbg11).1 (k15.nec hbg11).2 hz11 (.int .i64 x1) (.int .i64 x2) (.int .i64 x3)
          have b11 := set3_blk hbg11 (.int .i64 x1) (.int .i64 x2) (.int .i64 x3)
          refine (d_next hp hq hs.out Hx.out k16.d k16.B).mono ?_
          rintro e w15 ⟨rfl, hI, hB, hK⟩
          have k17 := k16.byD hI hB hK
          have d11 := hK.blk b11 (k16.nec b11).2.symm (by simp)
          clear hI hB hK b11 hbg11 cg11_0 fg11_0 cg11_1 fg11_1 cg11_2 fg11_2 k15 k16
          go_wp2_with (first | ((with_reducible refine gate_dst (N := 13) rfl ?_); refine box_event ?hg (N := 13) ?hd (cs := #[.int .i64 0, .int .i64 0, .int .i64 0]) (t := 23) ?hr ?_; (case hd => rfl); (case hg => rfl); (case hr => first | (go_simp; done) | (go_simp; rfl)); intro g13 hg_ w16 hbg13 hl_; have k18 := k17.below hl_; have cg13_0 : w16.cell? ⟨g13, 0, none⟩ = some (.int .i64 0) := (blk_cell hbg13 0).trans rfl; have fg13_0 := blk_frozen hbg13 0; have cg13_1 : w16.cell? ⟨g13, 1, none⟩ = some (.int .i64 0) := (blk_cell hbg13 1).trans rfl; have fg13_1 := blk_frozen hbg13 1; have cg13_2 : w16.cell? ⟨g13, 2, none⟩ = some (.int .i64 0) := (blk_cell hbg13 2).trans rfl; have fg13_2 := blk_frozen hbg13 2; have hz13 : W.heap.size ≤ g13 := hg_ ▸ k17.B.size; have n1 : g11 ≠ g13 := (by have := blk_lt d11; omega); have n2 : g13 ≠ g11 := n1.symm; have e11 := blk_below d11 hl_; have q11_0 : w16.cell? ⟨g11, 0, none⟩ = some (.int .i64 x1) := (blk_cell e11 0).trans rfl; have q11_1 : w16.cell? ⟨g11, 1, none⟩ = some (.int .i64 x2) := (blk_cell e11 1).trans rfl; have q11_2 : w16.cell? ⟨g11, 2, none⟩ = some (.int .i64 x3) := (blk_cell e11 2).trans rfl; clear hl_ hg_))
          have k19 := k18.set3 (k18.nec hbg13).1 (k18.nec hbg13).2 hz13 (.int .i64 x1) (.int .i64 x2) (.int .i64 x3)
          go_roundw
          case rel => exact ⟨i + 1, p + stepV q, q - stepV q, rfl, by omega, by omega, by omega, by omega, Lib.hid (by have := hs.out; omega), k19⟩
          case measure => simp [intOf]; omega
        · have e1 : (kd == 1) = false := beq_eq_false_iff_ne.2 h1
          by_cases h2 : kd = 2
          · subst h2
            go_wp2_with fail
            have kk := kk.drew
            go_region_with (first
              | (go_at_call 43; (with_reducible refine (c_skip hp hq hs.out kk.c kk.B).mono ?_); rintro e wa ⟨rfl, hI, hB, hK⟩; have ka := kk.byC hI hB hK; have qa := cell_of_below ka.B hk1; clear hI hB hK kk)
              | (go_at_call 46; (with_reducible refine (d_skip hp hq hs.out kk.d kk.B).mono ?_); rintro e wb ⟨rfl, hI, hB, hK⟩; have kb := kk.byD hI hB hK; have qb := cell_of_below kb.B hk1; clear hI hB hK kk)
              | (go_at_call 46; (with_reducible refine (d_skip hp hq hs.out ka.d ka.B).mono ?_); rintro e wz ⟨rfl, hI, hB, hK⟩; have kz := ka.byD hI hB hK; clear hI hB hK ka)
              | (go_at_call 43; (with_reducible refine (c_skip hp hq hs.out kb.c kb.B).mono ?_); rintro e wz ⟨rfl, hI, hB, hK⟩; have kz := kb.byC hI hB hK; clear hI hB hK kb))
            all_goals
              go_wp2_with fail
              go_roundw
              case rel => exact ⟨i + 1, p + skipV m q, q - skipV m q, rfl, by omega, by omega, by omega, by omega, Lib.hid (by have := hs.out; omega), kz⟩
              case measure => simp [intOf]; omega
          · have e2 : (kd == 2) = false := beq_eq_false_iff_ne.2 h2
            by_cases h3 : kd = 3
            · subst h3
              go_wp2_with fail
              refine (looks_true hp hq hs.out kk).mono ?_
              rintro e w13 ⟨rfl, k14⟩
              clear kk q0 q1
              go_wp2_with fail
              go_roundw
              case rel => exact ⟨i + 1, p, q, rfl, by omega, by omega, by omega, by omega, hs, k14⟩
              case measure => simp [intOf]; omega
            · have e3 : (kd == 3) = false := beq_eq_false_iff_ne.2 h3
              by_cases h4 : kd = 4
              · subst h4
                have cc := kk.c.1
                have c5_0 := cellS57_0 cc
                have c5_1 := cellS57_1 cc
                have c5_2 := cellS57_2 cc
                have c5_3 := cellS57_3 cc
                have c5_4 := cellS57_4 cc
                have c5_5 := cellS57_5 cc
                have c5_6 := cellS57_6 cc
                clear cc
                go_wp2_with (first | ((with_reducible refine gate_dst (N := 15) rfl ?_); refine box_event ?hg (N := 15) ?hd (cs := #[.int .i64 0, .int .i64 0, .int .i64 0, .int .i64 0, .int .i64 0, .int .i64 0, .int .i64 0]) (t := 57) ?hr ?_; (case hd => rfl); (case hg => rfl); (case hr => first | (go_simp; done) | (go_simp; rfl)); intro g15 hg_ w13 hbg15 hl_; have k14 := kk.below hl_; have cg15_0 : w13.cell? ⟨g15, 0, none⟩ = some (.int .i64 0) := (blk_cell hbg15 0).trans rfl; have fg15_0 := blk_frozen hbg15 0; have cg15_1 : w13.cell? ⟨g15, 1, none⟩ = some (.int .i64 0) := (blk_cell hbg15 1).trans rfl; have fg15_1 := blk_frozen hbg15 1; have cg15_2 : w13.cell? ⟨g15, 2, none⟩ = some (.int .i64 0) := (blk_cell hbg15 2).trans rfl; have fg15_2 := blk_frozen hbg15 2; have cg15_3 : w13.cell? ⟨g15, 3, none⟩ = some (.int .i64 0) := (blk_cell hbg15 3).trans rfl; have fg15_3 := blk_frozen hbg15 3; have cg15_4 : w13.cell? ⟨g15, 4, none⟩ = some (.int .i64 0) := (blk_cell hbg15 4).trans rfl; have fg15_4 := blk_frozen hbg15 4; have cg15_5 : w13.cell? ⟨g15, 5, none⟩ = some (.int .i64 0) := (blk_cell hbg15 5).trans rfl; have fg15_5 := blk_frozen hbg15 5; have cg15_6 : w13.cell? ⟨g15, 6, none⟩ = some (.int .i64 0) := (blk_cell hbg15 6).trans rfl; have fg15_6 := blk_frozen hbg15 6; have hz15 : W.heap.size ≤ g15 := hg_ ▸ kk.B.size; have n515 : g5 ≠ g15 := (by have := kk.c.lt; omega); have nd15 : gd ≠ g15 := (by have := kk.d.lt; omega); clear hl_ hg_))
                have k15 := k14.byO (set7_below k14.B hz15 (.int .i64 s) (.int .i64 t) (.int .i64 l) (.int .i64 b) (.int .i64 r) (.int .i64 p) (.int .i64 q)) (set7_keep w13 g15 (.int .i64 s) (.int .i64 t) (.int .i64 l) (.int .i64 b) (.int .i64 r) (.int .i64 p) (.int .i64 q)) n515 nd15
                have i15 := set7_is (⟨hbg15, hz15⟩ : IsS57 W w13 g15 0 0 0 0 0 0 0) s t l b r p q
                clear hbg15 cg15_0 fg15_0 cg15_1 fg15_1 cg15_2 fg15_2 cg15_3 fg15_3 cg15_4 fg15_4 cg15_5 fg15_5 cg15_6 fg15_6 q0 q1
                refine (c_next hp hq hs.out Hx.out i15 k15.B).mono ?_
                rintro e w14 ⟨rfl, hI, hB, hK⟩
                have k16 := k15.byO hB hK n515 nd15
                have q1' := cell_of_below k16.B hk1
                clear hB hK i15 k15 k14 kk
                go_wp2_with fail
                refine (c_skip (by omega) (by omega) (by have := hs.out; omega) hI k16.B).mono ?_
                rintro e w15 ⟨rfl, hI2, hB, hK⟩
                have k17 := k16.byO hB hK n515 nd15
                clear hB hK hI hI2 k16 q1'
                go_wp2_with fail
                go_roundw
                case rel => exact ⟨i + 1, p, q, rfl, by omega, by omega, by omega, by omega, hs, k17⟩
                case measure => simp [intOf]; omega
              · have e4 : (kd == 4) = false := beq_eq_false_iff_ne.2 h4
                go_wp2_with fail
                go_roundw
                case rel => exact ⟨i + 1, p, q, rfl, by omega, by omega, by omega, by omega, hs, kk⟩
                case measure => simp [intOf]; omega
      · have hd2 : decide (i < 2000) = false := decide_eq_false h2k
        go_wp2_with fail
        refine (looks_true hp hq hs.out kk).mono ?_
        rintro e w13 ⟨rfl, k14⟩
        go_wp2_with fail
        go_ret
        exact ⟨rfl, k14.B⟩
    · have hd1 : decide (i < n) = false := decide_eq_false hlt
      go_wp2_with fail
      refine (looks_true hp hq hs.out kk).mono ?_
      rintro e w13 ⟨rfl, k14⟩
      go_wp2_with fail
      go_ret
      exact ⟨rfl, k14.B⟩
theorem cursors_calls (W : World) (a0 a1 a2 a3 a4 : Int) (u0 : -9223372036854775808 ≤ a0 ∧ a0 ≤ 9223372036854775807) (u1 : -9223372036854775808 ≤ a1 ∧ a1 ≤ 9223372036854775807) (u2 : -9223372036854775808 ≤ a2 ∧ a2 ≤ 9223372036854775807) (u3 : -9223372036854775808 ≤ a3 ∧ a3 ≤ 9223372036854775807) (u4 : -9223372036854775808 ≤ a4 ∧ a4 ≤ 9223372036854775807)
    (A : Option Addr) (c n : Nat) (hn : n ≤ 9223372036854775807) (hr : ∀ i : Int, 0 ≤ i → i < n → ∃ ad kd m, A = some ad ∧ W.cell? (ad.add (i.toNat * 2)) = some (.int .i64 kd) ∧ W.cell? ⟨(ad.add (i.toNat * 2)).block, (ad.add (i.toNat * 2)).off + 1, none⟩ = some (.int .i64 m)) :
    Calls Tryd.prog 11 #[.agg #[.int .i64 a0, .int .i64 a1, .int .i64 a2, .int .i64 a3, .int .i64 a4], .slice A n c] W fun e w' => e = .returned (.bool true) ∧ Below W.heap.size W w' :=
  cursors_walk W a0 a1 a2 a3 a4 A c n hn hr
end Go.Proofs.YtijmipnafhljkaaDoor.P
