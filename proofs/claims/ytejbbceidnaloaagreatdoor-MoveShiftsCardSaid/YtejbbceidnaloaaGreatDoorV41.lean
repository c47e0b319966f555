import Derived.Test.YtejbbceidnaloaaGreatDoorV40
set_option linter.unusedVariables false
set_option linter.unusedSimpArgs false
set_option maxRecDepth 100000
set_option maxHeartbeats 8000000
namespace Go.Proofs.YtejbbceidnaloaaGreatDoor.P
open Go.RowKit AW AL AM
def Nb9.f (a0 : Int) : Option (Bool) := if a0 ≥ 11 then (if a0 ≤ 16 then (some true) else (if a0 ≥ 21 then (some (decide (a0 ≤ 26))) else (some false))) else (if a0 ≥ 21 then (some (decide (a0 ≤ 26))) else (some false))
theorem Nb9.calls (a0 : Int) (r : Bool) (w : World) (h : Nb9.f a0 = some r) :
 Calls Tryz.prog 129 #[.int .i64 a0] w fun e w' => e = .returned (.bool r) ∧ Na3 w w' := by
 have H := h
 unfold Nb9.f at H
 clear h
 by_cases c2 : a0 ≥ 11
 ·rw [if_pos c2] at H
  have c2b0 : decide (11 ≤ a0) = true := decide_eq_true c2
  clear c2
  by_cases c3 : a0 ≤ 16
  ·rw [if_pos c3] at H
   have c3b0 : decide (a0 ≤ 16) = true := decide_eq_true c3
   clear c3
   obtain rfl := sI H
   go_enter Tryz.func129, Tryz.ntmps129
   go_wp2
   go_ret
   exact ⟨eR, dE⟩
  ·rw [if_neg c3] at H
   have c3b0 : decide (a0 ≤ 16) = false := decide_eq_false c3
   clear c3
   by_cases c4 : a0 ≥ 21
   ·rw [if_pos c4] at H
    have c4b0 : decide (21 ≤ a0) = true := decide_eq_true c4
    clear c4
    obtain rfl := sI H
    go_enter Tryz.func129, Tryz.ntmps129
    go_wp2
    go_ret
    exact ⟨eR, dE⟩
   ·rw [if_neg c4] at H
    have c4b0 : decide (21 ≤ a0) = false := decide_eq_false c4
    clear c4
    obtain rfl := sI H
    go_enter Tryz.func129, Tryz.ntmps129
    go_wp2
    go_ret
    exact ⟨eR, dE⟩
 ·rw [if_neg c2] at H
  have c2b0 : decide (11 ≤ a0) = false := decide_eq_false c2
  clear c2
  by_cases c5 : a0 ≥ 21
  ·rw [if_pos c5] at H
   have c5b0 : decide (21 ≤ a0) = true := decide_eq_true c5
   clear c5
   obtain rfl := sI H
   go_enter Tryz.func129, Tryz.ntmps129
   go_wp2
   go_ret
   exact ⟨eR, dE⟩
  ·rw [if_neg c5] at H
   have c5b0 : decide (21 ≤ a0) = false := decide_eq_false c5
   clear c5
   obtain rfl := sI H
   go_enter Tryz.func129, Tryz.ntmps129
   go_wp2
   go_ret
   exact ⟨eR, dE⟩
theorem latin_f (s : ByteArray) (b : Bool) (k : Nat) (hk : 20 ≤ k) : Nbd.f k s b = some (decide (1 ≤ s.size ∧ s.size ≤ 16) && latR b 0 s.data.toList) := rfl
theorem latR_all (b : Bool) (l : List UInt8) : ∀ i : Nat, 0 < i → latR b i l = l.all fun c => okC b 1 c.toNat := by
 induction l with
 | nil => intro i _; rfl
 | cons c r ih =>
  intro i hi
  rw [latR, List.all_cons, ih (i + 1) (by omega)]
  congr 1
  unfold okC
  simp [hi]
theorem okC_name (c : UInt8) : okC true 1 c.toNat = nameC c := by
 unfold okC nameC letB digB
 simp
theorem latin_sheet (s : ByteArray) : (decide (1 ≤ s.size ∧ s.size ≤ 16) && latR true 0 s.data.toList) = Nd3 s := by
 unfold Nd3
 by_cases hz : 1 ≤ s.size ∧ s.size ≤ 16
 ·rw [decide_eq_true hz]
  have hb : bt s 0 = ((s.data.toList[0]'(by simp; omega)).toNat : Int) := bt_nat s 0 (by omega)
  obtain ⟨c, r, hl⟩ : ∃ c r, s.data.toList = c :: r := by
   cases h : s.data.toList with
   | nil => have : s.size = 0 := (by have := congrArg List.length h; simpa using this); omega
   | cons c r => exact ⟨c, r, rfl⟩
  have hb2 : bt s 0 = (c.toNat : Int) := by rw [hb]; simp [hl]
  rw [hb2, hl, latR, latR_all true r 1 (by omega), List.all_cons]
  have h1 : (fun c : UInt8 => okC true 1 c.toNat) = nameC := funext okC_name
  rw [h1]
  have h2 : okC true 0 c.toNat = letB c.toNat := by
   unfold okC letB
   rw [Bool.eq_iff_iff]
   simp
  rw [h2]
  unfold nameC
  cases letB (c.toNat : Int) <;> simp
 ·rw [decide_eq_false hz]; rfl
theorem upper_id : ∀ l : List UInt8, Lib.toUpperA l = l ↔ ∀ c ∈ l, Lib.upperB c = c
 | [] => by simp [Lib.toUpperA]
 | c :: r => by
  have := upper_id r
  unfold Lib.toUpperA at this ⊢
  simp only [List.map_cons, List.cons.injEq, List.mem_cons, forall_eq_or_imp, this]
theorem okC_upper (c : UInt8) : okC false 1 c.toNat = (nameC c && decide (Lib.upperB c = c)) := by
 have : ∀ n : Fin 256, okC false 1 (UInt8.ofNat n.val).toNat = (nameC (UInt8.ofNat n.val) && decide (Lib.upperB (UInt8.ofNat n.val) = UInt8.ofNat n.val)) := by decide +kernel
 have h := this ⟨c.toNat, c.toNat_lt⟩
 rwa [show UInt8.ofNat c.toNat = c from UInt8.ofNat_toNat] at h
theorem okC_upper0 (c : UInt8) : okC false 0 c.toNat = (letB c.toNat && decide (Lib.upperB c = c)) := by
 have : ∀ n : Fin 256, okC false 0 (UInt8.ofNat n.val).toNat = (letB (UInt8.ofNat n.val).toNat && decide (Lib.upperB (UInt8.ofNat n.val) = UInt8.ofNat n.val)) := by decide +kernel
 have h := this ⟨c.toNat, c.toNat_lt⟩
 rwa [show UInt8.ofNat c.toNat = c from UInt8.ofNat_toNat] at h
theorem latin_fn (s : ByteArray) : (decide (1 ≤ s.size ∧ s.size ≤ 16) && latR false 0 s.data.toList) = fnB s := by
 unfold fnB
 rw [← latin_sheet]
 by_cases hz : 1 ≤ s.size ∧ s.size ≤ 16
 ·rw [decide_eq_true hz]
  cases h : s.data.toList with
  | nil => have : s.size = 0 := (by have := congrArg List.length h; simpa using this); omega
  | cons c r =>
   have h2 : okC true 0 c.toNat = letB c.toNat := by
    unfold okC letB
    rw [Bool.eq_iff_iff]
    simp
   rw [latR, latR, latR_all false r 1 (by omega), latR_all true r 1 (by omega), okC_upper0, h2, Bool.eq_iff_iff]
   simp only [Bool.true_and, Bool.and_eq_true, List.all_eq_true, decide_eq_true_eq, upper_id, List.mem_cons, forall_eq_or_imp, okC_upper, okC_name]
   constructor
   ·rintro ⟨⟨h1, h2⟩, h3⟩
    exact ⟨⟨h1, fun x hx => (h3 x hx).1⟩, h2, fun x hx => (h3 x hx).2⟩
   ·rintro ⟨⟨h1, h2⟩, h3, h4⟩
    exact ⟨⟨h1, h3⟩, fun x hx => ⟨h2 x hx, h4 x hx⟩⟩
 ·rw [decide_eq_false hz]; rfl
theorem ref5_f (s : ByteArray) (r c : Int) (x y : Bool) (k : Nat) (hk : 20 ≤ k) : Nay.f k s r c x y = some (refB s r c) := by
 unfold Nay.f refB
 by_cases h1 : r < 0
 ·rw [if_pos h1, decide_eq_false (by omega)]; simp
 rw [if_neg h1]
 by_cases h2 : r ≥ 65536
 ·rw [if_pos h2, decide_eq_false (by omega)]; simp
 rw [if_neg h2]
 by_cases h3 : c < 0
 ·rw [if_pos h3, decide_eq_false (by omega)]; simp
 rw [if_neg h3]
 by_cases h4 : c ≥ 256
 ·rw [if_pos h4, decide_eq_false (by omega)]; simp
 rw [if_neg h4, decide_eq_true (by omega)]
 by_cases h0 : s.toList = []
 ·rw [if_pos h0, h0]; rfl
 ·rw [if_neg h0, latin_f s true k hk, latin_sheet]
  have : (s.toList == []) = false := beq_eq_false_iff_ne.2 h0
  rw [this]
  simp
theorem gcd1_l0 : ∀ (k : Nat) (x y : Nat), y < k → Na1.l0 k (x : Int) (y : Int) = some ((Nat.gcd x y : Nat) : Int)
 | 0, _, _, h => absurd h (Nat.not_lt_zero _)
 | k + 1, x, y, h => by
  rw [Na1.l0]
  by_cases hy : y = 0
  ·subst hy
   rw [if_pos (by omega)]
   simp
  ·rw [if_neg (by omega)]
   have e : Int.tmod (x : Int) (y : Int) = ((x % y : Nat) : Int) := rfl
   have hlt : x % y < y := Nat.mod_lt _ (by omega)
   rw [e, gcd1_l0 k y (x % y) (by omega), Nat.gcd_comm x y, Nat.gcd_rec y x, Nat.gcd_comm]
theorem far_f (n : Int) (h1 : -1000000000000 ≤ n) (h2 : n ≤ 1000000000000) : Nb0.f n = some (n.natAbs : Int) := by
 unfold Nb0.f
 by_cases hn : n < 0
 ·rw [if_pos hn, show wrap64 (n + 1) = n + 1 by unfold wrap64; omega, show wrap64 (-(n + 1)) = -(n + 1) by unfold wrap64; omega]
  simp only [IntKind.wrap]
  congr 1
  simp [IntKind.bits, IntKind.signed]
  omega
 ·rw [if_neg hn]
  simp only [IntKind.wrap]
  congr 1
  simp [IntKind.bits, IntKind.signed]
  omega
theorem ref1_Right_f (n d : Int) (k : Nat) (hk : 1000003 ≤ k) : Nam.f k n d = some (numB n d) := by
 obtain ⟨k, rfl⟩ : ∃ y, k = y + 1 := ⟨k - 1, by omega⟩
 unfold Nam.f
 by_cases h3 : d < 1
 ·rw [if_pos h3, Nam.j0, if_pos rfl]; simp [numB]; omega
 rw [if_neg h3]
 by_cases h4 : d > 1000000
 ·rw [if_pos h4, Nam.j0, if_pos rfl]; simp [numB]; omega
 rw [if_neg h4]
 by_cases h1 : n < -1000000000000
 ·rw [if_pos h1, Nam.j0, if_pos rfl]; simp [numB]; omega
 rw [if_neg h1, Nam.j0]
 by_cases h2 : n > 1000000000000
 ·rw [if_pos (by simpa using h2)]; simp [numB]; omega
 rw [if_neg (by simpa using h2), far_f n (by omega) (by omega)]
 have hw : IntKind.u64.wrap d = (d.natAbs : Int) := by
  simp only [IntKind.wrap]
  simp [IntKind.bits, IntKind.signed]
  omega
 simp only [Option.bind_some, hw]
 unfold Na1.f
 rw [gcd1_l0 k _ _ (by omega)]
 simp only [Option.bind_some, numB]
 congr 1
 have e : -1000000000000 ≤ n ∧ n ≤ 1000000000000 ∧ 1 ≤ d ∧ d ≤ 1000000 := by omega
 by_cases hg : Nat.gcd n.natAbs d.natAbs = 1
 ·simp [hg, e]
 ·have : ¬ (((Nat.gcd n.natAbs d.natAbs : Nat) : Int) = 1) := by omega
  simp [hg, this]
theorem plain2_l0 (s : ByteArray) (hs : s.size ≤ 9223372036854775807) : ∀ (d i k : Nat), s.size - i = d → i ≤ s.size → d < k → Nao.l0 k s (i : Int) = some ((s.data.toList.drop i).all plainC) := by
 intro d
 induction d with
 | zero =>
  intro i k hd hi hk
  obtain ⟨k, rfl⟩ : ∃ y, k = y + 1 := ⟨k - 1, by omega⟩
  rw [Nao.l0, if_neg (by omega), List.drop_eq_nil_of_le (by simp; omega)]
  rfl
 | succ d ih =>
  intro i k hd hi hk
  obtain ⟨k, rfl⟩ : ∃ y, k = y + 1 := ⟨k - 1, by omega⟩
  have hlt : i < s.size := by omega
  have hw : wrap64 ((i : Int) + 1) = ((i + 1 : Nat) : Int) := by unfold wrap64; omega
  have hd' : s.data.toList.drop i = s.data.toList[i]'(by simpa using hlt) :: s.data.toList.drop (i + 1) := List.drop_eq_getElem_cons (by simpa using hlt)
  rw [Nao.l0, if_pos (by omega), if_pos (by omega), bt_nat s i hlt, hw, hd', List.all_cons, ih (i + 1) k (by omega) (by omega) (by omega)]
  unfold plainC
  by_cases h1 : (s.data.toList[i]'(by simpa using hlt)).toNat < 32
  ·have h1' : ¬ 32 ≤ (s.data.toList[i]'(by simpa using hlt)).toNat := by omega
   rw [if_pos (by omega), decide_eq_false (fun h => h1' h.1)]
   rfl
  ·rw [if_neg (by omega)]
   by_cases h2 : (s.data.toList[i]'(by simpa using hlt)).toNat > 126
   ·have h2' : ¬ (s.data.toList[i]'(by simpa using hlt)).toNat ≤ 126 := by omega
    rw [if_pos (by omega), decide_eq_false (fun h => h2' h.2)]
    rfl
   ·rw [if_neg (by omega)]
    have e : 32 ≤ (s.data.toList[i]'(by simpa using hlt)).toNat ∧ (s.data.toList[i]'(by simpa using hlt)).toNat ≤ 126 := by omega
    rw [decide_eq_true e]
    rfl
theorem ref2_Right_f (v0 v1 v2 : Int) (v3 : ByteArray) (v4 : Bool) (v5 : Int) (hs : v3.size ≤ 9223372036854775807) (k : Nat) (hk : 1000003 ≤ k) (hk2 : v3.size + 2 ≤ k) : Nbe.f k v0 v1 v2 v3 v4 v5 = some (valB v0 v1 v2 v3 v4 v5) := by
 unfold Nbe.f valB
 by_cases h0 : v0 = 0
 ·subst h0; simp [Bool.and_assoc]
 rw [if_neg h0]
 by_cases h1 : v0 = 1
 ·subst h1
  rw [if_pos rfl, ref1_Right_f _ _ k hk]
  cases numB v1 v2 <;> simp [Bool.and_assoc]
 rw [if_neg h1]
 by_cases h2 : v0 = 2
 ·subst h2
  rw [if_pos rfl]
  have hp : Nao.f k v3 = some (Ne2 v3) := by
   have := plain2_l0 v3 hs v3.size 0 k (by omega) (by omega) (by omega)
   unfold Nao.f
   rw [show (0 : Int) = ((0 : Nat) : Int) from rfl, this]
   rfl
  rw [hp]
  by_cases hz : v3.size ≤ 256
  ·have hz2 : ((v3.size : Nat) : Int) ≤ 256 := by omega
   cases Ne2 v3 <;> simp [hz, hz2, Bool.and_assoc]
  ·have hz2 : ¬ ((v3.size : Nat) : Int) ≤ 256 := by omega
   cases Ne2 v3 <;> simp [hz, hz2]
 rw [if_neg h2]
 by_cases h3 : v0 = 3
 ·subst h3; simp [Bool.and_assoc]
 rw [if_neg h3]
 by_cases h4 : v0 = 4
 ·subst h4
  by_cases h5 : v5 ≥ 1 <;> by_cases h6 : v5 ≤ 8 <;> simp [h5, h6, Bool.and_assoc] <;> omega
 ·simp [h0, h1, h2, h3, h4]
theorem literal_f (v : S46) (hs : v.f2.size ≤ 9223372036854775807) (k : Nat) (hk : 1000003 ≤ k) (hk2 : v.f2.size + 2 ≤ k) : Nbv.f k v.f0 v.f1.f0 v.f1.f1 v.f2 v.f3 v.f4 = some (litB v) := by
 unfold Nbv.f litB
 rw [ref2_Right_f _ _ _ _ _ _ hs k hk hk2, Option.bind_some]
 cases hv : valB v.f0 v.f1.f0 v.f1.f1 v.f2 v.f3 v.f4 with
 | false => rfl
 | true =>
  rw [if_pos rfl, Bool.true_and]
  by_cases h0 : v.f0 = 0
  ·rw [if_pos h0, decide_eq_false (fun h => h.1 h0)]
  rw [if_neg h0]
  by_cases h1 : v.f0 = 1
  ·rw [if_pos h1]
   have hd : 1 ≤ v.f1.f1 := by
    unfold valB at hv
    rw [h1] at hv
    simp [numB] at hv
    omega
   by_cases hn : v.f1.f0 ≥ 0
   ·rw [if_pos hn, if_neg (by omega)]
    by_cases hm : (1000000 : Int) % v.f1.f1 = 0
    ·rw [decide_eq_true ⟨h0, Or.inr ⟨hn, hm⟩⟩, hm]; rfl
    ·rw [decide_eq_false (fun h => h.2.elim (fun h => h h1) (fun h => hm h.2)), beq_eq_false_iff_ne.2 hm]
   ·rw [if_neg hn, decide_eq_false (fun h => h.2.elim (fun h => h h1) (fun h => hn h.1))]
  ·rw [if_neg h1, decide_eq_true ⟨h0, Or.inl h1⟩]
instance (o : Int) : Decidable (binO o) := by unfold binO; infer_instance
theorem isbin_f (o : Int) : Nb9.f o = some (decide (binO o)) := by
 unfold Nb9.f binO
 by_cases h1 : o ≥ 11 <;> by_cases h2 : o ≤ 16 <;> by_cases h3 : o ≥ 21 <;> by_cases h4 : o ≤ 26 <;> simp [h1, h2, h3, h4] <;> omega
theorem shift_any {a b : Int} (h : inR a b) (x y : Int) : Na4.f 100 0 a b x y = some (if inR (a + x) (b + y) then (0, a + x, b + y, true) else (0, 0, 0, false)) := by
 have hj : ∀ z : Bool, (z = true → ¬ inR (a + x) (b + y)) → (z = false → -65536 ≤ x ∧ x ≤ 65536 ∧ -256 ≤ y ∧ y ≤ 256) → Na4.j0 100 x y z 0 a b = some (if inR (a + x) (b + y) then (0, a + x, b + y, true) else (0, 0, 0, false)) := by
  intro z hz hz2
  rw [Na4.j0]
  by_cases ht : z = true
  ·rw [if_pos ht, if_neg (hz ht)]
  ·have hb := hz2 (by simpa using ht)
   have hw : wrap64 (a + x) = a + x ∧ wrap64 (b + y) = b + y := by unfold inR at h; unfold wrap64; omega
   rw [if_neg ht, hw.1, hw.2, right_in, Option.bind_some]
   by_cases hi : inR (a + x) (b + y)
   ·rw [if_pos (decide_eq_true hi), if_pos hi]
   ·rw [if_neg (by simpa using hi), if_neg hi]
 have hn : (x < -65536 ∨ 65536 < x ∨ y < -256 ∨ 256 < y) → ¬ inR (a + x) (b + y) := by
  intro h1
  unfold inR at h ⊢
  omega
 unfold Na4.f
 rw [right_in, Option.bind_some, if_pos (decide_eq_true h)]
 by_cases h1 : x < -65536
 ·rw [if_pos h1]; exact hj _ (fun _ => hn (Or.inl h1)) (fun h => by cases h)
 by_cases h2 : x > 65536
 ·rw [if_neg h1, if_pos h2]; exact hj _ (fun _ => hn (Or.inr (Or.inl h2))) (fun h => by cases h)
 by_cases h3 : y < -256
 ·rw [if_neg h1, if_neg h2, if_pos h3]; exact hj _ (fun _ => hn (Or.inr (Or.inr (Or.inl h3)))) (fun h => by cases h)
 rw [if_neg h1, if_neg h2, if_neg h3]
 exact hj _ (fun hz => hn (Or.inr (Or.inr (Or.inr (by have := of_decide_eq_true hz; omega))))) (fun hz => by have := of_decide_eq_false hz; omega)
theorem mv_any {r : S48} (h : refR r = true) (x y : Int) :
 mvR x y r = (if inR (r.f1 + if r.f3 = true then 0 else x) (r.f2 + if r.f4 = true then 0 else y) then (⟨r.f0, r.f1 + (if r.f3 = true then 0 else x), r.f2 + (if r.f4 = true then 0 else y), r.f3, r.f4⟩, true) else (⟨r.f0, 0, 0, r.f3, r.f4⟩, false)) := by
 have hr : inR r.f1 r.f2 := by
  unfold refR refB at h
  simp only [Bool.and_eq_true, decide_eq_true_eq] at h
  exact h.2
 unfold mvR
 rw [shift_any hr]
 by_cases hi : inR (r.f1 + if r.f3 = true then 0 else x) (r.f2 + if r.f4 = true then 0 else y)
 ·rw [if_pos hi, if_pos hi]
 ·rw [if_neg hi, if_neg hi]
def EL (x : S50) (A : Addr) (w : World) : Prop := ∀ (j : Nat) v, (cs50 x)[j]? = some v → w.cell? (A.add j) = some v
theorem el_below {x : S50} {A : Addr} {w w' : World} (h : EL x A w) (hb : Below w.heap.size w w') : EL x A w' := fun j v hv => (hb.cell (World.block_lt_of_cell? _ _ (h j v hv))).trans (h j v hv)
theorem el_f {x : S50} {A : Addr} {w : World} (h : EL x A w) (k : Nat) (hk : 0 < k) {v : Value} (hv : (cs50 x)[k]? = some v) : w.cell? ⟨A.block, A.off + k, none⟩ = some v := by
 have := h k v hv
 unfold Addr.add at this
 rwa [if_neg (by omega)] at this
theorem litE {ops : Array Oper} {rest : List Oper} {o : Oper} {a : Act} {Q : Exit → Act → World → Prop} {W : World} (N : Tmp)
 (h : ∀ v1 w1, Kd.R k50 50 w1 W.heap.size (fun _ => True) v1 [] → Below W.heap.size W w1 → wpList Tryz.prog ops Q rest (a.put o.dst v1) w1) (hd : o.dst = some N := by exact rfl) (hg : o.guard = none := by exact rfl)
 (hr : (execOp a.eval o).run Tryz.prog W = .ok (.value (.slice (some ⟨W.heap.size, 0, none⟩) ([] : List S50).length ([] : List S50).length)) (W.alloc (.cells ([] : List Value).toArray 50)) := by go_simp <;> rfl) : wpList Tryz.prog ops Q (o :: rest) a W :=
 Kd.R_lit k50 _ 50 hg hd (xs := ([] : List S50)) (inner := []) (ok := fun _ => True) (okp := fun _ => True) hr (Reps.none _ _) (fun _ hk => hk) trivial (Below.refl _ _) (Nat.le_refl _) (by simp) fun v1 w1 h1 h2 _ _ => h v1 w1 h1 h2
theorem elE {ops : Array Oper} {rest : List Oper} {o : Oper} {a : Act} {Q : Exit → Act → World → Prop} {W : World} {x : S50} {A : Addr} (h : EL x A W) (p : Operand) (hw : wpList Tryz.prog ops Q rest (a.put o.dst (.agg (cs50 x).toArray)) W)
 (hgd : o.guard = none := by exact rfl) (ho : o.op = .load 50 p := by exact rfl) (ha : a.eval p = .pointer (some A) := by exact rfl) : wpList Tryz.prog ops Q (o :: rest) a W := Kd.event_run hgd (Ned ho ha h Tryz.underlying50 rfl (by kernel_rfl)) hw
end Go.Proofs.YtejbbceidnaloaaGreatDoor.P
