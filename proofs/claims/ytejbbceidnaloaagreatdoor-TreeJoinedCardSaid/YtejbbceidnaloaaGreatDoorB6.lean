import Derived.Test.YtejbbceidnaloaaGreatDoorB5
import Derived.WalkLawsBesides
import Derived.RegionTactic
import Derived.Outline
set_option linter.unusedVariables false
set_option linter.unusedSimpArgs false
set_option maxRecDepth 100000
set_option maxHeartbeats 8000000
namespace Go.Proofs.YtejbbceidnaloaaGreatDoor.P
def eB : ByteArray := ⟨#[]⟩
def zV : S46 := ⟨0, ⟨0, 0⟩, eB, false, 0⟩
def zR : S48 := ⟨eB, 0, 0, false, false⟩
def nVal (v : S46) : S50 := ⟨1, v, 0, eB, 0, zR, zR⟩
def nCell (r : S48) : S50 := ⟨2, zV, 0, eB, 0, r, zR⟩
def nArea (r s : S48) : S50 := ⟨3, zV, 0, eB, 0, r, s⟩
def nUn (o : Int) : S50 := ⟨4, zV, o, eB, 0, zR, zR⟩
def nBin (o : Int) : S50 := ⟨5, zV, o, eB, 0, zR, zR⟩
def nCall (m : ByteArray) (n : Int) : S50 := ⟨6, zV, 0, m, n, zR, zR⟩
structure Ops where
 num : ByteArray → Option S46
 txt : ByteArray → S46
 flt : ByteArray → S46
 tru : Bool → S46
 cell : ByteArray → Option S48
 fn : ByteArray → Bool
 sh : ByteArray → Bool
abbrev Res (α : Type) := Option (Except (Int × Int) α)
def Res.bnd {α β : Type} (r : Res α) (f : α → Res β) : Res β := match r with
 | none => none
 | some (.error e) => some (.error e)
 | some (.ok a) => f a
def okR {α : Type} (a : α) : Res α := some (.ok a)
def erR {α : Type} (c p : Int) : Res α := some (.error (c, p))
section
variable (O : Ops) (ts : List S39) (e : Int)
def zT : S39 := ⟨0, eB, 0⟩
def tokA (at_ : Int) : S39 := ts.getD at_.toNat zT
def Nbl (at_ : Int) : Int := if at_ < ts.length then (tokA ts at_).f2 else e
def markA (at_ : Int) : ByteArray := if at_ < ts.length ∧ (tokA ts at_).f0 = 5 then (tokA ts at_).f1 else eB
def mB (l : List UInt8) : ByteArray := ⟨l.toArray⟩
def opOf (m : ByteArray) : Int :=
 if m = mB [43] then 11 else if m = mB [45] then 12 else if m = mB [42] then 13 else if m = mB [47] then 14 else if m = mB [94] then 15 else if m = mB [38] then 16
 else if m = mB [61] then 21 else if m = mB [60, 62] then 22 else if m = mB [60] then 23 else if m = mB [60, 61] then 24 else if m = mB [62] then 25 else if m = mB [62, 61] then 26 else 0
def Nbu (o : Int) : Int := if o = 16 then 2 else if o = 11 then 3 else if o = 12 then 3 else if o = 13 then 4 else if o = 14 then 4 else if o = 15 then 5 else 1
def celF (at_ : Int) : Res (S48 × Int) :=
 if at_ < ts.length ∧ (tokA ts at_).f0 = 3 ∧ markA ts (at_ + 1) ≠ mB [40] ∧ markA ts (at_ + 1) ≠ mB [33] then
  match O.cell (tokA ts at_).f1 with
  | some r => okR (r, at_ + 1)
  | none => erR 50 (Nbl ts e at_)
 else erR 50 (Nbl ts e at_)
def refF (sheet : ByteArray) (at_ : Int) : Res (List S50 × Int) :=
 (celF O ts e at_).bnd fun (r, a) =>
   if markA ts a = mB [58] then (celF O ts e (a + 1)).bnd fun (s, b) => okR ([nArea ⟨sheet, r.f1, r.f2, r.f3, r.f4⟩ s], b)
   else okR ([nCell ⟨sheet, r.f1, r.f2, r.f3, r.f4⟩], a)
def tTRUE : ByteArray := mB [84, 82, 85, 69]
def tFALSE : ByteArray := mB [70, 65, 76, 83, 69]
def perF : Nat → List S50 → Int → Res (List S50 × Int)
 | 0, _, _ => none
 | k + 1, out, at_ => if markA ts at_ = mB [37] then perF k (nUn 3 :: out) (at_ + 1) else okR (out, at_)
mutual
def binF : Nat → Int → Int → Res (List S50 × Int)
 | 0, _, _ => none
 | k + 1, least, at_ => if least = 6 then sgnF k at_ else (binF k (least + 1) at_).bnd fun (l, a) => lopF k least l a
def lopF : Nat → Int → List S50 → Int → Res (List S50 × Int)
 | 0, _, _, _ => none
 | k + 1, least, left, at_ =>
  if opOf (markA ts at_) = 0 ∨ Nbu (opOf (markA ts at_)) ≠ least then okR (left, at_)
  else (binF k (least + 1) (at_ + 1)).bnd fun (r, a) => lopF k least (nBin (opOf (markA ts at_)) :: (left ++ r)) a
def sgnF : Nat → Int → Res (List S50 × Int)
 | 0, _ => none
 | k + 1, at_ =>
  if markA ts at_ = mB [45] then (sgnF k (at_ + 1)).bnd fun (r, a) => okR (nUn 1 :: r, a)
  else if markA ts at_ = mB [43] then (sgnF k (at_ + 1)).bnd fun (r, a) => okR (nUn 2 :: r, a)
  else (parF k at_).bnd fun (r, a) => perF ts k r a
def parF : Nat → Int → Res (List S50 × Int)
 | 0, _ => none
 | k + 1, at_ =>
  if markA ts at_ = mB [40] then (binF k 1 (at_ + 1)).bnd fun (r, a) => if markA ts a = mB [41] then okR (r, a + 1) else erR 50 (Nbl ts e a)
  else if at_ < ts.length then
   if (tokA ts at_).f0 = 3 then worF k (tokA ts at_).f1 at_
   else if (tokA ts at_).f0 = 1 then match O.num (tokA ts at_).f1 with
    | some v => okR ([nVal v], at_ + 1)
    | none => erR 50 (Nbl ts e at_)
   else if (tokA ts at_).f0 = 2 then if (tokA ts at_).f1.size ≤ 256 then okR ([nVal (O.txt (tokA ts at_).f1)], at_ + 1) else erR 50 (Nbl ts e at_)
   else if (tokA ts at_).f0 = 4 then okR ([nVal (O.flt (tokA ts at_).f1)], at_ + 1)
   else erR 50 (Nbl ts e at_)
  else erR 50 (Nbl ts e at_)
def worF : Nat → ByteArray → Int → Res (List S50 × Int)
 | 0, _, _ => none
 | k + 1, w, at_ =>
  if markA ts (at_ + 1) = mB [40] then calF k w at_
  else if markA ts (at_ + 1) = mB [33] then if O.sh w then refF O ts e w (at_ + 2) else erR 50 (Nbl ts e at_)
  else if w = tTRUE then okR ([nVal (O.tru true)], at_ + 1)
  else if w = tFALSE then okR ([nVal (O.tru false)], at_ + 1)
  else refF O ts e eB at_
def calF : Nat → ByteArray → Int → Res (List S50 × Int)
 | 0, _, _ => none
 | k + 1, m, at_ =>
  if O.fn m then if markA ts (at_ + 2) = mB [41] then okR ([nCall m 0], at_ + 3) else argF k m [] 0 (at_ + 2)
  else erR 50 (Nbl ts e at_)
def argF : Nat → ByteArray → List S50 → Int → Int → Res (List S50 × Int)
 | 0, _, _, _, _ => none
 | k + 1, m, acc, n, at_ =>
  (binF k 1 at_).bnd fun (r, a) =>
    if markA ts a = mB [44] then if n + 1 = 30 then erR 3 (Nbl ts e a) else argF k m (acc ++ r) (n + 1) (a + 1)
    else if markA ts a = mB [41] then okR (nCall m (n + 1) :: (acc ++ r), a + 1) else erR 50 (Nbl ts e a)
end
def Ndi (k : Nat) : Res (List S50) := (binF O ts e k 1 0).bnd fun (l, a) => if a < ts.length then erR 50 (Nbl ts e a) else okR l
end
theorem Nd8 {α β : Type} {r r' : Res α} {f f' : α → Res β} {z : Except (Int × Int) β} (h1 : ∀ x, r = some x → r' = some x) (h2 : ∀ a y, f a = some y → f' a = some y) (h : r.bnd f = some z) : r'.bnd f' = some z := by
 cases r with
 | none => cases h
 | some x =>
  rw [h1 x rfl]
  cases x with
  | error e => exact h
  | ok a => exact h2 a z h
section
variable (O : Ops) (ts : List S39) (e : Int)
theorem perF_mono : ∀ (k : Nat) (out : List S50) (at_ : Int) (x), perF ts k out at_ = some x → perF ts (k + 1) out at_ = some x
 | 0, _, _, _, h => by cases h
 | k + 1, out, at_, x, h => by
  rw [perF] at h ⊢
  split at h
  ·rw [if_pos ‹_›]; exact perF_mono k _ _ x h
  ·rw [if_neg ‹_›]; exact h
theorem Nd7 : ∀ k : Nat, (∀ least at_ x, binF O ts e k least at_ = some x → binF O ts e (k + 1) least at_ = some x) ∧
 (∀ least left at_ x, lopF O ts e k least left at_ = some x → lopF O ts e (k + 1) least left at_ = some x) ∧
 (∀ at_ x, sgnF O ts e k at_ = some x → sgnF O ts e (k + 1) at_ = some x) ∧
 (∀ at_ x, parF O ts e k at_ = some x → parF O ts e (k + 1) at_ = some x) ∧
 (∀ m at_ x, worF O ts e k m at_ = some x → worF O ts e (k + 1) m at_ = some x) ∧
 (∀ m at_ x, calF O ts e k m at_ = some x → calF O ts e (k + 1) m at_ = some x) ∧
 (∀ m acc n at_ x, argF O ts e k m acc n at_ = some x → argF O ts e (k + 1) m acc n at_ = some x) := by
 intro k
 induction k with
 | zero =>
  refine ⟨?_, ?_, ?_, ?_, ?_, ?_, ?_⟩
  ·intro _ _ _ h; rw [binF] at h; cases h
  ·intro _ _ _ _ h; rw [lopF] at h; cases h
  ·intro _ _ h; rw [sgnF] at h; cases h
  ·intro _ _ h; rw [parF] at h; cases h
  ·intro _ _ _ h; rw [worF] at h; cases h
  ·intro _ _ _ h; rw [calF] at h; cases h
  ·intro _ _ _ _ _ h; rw [argF] at h; cases h
 | succ k ih =>
  obtain ⟨h1, h2, h3, h4, h5, h6, h7⟩ := ih
  refine ⟨?_, ?_, ?_, ?_, ?_, ?_, ?_⟩
  ·intro least at_ x h
   rw [binF] at h ⊢
   split at h
   ·rw [if_pos ‹_›]; exact h3 _ _ h
   ·rw [if_neg ‹_›]; exact Nd8 (h1 _ _) (fun _ _ => h2 _ _ _ _) h
  ·intro least left at_ x h
   rw [lopF] at h ⊢
   split at h
   ·rw [if_pos ‹_›]; exact h
   ·rw [if_neg ‹_›]; exact Nd8 (h1 _ _) (fun _ _ => h2 _ _ _ _) h
  ·intro at_ x h
   rw [sgnF] at h ⊢
   split at h
   ·rw [if_pos ‹_›]; exact Nd8 (h3 _) (fun _ _ h => h) h
   ·rw [if_neg ‹_›]
    split at h
    ·rw [if_pos ‹_›]; exact Nd8 (h3 _) (fun _ _ h => h) h
    ·rw [if_neg ‹_›]; exact Nd8 (h4 _) (fun _ _ => perF_mono ts k _ _ _) h
  ·intro at_ x h
   rw [parF] at h ⊢
   split at h
   ·rw [if_pos ‹_›]; exact Nd8 (h1 _ _) (fun _ _ h => h) h
   ·rw [if_neg ‹_›]
    split at h
    ·rw [if_pos ‹_›]
     split at h
     ·rw [if_pos ‹_›]; exact h5 _ _ _ h
     ·rw [if_neg ‹_›]; exact h
    ·rw [if_neg ‹_›]; exact h
  ·intro m at_ x h
   rw [worF] at h ⊢
   split at h
   ·rw [if_pos ‹_›]; exact h6 _ _ _ h
   ·rw [if_neg ‹_›]; exact h
  ·intro m at_ x h
   rw [calF] at h ⊢
   split at h
   ·rw [if_pos ‹_›]
    split at h
    ·rw [if_pos ‹_›]; exact h
    ·rw [if_neg ‹_›]; exact h7 _ _ _ _ _ h
   ·rw [if_neg ‹_›]; exact h
  ·intro m acc n at_ x h
   rw [argF] at h ⊢
   refine Nd8 (h1 _ _) (fun a y hy => ?_) h
   obtain ⟨r, b⟩ := a
   simp only at hy ⊢
   split at hy
   ·rw [if_pos ‹_›]
    split at hy
    ·rw [if_pos ‹_›]; exact hy
    ·rw [if_neg ‹_›]; exact h7 _ _ _ _ _ hy
   ·rw [if_neg ‹_›]; exact hy
theorem binF_le {k m : Nat} (hkm : k ≤ m) {least at_ : Int} {x} (h : binF O ts e k least at_ = some x) : binF O ts e m least at_ = some x := by
 induction hkm with
 | refl => exact h
 | step _ ih => exact (Nd7 O ts e _).1 _ _ _ ih
def Fine (at_ : Int) (r : Res (List S50 × Int)) : Prop := ∃ x, r = some x ∧ ∀ l a, x = .ok (l, a) → at_ < a ∧ a ≤ ts.length
theorem Fine.ok {at_ a : Int} {l : List S50} (h : at_ < a) (h1 : a ≤ ts.length) : Fine ts at_ (okR (l, a)) := ⟨_, rfl, fun l' a' e => by cases e; exact ⟨h, h1⟩⟩
theorem Fine.er {at_ c p : Int} : Fine ts at_ (erR c p) := ⟨_, rfl, fun l' a' e => by cases e⟩
theorem Fine.bnd {at0 at_ : Int} {r : Res (List S50 × Int)} {f : List S50 × Int → Res (List S50 × Int)} (h : Fine ts at_ r) (hf : ∀ l a, at_ < a → a ≤ ts.length → Fine ts at0 (f (l, a))) : Fine ts at0 (r.bnd f) := by
 obtain ⟨x, rfl, hx⟩ := h
 cases x with
 | error p => exact ⟨.error p, rfl, fun _ _ e => by cases e⟩
 | ok p => obtain ⟨l, a⟩ := p; obtain ⟨h1, h2⟩ := hx l a rfl; exact hf l a h1 h2
theorem Fine.less {at0 at_ : Int} {r : Res (List S50 × Int)} (h : Fine ts at_ r) (hl : at0 ≤ at_) : Fine ts at0 r := by
 obtain ⟨x, rfl, hx⟩ := h
 exact ⟨x, rfl, fun l a e => by have := hx l a e; omega⟩
theorem Nbb {at_ : Int} {m : ByteArray} (h : markA ts at_ = m) (hm : m ≠ eB) : at_ < ts.length := by
 unfold markA at h
 split at h
 ·rename_i hh; exact hh.1
 ·exact absurd h.symm hm
theorem opOf_lt {at_ : Int} (h : opOf (markA ts at_) ≠ 0) : at_ < ts.length := by
 unfold markA at h
 split at h
 ·rename_i hh; exact hh.1
 ·exact absurd (by decide) h
theorem celF_fine (at_ : Int) : ∃ x, celF O ts e at_ = some x ∧ ∀ r a, x = .ok (r, a) → at_ < a ∧ a ≤ ts.length := by
 unfold celF
 split
 ·rename_i h
  split
  ·exact ⟨_, rfl, fun r a e => by cases e; omega⟩
  ·exact ⟨_, rfl, fun r a e => by cases e⟩
 ·exact ⟨_, rfl, fun r a e => by cases e⟩
theorem refF_fine (sheet : ByteArray) (at_ : Int) : Fine ts at_ (refF O ts e sheet at_) := by
 unfold refF
 obtain ⟨x, hx, h⟩ := celF_fine O ts e at_
 rw [hx]
 cases x with
 | error p => exact ⟨.error p, rfl, fun _ _ e => by cases e⟩
 | ok p =>
  obtain ⟨r, a⟩ := p
  have ha := h r a rfl
  simp only [Res.bnd]
  split
  ·obtain ⟨y, hy, g⟩ := celF_fine O ts e (a + 1)
   rw [hy]
   cases y with
   | error p => exact ⟨.error p, rfl, fun _ _ e => by cases e⟩
   | ok p => obtain ⟨s, b⟩ := p; have := g s b rfl; exact Fine.ok ts (by omega) (by omega)
  ·exact Fine.ok ts (by omega) (by omega)
theorem perF_fine : ∀ (k : Nat) (out : List S50) (at0 at_ : Int), at0 < at_ → at_ ≤ ts.length → (ts.length - at_).toNat < k → Fine ts at0 (perF ts k out at_)
 | 0, _, _, _, _, _, h => by omega
 | k + 1, out, at0, at_, h0, h1, h => by
  rw [perF]
  split
  ·have := Nbb ts ‹_› (by decide)
   exact perF_fine k _ at0 _ (by omega) (by omega) (by omega)
  ·exact Fine.ok ts h0 h1
theorem enough : ∀ (n : Nat), (∀ (k : Nat) (least at_ : Int), 0 ≤ at_ → at_ ≤ ts.length → (ts.length - at_).toNat ≤ n → 1 ≤ least → least ≤ 6 → 16 * n + 12 - least.toNat ≤ k → Fine ts at_ (binF O ts e k least at_)) ∧
 (∀ (k : Nat) (least : Int) (left : List S50) (at0 at_ : Int), 0 ≤ at_ → at0 < at_ → at_ ≤ ts.length → (ts.length - at_).toNat ≤ n → 1 ≤ least → least < 6 → 16 * n + 15 ≤ k → Fine ts at0 (lopF O ts e k least left at_)) ∧
 (∀ (k : Nat) (at_ : Int), 0 ≤ at_ → at_ ≤ ts.length → (ts.length - at_).toNat ≤ n → 16 * n + 5 ≤ k → Fine ts at_ (sgnF O ts e k at_)) ∧
 (∀ (k : Nat) (at_ : Int), 0 ≤ at_ → at_ ≤ ts.length → (ts.length - at_).toNat ≤ n → 16 * n + 4 ≤ k → Fine ts at_ (parF O ts e k at_)) ∧
 (∀ (k : Nat) (m : ByteArray) (at_ : Int), 0 ≤ at_ → at_ < ts.length → (ts.length - at_).toNat ≤ n → 16 * n + 3 ≤ k → Fine ts at_ (worF O ts e k m at_)) ∧
 (∀ (k : Nat) (m : ByteArray) (at_ : Int), 0 ≤ at_ → at_ + 1 < ts.length → (ts.length - at_).toNat ≤ n → 16 * n + 2 ≤ k → Fine ts at_ (calF O ts e k m at_)) ∧
 (∀ (k : Nat) (m : ByteArray) (acc : List S50) (c at0 at_ : Int), 0 ≤ at_ → at0 ≤ at_ → at_ ≤ ts.length → (ts.length - at_).toNat ≤ n → 16 * n + 15 ≤ k → Fine ts at0 (argF O ts e k m acc c at_)) := by
 intro n
 induction n using Nat.strongRecOn with
 | ind n ih =>
  have ihn : ∀ a : Int, 0 ≤ a → (ts.length - a).toNat < n → a ≤ ts.length → (∀ k least, 1 ≤ least → least ≤ 6 → 16 * n - 4 - least.toNat ≤ k → Fine ts a (binF O ts e k least a)) ∧
   (∀ k least left at0, at0 < a → 1 ≤ least → least < 6 → 16 * n - 1 ≤ k → Fine ts at0 (lopF O ts e k least left a)) ∧ (∀ k, 16 * n - 11 ≤ k → Fine ts a (sgnF O ts e k a)) ∧
   (∀ k m acc c at0, at0 ≤ a → 16 * n - 1 ≤ k → Fine ts at0 (argF O ts e k m acc c a)) := by
   intro a h0 ha hl
   have h := ih (n - 1) (by omega)
   exact ⟨fun k least h1 h2 h3 => h.1 k least a h0 hl (by omega) h1 h2 (by omega), fun k least left at0 hh h1 h2 h3 => h.2.1 k least left at0 a h0 hh hl (by omega) h1 h2 (by omega),
    fun k h3 => h.2.2.1 k a h0 hl (by omega) (by omega), fun k m acc c at0 hh h3 => h.2.2.2.2.2.2 k m acc c at0 a h0 hh hl (by omega) (by omega)⟩
  have h6 : ∀ (k : Nat) (m : ByteArray) (at_ : Int), 0 ≤ at_ → at_ + 1 < ts.length → (ts.length - at_).toNat ≤ n → 16 * n + 2 ≤ k → Fine ts at_ (calF O ts e k m at_) := by
   intro k m at_ h0 h1 h2 h3
   obtain ⟨k, rfl⟩ : ∃ y, k = y + 1 := ⟨k - 1, by omega⟩
   rw [calF]
   split
   ·split
    ·have := Nbb ts ‹markA ts (at_ + 2) = _› (by decide)
     exact Fine.ok ts (by omega) (by omega)
    ·exact (ihn (at_ + 2) (by omega) (by omega) (by omega)).2.2.2 _ _ _ _ _ (by omega) (by omega)
   ·exact Fine.er ts
  have h5 : ∀ (k : Nat) (m : ByteArray) (at_ : Int), 0 ≤ at_ → at_ < ts.length → (ts.length - at_).toNat ≤ n → 16 * n + 3 ≤ k → Fine ts at_ (worF O ts e k m at_) := by
   intro k m at_ h0 h1 h2 h3
   obtain ⟨k, rfl⟩ : ∃ y, k = y + 1 := ⟨k - 1, by omega⟩
   rw [worF]
   split
   ·have := Nbb ts ‹markA ts (at_ + 1) = _› (by decide)
    exact h6 _ _ _ h0 (by omega) h2 (by omega)
   ·split
    ·split
     ·exact (refF_fine O ts e _ _).less ts (by omega)
     ·exact Fine.er ts
    ·split
     ·exact Fine.ok ts (by omega) (by omega)
     ·split
      ·exact Fine.ok ts (by omega) (by omega)
      ·exact refF_fine O ts e _ _
  have h4 : ∀ (k : Nat) (at_ : Int), 0 ≤ at_ → at_ ≤ ts.length → (ts.length - at_).toNat ≤ n → 16 * n + 4 ≤ k → Fine ts at_ (parF O ts e k at_) := by
   intro k at_ h0 h1 h2 h3
   obtain ⟨k, rfl⟩ : ∃ y, k = y + 1 := ⟨k - 1, by omega⟩
   rw [parF]
   split
   ·have hm := Nbb ts ‹markA ts at_ = _› (by decide)
    refine Fine.bnd ts ((ihn (at_ + 1) (by omega) (by omega) (by omega)).1 _ _ (by omega) (by omega) (by omega)) (fun l a ha hl => ?_)
    simp only
    split
    ·have := Nbb ts ‹markA ts a = _› (by decide)
     exact Fine.ok ts (by omega) (by omega)
    ·exact Fine.er ts
   ·split
    ·split
     ·exact h5 _ _ _ h0 ‹_› h2 (by omega)
     ·split
      ·split
       ·exact Fine.ok ts (by omega) (by omega)
       ·exact Fine.er ts
      ·split
       ·split
        ·exact Fine.ok ts (by omega) (by omega)
        ·exact Fine.er ts
       ·split
        ·exact Fine.ok ts (by omega) (by omega)
        ·exact Fine.er ts
    ·exact Fine.er ts
  have h3 : ∀ (k : Nat) (at_ : Int), 0 ≤ at_ → at_ ≤ ts.length → (ts.length - at_).toNat ≤ n → 16 * n + 5 ≤ k → Fine ts at_ (sgnF O ts e k at_) := by
   intro k at_ h0 h1 h2 hk
   obtain ⟨k, rfl⟩ : ∃ y, k = y + 1 := ⟨k - 1, by omega⟩
   rw [sgnF]
   split
   ·have hm := Nbb ts ‹markA ts at_ = _› (by decide)
    exact Fine.bnd ts ((ihn (at_ + 1) (by omega) (by omega) (by omega)).2.2.1 _ (by omega)) (fun l a ha hl => Fine.ok ts (by omega) hl)
   ·split
    ·have hm := Nbb ts ‹markA ts at_ = _› (by decide)
     exact Fine.bnd ts ((ihn (at_ + 1) (by omega) (by omega) (by omega)).2.2.1 _ (by omega)) (fun l a ha hl => Fine.ok ts (by omega) hl)
    ·exact Fine.bnd ts (h4 _ _ h0 h1 h2 (by omega)) (fun l a ha hl => perF_fine ts _ _ _ _ ha hl (by omega))
  have h1 : ∀ (d k : Nat) (least at_ : Int), 0 ≤ at_ → at_ ≤ ts.length → (ts.length - at_).toNat ≤ n → 1 ≤ least → least ≤ 6 → (6 - least).toNat = d → 16 * n + 12 - least.toNat ≤ k → Fine ts at_ (binF O ts e k least at_) := by
   intro d
   induction d with
   | zero =>
    intro k least at_ h0 h1 h2 h7 h8 hd hk
    obtain ⟨k, rfl⟩ : ∃ y, k = y + 1 := ⟨k - 1, by omega⟩
    obtain rfl : least = 6 := by omega
    rw [binF, if_pos rfl]
    exact h3 _ _ h0 h1 h2 (by omega)
   | succ d ihd =>
    intro k least at_ h0 h1 h2 h7 h8 hd hk
    obtain ⟨k, rfl⟩ : ∃ y, k = y + 1 := ⟨k - 1, by omega⟩
    rw [binF, if_neg (by omega)]
    refine Fine.bnd ts (ihd k (least + 1) at_ h0 h1 h2 (by omega) (by omega) (by omega) (by omega)) (fun l a ha hl => ?_)
    exact (ihn a (by omega) (by omega) hl).2.1 _ _ _ _ ha h7 (by omega) (by omega)
  have h1' : ∀ (k : Nat) (least at_ : Int), 0 ≤ at_ → at_ ≤ ts.length → (ts.length - at_).toNat ≤ n → 1 ≤ least → least ≤ 6 → 16 * n + 12 - least.toNat ≤ k → Fine ts at_ (binF O ts e k least at_) :=
   fun k least at_ a b c d e f => h1 _ k least at_ a b c d e rfl f
  refine ⟨h1', ?_, h3, h4, h5, h6, ?_⟩
  ·intro k least left at0 at_ h0 hh h1 h2 h7 h8 hk
   obtain ⟨k, rfl⟩ : ∃ y, k = y + 1 := ⟨k - 1, by omega⟩
   rw [lopF]
   split
   ·exact Fine.ok ts hh h1
   ·rename_i hc
    have hm := opOf_lt ts (fun h => hc (.inl h))
    refine Fine.bnd ts ((ihn (at_ + 1) (by omega) (by omega) (by omega)).1 _ _ (by omega) (by omega) (by omega)) (fun l a ha hl => ?_)
    exact (ihn a (by omega) (by omega) hl).2.1 _ _ _ _ (by omega) h7 h8 (by omega)
  ·intro k m acc c at0 at_ h0 hh h1 h2 hk
   obtain ⟨k, rfl⟩ : ∃ y, k = y + 1 := ⟨k - 1, by omega⟩
   rw [argF]
   refine Fine.bnd ts (h1' _ _ _ h0 h1 h2 (by omega) (by omega) (by omega)) (fun l a ha hl => ?_)
   simp only
   split
   ·have hm := Nbb ts ‹markA ts a = _› (by decide)
    split
    ·exact Fine.er ts
    ·exact (ihn (a + 1) (by omega) (by omega) (by omega)).2.2.2 _ _ _ _ _ (by omega) (by omega)
   ·split
    ·have hm := Nbb ts ‹markA ts a = _› (by decide)
     exact Fine.ok ts (by omega) (by omega)
    ·exact Fine.er ts
theorem wholeF_le {k m : Nat} (hkm : k ≤ m) {x} (h : Ndi O ts e k = some x) : Ndi O ts e m = some x := by
 unfold Ndi at h ⊢
 exact Nd8 (fun _ => binF_le O ts e hkm) (fun _ _ h => h) h
end
end Go.Proofs.YtejbbceidnaloaaGreatDoor.P
namespace Go.Proofs.YtejbbceidnaloaaGreatDoor.P
open Go.RowKit AW AL AM
section
structure St (w0 w w' : World) (g : Nat) (ts : List S39) (at_ e : Int) : Prop where
 is : IsS72 w0 w' g ts at_ e
 bel : Below w0.heap.size w0 w'
 keep : Nax w w' g none
theorem St.start {w0 w : World} {g : Nat} {ts : List S39} {at_ e : Int} (hI : IsS72 w0 w g ts at_ e) (hB : Below w0.heap.size w0 w) : St w0 w w g ts at_ e := ⟨hI, hB, Nax.refl w g none⟩
theorem St.trans {w0 w w1 w2 : World} {g : Nat} {ts : List S39} {a e a' e' : Int} (h : St w0 w w1 g ts a e) (k : St w0 w1 w2 g ts a' e') : St w0 w w2 g ts a' e' := ⟨k.is, k.bel, h.keep.trans k.keep (.inl rfl)⟩
theorem St.drewN {w0 w w1 : World} {g : Nat} {ts : List S39} {a e : Int} (h : St w0 w w1 g ts a e) (n : Nat) : St w0 w (w1.drewN n) g ts a e := ⟨h.is.drewN n, Nas h.bel n, Nc7 h.keep n⟩
theorem St.drew {w0 w w1 : World} {g : Nat} {ts : List S39} {a e : Int} (h : St w0 w w1 g ts a e) : St w0 w w1.drew g ts a e := ⟨h.is.drew, Ndh h.bel, h.keep⟩
theorem St.below {w0 w w1 w2 : World} {g : Nat} {ts : List S39} {a e : Int} (h : St w0 w w1 g ts a e) (hb : Below w1.heap.size w1 w2) : St w0 w w2 g ts a e := ⟨h.is.below hb, Nac h.bel hb, h.keep.trans (Nax.of_below hb g none) (.inl rfl)⟩
theorem St.set {w0 w w1 : World} {g : Nat} {ts : List S39} {a e : Int} (h : St w0 w w1 g ts a e) (x : Int) : St w0 w (w1.setCell ⟨g, 1, none⟩ (.int .i64 x)) g ts x e := ⟨h.is.set_1 x, h.bel.setCell h.is.ge _, h.keep.set_ 1 _⟩
theorem St.size {w0 w w1 : World} {g : Nat} {ts : List S39} {a e : Int} (h : St w0 w w1 g ts a e) : w.heap.size ≤ w1.heap.size := h.keep.1
theorem mark_f (ts : List S39) (at_ e : Int) (h0 : 0 ≤ at_) : Nbj.f ts at_ e = some (markA ts at_, at_, e) := by
 unfold Nbj.f markA
 by_cases h1 : at_ < (ts.length : Int)
 ·rw [if_pos h1, if_pos h0]
  by_cases h2 : (Nbq ts at_).f0 = 5
  ·rw [if_pos h2, if_pos ⟨h1, h2⟩]; rfl
  ·rw [if_neg h2, if_neg (fun h => h2 h.2)]; rfl
 ·rw [if_neg h1, if_neg (fun h => h1 h.1)]; rfl
theorem mark_any {w0 w : World} {g : Nat} {ts : List S39} {at_ e : Int} (hI : IsS72 w0 w g ts at_ e) (hB : Below w0.heap.size w0 w) (h0 : 0 ≤ at_) (m : ByteArray) (hm : markA ts at_ = m) :
 Calls Tryz.prog 107 #[.pointer (some ⟨g, 0, none⟩)] w fun en w' => en = .returned (.string m) ∧ St w0 w w' g ts at_ e :=
 (Nbj.calls g ts at_ e m at_ e w0 w hI hB (by rw [mark_f ts at_ e h0, hm])).mono fun _ _ ⟨a, b, c, d⟩ => ⟨a, b, c, d⟩
theorem tl_eq (a b : ByteArray) : a.toList = b.toList ↔ a = b := by
 rw [ByteArray.toList_eq, ByteArray.toList_eq]
 constructor
 ·intro h
  cases a with | mk x => cases b with | mk y =>
  cases x with | mk l => cases y with | mk m =>
  simp only at h
  rw [h]
 ·rintro rfl; rfl
theorem takes_f (ts : List S39) (at_ e : Int) (m : ByteArray) (h0 : 0 ≤ at_) (h1 : at_ ≤ 1000000) : Nbs.f ts at_ e m = some (if markA ts at_ = m then (true, at_ + 1, e) else (false, at_, e)) := by
 unfold Nbs.f
 rw [mark_f ts at_ e h0]
 have hw : wrap64 (at_ + 1) = at_ + 1 := by unfold wrap64; omega
 simp only [Option.bind_some, tl_eq, hw]
 split <;> rfl
theorem Nc9 {w0 w : World} {g : Nat} {ts : List S39} {at_ e : Int} (hI : IsS72 w0 w g ts at_ e) (hB : Below w0.heap.size w0 w) (h0 : 0 ≤ at_) (h1 : at_ ≤ 1000000) {m : ByteArray} (hm : markA ts at_ = m) :
 Calls Tryz.prog 143 #[.pointer (some ⟨g, 0, none⟩), .string m] w fun en w' => en = .returned (.bool true) ∧ St w0 w w' g ts (at_ + 1) e :=
 (Nbs.calls g ts at_ e m true (at_ + 1) e w0 w hI hB (by rw [takes_f ts at_ e m h0 h1, if_pos hm])).mono fun _ _ ⟨a, b, c, d⟩ => ⟨a, b, c, d⟩
theorem Nb7 {w0 w : World} {g : Nat} {ts : List S39} {at_ e : Int} (hI : IsS72 w0 w g ts at_ e) (hB : Below w0.heap.size w0 w) (h0 : 0 ≤ at_) (h1 : at_ ≤ 1000000) {m : ByteArray} (hm : markA ts at_ ≠ m) :
 Calls Tryz.prog 143 #[.pointer (some ⟨g, 0, none⟩), .string m] w fun en w' => en = .returned (.bool false) ∧ St w0 w w' g ts at_ e :=
 (Nbs.calls g ts at_ e m false at_ e w0 w hI hB (by rw [takes_f ts at_ e m h0 h1, if_neg hm])).mono fun _ _ ⟨a, b, c, d⟩ => ⟨a, b, c, d⟩
def Bad (en : Ending) (c p : Int) : Prop := en = .panicked [{ v := .iface 74 (.agg #[.int .i64 c, .int .i64 p]), recovered := false }]
theorem Nb8 {w0 w : World} {g : Nat} {ts : List S39} {at_ e : Int} (hI : IsS72 w0 w g ts at_ e) (hB : Below w0.heap.size w0 w) (h0 : 0 ≤ at_) (c : Int) :
 Calls Tryz.prog 69 #[.pointer (some ⟨g, 0, none⟩), .int .i64 c] w fun en w' => Bad en c (Nbl ts e at_) ∧ St w0 w w' g ts at_ e := by
 have HS := lh (St.start hI hB)
 obtain ⟨A0, c0, hg, hge, hC⟩ := hI
 have k0 := Nbm hg
 have k1 := Na0 hg
 have k2 := Nes hg
 by_cases h1 : at_ < (ts.length : Int)
 ·obtain ⟨ad, ea, x0, x1, x2⟩ := Nd1 hC at_ h0 h1
  cases ea
  replace x2 := Nab hB x2
  have HF := lh (show Nbl ts e at_ = (Nbq ts at_).f2 by unfold Nbl; rw [if_pos h1]; rfl)
  clear hg hge hC hB x0 x1
  go_enter Tryz.func69, Tryz.ntmps69
  go_wp2
  go_quiet (fail)
  go_wp2
  refine sP (n := 15) (S := fun w' => w'.cell? ⟨g, 0, none⟩ = some (.slice (some ad) ts.length c0) ∧ w'.cell? ⟨g, 1, none⟩ = some (.int .i64 at_) ∧ w'.cell? ⟨(ad.add (at_.toNat * 3)).block, (ad.add (at_.toNat * 3)).off + 2, none⟩ = some (.int .i64 (Nbq ts at_).f2)) (ds := []) ⟨k0, k1, x2⟩ (fun hHeld => ?_)
  refine pP 0 14 ?_
  refine pP 1 15 ?_
  refine pP 2 16 ?_
  refine pP 3 17 ?_
  refine pP 5 19 ?_
  refine pP 6 20 ?_
  refine pP 7 21 ?_
  refine tP 4 18 hHeld ?_
  refine tP 8 22 hHeld ?_
  refine pP 9 23 ?_
  refine pP 10 24 ?_
  refine tP 11 25 hHeld ?_
  refine pP 12 26 ?_
  refine pP 13 27 ?_
  refine oP 14 none fun K hK => ?_
  go_simp
  exact ⟨rfl, by rw [HF.out]; rfl, by first | exact HS.out.drewN _ | exact (HS.out.drewN _).drew⟩
 ·have HF := lh (show Nbl ts e at_ = e by unfold Nbl; rw [if_neg h1])
  clear hg hge hC hB
  go_enter Tryz.func69, Tryz.ntmps69
  go_wp2
  go_quiet (fail)
  go_wp2
  exact ⟨rfl, by rw [HF.out]; rfl, HS.out.drewN _⟩
theorem must_yes {w0 w : World} {g : Nat} {ts : List S39} {at_ e : Int} (hI : IsS72 w0 w g ts at_ e) (hB : Below w0.heap.size w0 w) (h0 : 0 ≤ at_) (h1 : at_ ≤ 1000000) {m : ByteArray} (hm : markA ts at_ = m) :
 Calls Tryz.prog 177 #[.pointer (some ⟨g, 0, none⟩), .string m] w fun en w' => en = .returned (.tuple #[]) ∧ St w0 w w' g ts (at_ + 1) e := by
 have HT := lh (Nc9 hI hB h0 h1 hm)
 clear hI hB hm
 go_enter Tryz.func177, Tryz.ntmps177
 go_wp2_with (go_at_call 143; (with_reducible refine (HT.out).mono ?_); rintro en w1 ⟨rfl, hs⟩; have HS := lh hs; clear hs)
 go_end0
 exact ⟨rfl, HS.out⟩
theorem must_no {w0 w : World} {g : Nat} {ts : List S39} {at_ e : Int} (hI : IsS72 w0 w g ts at_ e) (hB : Below w0.heap.size w0 w) (h0 : 0 ≤ at_) (h1 : at_ ≤ 1000000) {m : ByteArray} (hm : markA ts at_ ≠ m) :
 Calls Tryz.prog 177 #[.pointer (some ⟨g, 0, none⟩), .string m] w fun en w' => Bad en 50 (Nbl ts e at_) ∧ St w0 w w' g ts at_ e := by
 have HT := lh (Nb7 hI hB h0 h1 hm)
 have H0 := lh h0
 clear hI hB hm h0
 go_enter Tryz.func177, Tryz.ntmps177
 go_wp2_with (first
  | (go_at_call 143; (with_reducible refine (HT.out).mono ?_); rintro en w1 ⟨rfl, hs⟩; have HS := lh hs; clear hs)
  | (go_at_call 69; (with_reducible refine (Nb8 HS.out.is HS.out.bel H0.out 50).mono ?_); rintro en w2 ⟨rfl, hs⟩; have HS2 := lh hs; clear hs))
 exact ⟨rfl, rfl, HS.out.trans HS2.out⟩
theorem st_new {w0 w w1 w2 : World} {g g1 : Nat} {ts ts1 : List S39} {at_ e a1 e1 : Int} (h : St w0 w w g ts at_ e) (hb : Below w.heap.size w w1) (hg : w.heap.size ≤ g1) (k : St w0 w1 w2 g1 ts1 a1 e1) : St w0 w w2 g ts at_ e := by
 have hk : ∀ i, i < w.heap.size → w2.heap[i]? = w.heap[i]? := fun i hi => (k.keep.2 i (Nat.lt_of_lt_of_le hi hb.size) (by omega) (by simp)).trans (hb.block i hi)
 obtain ⟨A0, c0, hh, hge, hC⟩ := h.is
 exact ⟨⟨A0, c0, (hk g (Nbe hh)).trans hh, hge, hC⟩, k.bel, ⟨Nat.le_trans hb.size k.keep.1, fun i hi _ _ => hk i hi⟩⟩
theorem st_new' {w0 w w1 w2 : World} {g g1 : Nat} {ts ts1 : List S39} {at_ e a1 e1 : Int} (h : St w0 w w g ts at_ e) (hb : Below w.heap.size w w1) (hg : w.heap.size ≤ g1) (k : St w0 w1 w2 g1 ts1 a1 e1) : Below w.heap.size w w2 :=
 ⟨k.bel.os.trans h.bel.os.symm, k.bel.tape.trans h.bel.tape.symm, k.bel.output.trans h.bel.output.symm, Nat.le_trans hb.size k.keep.1, fun i hi => (k.keep.2 i (Nat.lt_of_lt_of_le hi hb.size) (by omega) (by simp)).trans (hb.block i hi)⟩
theorem Nbf {w0 w : World} {g : Nat} {ts : List S39} {at_ e : Int} (hI : IsS72 w0 w g ts at_ e) (hB : Below w0.heap.size w0 w) (h0 : 0 ≤ at_) (h1 : at_ ≤ 1000000) (m : ByteArray) (hm : markA ts (at_ + 1) = m) :
 Calls Tryz.prog 204 #[.pointer (some ⟨g, 0, none⟩)] w fun en w' => en = .returned (.string m) ∧ St w0 w w' g ts at_ e ∧ Below w.heap.size w w' := by
 have HS := lh (St.start hI hB)
 obtain ⟨A0, c0, hg, hge, hC⟩ := hI
 have HC := lh hC
 have HM := lh hm
 have hlt := Nbe hg
 have k0 := Nbm hg
 have k1 := Na0 hg
 have hw : wrap64 (at_ + 1) = at_ + 1 := by unfold wrap64; omega
 have HW := lh hw
 clear hg hge hC hB hm hw
 go_enter Tryz.func204, Tryz.ntmps204
 go_wp2
 refine sP (n := 12) (S := fun w' => w'.cell? ⟨g, 0, none⟩ = some (.slice A0 ts.length c0) ∧ w'.cell? ⟨g, 1, none⟩ = some (.int .i64 at_)) (ds := [11]) ⟨k0, k1⟩ (fun hHeld => ?_)
 refine pP 0 4 ?_
 refine pP 1 5 ?_
 refine pP 2 6 ?_
 refine pP 4 8 ?_
 refine pP 5 9 ?_
 refine pP 6 10 ?_
 refine tP 3 7 hHeld ?_
 refine tP 7 11 hHeld ?_
 refine pP 8 12 ?_
 refine pP 9 13 ?_
 refine oP 10 (some 3) fun K hK => ?_
 refine Nez (w1 := ?_) (v := ?_) (by rfl) rfl ?_ ?_
 rotate_left 2
 ·go_simp
  constructor
  ·rfl
  ·rfl
 refine hK.out _ _ ⟨Nab (Nae (Below.refl _ _) _) hHeld.1, Nab (Nae (Below.refl _ _) _) hHeld.2⟩ (fun hHeld => ?_)
 clear hK K
 refine nP 3 ?_
 refine lP 11 none fun K hK => ?_
 refine skip_ (w1 := ?_) (by rfl) rfl ?_ ?_
 rotate_left
 ·go_simp
  rfl
 refine hK.out _ _ ?_
 clear hK K
 refine done_ (by kernel_rfl) ?_
 rw [HW.out]
 go_wp2_with (fail)
 have HI1 := IsS72.drew (IsS72.new w0 w A0 c0 ts (at_ + 1) 0 HS.out.bel HC.out)
 have HB1 : Below w0.heap.size w0 (w.alloc (.cells #[.slice A0 ts.length c0, .int .i64 (at_ + 1), .int .i64 0] 72)).drew := Ndh (HS.out.bel.alloc HS.out.bel.size _)
 (with_reducible refine (mark_any HI1 HB1 (by omega) m HM.out).mono ?_)
 rintro en w2 ⟨rfl, hs⟩
 have HS2 := lh (st_new HS.out (Ndh (Nae (Below.refl _ _) _)) (Nat.le_refl _) hs)
 have HB2 := lh (st_new' HS.out (Ndh (Nae (Below.refl _ _) _)) (Nat.le_refl _) hs)
 clear hs HI1 HB1
 go_wp2
 go_ret
 exact ⟨rfl, HS2.out, HB2.out⟩
end
mutual
def Na6.j0 : Nat → Int → Bool → Option (ByteArray × Int)
 | 0, _, _ => none
 | k + 1, x4, x7 => if x7 = true then (some ((⟨#[43]⟩ : ByteArray), 3)) else (if x4 = 12 then (Na6.j1 k x4 (x4 == 12)) else (Na6.j1 k x4 (x4 == 1)))
def Na6.j1 : Nat → Int → Bool → Option (ByteArray × Int)
 | 0, _, _ => none
 | k + 1, x4, x10 => if x10 = true then (some ((⟨#[45]⟩ : ByteArray), 3)) else (if x4 = 13 then (some ((⟨#[42]⟩ : ByteArray), 4)) else (if x4 = 14 then (some ((⟨#[47]⟩ : ByteArray), 4)) else (if x4 = 15 then (some ((⟨#[94]⟩ : ByteArray), 5)) else (if x4 = 21 then (some ((⟨#[61]⟩ : ByteArray), 1)) else (if x4 = 22 then (some ((⟨#[60, 62]⟩ : ByteArray), 1)) else (if x4 = 23 then (some ((⟨#[60]⟩ : ByteArray), 1)) else (if x4 = 24 then (some ((⟨#[60, 61]⟩ : ByteArray), 1)) else (if x4 = 25 then (some ((⟨#[62]⟩ : ByteArray), 1)) else (some ((⟨#[62, 61]⟩ : ByteArray), 1))))))))))
end
def Na6.f (k : Nat) (a0 : Int) : Option (ByteArray × Int) := if a0 = 16 then (some ((⟨#[38]⟩ : ByteArray), 2)) else (if a0 = 11 then (Na6.j0 k a0 (a0 == 11)) else (Na6.j0 k a0 (a0 == 2)))
theorem Na6.calls (k : Nat) (a0 : Int) (r1 : ByteArray) (r2 : Int) (w : World) (h : Na6.f k a0 = some (r1, r2)) :
 Calls Tryz.prog 74 #[.int .i64 a0] w fun e w' => e = .returned (.tuple #[.string r1, .int .i64 r2]) ∧ Na9 w w' := by
 have H := h
 unfold Na6.f at H
 clear h
 by_cases c2 : a0 = 16
 ·rw [if_pos c2] at H
  obtain ⟨c2b0, c2b1⟩ := bqT c2
  clear c2
  simp only [sJ, pJ] at H
  obtain ⟨rfl, rfl⟩ := H
  go_enter Tryz.func74, Tryz.ntmps74
  go_wp2
  go_ret2
  exact ⟨eR, dE⟩
 ·rw [if_neg c2] at H
  obtain ⟨c2b0, c2b1⟩ := bqF c2
  have HC3 := aM H
  clear H
  go_enter Tryz.func74, Tryz.ntmps74
  go_upto_if 7 with (fail)
  go_cut [7] (fun v7 wc => ∃ (kq : Nat) (x7_2 : Bool), v7 = .bool x7_2 ∧ Nai (Na6.j0 kq a0 x7_2 = some (r1, r2)) ∧ Nai (kq ≤ k) ∧ Na9 w wc)
  case first =>
   have H := HC3.out
   clear HC3
   by_cases c4 : a0 = 11
   ·rw [if_pos c4] at H
    obtain ⟨c4b0, c4b1⟩ := bqT c4
    clear c4
    (first | rw [c4b0] | (simp only [i64_w, i32_w]; rw [c4b0]) | skip)
    have H' := aM H
    clear H
    go_wp2
    go_meet
    case rel => exact ⟨_, ((a0 == 11)), (by first | rfl | (simp; done) | (simp [*]; done)), H', ⟨by first | omega | exact Nat.le_refl _⟩, dE⟩
   ·rw [if_neg c4] at H
    obtain ⟨c4b0, c4b1⟩ := bqF c4
    (first | rw [c4b0] | (simp only [i64_w, i32_w]; rw [c4b0]) | skip)
    have H' := aM H
    clear H
    go_wp2
    go_meet
    case rel => exact ⟨_, ((a0 == 2)), (by first | rfl | (simp; done) | (simp [*]; done)), H', ⟨by first | omega | exact Nat.le_refl _⟩, dE⟩
  case rest =>
   clear HC3
   try clear c2
   try clear c2b0
   try clear c2b1
   try clear p2
   try clear c4
   try clear c4b0
   try clear c4b1
   obtain ⟨kq, x7_2, rfl, HA, HJ2, ⟨mc2, rfl⟩⟩ := hcut
   cases kq with
   | zero => exact absurd HA.out (by simp [Na6.j0])
   | succ kj2 =>
    have H := HA.out
    clear HA
    simp only [Na6.j0] at H
    by_cases c5 : x7_2 = true
    ·subst c5
     rw [if_pos rfl] at H
     simp only [sJ, pJ] at H
     obtain ⟨rfl, rfl⟩ := H
     go_wp2
     go_ret2
     exact ⟨eR, dE⟩
    ·replace c5 := Bool.eq_false_iff.mpr c5
     subst c5
     rw [if_neg fT] at H
     have HC6 := aM H
     clear H
     go_upto_if 10 with (fail)
     go_cut [10] (fun v10 wc => ∃ (kq : Nat) (x10_5 : Bool), v10 = .bool x10_5 ∧ Nai (Na6.j1 kq a0 x10_5 = some (r1, r2)) ∧ Nai (kq ≤ kj2) ∧ Na9 w wc)
     case first =>
      have H := HC6.out
      clear HC6
      by_cases c7 : a0 = 12
      ·rw [if_pos c7] at H
       obtain ⟨c7b0, c7b1⟩ := bqT c7
       clear c7
       (first | rw [c7b0] | (simp only [i64_w, i32_w]; rw [c7b0]) | skip)
       have H' := aM H
       clear H
       go_wp2
       go_meet
       case rel => exact ⟨_, ((a0 == 12)), (by first | rfl | (simp; done) | (simp [*]; done)), H', ⟨by have := HJ2.out; first | omega | exact Nat.le_refl _⟩, dE⟩
      ·rw [if_neg c7] at H
       obtain ⟨c7b0, c7b1⟩ := bqF c7
       (first | rw [c7b0] | (simp only [i64_w, i32_w]; rw [c7b0]) | skip)
       have H' := aM H
       clear H
       go_wp2
       go_meet
       case rel => exact ⟨_, ((a0 == 1)), (by first | rfl | (simp; done) | (simp [*]; done)), H', ⟨by have := HJ2.out; first | omega | exact Nat.le_refl _⟩, dE⟩
     case rest =>
      clear HC6
      try clear c2
      try clear c2b0
      try clear c2b1
      try clear p2
      try clear c4
      try clear c4b0
      try clear c4b1
      try clear c5
      try clear c7
      try clear c7b0
      try clear c7b1
      try clear p2
      obtain ⟨kq, x10_5, rfl, HA, HJ5, ⟨mc5, rfl⟩⟩ := hcut
      cases kq with
      | zero => exact absurd HA.out (by simp [Na6.j1])
      | succ kj5 =>
       have H := HA.out
       clear HA
       simp only [Na6.j1] at H
       by_cases c8 : x10_5 = true
       ·subst c8
        rw [if_pos rfl] at H
        simp only [sJ, pJ] at H
        obtain ⟨rfl, rfl⟩ := H
        go_wp2
        go_ret2
        exact ⟨eR, dE⟩
       ·replace c8 := Bool.eq_false_iff.mpr c8
        subst c8
        rw [if_neg fT] at H
        by_cases c9 : a0 = 13
        ·rw [if_pos c9] at H
         obtain ⟨c9b0, c9b1⟩ := bqT c9
         clear c9
         simp only [sJ, pJ] at H
         obtain ⟨rfl, rfl⟩ := H
         go_wp2
         go_ret2
         exact ⟨eR, dE⟩
        ·rw [if_neg c9] at H
         obtain ⟨c9b0, c9b1⟩ := bqF c9
         by_cases c10 : a0 = 14
         ·rw [if_pos c10] at H
          obtain ⟨c10b0, c10b1⟩ := bqT c10
          clear c10
          simp only [sJ, pJ] at H
          obtain ⟨rfl, rfl⟩ := H
          go_wp2
          go_ret2
          exact ⟨eR, dE⟩
         ·rw [if_neg c10] at H
          obtain ⟨c10b0, c10b1⟩ := bqF c10
          by_cases c11 : a0 = 15
          ·rw [if_pos c11] at H
           obtain ⟨c11b0, c11b1⟩ := bqT c11
           clear c11
           simp only [sJ, pJ] at H
           obtain ⟨rfl, rfl⟩ := H
           go_wp2
           go_ret2
           exact ⟨eR, dE⟩
          ·rw [if_neg c11] at H
           obtain ⟨c11b0, c11b1⟩ := bqF c11
           by_cases c12 : a0 = 21
           ·rw [if_pos c12] at H
            obtain ⟨c12b0, c12b1⟩ := bqT c12
            clear c12
            simp only [sJ, pJ] at H
            obtain ⟨rfl, rfl⟩ := H
            go_wp2
            go_ret2
            exact ⟨eR, dE⟩
           ·rw [if_neg c12] at H
            obtain ⟨c12b0, c12b1⟩ := bqF c12
            by_cases c13 : a0 = 22
            ·rw [if_pos c13] at H
             obtain ⟨c13b0, c13b1⟩ := bqT c13
             clear c13
             simp only [sJ, pJ] at H
             obtain ⟨rfl, rfl⟩ := H
             go_wp2
             go_ret2
             exact ⟨eR, dE⟩
            ·rw [if_neg c13] at H
             obtain ⟨c13b0, c13b1⟩ := bqF c13
             by_cases c14 : a0 = 23
             ·rw [if_pos c14] at H
              obtain ⟨c14b0, c14b1⟩ := bqT c14
              clear c14
              simp only [sJ, pJ] at H
              obtain ⟨rfl, rfl⟩ := H
              go_wp2
              go_ret2
              exact ⟨eR, dE⟩
             ·rw [if_neg c14] at H
              obtain ⟨c14b0, c14b1⟩ := bqF c14
              by_cases c15 : a0 = 24
              ·rw [if_pos c15] at H
               obtain ⟨c15b0, c15b1⟩ := bqT c15
               clear c15
               simp only [sJ, pJ] at H
               obtain ⟨rfl, rfl⟩ := H
               go_wp2
               go_ret2
               exact ⟨eR, dE⟩
              ·rw [if_neg c15] at H
               obtain ⟨c15b0, c15b1⟩ := bqF c15
               by_cases c16 : a0 = 25
               ·rw [if_pos c16] at H
                obtain ⟨c16b0, c16b1⟩ := bqT c16
                clear c16
                simp only [sJ, pJ] at H
                obtain ⟨rfl, rfl⟩ := H
                go_wp2
                go_ret2
                exact ⟨eR, dE⟩
               ·rw [if_neg c16] at H
                obtain ⟨c16b0, c16b1⟩ := bqF c16
                simp only [sJ, pJ] at H
                obtain ⟨rfl, rfl⟩ := H
                go_wp2
                go_ret2
                exact ⟨eR, dE⟩
def Nbn.f (a0 : Int) : Option (Bool) := if a0 ≥ 11 then (if a0 ≤ 16 then (some true) else (if a0 ≥ 21 then (some (decide (a0 ≤ 26))) else (some false))) else (if a0 ≥ 21 then (some (decide (a0 ≤ 26))) else (some false))
theorem Nbn.calls (a0 : Int) (r : Bool) (w : World) (h : Nbn.f a0 = some r) :
 Calls Tryz.prog 95 #[.int .i64 a0] w fun e w' => e = .returned (.bool r) ∧ Na9 w w' := by
 have H := h
 unfold Nbn.f at H
 clear h
 by_cases c2 : a0 ≥ 11
 ·rw [if_pos c2] at H
  have c2b0 : decide (11 ≤ a0) = true := decide_eq_true c2
  clear c2
  by_cases c3 : a0 ≤ 16
  ·rw [if_pos c3] at H
   have c3b0 : decide (a0 ≤ 16) = true := decide_eq_true c3
   clear c3
   obtain rfl := sI H
   go_enter Tryz.func95, Tryz.ntmps95
   go_wp2
   go_ret
   exact ⟨eR, dE⟩
  ·rw [if_neg c3] at H
   have c3b0 : decide (a0 ≤ 16) = false := decide_eq_false c3
   clear c3
   by_cases c4 : a0 ≥ 21
   ·rw [if_pos c4] at H
    have c4b0 : decide (21 ≤ a0) = true := decide_eq_true c4
    clear c4
    obtain rfl := sI H
    go_enter Tryz.func95, Tryz.ntmps95
    go_wp2
    go_ret
    exact ⟨eR, dE⟩
   ·rw [if_neg c4] at H
    have c4b0 : decide (21 ≤ a0) = false := decide_eq_false c4
    clear c4
    obtain rfl := sI H
    go_enter Tryz.func95, Tryz.ntmps95
    go_wp2
    go_ret
    exact ⟨eR, dE⟩
 ·rw [if_neg c2] at H
  have c2b0 : decide (11 ≤ a0) = false := decide_eq_false c2
  clear c2
  by_cases c5 : a0 ≥ 21
  ·rw [if_pos c5] at H
   have c5b0 : decide (21 ≤ a0) = true := decide_eq_true c5
   clear c5
   obtain rfl := sI H
   go_enter Tryz.func95, Tryz.ntmps95
   go_wp2
   go_ret
   exact ⟨eR, dE⟩
  ·rw [if_neg c5] at H
   have c5b0 : decide (21 ≤ a0) = false := decide_eq_false c5
   clear c5
   obtain rfl := sI H
   go_enter Tryz.func95, Tryz.ntmps95
   go_wp2
   go_ret
   exact ⟨eR, dE⟩
end Go.Proofs.YtejbbceidnaloaaGreatDoor.P
