import Derived.Test.YtejbbceidnaloaaGreatDoorB10
import Derived.Test.YtejbbceidnaloaaGreatDoorB6
set_option linter.unusedVariables false
set_option linter.unusedSimpArgs false
set_option maxRecDepth 100000
set_option maxHeartbeats 8000000
namespace Go.Proofs.YtejbbceidnaloaaGreatDoor.P
open Go.RowKit AW AL AM
section
set_option maxHeartbeats 4000000
def cs50 (x : S50) : List Value := [.int .i64 x.f0, .int .i64 x.f1.f0, .int .i64 x.f1.f1.f0, .int .i64 x.f1.f1.f1, .string x.f1.f2, .bool x.f1.f3, .int .i64 x.f1.f4, .int .i64 x.f2, .string x.f3, .int .i64 x.f4, .string x.f5.f0, .int .i64 x.f5.f1, .int .i64 x.f5.f2, .bool x.f5.f3, .bool x.f5.f4, .string x.f6.f0, .int .i64 x.f6.f1, .int .i64 x.f6.f2, .bool x.f6.f3, .bool x.f6.f4]
def v50 (x : S50) : Value := .agg (cs50 x).toArray
noncomputable def eqS (x y : S50) : Bool := @decide (x = y) (Classical.propDecidable _)
theorem Neh {x y : S50} : eqS x y = true ↔ x = y := by unfold eqS; exact @decide_eq_true_iff _ (Classical.propDecidable _)
theorem toList_eq {a b : ByteArray} : a.toList = b.toList ↔ a = b := by
 rw [ByteArray.toList_eq, ByteArray.toList_eq]
 exact ⟨fun h => ByteArray.ext (Array.toList_inj.1 h), fun h => by rw [h]⟩
def eqSB (x y : S50) : Bool := x.f0 == y.f0 && ((x.f1.f0 == y.f1.f0 && ((x.f1.f1.f0 == y.f1.f1.f0 && (x.f1.f1.f1 == y.f1.f1.f1)) && (x.f1.f2.toList == y.f1.f2.toList && (x.f1.f3 == y.f1.f3 && (x.f1.f4 == y.f1.f4))))) && (x.f2 == y.f2 && (x.f3.toList == y.f3.toList && (x.f4 == y.f4 && ((x.f5.f0.toList == y.f5.f0.toList && (x.f5.f1 == y.f5.f1 && (x.f5.f2 == y.f5.f2 && (x.f5.f3 == y.f5.f3 && (x.f5.f4 == y.f5.f4))))) && ((x.f6.f0.toList == y.f6.f0.toList && (x.f6.f1 == y.f6.f1 && (x.f6.f2 == y.f6.f2 && (x.f6.f3 == y.f6.f3 && (x.f6.f4 == y.f6.f4)))))))))))
theorem eqSB_iff {x y : S50} : eqSB x y = true ↔ x = y := by
 unfold eqSB
 simp only [Bool.and_eq_true, beq_iff_eq, toList_eq]
 constructor
 ·rintro ⟨h0, ⟨h1, ⟨h2, h3⟩, h4, h5, h6⟩, h7, h8, h9, ⟨h10, h11, h12, h13, h14⟩, h15, h16, h17, h18, h19⟩
  obtain ⟨x0, ⟨x1, ⟨x2, x3⟩, x4, x5, x6⟩, x7, x8, x9, ⟨x10, x11, x12, x13, x14⟩, ⟨x15, x16, x17, x18, x19⟩⟩ := x
  obtain ⟨y0, ⟨y1, ⟨y2, y3⟩, y4, y5, y6⟩, y7, y8, y9, ⟨y10, y11, y12, y13, y14⟩, ⟨y15, y16, y17, y18, y19⟩⟩ := y
  simp only at h0 h1 h2 h3 h4 h5 h6 h7 h8 h9 h10 h11 h12 h13 h14 h15 h16 h17 h18 h19
  subst h0 h1 h2 h3 h4 h5 h6 h7 h8 h9 h10 h11 h12 h13 h14 h15 h16 h17 h18 h19
  rfl
 ·rintro rfl
  simp
theorem eq50V (d : Nat) (w : World) (x y : S50) : (Op.equalIn (d + 4) 50 (.agg (cs50 x).toArray) (.agg (cs50 y).toArray)).run Tryz.prog w = .ok (eqS x y) w := by
 refine (eqA50 d w x.f0 y.f0 x.f1.f0 y.f1.f0 x.f1.f1.f0 y.f1.f1.f0 x.f1.f1.f1 y.f1.f1.f1 x.f1.f2 y.f1.f2 x.f1.f3 y.f1.f3 x.f1.f4 y.f1.f4 x.f2 y.f2 x.f3 y.f3 x.f4 y.f4 x.f5.f0 y.f5.f0 x.f5.f1 y.f5.f1 x.f5.f2 y.f5.f2 x.f5.f3 y.f5.f3 x.f5.f4 y.f5.f4 x.f6.f0 y.f6.f0 x.f6.f1 y.f6.f1 x.f6.f2 y.f6.f2 x.f6.f3 y.f6.f3 x.f6.f4 y.f6.f4).trans ?_
 congr 1
 exact (Bool.eq_iff_iff.2 (eqSB_iff.trans Neh.symm))
def rest1 (o : Int) (m : ByteArray) (ag : Int) (a0 : ByteArray) (a1 a2 : Int) (a3 a4 : Bool) (b0 : ByteArray) (b1 b2 : Int) (b3 b4 : Bool) : Bool := decide (o = 0 ∧ m.toList = [] ∧ ag = 0 ∧ a0.toList = [] ∧ a1 = 0 ∧ a2 = 0 ∧ a3 = false ∧ a4 = false ∧ b0.toList = [] ∧ b1 = 0 ∧ b2 = 0 ∧ b3 = false ∧ b4 = false)
def partsV1 (v0 v1 v2 : Int) (v3 : ByteArray) (v4 : Bool) (v5 o : Int) (m : ByteArray) (ag : Int) (a0 : ByteArray) (a1 a2 : Int) (a3 a4 : Bool) (b0 : ByteArray) (b1 b2 : Int) (b3 b4 bR : Bool) : Int := if rest1 o m ag a0 a1 a2 a3 a4 b0 b1 b2 b3 b4 = true then (if bR = true ∧ v0 ≠ 0 ∧ (v0 ≠ 1 ∨ 0 ≤ v1 ∧ (1000000 : Int) % v2 = 0) then 0 else -1) else -1
def rest4 (v0 v1 v2 : Int) (v3 : ByteArray) (v4 : Bool) (v5 : Int) (m : ByteArray) (ag : Int) (a0 : ByteArray) (a1 a2 : Int) (a3 a4 : Bool) (b0 : ByteArray) (b1 b2 : Int) (b3 b4 : Bool) : Bool := decide (v0 = 0 ∧ v1 = 0 ∧ v2 = 0 ∧ v3.toList = [] ∧ v4 = false ∧ v5 = 0 ∧ m.toList = [] ∧ ag = 0 ∧ a0.toList = [] ∧ a1 = 0 ∧ a2 = 0 ∧ a3 = false ∧ a4 = false ∧ b0.toList = [] ∧ b1 = 0 ∧ b2 = 0 ∧ b3 = false ∧ b4 = false)
def partsV4 (v0 v1 v2 : Int) (v3 : ByteArray) (v4 : Bool) (v5 o : Int) (m : ByteArray) (ag : Int) (a0 : ByteArray) (a1 a2 : Int) (a3 a4 : Bool) (b0 : ByteArray) (b1 b2 : Int) (b3 b4 : Bool) : Int := if rest4 v0 v1 v2 v3 v4 v5 m ag a0 a1 a2 a3 a4 b0 b1 b2 b3 b4 = true then (if 1 ≤ o ∧ o ≤ 3 then 1 else -1) else -1
def rest5 (v0 v1 v2 : Int) (v3 : ByteArray) (v4 : Bool) (v5 : Int) (m : ByteArray) (ag : Int) (a0 : ByteArray) (a1 a2 : Int) (a3 a4 : Bool) (b0 : ByteArray) (b1 b2 : Int) (b3 b4 : Bool) : Bool := decide (v0 = 0 ∧ v1 = 0 ∧ v2 = 0 ∧ v3.toList = [] ∧ v4 = false ∧ v5 = 0 ∧ m.toList = [] ∧ ag = 0 ∧ a0.toList = [] ∧ a1 = 0 ∧ a2 = 0 ∧ a3 = false ∧ a4 = false ∧ b0.toList = [] ∧ b1 = 0 ∧ b2 = 0 ∧ b3 = false ∧ b4 = false)
def partsV5 (v0 v1 v2 : Int) (v3 : ByteArray) (v4 : Bool) (v5 o : Int) (m : ByteArray) (ag : Int) (a0 : ByteArray) (a1 a2 : Int) (a3 a4 : Bool) (b0 : ByteArray) (b1 b2 : Int) (b3 b4 : Bool) : Int := if rest5 v0 v1 v2 v3 v4 v5 m ag a0 a1 a2 a3 a4 b0 b1 b2 b3 b4 = true then (if (11 ≤ o ∧ o ≤ 16) ∨ (21 ≤ o ∧ o ≤ 26) then 2 else -1) else -1
def rest2 (v0 v1 v2 : Int) (v3 : ByteArray) (v4 : Bool) (v5 o : Int) (m : ByteArray) (ag : Int) (b0 : ByteArray) (b1 b2 : Int) (b3 b4 : Bool) : Bool := decide (v0 = 0 ∧ v1 = 0 ∧ v2 = 0 ∧ v3.toList = [] ∧ v4 = false ∧ v5 = 0 ∧ o = 0 ∧ m.toList = [] ∧ ag = 0 ∧ b0.toList = [] ∧ b1 = 0 ∧ b2 = 0 ∧ b3 = false ∧ b4 = false)
def partsV2 (v0 v1 v2 : Int) (v3 : ByteArray) (v4 : Bool) (v5 o : Int) (m : ByteArray) (ag : Int) (a0 : ByteArray) (a1 a2 : Int) (a3 a4 : Bool) (b0 : ByteArray) (b1 b2 : Int) (b3 b4 rA rB : Bool) : Int := if rest2 v0 v1 v2 v3 v4 v5 o m ag b0 b1 b2 b3 b4 = true then (if rA = true ∧ rB = true ∧ b0.toList = [] then 0 else -1) else -1
def rest3 (v0 v1 v2 : Int) (v3 : ByteArray) (v4 : Bool) (v5 o : Int) (m : ByteArray) (ag : Int) : Bool := decide (v0 = 0 ∧ v1 = 0 ∧ v2 = 0 ∧ v3.toList = [] ∧ v4 = false ∧ v5 = 0 ∧ o = 0 ∧ m.toList = [] ∧ ag = 0)
def partsV3 (v0 v1 v2 : Int) (v3 : ByteArray) (v4 : Bool) (v5 o : Int) (m : ByteArray) (ag : Int) (a0 : ByteArray) (a1 a2 : Int) (a3 a4 : Bool) (b0 : ByteArray) (b1 b2 : Int) (b3 b4 rA rB : Bool) : Int := if rest3 v0 v1 v2 v3 v4 v5 o m ag = true then (if rA = true ∧ rB = true ∧ b0.toList = [] then 0 else -1) else -1
def rest6 (v0 v1 v2 : Int) (v3 : ByteArray) (v4 : Bool) (v5 o : Int) (a0 : ByteArray) (a1 a2 : Int) (a3 a4 : Bool) (b0 : ByteArray) (b1 b2 : Int) (b3 b4 : Bool) : Bool := decide (v0 = 0 ∧ v1 = 0 ∧ v2 = 0 ∧ v3.toList = [] ∧ v4 = false ∧ v5 = 0 ∧ o = 0 ∧ a0.toList = [] ∧ a1 = 0 ∧ a2 = 0 ∧ a3 = false ∧ a4 = false ∧ b0.toList = [] ∧ b1 = 0 ∧ b2 = 0 ∧ b3 = false ∧ b4 = false)
def partsV6 (v0 v1 v2 : Int) (v3 : ByteArray) (v4 : Bool) (v5 o : Int) (m : ByteArray) (ag : Int) (a0 : ByteArray) (a1 a2 : Int) (a3 a4 : Bool) (b0 : ByteArray) (b1 b2 : Int) (b3 b4 rF : Bool) : Int := if rest6 v0 v1 v2 v3 v4 v5 o a0 a1 a2 a3 a4 b0 b1 b2 b3 b4 = true then (if rF = true ∧ 0 ≤ ag ∧ ag ≤ 30 then ag else -1) else -1
def Ne1 (k v0 v1 v2 : Int) (v3 : ByteArray) (v4 : Bool) (v5 o : Int) (m : ByteArray) (ag : Int) (a0 : ByteArray) (a1 a2 : Int) (a3 a4 : Bool) (b0 : ByteArray) (b1 b2 : Int) (b3 b4 : Bool) : Int :=
 if k = 1 then partsV1 v0 v1 v2 v3 v4 v5 o m ag a0 a1 a2 a3 a4 b0 b1 b2 b3 b4 (valB v0 v1 v2 v3 v4 v5)
 else if k = 2 then partsV2 v0 v1 v2 v3 v4 v5 o m ag a0 a1 a2 a3 a4 b0 b1 b2 b3 b4 (refB a0 a1 a2) (refB b0 b1 b2)
 else if k = 3 then partsV3 v0 v1 v2 v3 v4 v5 o m ag a0 a1 a2 a3 a4 b0 b1 b2 b3 b4 (refB a0 a1 a2) (refB b0 b1 b2)
 else if k = 4 then partsV4 v0 v1 v2 v3 v4 v5 o m ag a0 a1 a2 a3 a4 b0 b1 b2 b3 b4
 else if k = 5 then partsV5 v0 v1 v2 v3 v4 v5 o m ag a0 a1 a2 a3 a4 b0 b1 b2 b3 b4
 else if k = 6 then partsV6 v0 v1 v2 v3 v4 v5 o m ag a0 a1 a2 a3 a4 b0 b1 b2 b3 b4 (fnB m)
 else -1
theorem valB_den {v0 v1 v2 : Int} {v3 : ByteArray} {v4 : Bool} {v5 : Int} (h : valB v0 v1 v2 v3 v4 v5 = true) (h1 : v0 = 1) : 1 ≤ v2 ∧ v2 ≤ 1000000 := by
 subst h1
 unfold valB at h
 simp [numB] at h
 omega
def Nbi (x : S50) : Int := Ne1 x.f0 x.f1.f0 x.f1.f1.f0 x.f1.f1.f1 x.f1.f2 x.f1.f3 x.f1.f4 x.f2 x.f3 x.f4 x.f5.f0 x.f5.f1 x.f5.f2 x.f5.f3 x.f5.f4 x.f6.f0 x.f6.f1 x.f6.f2 x.f6.f3 x.f6.f4
theorem tlE {m : ByteArray} : m.toList = [] ↔ m = ⟨#[]⟩ := by rw [← toList_eq]; rw [show (⟨#[]⟩ : ByteArray).toList = [] by kernel_rfl]
def pN (k : Int) : S50 := ⟨k, ⟨0, ⟨0, 0⟩, ⟨#[]⟩, false, 0⟩, 0, ⟨#[]⟩, 0, ⟨⟨#[]⟩, 0, 0, false, false⟩, ⟨⟨#[]⟩, 0, 0, false, false⟩⟩
theorem neE {ops : Array Oper} {rest : List Oper} {o : Oper} {a : Act} {Q : Exit → Act → World → Prop} {W : World} (x y : S50) (p q : Operand) (h : wpList Tryz.prog ops Q rest (a.put o.dst (.bool (!eqS x y))) W) (hgd : o.guard = none := by exact rfl) (ho : o.op = .binOp .neq 50 p q 50 := by exact rfl) (hx : a.eval p = .agg (cs50 x).toArray := by exact rfl) (hy : a.eval q = .agg (cs50 y).toArray := by exact rfl) : wpList Tryz.prog ops Q (o :: rest) a W := by
 refine Kd.event_run hgd ?_ h
 unfold execOp
 simp only [ho, hx, hy, Sem.run_bind, Sem.run_pure]
 rw [run_eqGuard_agg (hm := Tryz.eqGuardType50)]
 simp only [Result.andThen]
 rw [run_neq_struct, eq50V 9996 W x y]
 rfl
theorem segL {ops : Array Oper} {rest : List Oper} {o : Oper} {a : Act} {Q : Exit → Act → World → Prop} {W : World} {g : Nat} {cur : Array Value} (hh : W.heap[g]? = some (.cells cur 50 (0, 0))) (t : TypeId) (p : Operand) (k : Nat) (cs : List Value) {d : TypeDesc} (hu : Tryz.prog.underlying t = some d) (h : wpList Tryz.prog ops Q rest (a.put o.dst (.agg cs.toArray)) W) (hgd : o.guard = none := by exact rfl) (ho : o.op = .load t p := by exact rfl) (ha : a.eval p = .pointer (some ⟨g, k, none⟩) := by exact rfl) (hc : (cur.toList.drop k).take cs.length = cs := by exact rfl) (hd : d.isRow = true := by exact rfl) (hi : (Tryz.prog.info? t).map (·.size) = some cs.length := by kernel_rfl) : wpList Tryz.prog ops Q (o :: rest) a W := Nec hgd ho ha hh hc hu (by cases d <;> simp_all [TypeDesc.isRow]) hi h
theorem br1 {x : S50} (k : x.f0 = 1) : eqS { pN 1 with f1 := x.f1 } x = rest1 x.f2 x.f3 x.f4 x.f5.f0 x.f5.f1 x.f5.f2 x.f5.f3 x.f5.f4 x.f6.f0 x.f6.f1 x.f6.f2 x.f6.f3 x.f6.f4 := by
 obtain ⟨x0, ⟨x1, ⟨x2, x3⟩, x4, x5, x6⟩, x7, x8, x9, ⟨x10, x11, x12, x13, x14⟩, ⟨x15, x16, x17, x18, x19⟩⟩ := x
 obtain rfl : x0 = 1 := k
 rw [Bool.eq_iff_iff, Neh]
 unfold rest1
 rw [decide_eq_true_eq]
 simp only [tlE, S50.mk.injEq, S48.mk.injEq, S46.mk.injEq, S44.mk.injEq, true_and, and_true, and_assoc, eq_comm (a := (0 : Int)), eq_comm (a := false), eq_comm (a := (⟨#[]⟩ : ByteArray)), pN]
theorem br4 {x : S50} (k : x.f0 = 4) : eqS { pN 4 with f2 := x.f2 } x = rest4 x.f1.f0 x.f1.f1.f0 x.f1.f1.f1 x.f1.f2 x.f1.f3 x.f1.f4 x.f3 x.f4 x.f5.f0 x.f5.f1 x.f5.f2 x.f5.f3 x.f5.f4 x.f6.f0 x.f6.f1 x.f6.f2 x.f6.f3 x.f6.f4 := by
 obtain ⟨x0, ⟨x1, ⟨x2, x3⟩, x4, x5, x6⟩, x7, x8, x9, ⟨x10, x11, x12, x13, x14⟩, ⟨x15, x16, x17, x18, x19⟩⟩ := x
 obtain rfl : x0 = 4 := k
 rw [Bool.eq_iff_iff, Neh]
 unfold rest4
 rw [decide_eq_true_eq]
 simp only [tlE, S50.mk.injEq, S48.mk.injEq, S46.mk.injEq, S44.mk.injEq, true_and, and_true, and_assoc, eq_comm (a := (0 : Int)), eq_comm (a := false), eq_comm (a := (⟨#[]⟩ : ByteArray)), pN]
theorem br5 {x : S50} (k : x.f0 = 5) : eqS { pN 5 with f2 := x.f2 } x = rest5 x.f1.f0 x.f1.f1.f0 x.f1.f1.f1 x.f1.f2 x.f1.f3 x.f1.f4 x.f3 x.f4 x.f5.f0 x.f5.f1 x.f5.f2 x.f5.f3 x.f5.f4 x.f6.f0 x.f6.f1 x.f6.f2 x.f6.f3 x.f6.f4 := by
 obtain ⟨x0, ⟨x1, ⟨x2, x3⟩, x4, x5, x6⟩, x7, x8, x9, ⟨x10, x11, x12, x13, x14⟩, ⟨x15, x16, x17, x18, x19⟩⟩ := x
 obtain rfl : x0 = 5 := k
 rw [Bool.eq_iff_iff, Neh]
 unfold rest5
 rw [decide_eq_true_eq]
 simp only [tlE, S50.mk.injEq, S48.mk.injEq, S46.mk.injEq, S44.mk.injEq, true_and, and_true, and_assoc, eq_comm (a := (0 : Int)), eq_comm (a := false), eq_comm (a := (⟨#[]⟩ : ByteArray)), pN]
theorem br2 {x : S50} (k : x.f0 = 2) : eqS { pN 2 with f5 := x.f5 } x = rest2 x.f1.f0 x.f1.f1.f0 x.f1.f1.f1 x.f1.f2 x.f1.f3 x.f1.f4 x.f2 x.f3 x.f4 x.f6.f0 x.f6.f1 x.f6.f2 x.f6.f3 x.f6.f4 := by
 obtain ⟨x0, ⟨x1, ⟨x2, x3⟩, x4, x5, x6⟩, x7, x8, x9, ⟨x10, x11, x12, x13, x14⟩, ⟨x15, x16, x17, x18, x19⟩⟩ := x
 obtain rfl : x0 = 2 := k
 rw [Bool.eq_iff_iff, Neh]
 unfold rest2
 rw [decide_eq_true_eq]
 simp only [tlE, S50.mk.injEq, S48.mk.injEq, S46.mk.injEq, S44.mk.injEq, true_and, and_true, and_assoc, eq_comm (a := (0 : Int)), eq_comm (a := false), eq_comm (a := (⟨#[]⟩ : ByteArray)), pN]
theorem br3 {x : S50} (k : x.f0 = 3) : eqS { pN 3 with f5 := x.f5, f6 := x.f6 } x = rest3 x.f1.f0 x.f1.f1.f0 x.f1.f1.f1 x.f1.f2 x.f1.f3 x.f1.f4 x.f2 x.f3 x.f4 := by
 obtain ⟨x0, ⟨x1, ⟨x2, x3⟩, x4, x5, x6⟩, x7, x8, x9, ⟨x10, x11, x12, x13, x14⟩, ⟨x15, x16, x17, x18, x19⟩⟩ := x
 obtain rfl : x0 = 3 := k
 rw [Bool.eq_iff_iff, Neh]
 unfold rest3
 rw [decide_eq_true_eq]
 simp only [tlE, S50.mk.injEq, S48.mk.injEq, S46.mk.injEq, S44.mk.injEq, true_and, and_true, and_assoc, eq_comm (a := (0 : Int)), eq_comm (a := false), eq_comm (a := (⟨#[]⟩ : ByteArray)), pN]
theorem br6 {x : S50} (k : x.f0 = 6) : eqS { pN 6 with f3 := x.f3, f4 := x.f4 } x = rest6 x.f1.f0 x.f1.f1.f0 x.f1.f1.f1 x.f1.f2 x.f1.f3 x.f1.f4 x.f2 x.f5.f0 x.f5.f1 x.f5.f2 x.f5.f3 x.f5.f4 x.f6.f0 x.f6.f1 x.f6.f2 x.f6.f3 x.f6.f4 := by
 obtain ⟨x0, ⟨x1, ⟨x2, x3⟩, x4, x5, x6⟩, x7, x8, x9, ⟨x10, x11, x12, x13, x14⟩, ⟨x15, x16, x17, x18, x19⟩⟩ := x
 obtain rfl : x0 = 6 := k
 rw [Bool.eq_iff_iff, Neh]
 unfold rest6
 rw [decide_eq_true_eq]
 simp only [tlE, S50.mk.injEq, S48.mk.injEq, S46.mk.injEq, S44.mk.injEq, true_and, and_true, and_assoc, eq_comm (a := (0 : Int)), eq_comm (a := false), eq_comm (a := (⟨#[]⟩ : ByteArray)), pN]
theorem rl1 {x : S50} (k : x.f0 = 1) {o : Int} (h : (if valB x.f1.f0 x.f1.f1.f0 x.f1.f1.f1 x.f1.f2 x.f1.f3 x.f1.f4 = true ∧ x.f1.f0 ≠ 0 ∧ (x.f1.f0 ≠ 1 ∨ 0 ≤ x.f1.f1.f0 ∧ (1000000 : Int) % x.f1.f1.f1 = 0) then 0 else -1) = o) : (if eqS { pN 1 with f1 := x.f1 } x = true then o else -1) = Nbi x := by
 rw [br1 k]
 subst h
 unfold Nbi Ne1
 rw [if_pos k]
 rfl
theorem rl2 {x : S50} (k : x.f0 = 2) {o : Int} (h : (if refB x.f5.f0 x.f5.f1 x.f5.f2 = true ∧ refB x.f6.f0 x.f6.f1 x.f6.f2 = true ∧ x.f6.f0.toList = [] then 0 else -1) = o) : (if eqS { pN 2 with f5 := x.f5 } x = true then o else -1) = Nbi x := by
 rw [br2 k]
 subst h
 unfold Nbi Ne1
 rw [if_neg (show ¬ x.f0 = 1 by omega), if_pos k]
 rfl
theorem rl3 {x : S50} (k : x.f0 = 3) {o : Int} (h : (if refB x.f5.f0 x.f5.f1 x.f5.f2 = true ∧ refB x.f6.f0 x.f6.f1 x.f6.f2 = true ∧ x.f6.f0.toList = [] then 0 else -1) = o) : (if eqS { pN 3 with f5 := x.f5, f6 := x.f6 } x = true then o else -1) = Nbi x := by
 rw [br3 k]
 subst h
 unfold Nbi Ne1
 rw [if_neg (show ¬ x.f0 = 1 by omega), if_neg (show ¬ x.f0 = 2 by omega), if_pos k]
 rfl
theorem rl4 {x : S50} (k : x.f0 = 4) {o : Int} (h : (if 1 ≤ x.f2 ∧ x.f2 ≤ 3 then 1 else -1) = o) : (if eqS { pN 4 with f2 := x.f2 } x = true then o else -1) = Nbi x := by
 rw [br4 k]
 subst h
 unfold Nbi Ne1
 rw [if_neg (show ¬ x.f0 = 1 by omega), if_neg (show ¬ x.f0 = 2 by omega), if_neg (show ¬ x.f0 = 3 by omega), if_pos k]
 rfl
theorem rl5 {x : S50} (k : x.f0 = 5) {o : Int} (h : (if (11 ≤ x.f2 ∧ x.f2 ≤ 16) ∨ (21 ≤ x.f2 ∧ x.f2 ≤ 26) then 2 else -1) = o) : (if eqS { pN 5 with f2 := x.f2 } x = true then o else -1) = Nbi x := by
 rw [br5 k]
 subst h
 unfold Nbi Ne1
 rw [if_neg (show ¬ x.f0 = 1 by omega), if_neg (show ¬ x.f0 = 2 by omega), if_neg (show ¬ x.f0 = 3 by omega), if_neg (show ¬ x.f0 = 4 by omega), if_pos k]
 rfl
theorem rl6 {x : S50} (k : x.f0 = 6) {o : Int} (h : (if fnB x.f3 = true ∧ 0 ≤ x.f4 ∧ x.f4 ≤ 30 then x.f4 else -1) = o) : (if eqS { pN 6 with f3 := x.f3, f4 := x.f4 } x = true then o else -1) = Nbi x := by
 rw [br6 k]
 subst h
 unfold Nbi Ne1
 rw [if_neg (show ¬ x.f0 = 1 by omega), if_neg (show ¬ x.f0 = 2 by omega), if_neg (show ¬ x.f0 = 3 by omega), if_neg (show ¬ x.f0 = 4 by omega), if_neg (show ¬ x.f0 = 5 by omega), if_pos k]
 rfl
theorem parts_v (x : S50) (w : World) : Calls Tryz.prog 56 #[v50 x] w fun e w' => e = .returned (.int .i64 (Nbi x)) ∧ Below w.heap.size w w' := by
 have hu50 := Tryz.underlying50
 have hu46 := Tryz.underlying46
 have hu48 := Tryz.underlying48
 go_enter Tryz.func56, Tryz.ntmps56
 go_upto_block 0 with (first | ((with_reducible refine gD 1 rfl ?_); refine bX 1 (cs50 x).toArray 50 ?_; intro g1 hg_ w1 hb_ hl_; have z1 : w.heap.size ≤ g1 := hg_ ▸ Nat.le_refl _; have B1 := lh hl_; have H1 := lh hb_; clear hb_ hl_ hg_; have ck_ : w1.cell? ⟨g1, 0, none⟩ = some (.int .i64 x.f0) := (Naa H1.out 0).trans rfl) | ((with_reducible refine gD 3 rfl ?_); refine bX 3 (cs50 (pN 0)).toArray 50 ?_; intro g3 hg_ w2 hb_ hl_; have n13 : g1 ≠ g3 := (by have := Nbe H1.out; omega); have z3 : w.heap.size ≤ g3 := hg_ ▸ B1.out.size; have B2 := lh (Nac B1.out hl_); have G1 := lh (Nad H1.out hl_); have G3 := lh hb_; clear hb_ hl_ hg_ ck_ H1 B1) | ((with_reducible refine gate_ (.store 50 (.tmp 3) (.tmp 7)) rfl ?_); refine sE G3.out 50 (.tmp 3) (.tmp 7) 0 (.agg (cs50 (pN x.f0)).toArray) (cs50 (pN x.f0)).toArray ?_; intro w3 hb_ hp_; have J3 := lh hb_; have J1 := lh (hp_.blk G1.out n13); have B3 := lh (hp_.below w z3 B2.out); clear hb_ hp_ G1 G3 B2; have ck_ : w3.cell? ⟨g1, 0, none⟩ = some (.int .i64 x.f0) := (Naa J1.out 0).trans rfl))
 go_cut [4, 9] (fun v4 v9 wc => ∃ (o : Int) (y : S50), v4 = .int .i64 o ∧ Hid ((if eqS y x = true then o else -1) = Nbi x) ∧ Hid (wc.heap[g1]? = some (.cells (cs50 x).toArray 50 (0, 0))) ∧ Hid (wc.heap[g3]? = some (.cells (cs50 y).toArray 50 (0, 0))) ∧ Hid (Below w.heap.size w wc))
 case first =>
  by_cases k1 : x.f0 = 1
  ·have K3 := lh (show w3.heap[g3]? = some (.cells (cs50 (pN 1)).toArray 50 (0, 0)) by rw [← k1]; exact J3.out)
   rw [k1] at ck_
   clear J3
   go_upto_region 5 with (first | ((with_reducible refine gD 13 rfl ?_); refine segL J1.out 46 (.tmp 12) 1 [.int .i64 x.f1.f0, .int .i64 x.f1.f1.f0, .int .i64 x.f1.f1.f1, .string x.f1.f2, .bool x.f1.f3, .int .i64 x.f1.f4] hu46 ?_) | ((with_reducible refine gate_ (.store 46 (.tmp 14) (.tmp 13)) rfl ?_); refine sE K3.out 46 (.tmp 14) (.tmp 13) 1 (.agg #[.int .i64 x.f1.f0, .int .i64 x.f1.f1.f0, .int .i64 x.f1.f1.f1, .string x.f1.f2, .bool x.f1.f3, .int .i64 x.f1.f4]) (cs50 { pN 1 with f1 := x.f1 }).toArray ?_; intro w4 hb_ hp_; have I3 := lh hb_; have I1 := lh (hp_.blk J1.out n13); have B4 := lh (hp_.below w z3 B3.out); clear hb_ hp_ J1 K3 B3 ck_))
   go_wp2_with (first | ((with_reducible refine gD 16 rfl ?_); refine segL I1.out 46 (.tmp 15) 1 [.int .i64 x.f1.f0, .int .i64 x.f1.f1.f0, .int .i64 x.f1.f1.f1, .string x.f1.f2, .bool x.f1.f3, .int .i64 x.f1.f4] hu46 ?_))
   refine (Nb3.calls 1000002 x.f1.f0 x.f1.f1.f0 x.f1.f1.f1 x.f1.f2 x.f1.f3 x.f1.f4 _ _ (Ncu _ _ _ _ _ _ _ (Nat.le_refl _))).mono ?_
   rintro e w5 ⟨rfl, hl_⟩
   have X1 := lh (Nad I1.out hl_)
   have X3 := lh (Nad I3.out hl_)
   have B5 := lh (Nac B4.out hl_)
   clear hl_ I1 I3 B4
   have c1 : w5.cell? ⟨g1, 1, none⟩ = some (.int .i64 x.f1.f0) := (Naa X1.out 1).trans rfl
   have c2 : w5.cell? ⟨g1, 2, none⟩ = some (.int .i64 x.f1.f1.f0) := (Naa X1.out 2).trans rfl
   have c3 : w5.cell? ⟨g1, 3, none⟩ = some (.int .i64 x.f1.f1.f1) := (Naa X1.out 3).trans rfl
   cases hb : valB x.f1.f0 x.f1.f1.f0 x.f1.f1.f1 x.f1.f2 x.f1.f3 x.f1.f4 with
   | false =>
    go_wp2_with (fail)
    go_meet
    case rel => exact ⟨-1, _, rfl, lh (rl1 k1 (if_neg (fun h => by rw [hb] at h; cases h.1))), lh X1.out, lh X3.out, lh B5.out⟩
   | true =>
    by_cases h0 : x.f1.f0 = 0
    ·have e0 : (x.f1.f0 != 0) = false := bne_eq_false_iff_eq.2 h0
     go_wp2_with (fail)
     go_meet
     case rel => exact ⟨-1, _, rfl, lh (rl1 k1 (if_neg (fun h => h.2.1 h0))), lh X1.out, lh X3.out, lh B5.out⟩
    have e0 : (x.f1.f0 != 0) = true := bne_iff_ne.2 h0
    by_cases h1 : x.f1.f0 = 1
    ·have e1 : (x.f1.f0 != 1) = false := bne_eq_false_iff_eq.2 h1
     obtain ⟨hD1, hD2⟩ := valB_den hb h1
     have hD0 : ¬ x.f1.f1.f1 = 0 := by omega
     by_cases h2 : 0 ≤ x.f1.f1.f0
     ·have d2 : decide (0 ≤ x.f1.f1.f0) = true := decide_eq_true h2
      by_cases h3 : (1000000 : Int) % x.f1.f1.f1 = 0
      ·have e3 : ((1000000 : Int) % x.f1.f1.f1 == 0) = true := beq_iff_eq.2 h3
       go_wp2_with (fail)
       go_meet
       case rel => exact ⟨0, _, rfl, lh (rl1 k1 (if_pos (⟨hb, h0, .inr ⟨h2, h3⟩⟩))), lh X1.out, lh X3.out, lh B5.out⟩
      ·have e3 : ((1000000 : Int) % x.f1.f1.f1 == 0) = false := beq_eq_false_iff_ne.2 h3
       go_wp2_with (fail)
       go_meet
       case rel => exact ⟨-1, _, rfl, lh (rl1 k1 (if_neg (fun h => h.2.2.elim (fun h => h h1) (fun h => h3 h.2)))), lh X1.out, lh X3.out, lh B5.out⟩
     ·have d2 : decide (0 ≤ x.f1.f1.f0) = false := decide_eq_false h2
      go_wp2_with (fail)
      go_meet
      case rel => exact ⟨-1, _, rfl, lh (rl1 k1 (if_neg (fun h => h.2.2.elim (fun h => h h1) (fun h => absurd h.1 (by omega))))), lh X1.out, lh X3.out, lh B5.out⟩
    ·have e1 : (x.f1.f0 != 1) = true := bne_iff_ne.2 h1
     go_wp2_with (fail)
     go_meet
     case rel => exact ⟨0, _, rfl, lh (rl1 k1 (if_pos (⟨hb, h0, .inl h1⟩))), lh X1.out, lh X3.out, lh B5.out⟩
  by_cases k2 : x.f0 = 2
  ·have K3 := lh (show w3.heap[g3]? = some (.cells (cs50 (pN 2)).toArray 50 (0, 0)) by rw [← k2]; exact J3.out)
   rw [k2] at ck_
   clear J3
   go_upto_region 12 with (first | ((with_reducible refine gD 49 rfl ?_); refine segL J1.out 48 (.tmp 48) 10 [.string x.f5.f0, .int .i64 x.f5.f1, .int .i64 x.f5.f2, .bool x.f5.f3, .bool x.f5.f4] hu48 ?_) | ((with_reducible refine gate_ (.store 48 (.tmp 50) (.tmp 49)) rfl ?_); refine sE K3.out 48 (.tmp 50) (.tmp 49) 10 (.agg #[.string x.f5.f0, .int .i64 x.f5.f1, .int .i64 x.f5.f2, .bool x.f5.f3, .bool x.f5.f4]) (cs50 { pN 2 with f5 := x.f5 }).toArray ?_; intro w4 hb_ hp_; have I3 := lh hb_; have I1 := lh (hp_.blk J1.out n13); have B4 := lh (hp_.below w z3 B3.out); clear hb_ hp_ J1 K3 B3 ck_; have ck_ : w4.cell? ⟨g1, 0, none⟩ = some (.int .i64 2) := by rw [← k2]; exact (Naa I1.out 0).trans rfl))
   go_wp2_with (first | ((with_reducible refine gD 58 rfl ?_); refine segL I1.out 48 (.tmp 57) 10 [.string x.f5.f0, .int .i64 x.f5.f1, .int .i64 x.f5.f2, .bool x.f5.f3, .bool x.f5.f4] hu48 ?_))
   refine (Ndo.calls 18 x.f5.f0 x.f5.f1 x.f5.f2 x.f5.f3 x.f5.f4 _ _ (Net _ _ _ _ _ _ (Nat.le_refl _))).mono ?_
   rintro e w6 ⟨rfl, hl_⟩
   have X1 := lh (Nad I1.out hl_)
   have X3 := lh (Nad I3.out hl_)
   have B6 := lh (Nac B4.out hl_)
   clear hl_ I1 I3 B4
   cases ha : refB x.f5.f0 x.f5.f1 x.f5.f2 with
   | false =>
    go_wp2_with (fail)
    go_meet
    case rel => exact ⟨-1, _, rfl, lh (rl2 k2 (if_neg (fun h => by rw [ha] at h; cases h.1))), lh X1.out, lh X3.out, lh B6.out⟩
   | true =>
    go_wp2_with (first | ((with_reducible refine gD 62 rfl ?_); (try (refine Nck (by rfl) ?_; dsimp only)); refine segL X1.out 48 (.tmp 61) 15 [.string x.f6.f0, .int .i64 x.f6.f1, .int .i64 x.f6.f2, .bool x.f6.f3, .bool x.f6.f4] hu48 ?_))
    refine (Ndo.calls 18 x.f6.f0 x.f6.f1 x.f6.f2 x.f6.f3 x.f6.f4 _ _ (Net _ _ _ _ _ _ (Nat.le_refl _))).mono ?_
    rintro e w7 ⟨rfl, hl_⟩
    have Y1 := lh (Nad X1.out hl_)
    have Y3 := lh (Nad X3.out hl_)
    have B7 := lh (Nac B6.out hl_)
    clear hl_ X1 X3 B6
    have c15 : w7.cell? ⟨g1, 15, none⟩ = some (.string x.f6.f0) := (Naa Y1.out 15).trans rfl
    cases hb : refB x.f6.f0 x.f6.f1 x.f6.f2 with
    | false =>
     go_wp2_with (fail)
     go_meet
     case rel => exact ⟨-1, _, rfl, lh (rl2 k2 (if_neg (fun h => by rw [hb] at h; cases h.2.1))), lh Y1.out, lh Y3.out, lh B7.out⟩
    | true =>
     cases hz : x.f6.f0.toList.isEmpty
     ·have HN := lh (show ¬ x.f6.f0.toList = [] from fun h => by rw [h] at hz; cases hz)
      go_wp2_with (fail)
      go_meet
      case rel => exact ⟨-1, _, rfl, lh (rl2 k2 (if_neg (fun h => HN.out h.2.2))), lh Y1.out, lh Y3.out, lh B7.out⟩
     ·have HN := lh (List.isEmpty_iff.1 hz)
      go_wp2_with (fail)
      go_meet
      case rel => exact ⟨0, _, rfl, lh (rl2 k2 (if_pos ⟨ha, hb, HN.out⟩)), lh Y1.out, lh Y3.out, lh B7.out⟩
  by_cases k3 : x.f0 = 3
  ·have K3 := lh (show w3.heap[g3]? = some (.cells (cs50 (pN 3)).toArray 50 (0, 0)) by rw [← k3]; exact J3.out)
   rw [k3] at ck_
   clear J3
   go_upto_region 12 with (first | ((with_reducible refine gD 49 rfl ?_); refine segL J1.out 48 (.tmp 48) 10 [.string x.f5.f0, .int .i64 x.f5.f1, .int .i64 x.f5.f2, .bool x.f5.f3, .bool x.f5.f4] hu48 ?_) | ((with_reducible refine gate_ (.store 48 (.tmp 50) (.tmp 49)) rfl ?_); refine sE K3.out 48 (.tmp 50) (.tmp 49) 10 (.agg #[.string x.f5.f0, .int .i64 x.f5.f1, .int .i64 x.f5.f2, .bool x.f5.f3, .bool x.f5.f4]) (cs50 { pN 3 with f5 := x.f5 }).toArray ?_; intro w4 hb_ hp_; have I3 := lh hb_; have I1 := lh (hp_.blk J1.out n13); have B4 := lh (hp_.below w z3 B3.out); clear hb_ hp_ J1 K3 B3 ck_; have ck_ : w4.cell? ⟨g1, 0, none⟩ = some (.int .i64 3) := by rw [← k3]; exact (Naa I1.out 0).trans rfl) | ((with_reducible refine gD 55 rfl ?_); refine segL I1.out 48 (.tmp 54) 15 [.string x.f6.f0, .int .i64 x.f6.f1, .int .i64 x.f6.f2, .bool x.f6.f3, .bool x.f6.f4] hu48 ?_) | ((with_reducible refine gate_ (.store 48 (.tmp 56) (.tmp 55)) rfl ?_); refine sE I3.out 48 (.tmp 56) (.tmp 55) 15 (.agg #[.string x.f6.f0, .int .i64 x.f6.f1, .int .i64 x.f6.f2, .bool x.f6.f3, .bool x.f6.f4]) (cs50 { pN 3 with f5 := x.f5, f6 := x.f6 }).toArray ?_; intro w5 hb_ hp_; have L3 := lh hb_; have L1 := lh (hp_.blk I1.out n13); have B5 := lh (hp_.below w z3 B4.out); clear hb_ hp_ I1 I3 B4 ck_))
   go_wp2_with (first | ((with_reducible refine gD 58 rfl ?_); refine segL L1.out 48 (.tmp 57) 10 [.string x.f5.f0, .int .i64 x.f5.f1, .int .i64 x.f5.f2, .bool x.f5.f3, .bool x.f5.f4] hu48 ?_))
   refine (Ndo.calls 18 x.f5.f0 x.f5.f1 x.f5.f2 x.f5.f3 x.f5.f4 _ _ (Net _ _ _ _ _ _ (Nat.le_refl _))).mono ?_
   rintro e w6 ⟨rfl, hl_⟩
   have X1 := lh (Nad L1.out hl_)
   have X3 := lh (Nad L3.out hl_)
   have B6 := lh (Nac B5.out hl_)
   clear hl_ L1 L3 B5
   cases ha : refB x.f5.f0 x.f5.f1 x.f5.f2 with
   | false =>
    go_wp2_with (fail)
    go_meet
    case rel => exact ⟨-1, _, rfl, lh (rl3 k3 (if_neg (fun h => by rw [ha] at h; cases h.1))), lh X1.out, lh X3.out, lh B6.out⟩
   | true =>
    go_wp2_with (first | ((with_reducible refine gD 62 rfl ?_); (try (refine Nck (by rfl) ?_; dsimp only)); refine segL X1.out 48 (.tmp 61) 15 [.string x.f6.f0, .int .i64 x.f6.f1, .int .i64 x.f6.f2, .bool x.f6.f3, .bool x.f6.f4] hu48 ?_))
    refine (Ndo.calls 18 x.f6.f0 x.f6.f1 x.f6.f2 x.f6.f3 x.f6.f4 _ _ (Net _ _ _ _ _ _ (Nat.le_refl _))).mono ?_
    rintro e w7 ⟨rfl, hl_⟩
    have Y1 := lh (Nad X1.out hl_)
    have Y3 := lh (Nad X3.out hl_)
    have B7 := lh (Nac B6.out hl_)
    clear hl_ X1 X3 B6
    have c15 : w7.cell? ⟨g1, 15, none⟩ = some (.string x.f6.f0) := (Naa Y1.out 15).trans rfl
    cases hb : refB x.f6.f0 x.f6.f1 x.f6.f2 with
    | false =>
     go_wp2_with (fail)
     go_meet
     case rel => exact ⟨-1, _, rfl, lh (rl3 k3 (if_neg (fun h => by rw [hb] at h; cases h.2.1))), lh Y1.out, lh Y3.out, lh B7.out⟩
    | true =>
     cases hz : x.f6.f0.toList.isEmpty
     ·have HN := lh (show ¬ x.f6.f0.toList = [] from fun h => by rw [h] at hz; cases hz)
      go_wp2_with (fail)
      go_meet
      case rel => exact ⟨-1, _, rfl, lh (rl3 k3 (if_neg (fun h => HN.out h.2.2))), lh Y1.out, lh Y3.out, lh B7.out⟩
     ·have HN := lh (List.isEmpty_iff.1 hz)
      go_wp2_with (fail)
      go_meet
      case rel => exact ⟨0, _, rfl, lh (rl3 k3 (if_pos ⟨ha, hb, HN.out⟩)), lh Y1.out, lh Y3.out, lh B7.out⟩
  by_cases k4 : x.f0 = 4
  ·have K3 := lh (show w3.heap[g3]? = some (.cells (cs50 (pN 4)).toArray 50 (0, 0)) by rw [← k4]; exact J3.out)
   rw [k4] at ck_
   clear J3
   have c7 : w3.cell? ⟨g1, 7, none⟩ = some (.int .i64 x.f2) := (Naa J1.out 7).trans rfl
   go_upto_region 16 with (first | ((with_reducible refine gate_ (.store 3 (.tmp 75) (.tmp 74)) rfl ?_); refine sE K3.out 3 (.tmp 75) (.tmp 74) 7 (.int .i64 x.f2) (cs50 { pN 4 with f2 := x.f2 }).toArray ?_; intro w4 hb_ hp_; have I3 := lh hb_; have I1 := lh (hp_.blk J1.out n13); have B4 := lh (hp_.below w z3 B3.out); clear hb_ hp_ J1 K3 B3 ck_ c7; have c7 : w4.cell? ⟨g1, 7, none⟩ = some (.int .i64 x.f2) := (Naa I1.out 7).trans rfl))
   by_cases h1 : 1 ≤ x.f2
   ·have d1 : decide (1 ≤ x.f2) = true := decide_eq_true h1
    by_cases h2 : x.f2 ≤ 3
    ·have d2 : decide (x.f2 ≤ 3) = true := decide_eq_true h2
     go_wp2_with (fail)
     go_meet
     case rel => exact ⟨1, _, rfl, lh (rl4 k4 (if_pos ⟨h1, h2⟩)), lh I1.out, lh I3.out, lh B4.out⟩
    ·have d2 : decide (x.f2 ≤ 3) = false := decide_eq_false h2
     go_wp2_with (fail)
     go_meet
     case rel => exact ⟨-1, _, rfl, lh (rl4 k4 (if_neg (fun h => absurd h.2 (by omega)))), lh I1.out, lh I3.out, lh B4.out⟩
   ·have d1 : decide (1 ≤ x.f2) = false := decide_eq_false h1
    go_wp2_with (fail)
    go_meet
    case rel => exact ⟨-1, _, rfl, lh (rl4 k4 (if_neg (fun h => absurd h.1 (by omega)))), lh I1.out, lh I3.out, lh B4.out⟩
  by_cases k5 : x.f0 = 5
  ·have K3 := lh (show w3.heap[g3]? = some (.cells (cs50 (pN 5)).toArray 50 (0, 0)) by rw [← k5]; exact J3.out)
   rw [k5] at ck_
   clear J3
   have c7 : w3.cell? ⟨g1, 7, none⟩ = some (.int .i64 x.f2) := (Naa J1.out 7).trans rfl
   go_wp2_with (first | ((with_reducible refine gate_ (.store 3 (.tmp 88) (.tmp 87)) rfl ?_); refine sE K3.out 3 (.tmp 88) (.tmp 87) 7 (.int .i64 x.f2) (cs50 { pN 5 with f2 := x.f2 }).toArray ?_; intro w4 hb_ hp_; have I3 := lh hb_; have I1 := lh (hp_.blk J1.out n13); have B4 := lh (hp_.below w z3 B3.out); clear hb_ hp_ J1 K3 B3 ck_ c7; have c7 : w4.cell? ⟨g1, 7, none⟩ = some (.int .i64 x.f2) := (Naa I1.out 7).trans rfl))
   by_cases hb : (11 ≤ x.f2 ∧ x.f2 ≤ 16) ∨ (21 ≤ x.f2 ∧ x.f2 ≤ 26)
   ·have hf : Nbn.f x.f2 = some true := by
     unfold Nbn.f
     by_cases h1 : x.f2 ≥ 11 <;> by_cases h2 : x.f2 ≤ 16 <;> by_cases h3 : x.f2 ≥ 21 <;> simp [h1, h2, h3] <;> omega
    have HC := lh hb
    clear hb
    refine (Nbn.calls x.f2 true _ hf).mono ?_
    rintro e w5 ⟨rfl, ⟨q_, rfl⟩⟩
    go_wp2_with (fail)
    go_meet
    case rel => exact ⟨2, _, rfl, lh (rl5 k5 (if_pos HC.out)), lh (Nam I1.out q_), lh (Nam I3.out q_), lh (Nas B4.out q_)⟩
   ·have hf : Nbn.f x.f2 = some false := by
     unfold Nbn.f
     by_cases h1 : x.f2 ≥ 11 <;> by_cases h2 : x.f2 ≤ 16 <;> by_cases h3 : x.f2 ≥ 21 <;> simp [h1, h2, h3] <;> omega
    have HC := lh hb
    clear hb
    refine (Nbn.calls x.f2 false _ hf).mono ?_
    rintro e w5 ⟨rfl, ⟨q_, rfl⟩⟩
    go_wp2_with (fail)
    go_meet
    case rel => exact ⟨-1, _, rfl, lh (rl5 k5 (if_neg HC.out)), lh (Nam I1.out q_), lh (Nam I3.out q_), lh (Nas B4.out q_)⟩
  by_cases k6 : x.f0 = 6
  ·have K3 := lh (show w3.heap[g3]? = some (.cells (cs50 (pN 6)).toArray 50 (0, 0)) by rw [← k6]; exact J3.out)
   rw [k6] at ck_
   clear J3
   go_upto_region 23 with (fail)
   have c8 : w3.cell? ⟨g1, 8, none⟩ = some (.string x.f3) := (Naa J1.out 8).trans rfl
   have c9 : w3.cell? ⟨g1, 9, none⟩ = some (.int .i64 x.f4) := (Naa J1.out 9).trans rfl
   have f8 := Naf K3.out 8
   have f9 := Naf K3.out 9
   have q8 : w3.cell? ⟨g3, 8, none⟩ = some (.string ⟨#[]⟩) := (Naa K3.out 8).trans rfl
   have q9 : w3.cell? ⟨g3, 9, none⟩ = some (.int .i64 0) := (Naa K3.out 9).trans rfl
   go_region_with (fail)
   all_goals
    clear c8 c9 f8 f9 q8 q9
    obtain ⟨w5, hw_⟩ : ∃ x_ : World, x_ = ((w3.setCell ⟨g3, 8, none⟩ (.string x.f3)).setCell ⟨g3, 9, none⟩ (.int .i64 x.f4)) := ⟨_, rfl⟩
    rw [← hw_]
    have L3 := lh (show w5.drew.heap[g3]? = some (.cells (cs50 { pN 6 with f3 := x.f3, f4 := x.f4 }).toArray 50 (0, 0)) by rw [hw_]; exact Nag (Ncy (Ncy (cs' := (cs50 { pN 6 with f3 := x.f3 }).toArray) K3.out 8 (.string x.f3) rfl) 9 (.int .i64 x.f4) rfl))
    have L1 := lh (show w5.drew.heap[g1]? = some (.cells (cs50 x).toArray 50 (0, 0)) by rw [hw_]; exact Nag (Nbk (Nbk J1.out n13 _) n13 _))
    have C6 := lh (show Below w.heap.size w w5.drew by rw [hw_]; exact Nas ((B3.out.setCell z3 _).setCell z3 _) 1)
    clear hw_ K3 J1 B3 ck_
    have c8 : w5.drew.cell? ⟨g1, 8, none⟩ = some (.string x.f3) := (Naa L1.out 8).trans rfl
    go_wp2_with (fail)
    refine (Nek x.f3 _).mono ?_
    rintro e w6 ⟨rfl, hl_⟩
    have X1 := lh (Nad L1.out hl_)
    have X3 := lh (Nad L3.out hl_)
    have B7 := lh (Nac C6.out hl_)
    clear hl_ L1 L3 C6 c8
    have c9 : w6.cell? ⟨g1, 9, none⟩ = some (.int .i64 x.f4) := (Naa X1.out 9).trans rfl
    cases hb : fnB x.f3 with
    | false =>
     go_wp2_with (fail)
     go_meet
     case rel => exact ⟨-1, _, rfl, lh (rl6 k6 (if_neg (fun h => by rw [hb] at h; cases h.1))), lh X1.out, lh X3.out, lh B7.out⟩
    | true =>
     by_cases h1 : 0 ≤ x.f4
     ·have d1 : decide (0 ≤ x.f4) = true := decide_eq_true h1
      by_cases h2 : x.f4 ≤ 30
      ·have d2 : decide (x.f4 ≤ 30) = true := decide_eq_true h2
       go_wp2_with (fail)
       go_meet
       case rel => exact ⟨x.f4, _, rfl, lh (rl6 k6 (if_pos ⟨hb, h1, h2⟩)), lh X1.out, lh X3.out, lh B7.out⟩
      ·have d2 : decide (x.f4 ≤ 30) = false := decide_eq_false h2
       go_wp2_with (fail)
       go_meet
       case rel => exact ⟨-1, _, rfl, lh (rl6 k6 (if_neg (fun h => absurd h.2.2 (by omega)))), lh X1.out, lh X3.out, lh B7.out⟩
     ·have d1 : decide (0 ≤ x.f4) = false := decide_eq_false h1
      go_wp2_with (fail)
      go_meet
      case rel => exact ⟨-1, _, rfl, lh (rl6 k6 (if_neg (fun h => absurd h.2.1 (by omega)))), lh X1.out, lh X3.out, lh B7.out⟩
  have e1 := beq_eq_false_iff_ne.2 k1
  have e2 := beq_eq_false_iff_ne.2 k2
  have e3 := beq_eq_false_iff_ne.2 k3
  have e4 := beq_eq_false_iff_ne.2 k4
  have e5 := beq_eq_false_iff_ne.2 k5
  have e6 := beq_eq_false_iff_ne.2 k6
  go_wp2_with (fail)
  go_meet
  case rel => exact ⟨-1, _, rfl, lh (by unfold Nbi Ne1; rw [if_neg k1, if_neg k2, if_neg k3, if_neg k4, if_neg k5, if_neg k6]; split <;> rfl), lh J1.out, lh J3.out, lh B3.out⟩
 case rest =>
  obtain ⟨o, y, rfl, HR, J1, J3, HB⟩ := hcut
  cases hq : eqS y x <;>
  ·go_wp2_with (first | ((with_reducible refine gD 115 rfl ?_); refine lA J3.out 50 (.tmp 3) hu50 ?_) | ((with_reducible refine gD 116 rfl ?_); refine lA J1.out 50 (.tmp 1) hu50 ?_) | ((with_reducible refine gD 117 rfl ?_); refine neE y x (.tmp 115) (.tmp 116) ?_; rw [hq]; dsimp only [Bool.not_true, Bool.not_false]))
   go_ret
   exact ⟨by rw [← HR.out, hq]; rfl, HB.out⟩
end
theorem add_add (ad : Addr) (m j : Nat) : (ad.add m).add j = ad.add (m + j) := by
 unfold Addr.add
 by_cases hj : j = 0
 ·subst hj; simp
 ·by_cases hm : m = 0
  ·subst hm; simp [hj]
  ·have : ¬ m + j = 0 := by omega
   simp [hj, hm, Nat.add_assoc]
theorem Ndp {P : Program} (w : World) (ad : Addr) (ty : TypeId) (cs : List Value) (d : TypeDesc) (hc : ∀ j v, cs[j]? = some v → w.cell? (ad.add j) = some v)
 (hu : P.underlying ty = some d) (hd : d.isRow = true) (hi : (P.info? ty).map (·.size) = some cs.length) :
 (loadVar ty ad).run P w = .ok (.agg cs.toArray) w := by
 have hl : (loadCells ad cs.length).run P w = .ok cs.toArray w := run_loadCells_list (P := P) w ad cs hc
 cases hq : P.info? ty with
 | none => simp [hq] at hi
 | some i =>
  have hs : i.size = cs.length := by simpa [hq] using hi
  have hagg : (isAgg ty).run P w = .ok true w := by
   unfold isAgg
   rw [Sem.run_bind, run_underlying hu w]
   cases d <;> simp_all
  simp [loadVar, Sem.run_bind, hagg, sizeOf, typeInfo, hq, hs, hl]
theorem elem_event {P : Program} {ops : Array Oper} {rest : List Oper} {o : Oper} {a : Act} {Q : Exit → Act → World → Prop} {W : World} (hgd : o.guard = none) {t : TypeId} {p : Operand} (ho : o.op = .load t p)
 {α : Type} {d : Kd α} {A : Option Addr} {n : Nat} {xs : List α} (hC : d.C W A n xs) (z : α) (i : Int) (h0 : 0 ≤ i) (h1 : i < n) {ad : Addr} (hA : A = some ad)
 (haddr : a.eval p = .pointer (some (ad.add (i.toNat * d.sz)))) {td : TypeDesc} (hu : P.underlying t = some td) (hd : td.isRow = true) (hi : (P.info? t).map (·.size) = some d.sz)
 (h : ∀ c, d.K W (xs.getD i.toNat z) c → wpList P ops Q rest (a.put o.dst (.agg c.toArray)) W) : wpList P ops Q (o :: rest) a W := by
 obtain ⟨ad', c, e, hl, hK, hc⟩ := Kd.C_get hC z i h0 h1
 obtain rfl : ad' = ad := by rw [hA] at e; exact (sI e).symm
 refine wpList_plain hgd fun K hKK => ?_
 have hrun := Ndp (P := P) W (ad'.add (i.toNat * d.sz)) t c td (fun j v hv => by rw [add_add]; exact hc j v hv) hu hd (by rw [hl]; exact hi)
 unfold Oper.wp execOp
 simp only [ho, haddr, Instr.loadAt, Instr.sureAddr, Sem.run_bind, Sem.run_pure, Result.andThen_ok, hrun]
 exact hKK _ _ (h c hK)
theorem Ndr {ops : Array Oper} {rest : List Oper} {o : Oper} {a : Act} {Q : Exit → Act → World → Prop} {W : World} (hgd : o.guard = none) {p : Operand} (ho : o.op = .load 50 p)
 {A : Option Addr} {n : Nat} {xs : List S50} (hC : Kd.C k50 W A n xs) (i : Int) (h0 : 0 ≤ i) (h1 : i < n) {ad : Addr} (hA : A = some ad)
 (haddr : a.eval p = .pointer (some (ad.add (i.toNat * 20))))
 (h : wpList Tryz.prog ops Q rest (a.put o.dst (v50 (Nda xs i))) W) : wpList Tryz.prog ops Q (o :: rest) a W :=
 elem_event hgd ho hC z50 i h0 h1 hA haddr Tryz.underlying50 rfl (by kernel_rfl) (fun c hc => by
  obtain rfl := New hc
  exact h)
def Ncn.f (x : S50) : Option Int := some (Nbi x)
theorem Ncn.calls (x : S50) (r : Int) (w : World) (h : Ncn.f x = some r) : Calls Tryz.prog 56 #[v50 x] w fun e w' => e = .returned (.int .i64 r) ∧ Below w.heap.size w w' := by
 obtain rfl := sI h
 exact parts_v x w
theorem at_N50 {w : World} {A : Option Addr} {n : Nat} {xs : List S50} (h : Kd.C k50 w A n xs) (i : Int) (h0 : 0 ≤ i) (h1 : i < n) : ∃ ad, A = some ad := by
 obtain ⟨ad, c, e, _⟩ := Kd.C_get h z50 i h0 h1
 exact ⟨ad, e⟩
end Go.Proofs.YtejbbceidnaloaaGreatDoor.P
