import Derived.Test.YtejbbceidnaloaaGreatDoorV32
import Derived.Test.YtejbbceidnaloaaGreatDoorV33
set_option linter.unusedVariables false
set_option linter.unusedSimpArgs false
set_option maxRecDepth 100000
set_option maxHeartbeats 8000000
namespace Go.Proofs.YtejbbceidnaloaaGreatDoor.P
open Go.RowKit AW AL AM
def valTk (v : S46) : Tk :=
 if v.f0 = 2 then (2, v.f2) else if v.f0 = 4 then (4, Ncg.getD (v.f4 - 1).toNat ByteArray.empty) else if v.f0 = 3 then (3, if v.f3 then tTRUE else tFALSE) else (1, ⟨(numL v.f1.f0 v.f1.f1).toArray⟩)
def celL (r : S48) : List UInt8 := (if r.f4 then [36] else []) ++ colL r.f2 ++ (if r.f3 then [36] else []) ++ Lib.decDigits (r.f1 + 1).toNat
def theLf : Lf := ⟨valTk, fun r => ⟨(celL r).toArray⟩⟩
theorem lit_cases {v : S46} (h : litB v = true) :
 (v.f0 = 1 ∧ numB v.f1.f0 v.f1.f1 = true ∧ v.f2 = eB ∧ v.f3 = false ∧ v.f4 = 0 ∧ 0 ≤ v.f1.f0 ∧ (1000000 : Int) % v.f1.f1 = 0) ∨
 (v.f0 = 2 ∧ v.f1.f0 = 0 ∧ v.f1.f1 = 0 ∧ v.f2.size ≤ 256 ∧ Ne2 v.f2 = true ∧ v.f3 = false ∧ v.f4 = 0) ∨
 (v.f0 = 3 ∧ v.f1.f0 = 0 ∧ v.f1.f1 = 0 ∧ v.f2 = eB ∧ v.f4 = 0) ∨
 (v.f0 = 4 ∧ v.f1.f0 = 0 ∧ v.f1.f1 = 0 ∧ v.f2 = eB ∧ v.f3 = false ∧ 1 ≤ v.f4 ∧ v.f4 ≤ 8) := by
 unfold litB at h
 rw [Bool.and_eq_true, decide_eq_true_eq] at h
 obtain ⟨h, h0, h1⟩ := h
 unfold valB at h
 simp only [Bool.or_eq_true, Bool.and_eq_true, beq_iff_eq, Bool.not_eq_true', decide_eq_true_eq] at h
 rcases h with (((h | h) | h) | h) | h
 ·exact absurd h.1.1.1.1.1 h0
 ·obtain ⟨⟨⟨⟨a, b⟩, c⟩, d⟩, e⟩ := h
  have h1 := h1.resolve_left (fun hh => hh a)
  exact .inl ⟨a, b, eq_eB c, d, e, h1.1, h1.2⟩
 ·obtain ⟨⟨⟨⟨⟨⟨a, b⟩, c⟩, d⟩, e⟩, f⟩, g⟩ := h
  exact .inr (.inl ⟨a, b, c, d, e, f, g⟩)
 ·obtain ⟨⟨⟨⟨a, b⟩, c⟩, d⟩, e⟩ := h
  exact .inr (.inr (.inl ⟨a, b, c, eq_eB d, e⟩))
 ·obtain ⟨⟨⟨⟨⟨a, b⟩, c⟩, d⟩, e⟩, f, g⟩ := h
  exact .inr (.inr (.inr ⟨a, b, c, eq_eB d, e, f, g⟩))
theorem lit_val {v : S46} (h : litB v = true) : valB v.f0 v.f1.f0 v.f1.f1 v.f2 v.f3 v.f4 = true := by
 unfold litB at h
 rw [Bool.and_eq_true] at h
 exact h.1
theorem faults_size (e : Int) (h1 : 1 ≤ e) (h8 : e ≤ 8) : (Ncg.getD (e - 1).toNat ByteArray.empty).size ≤ 8 := by
 have : e = 1 ∨ e = 2 ∨ e = 3 ∨ e = 4 ∨ e = 5 ∨ e = 6 ∨ e = 7 ∨ e = 8 := by omega
 rcases this with rfl | rfl | rfl | rfl | rfl | rfl | rfl | rfl <;> decide
theorem txt_one (t : Tk) : txt [t] = Nen t := by rw [Ncj, Nd9, List.append_nil]
theorem wrote_eq {B : Nat} {w : World} {g : Nat} {bs T U : List UInt8} {lv : Value} {a : Int} (e : T = U) {en : Ending} {w' : World} (h : en = .returned (.tuple #[]) ∧ Wrote B w g (bs ++ T) lv a w') : en = .returned (.tuple #[]) ∧ Wrote B w g (bs ++ U) lv a w' := e ▸ h
theorem text_f {K : Nat} (hK : 1000003 ≤ K) {n d e : Int} {tx : ByteArray} {b : Bool} (hR : numB n d = true) (h0 : 0 ≤ n) (hd : (1000000 : Int) % d = 0) (hv : valB 1 n d tx b e = true) : Ncd.f K 1 n d tx b e = some (⟨(numL n d).toArray⟩, 0, 0, 0, ⟨#[]⟩, false, 0) := by
 unfold Ncd.f Nbq.f
 rw [Nc8 _ _ _ _ _ _ _ (by omega), hv]
 simp only [Option.bind_some, if_true]
 rw [if_neg (by decide), num_text_f hR h0 hd hK]
 rfl
theorem truth_f {K : Nat} (hK : 1000003 ≤ K) {n d e : Int} {tx : ByteArray} {b : Bool} (hv : valB 3 n d tx b e = true) : Ncd.f K 3 n d tx b e = some (if b then tTRUE else tFALSE, 0, 0, 0, ⟨#[]⟩, false, 0) := by
 unfold Ncd.f Nbq.f
 rw [Nc8 _ _ _ _ _ _ _ (by omega), hv]
 simp only [Option.bind_some, if_true]
 rw [if_neg (by decide), if_neg (by decide)]
 cases b <;> rfl
theorem leaf_val {w0 : World} (hG : GL w0) {lv : Value} {v : S46} (h : litB v = true) : LeafW w0 lv theLf (nVal v) := by
 refine ⟨fun _ => ?_, fun hh => absurd hh (show ¬ ((1 : Int) = 2 ∨ (1 : Int) = 3) by decide), fun hh => absurd hh (show ¬ (1 : Int) = 3 by decide)⟩
 intro w g bs a hp hlen
 obtain ⟨kd, ⟨n, d⟩, tx, b, e⟩ := v
 have hv := lit_val h
 show Calls Tryz.prog 75 #[.pointer (some ⟨g, 0, none⟩), .agg #[.int .i64 kd, .int .i64 n, .int .i64 d, .string tx, .bool b, .int .i64 e]] w (fun e' w' => e' = .returned (.tuple #[]) ∧ Wrote w0.heap.size w g (bs ++ txt [valTk ⟨kd, ⟨n, d⟩, tx, b, e⟩]) lv a w')
 rw [txt_one]
 rcases lit_cases h with ⟨h0, hN, h2, h3, h4, h5, h6⟩ | ⟨h0, h1, h2, h3, h4, h5, h6⟩ | ⟨h0, h1, h2, h3, h4⟩ | ⟨h0, h1, h2, h3, h4, h5, h6⟩
 ·simp only at h0 hN h2 h3 h4 h5 h6 hv
  subst h0
  have hb := hN
  unfold numB at hb
  obtain ⟨-, b1, b2, b3, -⟩ := of_decide_eq_true hb
  have hsz := num_len h5 b1 b2 b3
  exact Ne4 hp.pr hp.bel hG (t := ⟨(numL n d).toArray⟩) (by decide) (fun w hw => show_text (kd := 1) (k := 1000003) hw (by rw [Nc8 _ _ _ _ _ _ _ (by omega)]; exact congrArg some hv) (by decide) (by decide) (text_f (Nat.le_refl _) hN h5 h6 hv)) (by rw [Nal]; omega) hlen
 ·simp only at h0 h1 h2 h3 h4 h5 h6 hv
  subst h0
  have hr : Na2.f tx ⟨#[34]⟩ ⟨#[34, 34]⟩ = some ⟨(Lib.replaceAll tx.data.toList [34] [34, 34]).toArray⟩ := by
   unfold Na2.f
   have hc := Lib.countB_le ⟨#[34]⟩ (by decide) tx.size tx (Nat.le_refl _)
   have e2 : (⟨#[34, 34]⟩ : ByteArray).size = 2 := rfl
   rw [if_pos ⟨by omega, by decide, by rw [e2]; omega⟩]
  have hl := dblL_len tx.data.toList
  have hz : tx.data.toList.length = tx.size := Array.length_toList
  exact literal_text (kd := 2) (rt := ⟨(Lib.replaceAll tx.data.toList [34] [34, 34]).toArray⟩) hp.pr hp.bel hG hr (by rw [Nal]; have e := congrArg List.length (Nfd tx.data.toList); omega) hlen
 ·simp only at h0 h1 h2 h3 h4 hv
  subst h0
  refine Ne4 hp.pr hp.bel hG (t := if b then tTRUE else tFALSE) (by decide) (fun w hw => show_text (kd := 3) (k := 1000003) hw (by rw [Nc8 _ _ _ _ _ _ _ (by omega)]; exact congrArg some hv) (by decide) (by decide) (truth_f (Nat.le_refl _) hv)) (by cases b <;> decide) hlen
 ·simp only at h0 h1 h2 h3 h4 h5 h6 hv
  subst h0
  exact Ne4 hp.pr hp.bel hG (t := Ncg.getD (e - 1).toNat ByteArray.empty) (by decide) (fun w hw => show_fault (kd := 4) (k := 1000003) hw (by rw [Nc8 _ _ _ _ _ _ _ (by omega)]; exact congrArg some hv) h5 h6) (by have := faults_size e h5 h6; omega) hlen
theorem Ne9 {r : S48} (h : refR r = true) : (r.f0 = eB ∨ Nd3 r.f0 = true) ∧ 0 ≤ r.f1 ∧ r.f1 < 65536 ∧ 0 ≤ r.f2 ∧ r.f2 < 256 := by
 unfold refR refB at h
 simp only [Bool.and_eq_true, Bool.or_eq_true, beq_iff_eq, decide_eq_true_eq] at h
 obtain ⟨h1, h2⟩ := h
 refine ⟨?_, h2⟩
 rcases h1 with h1 | h1
 ·exact .inl (eq_eB h1)
 ·exact .inr h1
theorem eB_size {s : ByteArray} : s.size = 0 ↔ s = eB := by
 constructor
 ·intro h; exact eq_eB ((Nd6 s).mpr h)
 ·rintro rfl; rfl
theorem cell_text {r : S48} {k : Nat} (hk : k = (colL r.f2).length) : cellW r (nameL r.f1 r.f2) k = txt (refT theLf r) := by
 subst hk
 unfold cellW refT nameL
 rw [List.take_left, List.drop_left]
 have e : theLf.cel r = ⟨(celL r).toArray⟩ := rfl
 by_cases h0 : r.f0 = eB
 ·rw [if_pos (eB_size.2 h0), if_pos h0, txt_one, e, tk3]
  simp [celL]
 ·rw [if_neg (fun h => h0 (eB_size.1 h)), if_neg h0, Ncj, Ncj, txt_one, e, tk3, tk3]
  simp [celL, mk, mB, tk5]
theorem cell_leaf {w0 : World} (hG : GL w0) {lv : Value} {r : S48} (h : refR r = true) (hs : r.f0.size ≤ 1000) {w : World} {g : Nat} {bs : List UInt8} {a : Int} (hp : Pr w0 lv w g bs a) (hlen : bs.length ≤ 1000000000) :
 Calls Tryz.prog 76 #[.pointer (some ⟨g, 0, none⟩), v48 r] w fun e w' => e = .returned (.tuple #[]) ∧ Wrote w0.heap.size w g (bs ++ txt (refT theLf r)) lv a w' := by
 obtain ⟨-, h1, h2, h3, h4⟩ := Ne9 h
 have hn := name_f h1 h2 h3 h4
 have hl := name_len (c := r.f2) h1 h2
 have hk := name_index h1 h2 h3 h4
 have := cell_any hp.pr hp.bel hG r (nm := ⟨(nameL r.f1 r.f2).toArray⟩) (k := (colL r.f2).length) hn hk (by rw [Nal]; unfold nameL; rw [List.length_append]; omega) (by rw [Nal]; omega) (fun j b hj => name_ascii h1 h2 h3 h4 b (List.mem_of_getElem? hj)) hs hlen
 exact this.mono fun e w' hh => wrote_eq (cell_text rfl) hh
theorem sheet_size {s : ByteArray} (h : Nd3 s = true) : s.size ≤ 16 := by
 unfold Nd3 at h
 simp only [Bool.and_eq_true, decide_eq_true_eq] at h
 omega
theorem refR_size {r : S48} (h : refR r = true) : r.f0.size ≤ 1000 := by
 rcases (Ne9 h).1 with h | h
 ·rw [eB_size.2 h]; omega
 ·have := sheet_size h; omega
theorem good_leaf {w0 : World} (hG : GL w0) {lv : Value} {n : S50} {c : Int} (h : Good n c) : LeafW w0 lv theLf n := by
 cases h with
 | val v hv => exact leaf_val hG hv
 | cell r hr => exact ⟨fun hh => absurd hh (show ¬ (2 : Int) = 1 by decide), fun _ w g bs a hp hlen => cell_leaf hG hr (refR_size hr) hp hlen, fun hh => absurd hh (show ¬ (2 : Int) = 3 by decide)⟩
 | area r s hr hs h0 =>
  refine ⟨fun hh => absurd hh (show ¬ (3 : Int) = 1 by decide), fun _ w g bs a hp hlen => cell_leaf hG hr (refR_size hr) hp hlen, fun _ w g bs a hp hlen => ?_⟩
  have := cell_leaf hG hs (refR_size hs) hp hlen
  unfold refT at this
  rw [if_pos h0] at this
  exact this
 | un o h1 h3 => exact ⟨fun hh => absurd hh (show ¬ (4 : Int) = 1 by decide), fun hh => absurd hh (show ¬ ((4 : Int) = 2 ∨ (4 : Int) = 3) by decide), fun hh => absurd hh (show ¬ (4 : Int) = 3 by decide)⟩
 | bin o ho => exact ⟨fun hh => absurd hh (show ¬ (5 : Int) = 1 by decide), fun hh => absurd hh (show ¬ ((5 : Int) = 2 ∨ (5 : Int) = 3) by decide), fun hh => absurd hh (show ¬ (5 : Int) = 3 by decide)⟩
 | call m c hm h0 h30 => exact ⟨fun hh => absurd hh (show ¬ (6 : Int) = 1 by decide), fun hh => absurd hh (show ¬ ((6 : Int) = 2 ∨ (6 : Int) = 3) by decide), fun hh => absurd hh (show ¬ (6 : Int) = 3 by decide)⟩
theorem fn_size {s : ByteArray} (h : fnB s = true) : s.size ≤ 16 := by
 unfold fnB at h
 simp only [Bool.and_eq_true] at h
 exact sheet_size h.1
theorem good_node {n : S50} {c : Int} (h : Good n c) : NodeW n := by
 cases h with
 | val v hv => exact ⟨fun hh => absurd hh (show ¬ (1 : Int) = 5 by decide), show eB.size ≤ 100000 by decide, show (0 : Int) ≤ 100000 by decide, fun hh => absurd rfl hh⟩
 | cell r hr => exact ⟨fun hh => absurd hh (show ¬ (2 : Int) = 5 by decide), show eB.size ≤ 100000 by decide, show (0 : Int) ≤ 100000 by decide, fun _ hh => absurd rfl hh⟩
 | area r s hr hs h0 => exact ⟨fun hh => absurd hh (show ¬ (3 : Int) = 5 by decide), show eB.size ≤ 100000 by decide, show (0 : Int) ≤ 100000 by decide, fun _ _ hh => absurd rfl hh⟩
 | un o h1 h3 => exact ⟨fun hh => absurd hh (show ¬ (4 : Int) = 5 by decide), show eB.size ≤ 100000 by decide, show (0 : Int) ≤ 100000 by decide, fun _ _ _ _ _ => rfl⟩
 | bin o ho =>
  refine ⟨fun _ => ?_, show eB.size ≤ 100000 by decide, show (0 : Int) ≤ 100000 by decide, fun _ _ _ _ hh => absurd rfl hh⟩
  show Nei o = Nct o
  unfold binO at ho
  unfold Nei
  rw [if_neg (by omega), if_neg (by omega)]
 | call m c hm h0 h30 => exact ⟨fun hh => absurd hh (show ¬ (6 : Int) = 5 by decide), by have := fn_size hm; show m.size ≤ 100000; omega, by show c ≤ 100000; omega, fun _ _ _ hh => absurd rfl hh⟩
theorem tk_len (t : Tk) (h : t.1 ≠ 2) : (Nen t).length = t.2.size := by unfold Nen; rw [if_neg h]; exact Array.length_toList
theorem print_tree {A : Option Addr} {c : Nat} {l : List S50} {w : World} (hG : GL w) (hC : Kd.C k50 w A l.length l) (hc : l.length ≤ c) {K : Nat} (hcc : Na7.f K l = some 0) {K2 : Nat} {T : List Tk} (ht : tkF theLf K2 1 l = some (T, [])) (hlen : (txt T).length ≤ 1000000000) (hne : txt T ≠ []) :
 Calls Tryz.prog 26 #[.slice A l.length c] w fun en w' => en = .returned (.tuple #[.string ⟨(txt T).toArray⟩, .int .i64 0]) ∧ Below w.heap.size w w' := by
 obtain ⟨d, hd, -, hl⟩ := Nep hcc
 have hg := hd.good
 exact print_ok hG hC hc (by omega) hcc (fun w0 h0 n hn => good_leaf h0 (Nec n (hg n hn))) (fun n hn => good_node (Nec n (hg n hn))) ht hlen hne
def qend : List UInt8 → Option Nat
 | [] => none
 | c :: r => if c = 34 then (match r with | [] => some 0 | d :: r' => if d = 34 then (qend r').map (· + 2) else some 0) else (qend r).map (· + 1)
def badAt : List UInt8 → Option Nat
 | [] => none
 | c :: r => if c.toNat < 32 ∨ 126 < c.toNat then some 0 else (badAt r).map (· + 1)
def undblL (l : List UInt8) : List UInt8 := Lib.replaceAll l [34, 34] [34]
theorem lb_ext {a b : ByteArray} (h : a.data.toList = b.data.toList) : a = b := ByteArray.ext (Array.toList_inj.1 h)
theorem ext_list (l : List UInt8) (a b : Nat) : (⟨l.toArray⟩ : ByteArray).extract a b = ⟨((l.drop a).take (b - a)).toArray⟩ := by
 apply lb_ext
 rw [ByteArray.data_extract, Array.toList_extract, List.extract_eq_take_drop]
theorem ext_drop (l : List UInt8) (a : Nat) : (⟨l.toArray⟩ : ByteArray).extract a (⟨l.toArray⟩ : ByteArray).size = ⟨(l.drop a).toArray⟩ := by
 apply lb_ext
 rw [drop_list]
theorem ext_take (l : List UInt8) (b : Nat) : (⟨l.toArray⟩ : ByteArray).extract 0 b = ⟨(l.take b).toArray⟩ := by
 rw [ext_list]; simp
theorem bt_list (l : List UInt8) (i : Nat) (h : i < l.length) : bt ⟨l.toArray⟩ (i : Int) = (l[i].toNat : Int) := by
 rw [bt_nat _ i (by rw [Nal]; exact h)]
theorem bt_cons (c : UInt8) (r : List UInt8) : bt ⟨(c :: r).toArray⟩ 0 = (c.toNat : Int) := bt0 c r
theorem byte_eq {c : UInt8} {n : Nat} (hn : n < 256) : c.toNat = n ↔ c = UInt8.ofNat n := by
 constructor
 ·intro h; rw [← h, UInt8.ofNat_toNat]
 ·rintro rfl; exact nat8 hn
theorem qend_ne {c : UInt8} {r : List UInt8} (h : c ≠ 34) : qend (c :: r) = (qend r).map (· + 1) := by
 rw [qend.eq_def]
 simp only [if_neg h]
theorem ixb_none : ∀ (l : List UInt8), Lib.indexByte l 34 = -1 → qend l = none
 | [], _ => rfl
 | c :: r, h => by
  unfold Lib.indexByte at h
  by_cases hc : c = 34
  ·rw [if_pos (by rw [beq_iff_eq]; exact hc)] at h; cases h
  ·rw [if_neg (by rw [beq_iff_eq]; exact hc)] at h
   have hg := Lib.indexByte_ge r 34
   have : Lib.indexByte r 34 = -1 := by
    by_cases hh : Lib.indexByte r 34 = -1
    ·exact hh
    ·rw [if_neg (by rw [beq_iff_eq]; exact hh)] at h; omega
   rw [qend_ne hc, ixb_none r this]; rfl
theorem ixb_some : ∀ (l : List UInt8) (k : Nat), Lib.indexByte l 34 = (k : Int) → k < l.length ∧ qend l = (match l.drop (k + 1) with | [] => some k | d :: r' => if d = 34 then (qend r').map (· + (k + 2)) else some k)
 | [], k, h => by
  rw [show Lib.indexByte [] 34 = -1 from rfl] at h; omega
 | c :: r, k, h => by
  unfold Lib.indexByte at h
  by_cases hc : c = 34
  ·rw [if_pos (by rw [beq_iff_eq]; exact hc)] at h
   obtain rfl : k = 0 := by omega
   refine ⟨by simp, ?_⟩
   rw [qend.eq_def]
   simp only [if_pos hc, List.drop_succ_cons, List.drop_zero]
  ·rw [if_neg (by rw [beq_iff_eq]; exact hc)] at h
   have hg := Lib.indexByte_ge r 34
   have hne : Lib.indexByte r 34 ≠ -1 := by
    intro hh
    rw [if_pos (by rw [beq_iff_eq]; exact hh)] at h; omega
   rw [if_neg (by rw [beq_iff_eq]; exact hne)] at h
   obtain ⟨j, rfl⟩ : ∃ j, k = j + 1 := ⟨k - 1, by omega⟩
   obtain ⟨h1, h2⟩ := ixb_some r j (by omega)
   refine ⟨by simp; omega, ?_⟩
   rw [qend_ne hc, h2, List.drop_succ_cons]
   cases r.drop (j + 1) with
   | nil => rfl
   | cons d r' =>
    simp only
    by_cases hd : d = 34
    ·rw [if_pos hd, if_pos hd, Option.map_map]
     congr 1
    ·rw [if_neg hd, if_neg hd]; rfl
theorem qend_le : ∀ (n : Nat) (l : List UInt8) (e : Nat), l.length ≤ n → qend l = some e → e < l.length
 | 0, l, e, hn, h => by
  obtain rfl := List.eq_nil_of_length_eq_zero (Nat.le_zero.1 hn)
  cases h
 | n + 1, [], e, hn, h => by cases h
 | n + 1, c :: r, e, hn, h => by
  rw [qend.eq_def] at h
  simp only at h
  split at h
  ·cases r with
   | nil => cases h; simp
   | cons d r' =>
    simp only at h
    split at h
    ·obtain ⟨e', h1, rfl⟩ := Option.map_eq_some_iff.1 h
     have := qend_le n r' e' (by simp at hn; omega) h1
     simp; omega
    ·cases h; simp
  ·obtain ⟨e', h1, rfl⟩ := Option.map_eq_some_iff.1 h
   have := qend_le n r e' (by simp at hn; omega) h1
   simp; omega
def quotL (l : List UInt8) : List UInt8 × Nat × Int :=
 match qend (l.drop 1) with
 | none => ([], 0, 41)
 | some e => match badAt (l.take (e + 2)) with
  | some i => ([], i, 40)
  | none => (undblL ((l.drop 1).take e), e + 2, 0)
theorem wr_nat {n : Nat} (h : n ≤ 1000000000000) : wrap64 (n : Int) = (n : Int) := by unfold wrap64; omega
theorem quot_l1 (l : List UInt8) (hl : l.length ≤ 100000) (E : Nat) (h2 : 2 ≤ E) (hE : E ≤ l.length) : ∀ (d i K : Nat), E - i = d → i ≤ E → d < K →
 Nak.l1 K ⟨l.toArray⟩ (E : Int) (E : Int) (i : Int) = some (match badAt ((l.take E).drop i) with | some b => (⟨#[]⟩, ((i + b : Nat) : Int), 40) | none => (⟨(undblL ((l.drop 1).take (E - 2))).toArray⟩, (E : Int), 0)) := by
 intro d
 induction d with
 | zero =>
  intro i K hd hi hK
  obtain ⟨K, rfl⟩ : ∃ y, K = y + 1 := ⟨K - 1, by omega⟩
  obtain rfl : i = E := by omega
  have w1 : wrap64 ((i : Int) - 1) = ((i - 1 : Nat) : Int) := by unfold wrap64; omega
  rw [Nak.l1, if_neg (by omega), w1, if_pos (by omega), if_pos (by rw [Nal]; omega)]
  have hr : Na2.f ((⟨l.toArray⟩ : ByteArray).extract 1 ((i - 1 : Nat) : Int).toNat) ⟨#[34, 34]⟩ ⟨#[34]⟩ = some ⟨(undblL ((l.drop 1).take (i - 2))).toArray⟩ := by
   rw [Int.toNat_natCast, ext_list, show i - 1 - 1 = i - 2 by omega]
   unfold Na2.f
   have hc := Lib.countB_le ⟨#[34, 34]⟩ (by decide) _ (⟨((l.drop 1).take (i - 2)).toArray⟩ : ByteArray) (Nat.le_refl _)
   have e1 : (⟨#[34]⟩ : ByteArray).size = 1 := rfl
   have hz : ((l.drop 1).take (i - 2)).length ≤ 100000 := by rw [List.length_take, List.length_drop]; omega
   rw [Nal] at hc
   rw [if_pos ⟨by rw [Nal]; omega, by decide, by rw [e1, Nal]; omega⟩]
   rfl
  rw [hr]
  have : (l.take i).drop i = [] := List.drop_eq_nil_of_le (by rw [List.length_take]; omega)
  rw [this]; rfl
 | succ d ih =>
  intro i K hd hi hK
  obtain ⟨K, rfl⟩ : ∃ y, K = y + 1 := ⟨K - 1, by omega⟩
  have hil : i < l.length := by omega
  have hcons : (l.take E).drop i = l[i] :: (l.take E).drop (i + 1) := by
   rw [List.drop_eq_getElem_cons (by rw [List.length_take]; omega)]
   simp
  have hb := bt_list l i hil
  rw [Nak.l1, if_pos (by omega), if_pos (by omega), if_pos (by rw [Nal]; omega), hb, hcons, badAt]
  by_cases h1 : l[i].toNat < 32
  ·rw [if_pos (by omega), if_pos (.inl h1)]; rfl
  rw [if_neg (by omega)]
  by_cases h3 : 126 < l[i].toNat
  ·rw [if_pos (by omega), if_pos (.inr h3)]; rfl
  rw [if_neg (by omega), if_neg (by omega), wr1 (by omega) (by omega), show ((i : Int) + 1) = ((i + 1 : Nat) : Int) by omega, ih (i + 1) K (by omega) (by omega) (by omega)]
  cases badAt ((l.take E).drop (i + 1)) with
  | none => rfl
  | some b => simp only [Option.map_some]; rw [show i + 1 + b = i + (b + 1) by omega]
theorem quot_l0 (l : List UInt8) (hl : l.length ≤ 100000) : ∀ (d j K : Nat), l.length - j = d → 1 ≤ j → j ≤ l.length → d + l.length + 5 ≤ K →
 Nak.l0 K ⟨l.toArray⟩ (j : Int) = some (match qend (l.drop j) with
  | none => (⟨#[]⟩, 0, 41)
  | some e => match badAt (l.take (j + e + 1)) with
   | some i => (⟨#[]⟩, (i : Int), 40)
   | none => (⟨(undblL ((l.drop 1).take (j + e - 1))).toArray⟩, ((j + e + 1 : Nat) : Int), 0)) := by
 intro d
 induction d using Nat.strongRecOn with
 | _ d ih =>
  intro j K hd h1 hj hK
  obtain ⟨K, rfl⟩ : ∃ y, K = y + 1 := ⟨K - 1, by omega⟩
  have hx : strings_IndexByte.f ((⟨l.toArray⟩ : ByteArray).extract (j : Int).toNat (⟨l.toArray⟩ : ByteArray).size) 34 = some (Lib.indexByte (l.drop j) 34) := by
   rw [Int.toNat_natCast, ext_drop]; rfl
  rw [Nak.l0, if_pos (by omega), if_pos (by rw [Nal]; omega), hx]
  simp only [Option.bind_some]
  have hge := Lib.indexByte_ge (l.drop j) 34
  by_cases hn : Lib.indexByte (l.drop j) 34 < 0
  ·rw [if_pos hn, ixb_none _ (by omega)]
  ·obtain ⟨k, hk⟩ : ∃ k : Nat, Lib.indexByte (l.drop j) 34 = (k : Int) := ⟨(Lib.indexByte (l.drop j) 34).toNat, by omega⟩
   obtain ⟨hkl, hq⟩ := ixb_some _ k hk
   rw [List.length_drop] at hkl
   have w0 : wrap64 ((j : Int) + wrap64 ((k : Int) + 1)) = ((j + k + 1 : Nat) : Int) := by
    rw [wr1 (by omega) (by omega)]; unfold wrap64; omega
   rw [if_neg hn, hk, w0, Nal, hq, List.drop_drop]
   have hj1 : ∀ K', l.length + 3 ≤ K' → Nak.j1 K' ⟨l.toArray⟩ ((j + k + 1 : Nat) : Int) = some (match badAt (l.take (j + k + 1)) with | some i => (⟨#[]⟩, (i : Int), 40) | none => (⟨(undblL ((l.drop 1).take (j + k - 1))).toArray⟩, ((j + k + 1 : Nat) : Int), 0)) := by
    intro K' hK'
    obtain ⟨K', rfl⟩ : ∃ y, K' = y + 1 := ⟨K' - 1, by omega⟩
    have := quot_l1 l hl (j + k + 1) (by omega) (by omega) (j + k + 1) 0 K' (by omega) (by omega) (by omega)
    rw [List.drop_zero, show j + k + 1 - 2 = j + k - 1 by omega] at this
    simp only [Nat.zero_add] at this
    rw [Nak.j1]
    exact this
   by_cases he : (((j + k + 1 : Nat) : Int)) = (l.length : Int)
   ·rw [if_pos he, hj1 K (by omega), show j + (k + 1) = j + k + 1 by omega, List.drop_eq_nil_of_le (show l.length ≤ j + k + 1 by omega)]
   ·rw [if_neg he, if_pos (by omega), if_pos (by omega)]
    have hil : j + k + 1 < l.length := by omega
    have hb := bt_list l (j + k + 1) hil
    rw [hb, show j + (k + 1) = j + k + 1 by omega, List.drop_eq_getElem_cons hil]
    simp only
    by_cases h34 : l[j + k + 1] = 34
    ·have h34' : ((l[j + k + 1].toNat : Nat) : Int) = 34 := by rw [h34]; rfl
     rw [if_pos h34', if_pos h34, wr1 (by omega) (by omega), show (((j + k + 1 : Nat) : Int) + 1) = ((j + k + 2 : Nat) : Int) by omega, ih (l.length - (j + k + 2)) (by omega) (j + k + 2) K rfl (by omega) (by omega) (by omega)]
     rw [show j + k + 1 + 1 = j + k + 2 by omega]
     cases qend (l.drop (j + k + 2)) with
     | none => rfl
     | some e =>
      simp only [Option.map_some]
      rw [show j + k + 2 + e + 1 = j + (e + (k + 2)) + 1 by omega, show j + k + 2 + e - 1 = j + (e + (k + 2)) - 1 by omega]
    ·have h34' : ¬ ((l[j + k + 1].toNat : Nat) : Int) = 34 := by
      intro hh
      exact h34 ((byte_eq (n := 34) (by decide)).1 (by omega))
     rw [if_neg h34', if_neg h34, hj1 K (by omega)]
theorem quot_f (r : List UInt8) (hl : r.length < 100000) {K : Nat} (hK : 2 * (r.length + 1) + 10 ≤ K) : Nak.f K ⟨(34 :: r).toArray⟩ = some (⟨(quotL (34 :: r)).1.toArray⟩, ((quotL (34 :: r)).2.1 : Int), (quotL (34 :: r)).2.2) := by
 unfold Nak.f quotL
 have := quot_l0 (34 :: r) (by simp; omega) r.length 1 K (by simp) (by omega) (by simp) (by simp; omega)
 rw [show (1 : Int) = ((1 : Nat) : Int) from rfl, this]
 cases qend ((34 :: r).drop 1) with
 | none => rfl
 | some e =>
  simp only
  rw [show 1 + e + 1 = e + 2 by omega, show 1 + e - 1 = e by omega]
  cases badAt ((34 :: r).take (e + 2)) with
  | none => rfl
  | some i => rfl
def Nbn (l : List UInt8) : List (List UInt8) → List UInt8
 | [] => []
 | t :: ts => if t.isPrefixOf l then t else Nbn l ts
def Nc3 : List (List UInt8) := Ncg.map fun b => b.data.toList
def Ndo : List (List UInt8) := pairsL.map fun b => b.data.toList
def Nfg : List UInt8 := [43, 45, 42, 47, 94, 38, 37, 40, 41, 44, 58, 33, 61, 60, 62]
def numLx (l : List UInt8) : Nat :=
 runL digB l + (match l.drop (runL digB l) with | [] => 0 | c :: r => if c = 46 ∧ 0 < runL digB r then 1 + runL digB r else 0)
def nextL : List UInt8 → Int × List UInt8 × Nat × Int
 | [] => (0, [], 0, 40)
 | c :: r =>
  if digB c.toNat = true then (1, (c :: r).take (numLx (c :: r)), numLx (c :: r), 0)
  else if c = 34 then (2, quotL (c :: r))
  else if letB c.toNat = true ∨ c = 36 then (3, (c :: r).take (runL wordB (c :: r)), runL wordB (c :: r), 0)
  else if c = 35 then (if Nbn (c :: r) Nc3 = [] then (0, [], 0, 40) else (4, Nbn (c :: r) Nc3, (Nbn (c :: r) Nc3).length, 0))
  else if Nbn (c :: r) Ndo ≠ [] then (5, Nbn (c :: r) Ndo, (Nbn (c :: r) Ndo).length, 0)
  else if Nfg.contains c then (5, [c], 1, 0) else (0, [], 0, 40)
theorem prefix_f (l m : List UInt8) (hl : l.length ≤ 100000) : strings_HasPrefix.f ⟨l.toArray⟩ ⟨m.toArray⟩ = some (m.isPrefixOf l) := by
 unfold strings_HasPrefix.f stringslite_HasPrefix.f
 rw [Nal, Nal]
 by_cases h : (m.length : Int) ≤ (l.length : Int)
 ·rw [if_pos h, if_pos (by omega), if_pos h, Int.toNat_natCast, ext_take]
  simp only [Option.bind_some]
  congr 1
  rw [ByteArray.toList_eq, ByteArray.toList_eq]
  show (l.take m.length == m) = m.isPrefixOf l
  rw [Bool.eq_iff_iff, beq_iff_eq, List.isPrefixOf_iff_prefix, List.prefix_iff_eq_take]
  exact eq_comm
 ·rw [if_neg h]
  simp only [Option.bind_some]
  congr 1
  rw [eq_comm, Bool.eq_false_iff]
  intro hp
  have := (List.isPrefixOf_iff_prefix.1 hp).length_le
  omega
theorem begins_l0 (l : List UInt8) (hl : l.length ≤ 100000) (L : List ByteArray) (hL : L.length ≤ 1000) : ∀ (d i K : Nat), L.length - i = d → i ≤ L.length → d < K →
 Nbk.l0 K ⟨l.toArray⟩ L (L.length : Int) (i : Int) = some ⟨(Nbn l ((L.drop i).map fun b => b.data.toList)).toArray⟩ := by
 intro d
 induction d with
 | zero =>
  intro i K hd hi hK
  obtain ⟨K, rfl⟩ : ∃ y, K = y + 1 := ⟨K - 1, by omega⟩
  rw [Nbk.l0, if_neg (by omega), List.drop_eq_nil_of_le (by omega)]; rfl
 | succ d ih =>
  intro i K hd hi hK
  obtain ⟨K, rfl⟩ : ∃ y, K = y + 1 := ⟨K - 1, by omega⟩
  have hil : i < L.length := by omega
  have hr : rdOf ByteArray.empty L (i : Int) = ⟨(L[i].data.toList).toArray⟩ := by
   unfold rdOf
   simp [List.getD, hil]
  rw [Nbk.l0, if_pos (by omega), if_pos (by omega), if_pos (by omega), hr, prefix_f _ _ hl, List.drop_eq_getElem_cons hil, List.map_cons, Nbn]
  simp only [Option.bind_some]
  by_cases hp : (L[i].data.toList).isPrefixOf l = true
  ·rw [if_pos hp, if_pos hp]
  ·rw [if_neg hp, if_neg hp, wr1 (by omega) (by omega), show ((i : Int) + 1) = ((i + 1 : Nat) : Int) by omega]
   exact ih (i + 1) K (by omega) (by omega) (by omega)
theorem begins_f (l : List UInt8) (hl : l.length ≤ 100000) (L : List ByteArray) (hL : L.length ≤ 8) : Nbk.f 12 ⟨l.toArray⟩ L = some ⟨(Nbn l (L.map fun b => b.data.toList)).toArray⟩ := by
 have := begins_l0 l hl L (by omega) L.length 0 12 rfl (by omega) (by omega)
 rw [List.drop_zero] at this
 exact this
theorem Nd8 (l : List UInt8) : ∀ L : List (List UInt8), ∃ r, l = Nbn l L ++ r
 | [] => ⟨l, rfl⟩
 | t :: ts => by
  rw [Nbn]
  split
  ·rename_i h
   obtain ⟨r, hr⟩ := List.isPrefixOf_iff_prefix.1 h
   exact ⟨r, hr.symm⟩
  ·exact Nd8 l ts
theorem begins_mem (l : List UInt8) : ∀ L : List (List UInt8), Nbn l L ≠ [] → Nbn l L ∈ L
 | [], h => absurd rfl h
 | t :: ts, h => by
  rw [Nbn] at h ⊢
  split
  ·exact List.mem_cons_self ..
  ·rename_i hp
   rw [if_neg hp] at h
   exact List.mem_cons_of_mem _ (begins_mem l ts h)
theorem num_list (l : List UInt8) : numN ⟨l.toArray⟩ = numLx l := by
 unfold numN numLx runN
 have e0 : (⟨l.toArray⟩ : ByteArray).data.toList = l := by simp
 rw [e0, ext_drop, Nal]
 have hle := Net digB l
 have e1 : (⟨(l.drop (runL digB l + 1)).toArray⟩ : ByteArray).data.toList = l.drop (runL digB l + 1) := by simp
 rw [e1]
 by_cases h : runL digB l < l.length
 ·rw [List.drop_eq_getElem_cons h]
  simp only
  have hb := bt_list l _ h
  rw [hb]
  by_cases h46 : l[runL digB l] = 46
  ·have h46' : ((l[runL digB l].toNat : Nat) : Int) = 46 := by rw [h46]; rfl
   by_cases hr : 0 < runL digB (l.drop (runL digB l + 1))
   ·rw [if_pos ⟨h, h46', hr⟩, if_pos ⟨h46, hr⟩]; omega
   ·rw [if_neg (fun hh => hr hh.2.2), if_neg (fun hh => hr hh.2)]; rfl
  ·have h46' : ¬ ((l[runL digB l].toNat : Nat) : Int) = 46 := fun hh => h46 ((byte_eq (n := 46) (by decide)).1 (by omega))
   rw [if_neg (fun hh => h46' hh.2.1), if_neg (fun hh => h46 hh.1)]; rfl
 ·rw [if_neg (fun hh => h hh.1), List.drop_eq_nil_of_le (by omega)]; rfl
theorem num_le (l : List UInt8) : numLx l ≤ l.length := by
 unfold numLx
 have hle := Net digB l
 split
 ·omega
 ·rename_i c r h
  have hl := congrArg List.length h
  rw [List.length_drop, List.length_cons] at hl
  have := Net digB r
  by_cases h46 : c = 46 ∧ 0 < runL digB r
  ·rw [if_pos h46]; omega
  ·rw [if_neg h46]; omega
theorem num_pos {c : UInt8} {r : List UInt8} (h : digB c.toNat = true) : 1 ≤ numLx (c :: r) := by
 unfold numLx
 have : 1 ≤ runL digB (c :: r) := by rw [runL, if_pos h]; omega
 omega
theorem word_pos {c : UInt8} {r : List UInt8} (h : letB c.toNat = true ∨ c = 36) : 1 ≤ runL wordB (c :: r) := by
 rw [runL, if_pos (by
  unfold wordB
  rcases h with h | h
  ·rw [h]; rfl
  ·rw [h]; decide)]
 omega
def asNext (x : Int × List UInt8 × Nat × Int) : Int × ByteArray × Int × Int × Int := (x.1, ⟨x.2.1.toArray⟩, 0, (x.2.2.1 : Int), x.2.2.2)
theorem nx_list (l : List UInt8) (kd : Int) (n : Nat) : nxF ⟨l.toArray⟩ kd n = asNext (if n = 0 then (0, [], 0, 40) else (kd, l.take n, n, 0)) := by
 unfold nxF
 split
 ·rfl
 ·rw [ext_take]; rfl
theorem singles_ix (c : UInt8) : (0 ≤ Lib.indexByte Nfg c) ↔ Nfg.contains c = true := by
 have h : ∀ l : List UInt8, (0 ≤ Lib.indexByte l c) ↔ l.contains c = true := by
  intro l
  induction l with
  | nil => simp [Lib.indexByte]
  | cons b l ih =>
   unfold Lib.indexByte
   by_cases hb : (b == c) = true
   ·rw [if_pos hb]
    simp only [List.contains_cons]
    rw [beq_iff_eq] at hb
    simp [hb]
   ·rw [if_neg hb]
    have hg := Lib.indexByte_ge l c
    rw [List.contains_cons]
    have hb' : (c == b) = false := by rw [beq_eq_false_iff_ne]; intro hh; exact hb (by rw [beq_iff_eq, hh])
    rw [hb', Bool.false_or, ← ih]
    split
    ·rename_i he
     rw [beq_iff_eq] at he
     omega
    ·rename_i he
     rw [beq_iff_eq] at he
     omega
 exact h Nfg
theorem next_f (c : UInt8) (r : List UInt8) (hl : r.length < 100000) : Ndi.f ⟨(c :: r).toArray⟩ = some (asNext (nextL (c :: r))) := by
 unfold Ndi.f
 have hb := bt_cons c r
 rw [Nal, if_pos ⟨by simp, by simp; omega⟩, hb, nextL]
 have e0 : (⟨(c :: r).toArray⟩ : ByteArray).data.toList = c :: r := by simp
 have cB : ∀ n : Nat, n < 256 → (((c.toNat : Nat) : Int) = (n : Int) ↔ c = UInt8.ofNat n) := fun n hn => ⟨fun h => (byte_eq hn).1 (by omega), fun h => by have := (byte_eq hn).2 h; omega⟩
 have i34 : ((c.toNat : Nat) : Int) = 34 ↔ c = 34 := cB 34 (by decide)
 have i35 : ((c.toNat : Nat) : Int) = 35 ↔ c = 35 := cB 35 (by decide)
 have i36 : ((c.toNat : Nat) : Int) = 36 ↔ c = 36 := cB 36 (by decide)
 by_cases hd : digB ((c.toNat : Nat) : Int) = true
 ·rw [if_pos hd, if_pos hd, num_list, if_pos (num_le _), nx_list, if_neg (by have := num_pos (r := r) hd; omega)]
 rw [if_neg hd, if_neg hd]
 by_cases h34 : c = 34
 ·subst h34
  rw [if_pos (by rfl), if_pos rfl, quot_f r hl (by simp)]; rfl
 rw [if_neg (fun hh => h34 (i34.1 hh)), if_neg h34]
 have hrun : runN wordB ⟨(c :: r).toArray⟩ = runL wordB (c :: r) := by unfold runN; rw [e0]
 by_cases hlt : letB ((c.toNat : Nat) : Int) = true
 ·rw [if_pos hlt, if_pos (.inl hlt), hrun, nx_list, if_neg (by have := word_pos (r := r) (.inl hlt); omega)]
 rw [if_neg hlt]
 by_cases h36 : c = 36
 ·rw [if_pos (by rw [h36]; rfl), if_pos (.inr h36), hrun, nx_list, if_neg (by have := word_pos (r := r) (.inr h36); omega)]
 rw [if_neg (fun hh => h36 (i36.1 hh)), if_neg (show ¬ (letB ((c.toNat : Nat) : Int) = true ∨ c = 36) from fun hh => hh.elim hlt h36)]
 by_cases h35 : c = 35
 ·rw [if_pos (by rw [h35]; rfl), if_pos h35, begins_f _ (by simp; omega) Ncg (by decide)]
  simp only [Option.bind_some]
  show (if (⟨(Nbn (c :: r) Nc3).toArray⟩ : ByteArray).size ≤ (c :: r).length then some (nxF ⟨(c :: r).toArray⟩ 4 (⟨(Nbn (c :: r) Nc3).toArray⟩ : ByteArray).size) else none) = _
  obtain ⟨q, hq⟩ := Nd8 (c :: r) Nc3
  have hle : (Nbn (c :: r) Nc3).length ≤ (c :: r).length := by rw [congrArg List.length hq, List.length_append]; omega
  rw [Nal, if_pos hle, nx_list]
  have ht : (c :: r).take (Nbn (c :: r) Nc3).length = Nbn (c :: r) Nc3 := by
   generalize Nbn (c :: r) Nc3 = b at *
   rw [hq, List.take_left]
  rw [ht]
  by_cases he : Nbn (c :: r) Nc3 = []
  ·rw [if_pos he, he]; rfl
  ·rw [if_neg he, if_neg (fun hh => he (List.eq_nil_of_length_eq_zero hh))]
 rw [if_neg (fun hh => h35 (i35.1 hh)), if_neg h35, begins_f _ (by simp; omega) pairsL (by decide)]
 simp only [Option.bind_some]
 show (if (⟨(Nbn (c :: r) Ndo).toArray⟩ : ByteArray).size = 0 then some (nxF ⟨(c :: r).toArray⟩ 5 (if 0 ≤ markI ⟨(c :: r).toArray⟩ then 1 else 0)) else if (⟨(Nbn (c :: r) Ndo).toArray⟩ : ByteArray).size ≤ (c :: r).length then some (nxF ⟨(c :: r).toArray⟩ 5 (⟨(Nbn (c :: r) Ndo).toArray⟩ : ByteArray).size) else none) = _
 obtain ⟨q, hq⟩ := Nd8 (c :: r) Ndo
 have hle : (Nbn (c :: r) Ndo).length ≤ (c :: r).length := by rw [congrArg List.length hq, List.length_append]; omega
 have ht : (c :: r).take (Nbn (c :: r) Ndo).length = Nbn (c :: r) Ndo := by
  generalize Nbn (c :: r) Ndo = b at *
  rw [hq, List.take_left]
 rw [Nal, nx_list, nx_list, ht]
 by_cases he : Nbn (c :: r) Ndo = []
 ·have hne : ¬ (Nbn (c :: r) Ndo ≠ []) := fun hh => hh he
  rw [if_pos (by rw [he]; rfl)]
  have hm : markI ⟨(c :: r).toArray⟩ = Lib.indexByte Nfg c := by
   unfold markI
   rw [hb, Int.toNat_natCast]
   show Lib.indexByte Nfg c.toNat.toUInt8 = _
   congr 1
   exact UInt8.ofNat_toNat
  rw [hm]
  by_cases hs : Nfg.contains c = true
  ·rw [if_pos ((singles_ix c).2 hs), if_neg hne, if_pos hs]; rfl
  ·rw [if_neg (fun hh => hs ((singles_ix c).1 hh)), if_neg hne, if_neg hs]; rfl
 ·rw [if_neg (fun hh => he (List.eq_nil_of_length_eq_zero hh)), if_pos hle, if_pos he, if_neg (fun hh => he (List.eq_nil_of_length_eq_zero hh))]
end Go.Proofs.YtejbbceidnaloaaGreatDoor.P
