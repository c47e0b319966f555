import Derived.Test.YtejbbceidnaloaaGreatDoorB17
set_option linter.unusedVariables false
set_option linter.unusedSimpArgs false
set_option maxRecDepth 100000
set_option maxHeartbeats 8000000
namespace Go.Proofs.YtejbbceidnaloaaGreatDoor.P
open Go.RowKit AW AL AM
def ParsedPost (w0 w : World) (x : Except (Int × Int) (List S50)) (en : Ending) (w' : World) : Prop :=
 (match x with
 | .ok l => ∃ v, en = .returned (.tuple #[v, .agg #[.int .i64 0, .int .i64 0]]) ∧ Kd.R k50 50 w' w.heap.size (fun _ => True) v l
 | .error (c, p) => en = .returned (.tuple #[.slice none 0 0, .agg #[.int .i64 c, .int .i64 p]])) ∧ Below w0.heap.size w0 w'
section
variable {O : Ops} {ts : List S39} {e : Int} {w0 : World}
theorem parsed_any {k : Nat} (ih : Parts O ts e w0 k) (hts : ts.length ≤ 100000) {w : World} {g : Nat} {x} (hI : IsS72 w0 w g ts 0 e) (hB : Below w0.heap.size w0 w) (h : Ndi O ts e k = some x) :
 Calls Tryz.prog 46 #[.pointer (some ⟨g, 0, none⟩)] w (ParsedPost w0 w x) := by
 have HS := lh (St.start hI hB)
 have HBz := lh hB.size
 have HG := lh hI.lt
 have hmf : ∀ (fn : Fn) (first cap : Array Value) (w : World), (Instr.makeFunc fn first cap).run Tryz.prog w = .ok (.func fn first cap) w := fun _ _ _ _ => rfl
 unfold Ndi at h
 cases hz : binF O ts e k 1 0 with
 | none => rw [hz] at h; cases h
 | some z =>
  rw [hz] at h
  have HZ := lh hz
  have HX := lh h
  clear hI hB h hz
  go_enter_defers Tryz.func46, Tryz.ntmps46
  go_upto_region 2 with (first
   | ((with_reducible refine gD 2 rfl ?_); refine bX 2 #[.slice none 0 0] 22 ?_; intro g2 hg_ w1 hb_ hl_; have Z2 := lh (show w.heap.size ≤ g2 from hg_ ▸ Nat.le_refl _); have HS1 := lh (HS.out.below hl_); have J1 := lh hb_; clear hb_ hl_ hg_ HS)
   | ((with_reducible refine gD 3 rfl ?_); refine bX 3 #[.int .i64 0, .int .i64 0] 74 ?_; intro g3 hg_ w2 hb_ hl_; have Z3 := lh (show w.heap.size ≤ g3 from hg_ ▸ HS1.out.size); have HNE := lh (show g2 ≠ g3 by have := Nbe J1.out; omega); have HS2 := lh (HS1.out.below hl_); have J2 := lh (Nad J1.out hl_); have J3 := lh hb_; clear hb_ hl_ hg_ HS1 J1))
  have HN2 := lh (show g2 ≠ g ∧ g3 ≠ g by have := Z2.out; have := Z3.out; have := HG.out; omega)
  have HC := lh (ih.bin _ g 1 0 _ HS2.out.is HS2.out.bel (by omega) (by omega) (by omega) (by omega) HZ.out)
  go_wp2_with (fail)
  cases z with
  | error p =>
   obtain ⟨c, p⟩ := p
   obtain rfl := sI HX.out
   (with_reducible refine (HC.out).mono ?_)
   rintro en w3 ⟨rfl, a, hs⟩
   have HS3 := lh (HS2.out.trans hs)
   have J5 := lh (hs.keep.blk J2.out HN2.out.1 (by simp))
   have J6 := lh (hs.keep.blk J3.out HN2.out.2 (by simp))
   clear hs HC HX HZ J2 J3 HS2
   go_wp2
   refine leaves_cons (f := 67) (args := #[.pointer (some ⟨g2, 0, none⟩), .pointer (some ⟨g3, 0, none⟩)]) (by simp) (by simp [go_sem]) ?_
   refine (catch_bad g2 g3 _ 0 0 c p [] w3 J5.out J6.out HNE.out).mono ?_
   rintro en u' w4 ⟨rfl, rfl, hc⟩
   have c2 : w4.cell? ⟨g2, 0, none⟩ = some (.slice none 0 0) := (Naa hc.out 0).trans rfl
   have c30 : w4.cell? ⟨g3, 0, none⟩ = some (.int .i64 c) := (Naa hc.bad 0).trans rfl
   have c31 : w4.cell? ⟨g3, 1, none⟩ = some (.int .i64 p) := (Naa hc.bad 1).trans rfl
   have hbel := hc.below w0 (by have := Z2.out; have := HBz.out; omega) (by have := Z3.out; have := HBz.out; omega) HS3.out.bel
   have hu22 := Tryz.underlying22
   have hu74 := Tryz.underlying74
   have hrun : (results Tryz.f46 #[.pointer (some ⟨g, 0, none⟩), undef, .pointer (some ⟨g2, 0, none⟩), .pointer (some ⟨g3, 0, none⟩), .func (.func 67) #[] #[.pointer (some ⟨g2, 0, none⟩), .pointer (some ⟨g3, 0, none⟩)], .pointer (some ⟨g, 0, none⟩), undef, undef, undef, undef, undef, undef, undef, undef, undef, undef, undef, undef, undef, undef, undef]).run Tryz.prog w4 = .ok (.tuple #[.slice none 0 0, .agg #[.int .i64 c, .int .i64 p]]) w4 := by
    simp [results, Tryz.results46, go_sem, c2, c30, c31, hu22, hu74]
   exact ⟨_, hrun, ⟨rfl, hbel⟩⟩
  | ok p =>
   obtain ⟨l, a⟩ := p
   have HA := lh (Ncf O ts e (by omega) (by omega) (by omega) (by omega) HZ.out)
   (with_reducible refine (HC.out).mono ?_)
   rintro en w3 ⟨v, rfl, hr, hs⟩
   obtain ⟨A, c, rfl, hle, -⟩ := Kd.R_reads hr
   have HS3 := lh (HS2.out.trans hs)
   have HR3 := lh hr
   have HZ2 := lh (show g2 < w2.heap.size ∧ g3 < w2.heap.size ∧ w.heap.size ≤ w2.heap.size from ⟨Nbe J2.out, Nbe J3.out, HS2.out.size⟩)
   have J5 := lh (hs.keep.blk J2.out HN2.out.1 (by simp))
   have J6 := lh (hs.keep.blk J3.out HN2.out.2 (by simp))
   clear hs HC HZ J2 J3 HS2 hr hle
   go_upto_region 3 with ((with_reducible refine gate_ (.store 22 (.tmp 2) (.tmp 6)) rfl ?_); refine sE J5.out 22 (.tmp 2) (.tmp 6) 0 (.slice A l.length c) #[.slice A l.length c] ?_; intro w4 hb_ hp_; have J7 := lh hb_; have J8 := lh (hp_.blk J6.out HNE.out.symm); have HS4 := lh (HS3.out.put hp_ (by have := Z2.out; have := HBz.out; omega) Z2.out HN2.out.1); have HR4 := lh (r_keep HR3.out (show Nax w3 w4 g2 none from ⟨Nat.le_of_eq hp_.size.symm, fun i _ hn _ => hp_.far i hn⟩) HZ2.out.1); clear hb_ hp_ HR3 HS3 J5 J6)
   obtain ⟨A0, c0, hg, hge, -⟩ := HS4.out.is
   have k0 := Nbm hg
   have k1 := Na0 hg
   clear hg hge
   by_cases hlt : a < (ts.length : Int)
   ·have hx := HX.out
    simp only [Res.bnd] at hx
    rw [if_pos hlt] at hx
    obtain rfl := sI hx
    clear hx HX
    go_quiet (fail)
    go_wp2_with (fail)
    (with_reducible refine (Nb8 (HS4.out.drewN nq).is (HS4.out.drewN nq).bel (by have := HA.out; omega) 50).mono ?_)
    rintro en w6 ⟨rfl, hs⟩
    have HS6 := lh ((HS4.out.drewN nq).trans hs)
    have J9 := lh (hs.keep.blk (Nam J7.out nq) HN2.out.1 (by simp))
    have J10 := lh (hs.keep.blk (Nam J8.out nq) HN2.out.2 (by simp))
    clear hs
    go_wp2
    refine leaves_cons (f := 67) (args := #[.pointer (some ⟨g2, 0, none⟩), .pointer (some ⟨g3, 0, none⟩)]) (by simp) (by simp [go_sem]) ?_
    refine (catch_bad g2 g3 _ 0 0 50 (Nbl ts e a) [] w6 J9.out J10.out HNE.out).mono ?_
    rintro en u' w7 ⟨rfl, rfl, hc⟩
    have c2 : w7.cell? ⟨g2, 0, none⟩ = some (.slice none 0 0) := (Naa hc.out 0).trans rfl
    have c30 : w7.cell? ⟨g3, 0, none⟩ = some (.int .i64 50) := (Naa hc.bad 0).trans rfl
    have c31 : w7.cell? ⟨g3, 1, none⟩ = some (.int .i64 (Nbl ts e a)) := (Naa hc.bad 1).trans rfl
    have hbel := hc.below w0 (by have := Z2.out; have := HBz.out; omega) (by have := Z3.out; have := HBz.out; omega) HS6.out.bel
    have hu22 := Tryz.underlying22
    have hu74 := Tryz.underlying74
    refine ⟨.tuple #[.slice none 0 0, .agg #[.int .i64 50, .int .i64 (Nbl ts e a)]], ?_, ⟨rfl, hbel⟩⟩
    simp [results, Tryz.results46, go_sem, c2, c30, c31, hu22, hu74]
   ·have hx := HX.out
    simp only [Res.bnd] at hx
    rw [if_neg hlt] at hx
    obtain rfl := sI hx
    clear hx HX
    go_quiet (fail)
    obtain ⟨w5, hw_⟩ : ∃ x_ : World, x_ = w4.drewN nq := ⟨_, rfl⟩
    rw [← hw_]
    have HS5 := lh (show St w0 w w5 g ts a e by rw [hw_]; exact HS4.out.drewN nq)
    have J9 := lh (show w5.heap[g2]? = some (.cells #[.slice A l.length c] 22 (0, 0)) by rw [hw_]; exact Nam J7.out nq)
    have J10 := lh (show w5.heap[g3]? = some (.cells #[.int .i64 0, .int .i64 0] 74 (0, 0)) by rw [hw_]; exact Nam J8.out nq)
    have HR5 := lh (show Kd.R k50 50 w5 w2.heap.size (fun _ => True) (.slice A l.length c) l by rw [hw_]; exact Kd.R_drewN HR4.out nq)
    clear hw_ k0 k1 HS4 J7 J8 HR4
    have e2 : w5.cell? ⟨g2, 0, none⟩ = some (.slice A l.length c) := (Naa J9.out 0).trans rfl
    have f2 := Naf J9.out 0
    have e30 : w5.cell? ⟨g3, 0, none⟩ = some (.int .i64 0) := (Naa J10.out 0).trans rfl
    have e31 : w5.cell? ⟨g3, 1, none⟩ = some (.int .i64 0) := (Naa J10.out 1).trans rfl
    have f30 := Naf J10.out 0
    have f31 := Naf J10.out 1
    clear f2 e30 e31 f30 f31
    go_wp2_with (first | ((with_reducible refine gate_ (.store 22 (.tmp 2) (.tmp 19)) rfl ?_); refine sE J9.out 22 (.tmp 2) (.tmp 19) 0 (.slice A l.length c) #[.slice A l.length c] ?_; intro w6 hb_ hp_; have K2 := lh hb_; have K3 := lh (hp_.blk J10.out HNE.out.symm); have HS6 := lh (HS5.out.put hp_ (by have := Z2.out; have := HBz.out; omega) Z2.out HN2.out.1); have HR6 := lh (r_keep HR5.out (show Nax w5 w6 g2 none from ⟨Nat.le_of_eq hp_.size.symm, fun i _ hn _ => hp_.far i hn⟩) HZ2.out.1); clear HS5 HR5 J9 J10; clear hb_ hp_) | ((with_reducible refine gate_ (.store 74 (.tmp 3) (.tmp 20)) rfl ?_); refine sE K3.out 74 (.tmp 3) (.tmp 20) 0 (.agg #[.int .i64 0, .int .i64 0]) #[.int .i64 0, .int .i64 0] ?_; intro w7 hb_ hp_; have L3 := lh hb_; have L2 := lh (hp_.blk K2.out HNE.out); have HS7 := lh (HS6.out.put hp_ (by have := Z3.out; have := HBz.out; omega) Z3.out HN2.out.2); have HR7 := lh (r_keep HR6.out (show Nax w6 w7 g3 none from ⟨Nat.le_of_eq hp_.size.symm, fun i _ hn _ => hp_.far i hn⟩) HZ2.out.2.1); clear HS6 HR6 K2 K3; clear hb_ hp_))
    refine leaves_cons (f := 67) (args := #[.pointer (some ⟨g2, 0, none⟩), .pointer (some ⟨g3, 0, none⟩)]) (by simp) (by simp [go_sem]) ?_
    refine (catch_idle ⟨g2, 0, none⟩ ⟨g3, 0, none⟩ w7).mono ?_
    rintro en u' w8 ⟨rfl, rfl, rfl⟩
    have c2 : w8.cell? ⟨g2, 0, none⟩ = some (.slice A l.length c) := (Naa L2.out 0).trans rfl
    have c30 : w8.cell? ⟨g3, 0, none⟩ = some (.int .i64 0) := (Naa L3.out 0).trans rfl
    have c31 : w8.cell? ⟨g3, 1, none⟩ = some (.int .i64 0) := (Naa L3.out 1).trans rfl
    have hu22 := Tryz.underlying22
    have hu74 := Tryz.underlying74
    refine ⟨.tuple #[.slice A l.length c, .agg #[.int .i64 0, .int .i64 0]], ?_, ⟨⟨_, rfl, Kd.R_lower HR7.out HZ2.out.2.2⟩, HS7.out.bel⟩⟩
    simp [results, Tryz.results46, go_sem, c2, c30, c31, hu22, hu74]
end
mutual
def Nak.j1 : Nat → ByteArray → Int → Option (ByteArray × Int × Int)
 | 0, _, _ => none
 | k + 1, x0, x5 => Nak.l1 k x0 x5 x5 0
def Nak.l1 : Nat → ByteArray → Int → Int → Int → Option (ByteArray × Int × Int)
 | 0, _, _, _, _ => none
 | k + 1, x0, x5, x30, x31 => if x31 < x30 then (if 0 ≤ x31 then (if x31 < (x0.size : Int) then (if (bt x0 x31) < 32 then (some ((⟨#[]⟩ : ByteArray), x31, 40)) else (if (bt x0 x31) > 126 then (some ((⟨#[]⟩ : ByteArray), x31, 40)) else (Nak.l1 k x0 x5 x30 (wrap64 (x31 + 1))))) else (none)) else (none)) else (if 1 ≤ (wrap64 (x5 - 1)) then (if (wrap64 (x5 - 1)) ≤ (x0.size : Int) then ((Nav.f (x0.extract 1 ((wrap64 (x5 - 1)) : Int).toNat) (⟨#[34, 34]⟩ : ByteArray) (⟨#[34]⟩ : ByteArray)).bind fun t102 => (some (t102, x5, 0))) else (none)) else (none))
def Nak.l0 : Nat → ByteArray → Int → Option (ByteArray × Int × Int)
 | 0, _, _ => none
 | k + 1, x0, x5 => if 0 ≤ x5 then (if x5 ≤ (x0.size : Int) then ((strings_IndexByte.f (x0.extract (x5 : Int).toNat x0.size) 34).bind fun t101 => (if t101 < 0 then (some ((⟨#[]⟩ : ByteArray), 0, 41)) else (if (wrap64 (x5 + (wrap64 (t101 + 1)))) = (x0.size : Int) then (Nak.j1 k x0 (wrap64 (x5 + (wrap64 (t101 + 1))))) else (if 0 ≤ (wrap64 (x5 + (wrap64 (t101 + 1)))) then (if (wrap64 (x5 + (wrap64 (t101 + 1)))) < (x0.size : Int) then (if (bt x0 (wrap64 (x5 + (wrap64 (t101 + 1))))) = 34 then (Nak.l0 k x0 (wrap64 ((wrap64 (x5 + (wrap64 (t101 + 1)))) + 1))) else (Nak.j1 k x0 (wrap64 (x5 + (wrap64 (t101 + 1)))))) else (none)) else (none))))) else (none)) else (none)
end
def Nak.f (k : Nat) (a0 : ByteArray) : Option (ByteArray × Int × Int) := Nak.l0 k a0 1
theorem Nak.calls (k : Nat) (a0 r1 : ByteArray) (r2 r3 : Int) (w : World) (hG : GL w) (h : Nak.f k a0 = some (r1, r2, r3)) :
 Calls Tryz.prog 87 #[.string a0] w fun e w' => e = .returned (.tuple #[.string r1, .int .i64 r2, .int .i64 r3]) ∧ Below w.heap.size w w' := by
 have HB := aM (Below.refl w.heap.size w)
 have H := h
 unfold Nak.f at H
 clear h
 have HC2 := aM H
 clear H
 go_enter Tryz.func87, Tryz.ntmps87
 go_upto_block 0 with (fail)
 go_cut [5] (fun v5 wc => ∃ (kq : Nat) (x5_1 : Int), v5 = .int .i64 x5_1 ∧ Nai (Nak.j1 kq a0 x5_1 = some (r1, r2, r3)) ∧ Nai (kq ≤ k) ∧ Nai (Below w.heap.size w wc))
 case first =>
  have H := HC2.out
  clear HC2
  have H' := aM H
  clear H
  go_wp2
  go_loopg [5] k (fun kq v5 w' => ∃ (x5_1 : Int), v5 = .int .i64 x5_1 ∧ Nai (Nak.l0 kq a0 x5_1 = some (r1, r2, r3)) ∧ Nai (kq ≤ k) ∧ Nai (Below w.heap.size w w'))
  case atStart => exact ⟨(1), (by first | rfl | (simp; done) | (simp [*]; done)), H', ⟨Nat.le_refl _⟩, ⟨bE⟩⟩
  case round =>
   clear H'
   try clear p2
   obtain ⟨x5_1, rfl, HA, HK1, HB⟩ := hrel
   cases gk with
   | zero => exact absurd HA.out (by simp [Nak.l0])
   | succ k1 =>
    have H := HA.out
    clear HA
    simp only [Nak.l0] at H
    by_cases c3 : 0 ≤ x5_1
    ·rw [if_pos c3] at H
     have c3b0 := eq_true c3
     have c3b1 : decide (0 ≤ x5_1) = true := decide_eq_true c3
     clear c3
     by_cases c4 : x5_1 ≤ (a0.size : Int)
     ·rw [if_pos c4] at H
      have c4b0 := eq_true c4
      have c4b1 : decide (x5_1 ≤ (a0.size : Int)) = true := decide_eq_true c4
      clear c4
      replace H := bS H
      obtain ⟨t101, A50, H⟩ := H
      try dsimp only at H
      have A5 := aM A50
      clear A50
      by_cases c6 : t101 < 0
      ·rw [if_pos c6] at H
       have c6b0 : decide (t101 < 0) = true := decide_eq_true c6
       clear c6
       (first | rw [c6b0] | (simp only [i64_w, i32_w]; rw [c6b0]) | skip)
       simp only [sJ, pJ] at H
       obtain ⟨rfl, rfl, rfl⟩ := H
       go_wp2_with (first | ((with_reducible refine gC 92 rfl ?_); refine gL 11 Tryz.func92 #[.string (a0.extract (x5_1 : Int).toNat a0.size), .int .u8 34] ?_; (with_reducible refine (strings_IndexByte.calls (a0.extract (x5_1 : Int).toNat a0.size) 34 t101 _ A5.out).mono ?_); rintro e w' ⟨rfl, ⟨nd, rfl⟩⟩; refine ⟨_, rfl, ?_⟩))
       go_ret3
       exact ⟨eR, bE⟩
      ·rw [if_neg c6] at H
       have c6b0 : decide (t101 < 0) = false := decide_eq_false c6
       clear c6
       (first | rw [c6b0] | (simp only [i64_w, i32_w]; rw [c6b0]) | skip)
       by_cases c7 : (wrap64 (x5_1 + (wrap64 (t101 + 1)))) = (a0.size : Int)
       ·rw [if_pos c7] at H
        obtain ⟨c7b0, c7b1⟩ := bqT c7
        clear c7
        have H' := aM H
        clear H
        go_wp2_with (first | ((with_reducible refine gC 92 rfl ?_); refine gL 11 Tryz.func92 #[.string (a0.extract (x5_1 : Int).toNat a0.size), .int .u8 34] ?_; (with_reducible refine (strings_IndexByte.calls (a0.extract (x5_1 : Int).toNat a0.size) 34 t101 _ A5.out).mono ?_); rintro e w' ⟨rfl, ⟨nd, rfl⟩⟩; refine ⟨_, rfl, ?_⟩))
        go_meet
        case rel => exact ⟨_, (wrap64 (x5_1 + (wrap64 (t101 + 1)))), (by first | rfl | (simp; done) | (simp [*]; done)), H', ⟨by have := HK1.out; first | omega | exact Nat.le_refl _⟩, ⟨bE⟩⟩
       ·rw [if_neg c7] at H
        obtain ⟨c7b0, c7b1⟩ := bqF c7
        obtain ⟨ji8, hji8⟩ : ∃ j_ : Int, (wrap64 (x5_1 + (wrap64 (t101 + 1)))) = j_ := ⟨_, rfl⟩
        replace H : (if 0 ≤ (ji8) then (if (ji8) < (a0.size : Int) then (if (bt a0 (ji8)) = 34 then (Nak.l0 k1 a0 (wrap64 ((ji8) + 1))) else (Nak.j1 k1 a0 ji8)) else (none)) else (none)) = some (r1, r2, r3) := by first | (rw [hji8] at H; exact H) | (simp only [hji8] at H ⊢; exact H)
        (try rw [hji8] at c7b0)
        (try rw [hji8] at c7b1)
        (try rw [hji8] at A5)
        have hji8w : (IntKind.i64.wrap (x5_1 + (wrap64 (t101 + 1)))) = ji8 := (i64_w _).trans hji8
        by_cases c9 : 0 ≤ (ji8)
        ·rw [if_pos c9] at H
         have c9b0 : decide (0 ≤ (ji8)) = true := decide_eq_true c9
         clear c9
         by_cases c10 : (ji8) < (a0.size : Int)
         ·rw [if_pos c10] at H
          have c10b0 : decide ((ji8) < (a0.size : Int)) = true := decide_eq_true c10
          clear c10
          by_cases c12 : (bt a0 (ji8)) = 34
          ·rw [if_pos c12] at H
           obtain ⟨c12b0, c12b1⟩ := bqT c12
           clear c12
           have H' := aM H
           clear H
           go_wp2_with (first | ((with_reducible refine gC 92 rfl ?_); refine gL 11 Tryz.func92 #[.string (a0.extract (x5_1 : Int).toNat a0.size), .int .u8 34] ?_; (with_reducible refine (strings_IndexByte.calls (a0.extract (x5_1 : Int).toNat a0.size) 34 t101 _ A5.out).mono ?_); rintro e w' ⟨rfl, ⟨nd, rfl⟩⟩; refine ⟨_, rfl, ?_⟩; have p11 : 0 ≤ ((ji8) : Int) := of_decide_eq_true (by first | (with_reducible assumption) | assumption); have q11 : (ji8) < (a0.size : Int) := of_decide_eq_true (by first | (with_reducible assumption) | assumption); have hx11 := bt_at a0 (ji8); replace p11 := eq_true p11; replace q11 := eq_true q11))
           go_roundg k1
           case measure => have := HK1.out; omega
           case rel => exact ⟨(wrap64 ((ji8) + 1)), (by first | rfl | (simp; done) | (simp only [← hji8] <;> (first | rfl | simp)) | (simp [*]; done)), H', ⟨by have := HK1.out; omega⟩, ⟨bE⟩⟩
          ·rw [if_neg c12] at H
           obtain ⟨c12b0, c12b1⟩ := bqF c12
           have H' := aM H
           clear H
           go_wp2_with (first | ((with_reducible refine gC 92 rfl ?_); refine gL 11 Tryz.func92 #[.string (a0.extract (x5_1 : Int).toNat a0.size), .int .u8 34] ?_; (with_reducible refine (strings_IndexByte.calls (a0.extract (x5_1 : Int).toNat a0.size) 34 t101 _ A5.out).mono ?_); rintro e w' ⟨rfl, ⟨nd, rfl⟩⟩; refine ⟨_, rfl, ?_⟩; have p11 : 0 ≤ ((ji8) : Int) := of_decide_eq_true (by first | (with_reducible assumption) | assumption); have q11 : (ji8) < (a0.size : Int) := of_decide_eq_true (by first | (with_reducible assumption) | assumption); have hx11 := bt_at a0 (ji8); replace p11 := eq_true p11; replace q11 := eq_true q11))
           go_meet
           case rel => exact ⟨_, (ji8), (by first | rfl | (simp; done) | (simp only [← hji8] <;> (first | rfl | simp)) | (simp [*]; done)), H', ⟨by have := HK1.out; first | omega | exact Nat.le_refl _⟩, ⟨bE⟩⟩
         ·rw [if_neg c10] at H
          exact absurd H (by simp)
        ·rw [if_neg c9] at H
         exact absurd H (by simp)
     ·rw [if_neg c4] at H
      exact absurd H (by simp)
    ·rw [if_neg c3] at H
     exact absurd H (by simp)
 case rest =>
  clear HC2
  try clear c1
  try clear p1
  try clear q1
  try clear hx1
  try clear p2
  try clear c3
  try clear c3b0
  try clear c3b1
  try clear c4
  try clear c4b0
  try clear c4b1
  try clear c6
  try clear c6b0
  try clear p6
  try clear c7
  try clear c7b0
  try clear c7b1
  try clear c8
  try clear c9
  try clear c9b0
  try clear c10
  try clear c10b0
  try clear p11
  try clear q11
  try clear hx11
  try clear c12
  try clear c12b0
  try clear c12b1
  try clear p11
  try clear p2
  try clear q11
  obtain ⟨kq, x5_1, rfl, HA, HJ1, HB⟩ := hcut
  cases kq with
  | zero => exact absurd HA.out (by simp [Nak.j1])
  | succ kj1 =>
   have H := HA.out
   clear HA
   simp only [Nak.j1] at H
   have H' := aM H
   clear H
   go_wp2
   go_loopg [31] kj1 (fun kq v31 w' => ∃ (x31_2 : Int), v31 = .int .i64 x31_2 ∧ Nai (Nak.l1 kq a0 x5_1 x5_1 x31_2 = some (r1, r2, r3)) ∧ Nai (kq ≤ kj1) ∧ Nai (Below w.heap.size w w'))
   case atStart => exact ⟨(0), (by first | rfl | (simp; done) | (simp [*]; done)), H', ⟨Nat.le_refl _⟩, ⟨bE⟩⟩
   case round =>
    clear H'
    try clear c1
    try clear p1
    try clear q1
    try clear hx1
    try clear p2
    try clear c3
    try clear c3b0
    try clear c3b1
    try clear c4
    try clear c4b0
    try clear c4b1
    try clear c6
    try clear c6b0
    try clear p6
    try clear c7
    try clear c7b0
    try clear c7b1
    try clear c8
    try clear c9
    try clear c9b0
    try clear c10
    try clear c10b0
    try clear p11
    try clear q11
    try clear hx11
    try clear c12
    try clear c12b0
    try clear c12b1
    try clear p1
    try clear p11
    try clear p2
    try clear p6
    try clear q1
    try clear q11
    obtain ⟨x31_2, rfl, HA, HK2, HB⟩ := hrel
    cases gk with
    | zero => exact absurd HA.out (by simp [Nak.l1])
    | succ k2 =>
     have H := HA.out
     clear HA
     simp only [Nak.l1] at H
     by_cases c13 : x31_2 < x5_1
     ·rw [if_pos c13] at H
      have c13b0 : decide (x31_2 < x5_1) = true := decide_eq_true c13
      clear c13
      by_cases c14 : 0 ≤ x31_2
      ·rw [if_pos c14] at H
       have c14b0 : decide (0 ≤ x31_2) = true := decide_eq_true c14
       clear c14
       by_cases c15 : x31_2 < (a0.size : Int)
       ·rw [if_pos c15] at H
        have c15b0 : decide (x31_2 < (a0.size : Int)) = true := decide_eq_true c15
        clear c15
        by_cases c17 : (bt a0 x31_2) < 32
        ·rw [if_pos c17] at H
         have c17b0 : decide ((bt a0 x31_2) < 32) = true := decide_eq_true c17
         clear c17
         simp only [sJ, pJ] at H
         obtain ⟨rfl, rfl, rfl⟩ := H
         have p16 : 0 ≤ (x31_2 : Int) := of_decide_eq_true (by first | (with_reducible assumption) | assumption)
         have q16 : x31_2 < (a0.size : Int) := of_decide_eq_true (by first | (with_reducible assumption) | assumption)
         have hx16 := bt_at a0 x31_2
         replace p16 := eq_true p16
         replace q16 := eq_true q16
         go_wp2
         go_ret3
         exact ⟨eR, bE⟩
        ·rw [if_neg c17] at H
         have c17b0 : decide ((bt a0 x31_2) < 32) = false := decide_eq_false c17
         clear c17
         by_cases c19 : (bt a0 x31_2) > 126
         ·rw [if_pos c19] at H
          have c19b0 : decide (126 < (bt a0 x31_2)) = true := decide_eq_true c19
          clear c19
          simp only [sJ, pJ] at H
          obtain ⟨rfl, rfl, rfl⟩ := H
          have p16 : 0 ≤ (x31_2 : Int) := of_decide_eq_true (by first | (with_reducible assumption) | assumption)
          have q16 : x31_2 < (a0.size : Int) := of_decide_eq_true (by first | (with_reducible assumption) | assumption)
          have hx16 := bt_at a0 x31_2
          replace p16 := eq_true p16
          replace q16 := eq_true q16
          have p18 : 0 ≤ (x31_2 : Int) := of_decide_eq_true (by first | (with_reducible assumption) | assumption)
          have q18 : x31_2 < (a0.size : Int) := of_decide_eq_true (by first | (with_reducible assumption) | assumption)
          have hx18 := bt_at a0 x31_2
          replace p18 := eq_true p18
          replace q18 := eq_true q18
          go_wp2
          go_ret3
          exact ⟨eR, bE⟩
         ·rw [if_neg c19] at H
          have c19b0 : decide (126 < (bt a0 x31_2)) = false := decide_eq_false c19
          clear c19
          have H' := aM H
          clear H
          have p16 : 0 ≤ (x31_2 : Int) := of_decide_eq_true (by first | (with_reducible assumption) | assumption)
          have q16 : x31_2 < (a0.size : Int) := of_decide_eq_true (by first | (with_reducible assumption) | assumption)
          have hx16 := bt_at a0 x31_2
          replace p16 := eq_true p16
          replace q16 := eq_true q16
          have p18 : 0 ≤ (x31_2 : Int) := of_decide_eq_true (by first | (with_reducible assumption) | assumption)
          have q18 : x31_2 < (a0.size : Int) := of_decide_eq_true (by first | (with_reducible assumption) | assumption)
          have hx18 := bt_at a0 x31_2
          replace p18 := eq_true p18
          replace q18 := eq_true q18
          go_wp2
          go_roundg k2
          case measure => have := HJ1.out; have := HK2.out; omega
          case rel => exact ⟨(wrap64 (x31_2 + 1)), (by first | rfl | (simp; done) | (simp [*]; done)), H', ⟨by have := HJ1.out; have := HK2.out; omega⟩, ⟨bE⟩⟩
       ·rw [if_neg c15] at H
        exact absurd H (by simp)
      ·rw [if_neg c14] at H
       exact absurd H (by simp)
     ·rw [if_neg c13] at H
      have c13b0 : decide (x31_2 < x5_1) = false := decide_eq_false c13
      clear c13
      by_cases c20 : 1 ≤ (wrap64 (x5_1 - 1))
      ·rw [if_pos c20] at H
       have c20b0 := eq_true c20
       have c20b1 : decide (1 ≤ (wrap64 (x5_1 - 1))) = true := decide_eq_true c20
       clear c20
       by_cases c21 : (wrap64 (x5_1 - 1)) ≤ (a0.size : Int)
       ·rw [if_pos c21] at H
        have c21b0 := eq_true c21
        have c21b1 : decide ((wrap64 (x5_1 - 1)) ≤ (a0.size : Int)) = true := decide_eq_true c21
        clear c21
        replace H := bS H
        obtain ⟨t102, A220, H⟩ := H
        try dsimp only at H
        have A22 := aM A220
        clear A220
        simp only [sJ, pJ] at H
        obtain ⟨rfl, rfl, rfl⟩ := H
        go_wp2_with (first | ((with_reducible refine gC 60 rfl ?_); refine gL 50 Tryz.func60 #[.string (a0.extract 1 ((wrap64 (x5_1 - 1)) : Int).toNat), .string (⟨#[34, 34]⟩ : ByteArray), .string (⟨#[34]⟩ : ByteArray)] ?_; (with_reducible refine (Nav.calls (a0.extract 1 ((wrap64 (x5_1 - 1)) : Int).toNat) (⟨#[34, 34]⟩ : ByteArray) (⟨#[34]⟩ : ByteArray) t102 _ ?side1 A22.out).mono ?_); (case side1 => exact GL.below hG bE); rintro e w23 ⟨rfl, hb⟩; refine ⟨_, rfl, ?_⟩; replace HB := aM (Nac bE hb); (try clear hb)))
        go_ret3
        exact ⟨eR, bE⟩
       ·rw [if_neg c21] at H
        exact absurd H (by simp)
      ·rw [if_neg c20] at H
       exact absurd H (by simp)
def strings_HasPrefix.f (a0 a1 : ByteArray) : Option (Bool) := (stringslite_HasPrefix.f a0 a1).bind fun t101 => (some t101)
theorem strings_HasPrefix.calls (a0 a1 : ByteArray) (r : Bool) (w : World) (h : strings_HasPrefix.f a0 a1 = some r) :
 Calls Tryz.prog 131 #[.string a0, .string a1] w fun e w' => e = .returned (.bool r) ∧ Na9 w w' := by
 have H := h
 unfold strings_HasPrefix.f at H
 clear h
 replace H := bS H
 obtain ⟨t101, A30, H⟩ := H
 try dsimp only at H
 have A3 := aM A30
 clear A30
 obtain rfl := sI H
 go_enter Tryz.func131, Tryz.ntmps131
 go_wp2_with (first | ((with_reducible refine gC 142 rfl ?_); refine gL 7 Tryz.func142 #[.string a0, .string a1] ?_; (with_reducible refine (stringslite_HasPrefix.calls a0 a1 t101 _ A3.out).mono ?_); rintro e w' ⟨rfl, ⟨nd, rfl⟩⟩; refine ⟨_, rfl, ?_⟩))
 go_ret
 exact ⟨eR, dE⟩
def Nba.l0 : Nat → ByteArray → List ByteArray → Int → Int → Option (ByteArray)
 | 0, _, _, _, _ => none
 | k + 1, x0, x7, x8, x9 => if x9 < x8 then (if 0 ≤ x9 then (if x9 < (x7.length : Int) then ((strings_HasPrefix.f x0 (rdOf ByteArray.empty x7 x9)).bind fun t102 => (if t102 = true then (some (rdOf ByteArray.empty x7 x9)) else (Nba.l0 k x0 x7 x8 (wrap64 (x9 + 1))))) else (none)) else (none)) else (some (⟨#[]⟩ : ByteArray))
def Nba.f (k : Nat) (a0 : ByteArray) (l1 : List ByteArray) : Option (ByteArray) := Nba.l0 k a0 l1 (l1.length : Int) 0
theorem Nba.calls (k : Nat) (a0 : ByteArray) (A1 : Option Addr) (c1 : Nat) (l1 : List ByteArray) (r : ByteArray) (w : World) (hr1 : Kd.C Kd.string w A1 l1.length l1) (hc1 : l1.length ≤ c1) (h : Nba.f k a0 l1 = some r) :
 Calls Tryz.prog 91 #[.string a0, .slice A1 l1.length c1] w fun e w' => e = .returned (.string r) ∧ Na9 w w' := by
 have HR1 := aM hr1
 have HC1 := aM hc1
 clear hr1 hc1
 have H := h
 unfold Nba.f at H
 clear h
 have H' := aM H
 clear H
 go_enter Tryz.func91, Tryz.ntmps91
 go_wp2
 go_loopg [9] k (fun kq v9 w' => ∃ (x9_1 : Int), v9 = .int .i64 x9_1 ∧ Nai (Nba.l0 kq a0 l1 (l1.length : Int) x9_1 = some r) ∧ Nai (kq ≤ k) ∧ Na9 w w')
 case atStart => exact ⟨(0), (by first | rfl | (simp; done) | (simp [*]; done)), H', ⟨Nat.le_refl _⟩, dE⟩
 case round =>
  clear H'
  try clear c1
  try clear p2
  obtain ⟨x9_1, rfl, HA, HK1, ⟨m1, rfl⟩⟩ := hrel
  cases gk with
  | zero => exact absurd HA.out (by simp [Nba.l0])
  | succ k1 =>
   have H := HA.out
   clear HA
   simp only [Nba.l0] at H
   by_cases c3 : x9_1 < (l1.length : Int)
   ·rw [if_pos c3] at H
    have c3b0 : decide (x9_1 < (l1.length : Int)) = true := decide_eq_true c3
    clear c3
    by_cases c4 : 0 ≤ x9_1
    ·rw [if_pos c4] at H
     have c4b0 : decide (0 ≤ x9_1) = true := decide_eq_true c4
     clear c4
     by_cases c5 : x9_1 < (l1.length : Int)
     ·rw [if_pos c5] at H
      have c5b0 : decide (x9_1 < (l1.length : Int)) = true := decide_eq_true c5
      clear c5
      replace H := bS H
      obtain ⟨t102, A60, H⟩ := H
      try dsimp only at H
      have A6 := aM A60
      clear A60
      by_cases c7 : t102 = true
      ·subst c7
       rw [if_pos rfl] at H
       obtain rfl := sI H
       have p101 : 0 ≤ (x9_1 : Int) := of_decide_eq_true (by first | (with_reducible assumption) | assumption)
       have q101 : x9_1 < (l1.length : Int) := of_decide_eq_true (by first | (with_reducible assumption) | assumption)
       obtain ⟨ad101, e101, hx101_0⟩ := Kd.at_string HR1.out x9_1 p101 q101
       cases e101
       replace p101 := eq_true p101
       replace q101 := eq_true q101
       go_wp2_with (first | ((with_reducible refine gC 131 rfl ?_); refine gL 15 Tryz.func131 #[.string a0, .string (rdOf ByteArray.empty l1 x9_1)] ?_; (with_reducible refine (strings_HasPrefix.calls a0 (rdOf ByteArray.empty l1 x9_1) true _ A6.out).mono ?_); rintro e w' ⟨rfl, ⟨nd, rfl⟩⟩; refine ⟨_, rfl, ?_⟩))
       go_ret
       exact ⟨eR, dE⟩
      ·replace c7 := Bool.eq_false_iff.mpr c7
       subst c7
       rw [if_neg fT] at H
       have H' := aM H
       clear H
       have p101 : 0 ≤ (x9_1 : Int) := of_decide_eq_true (by first | (with_reducible assumption) | assumption)
       have q101 : x9_1 < (l1.length : Int) := of_decide_eq_true (by first | (with_reducible assumption) | assumption)
       obtain ⟨ad101, e101, hx101_0⟩ := Kd.at_string HR1.out x9_1 p101 q101
       cases e101
       replace p101 := eq_true p101
       replace q101 := eq_true q101
       go_wp2_with (first | ((with_reducible refine gC 131 rfl ?_); refine gL 15 Tryz.func131 #[.string a0, .string (rdOf ByteArray.empty l1 x9_1)] ?_; (with_reducible refine (strings_HasPrefix.calls a0 (rdOf ByteArray.empty l1 x9_1) false _ A6.out).mono ?_); rintro e w' ⟨rfl, ⟨nd, rfl⟩⟩; refine ⟨_, rfl, ?_⟩))
       go_roundg k1
       case measure => have := HK1.out; omega
       case rel => exact ⟨(wrap64 (x9_1 + 1)), (by first | rfl | (simp; done) | (simp [*]; done)), H', ⟨by have := HK1.out; omega⟩, dE⟩
     ·rw [if_neg c5] at H
      exact absurd H (by simp)
    ·rw [if_neg c4] at H
     exact absurd H (by simp)
   ·rw [if_neg c3] at H
    have c3b0 : decide (x9_1 < (l1.length : Int)) = false := decide_eq_false c3
    clear c3
    obtain rfl := sI H
    go_wp2
    go_ret
    exact ⟨eR, dE⟩
end Go.Proofs.YtejbbceidnaloaaGreatDoor.P
