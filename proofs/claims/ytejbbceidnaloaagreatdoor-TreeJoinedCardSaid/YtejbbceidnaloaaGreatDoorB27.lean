import Derived.Test.YtejbbceidnaloaaGreatDoorB26
set_option linter.unusedVariables false
set_option linter.unusedSimpArgs false
set_option maxRecDepth 100000
set_option maxHeartbeats 8000000
namespace Go.Proofs.YtejbbceidnaloaaGreatDoor.P
open Go.RowKit AW AL AM
theorem Ne8 {P : Program} {a : Act} {o : Oper} {t : TypeId} {p : Operand} (ho : o.op = .load t p) {ad : Addr} {cs : List Value} {d : TypeDesc} {w : World}
 (haddr : a.eval p = .pointer (some ad)) (hh : ∀ (j : Nat) v, cs[j]? = some v → w.cell? (ad.add j) = some v) (hu : P.underlying t = some d) (hd : d.isRow = true) (hi : (P.info? t).map (·.size) = some cs.length) :
 (execOp a.eval o).run P w = .ok (.value (.agg cs.toArray)) w := by
 have hrun := Ndp (P := P) w ad t cs d hh hu hd hi
 unfold execOp
 simp only [ho, haddr, Instr.loadAt, Instr.sureAddr, Sem.run_bind, Sem.run_pure, Result.andThen_ok, hrun]
theorem pr_keep {B : Nat} {w w3 : World} {g : Nat} {pv bv lv : Value} {bs : List UInt8} {a' : Int} (hB : B ≤ g) (hpv : pv = .pointer none ∨ pv = .pointer (some ⟨g, 0, none⟩)) (hb3 : w3.heap[g]? = some (.cells #[pv, bv, lv, .int .i64 a'] 87 (0, 0)))
 (hown : w.ownsRow B 5 1 bv bs.length (Lib.byteCells bs)) (hne : bv.ownBlock ≠ some g) (hk : ∀ i, i < w.heap.size → i ≠ g → w3.heap[i]? = w.heap[i]?) (hbel : Below B w w3) : Wrote B w g bs lv a' w3 := by
 refine ⟨⟨hB, pv, bv, hpv, hb3, ?_, hne⟩, hbel, ?_⟩
 ·refine ⟨hown.1, ?_⟩
  rcases hown.2 with hn | ⟨q, cap, cur, e, hBq, hg, rest⟩
  ·exact .inl hn
  ·refine .inr ⟨q, cap, cur, e, hBq, ?_, rest⟩
   rw [hk q (Array.getElem?_eq_some_iff.1 hg).1 (fun h => hne (by rw [e, h]; rfl))]
   exact hg
 ·intro i cs T fr hi _ hh
  rw [hk i (Array.getElem?_eq_some_iff.1 hh).1 hi]
  exact hh
def tightP (k0 op : Int) : Int := if k0 = 5 then Nd4 op else if k0 = 4 then (if op = 3 then 7 else 6) else 7
theorem store_skip {P : Program} {ops : Array Oper} {o : Oper} {a : Act} {Q : Exit → Act → World → Prop} {K : Act → World → Prop} {W : World} (hw : Region.wanted o (yielded ops a.tmps) = true) (hN : o.dst = none) {t : TypeId} {p x : Operand} (ho : o.op = .store t p x) {g o' : Nat} {e : TypeId} {cur : Array Value} {u : Value} {seg : List Value}
 (haddr : a.eval p = .pointer (some ⟨g, o', none⟩)) (hx : a.eval x = u) (hu : u.cells.toList = seg) (ht : (P.info? t).map (·.size) = some seg.length) (hh : W.heap[g]? = some (.cells cur e (0, 0))) (hfit : o' + seg.length ≤ cur.size) (h1 : seg.all (·.oneCell') = true)
 {new : Array Value} (hnew : setRun cur o' seg = new)
 (h : ∀ w1, w1.heap[g]? = some (.cells new e (0, 0)) → Put g W w1 → K a w1) : if Region.wanted o (yielded ops a.tmps) = true then Oper.wp P o a W K Q else K (a.put none undef) W := by
 have hrun := run_store_run (P := P) t u seg hh hu ht hfit (fun q hq => List.all_eq_true.mp h1 q hq)
 refine skip_ hw hN (w1 := W.setCells g o' seg) ?_ ?_
 ·unfold execOp
  simp only [ho, haddr, hx, Sem.run_bind, Sem.run_pure, Result.andThen_ok, hrun]
 ·exact h _ (hnew ▸ Nen seg o' cur W hh) ⟨setCells_size seg o' W, fun k hk => setCells_far' hk seg o' W, fun w0 hg hb => Nd9 hg seg o' W hb⟩
theorem Ne7 {fn : Func} (hr : fn.results = #[]) (t t' : Array Value) {R : Ending → World → Prop} : ∀ (ds : List Deferred) (u : FrameMode) (w : World), Leaves Tryz.prog fn t R ds u w → Leaves Tryz.prog fn t' R ds u w
 | [], .returning, w, h => by
  obtain ⟨v, h1, h2⟩ := h
  refine ⟨v, ?_, h2⟩
  simpa [results, hr] using h1
 | [], .panicking _, w, h => h
 | [], .run, w, h => h
 | d :: ds, u, w, h => by
  obtain ⟨hu, fv, cap, f, args, h1, h2, h3⟩ := h
  refine ⟨hu, fv, cap, f, args, h1, h2, h3.mono ?_⟩
  intro en u' w' hh
  cases en with
  | returned v => exact Ne7 hr t t' ds _ _ hh
  | panicked ch => exact Ne7 hr t t' ds _ _ hh
  | outgrown => exact hh
theorem put_defers (a : Act) (d : Option Tmp) (v : Value) : (a.put d v).defers = a.defers := by cases d <;> rfl
theorem pan50 {K : Act → World → Prop} {Q : Ending → World → Prop} {c : _} {a : Act} {w : World} {d : Option Tmp} {v : Value} (h : Exit.then K (bodyPostD Tryz.prog Tryz.f50 Q) (.panic c) (a.put d v) w) : Exit.then K (bodyPostD Tryz.prog Tryz.f50 Q) (.panic c) a w := by
 have h2 : Leaves Tryz.prog Tryz.f50 (a.put d v).tmps Q (a.put d v).defers (.panicking c) w := h
 rw [put_defers] at h2
 exact Ne7 rfl _ _ _ _ _ h2
theorem ends_plain {R : Ending → World → Prop} {tm : Array Value} {W : World} (h : R (.returned (.tuple #[])) W) : Leaves Tryz.prog Tryz.f50 tm R [] .returning W := ⟨_, by simp [results, Tryz.results50], h⟩
theorem ends_bracket {B g : Nat} {w W : World} {bs : List UInt8} {lv : Value} {a : Int} {tm : Array Value} {R : Ending → World → Prop} (h : Wrote B w g bs lv a W) (hlen : bs.length + 1 ≤ 140737488355328) (hB : B ≤ W.heap.size) (hR : ∀ W', Wrote B w g (bs ++ [41]) lv a W' → R (.returned (.tuple #[])) W') :
 Leaves Tryz.prog Tryz.f50 tm R [{ target := .fn (.func 58) #[], args := #[.pointer (some ⟨g, 0, none⟩), .int .u8 41] }] .returning W := by
 refine leaves_cons (f := 58) (args := #[.pointer (some ⟨g, 0, none⟩), .int .u8 41]) (by simp) (by simp [go_sem]) ?_
 refine (write_byte_d h.pr 41 .returning hlen hB).mono ?_
 rintro en u' W' ⟨rfl, rfl, hw⟩
 exact ends_plain (hR W' (h.trans hw))
theorem tight_same {k0 op : Int} (hop : k0 = 5 → Nd4 op = Nbu op) {n : S50} (h0 : n.f0 = k0) (h2 : n.f2 = op) : tightP k0 op = Ndv n := by
 unfold tightP Ndv
 rw [h0, h2]
 by_cases h5 : k0 = 5
 ·rw [if_pos h5, if_pos h5]; exact hop h5
 ·rw [if_neg h5, if_neg h5]
  by_cases h4 : k0 = 4
  ·rw [if_pos h4]
   by_cases h3 : op = 3
   ·rw [if_pos h3, if_neg (fun h => h.2 h3)]
   ·rw [if_neg h3, if_pos ⟨h4, h3⟩]
  ·rw [if_neg h4, if_neg (fun h => h4 h.1)]
theorem txt_bra (b : Bool) (T : List Tk) : txt (bra b T) = if b then 40 :: (txt T ++ [41]) else txt T := by
 cases b
 ·rfl
 ·show txt (mk [40] :: (T ++ [mk [41]])) = _
  rw [Nb0, Nbr]; rfl
theorem nodeT {L : Lf} {k : Nat} {least : Int} {n : S50} {r : List S50} {T : List Tk} {q : List S50} (h : tkF L (k + 1) least (n :: r) = some (T, q)) :
 ∃ U, T = bra (decide (Ndv n < least)) U ∧ (if n.f0 = 1 then some ([L.val n.f1], r)
  else if n.f0 = 2 then some (refT L n.f5, r)
  else if n.f0 = 3 then some (refT L n.f5 ++ [mk [58], (3, L.cel n.f6)], r)
  else if n.f0 = 6 then (atkF L k true n.f4 r).map fun (T, q) => ((3, n.f3) :: mk [40] :: (T ++ [mk [41]]), q)
  else if n.f0 = 5 then (tkF L k (Nbu n.f2) r).bind fun (T, q) => (tkF L k (Nbu n.f2 + 1) q).map fun (U, p) => (T ++ (5, signB n.f2) :: U, p)
  else if n.f2 = 3 then (tkF L k 7 r).map fun (T, q) => (T ++ [mk [37]], q)
  else (tkF L k 6 r).map fun (T, q) => ((5, signB n.f2) :: T, q)) = some (U, q) := by
 rw [tkF] at h
 obtain ⟨⟨U, q'⟩, h1, h2⟩ := Option.map_eq_some_iff.1 h
 simp only [Prod.mk.injEq] at h2
 obtain ⟨rfl, rfl⟩ := h2
 exact ⟨U, rfl, h1⟩
theorem node_one {w0 w : World} {g : Nat} {bs : List UInt8} {ad : Addr} {c : Nat} {l : List S50} {a : Nat} {L : Lf} {k : Nat} (h : Pr w0 (.slice (some ad) l.length c) w g bs (a : Int)) (hal : a < l.length) (hl : l.length ≤ 100000)
 (ih : Prints w0 (.slice (some ad) l.length c) L l k) (ihc : PrintsC w0 (.slice (some ad) l.length c) L l k) {k0 vk vn vd ve op ar r5 c5 r6 c6 : Int} {vt nm s5 s6 : ByteArray} {vb p5 q5 p6 q6 : Bool} (lf : LeafW w0 (.slice (some ad) l.length c) L (⟨k0, ⟨vk, ⟨vn, vd⟩, vt, vb, ve⟩, op, nm, ar, ⟨s5, r5, c5, p5, q5⟩, ⟨s6, r6, c6, p6, q6⟩⟩ : S50)) (hop : k0 = 5 → Nd4 op = Nbu op) (hnm : nm.size ≤ 100000) (har : ar ≤ 100000) (hk4 : k0 ≠ 1 → k0 ≠ 2 → k0 ≠ 3 → k0 ≠ 6 → k0 ≠ 5 → k0 = 4)
 (hn : ∀ (j : Nat) v, ([.int .i64 k0, .int .i64 vk, .int .i64 vn, .int .i64 vd, .string vt, .bool vb, .int .i64 ve, .int .i64 op, .string nm, .int .i64 ar, .string s5, .int .i64 r5, .int .i64 c5, .bool p5, .bool q5, .string s6, .int .i64 r6, .int .i64 c6, .bool p6, .bool q6] : List Value)[j]? = some v → w.cell? ((ad.add ((a : Int).toNat * 20)).add j) = some v)
 {least : Int} {T : List Tk} {q : List S50} (ht : tkF L (k + 1) least ((⟨k0, ⟨vk, ⟨vn, vd⟩, vt, vb, ve⟩, op, nm, ar, ⟨s5, r5, c5, p5, q5⟩, ⟨s6, r6, c6, p6, q6⟩⟩ : S50) :: l.drop (a + 1)) = some (T, q)) (hlen : (bs ++ txt T).length ≤ 1000000000) :
 Calls Tryz.prog 50 #[.pointer (some ⟨g, 0, none⟩), .int .i64 least] w fun e w' => e = .returned (.tuple #[]) ∧ Wrote w0.heap.size w g (bs ++ txt T) (.slice (some ad) l.length c) ((l.length : Int) - q.length) w' := by
 obtain ⟨U, rfl, hU⟩ := nodeT ht
 have HTT := lh (tight_same (n := (⟨k0, ⟨vk, ⟨vn, vd⟩, vt, vb, ve⟩, op, nm, ar, ⟨s5, r5, c5, p5, q5⟩, ⟨s6, r6, c6, p6, q6⟩⟩ : S50)) hop rfl rfl)
 have HU := lh hU
 have HLEN := lh hlen
 have HIH := lh ih
 have HIC := lh ihc
 have HLF := lh lf
 have HNM := lh hnm
 have HOP := lh hop
 have HAR := lh har
 have HK4 := lh hk4
 clear ht hU hlen ih ihc lf hnm hop hk4
 have h0 : (0 : Int) ≤ (a : Int) := Int.natCast_nonneg a
 have h1 : (a : Int) < l.length := by omega
 obtain ⟨at_, hat⟩ : ∃ x_ : Int, x_ = (a : Int) := ⟨_, rfl⟩
 have HAT := lh hat
 rw [← hat] at h h0 h1 hn
 clear hat
 have HP := lh h
 have HLT := lh h.pr.lt
 obtain ⟨hB, pv, bv, hpv, hb, hown, hne⟩ := h.pr
 have y0 : w.cell? ⟨g, 2, none⟩ = some (.slice (some ad) l.length c) := (Naa hb 2).trans rfl
 have y1 : w.cell? ⟨g, 3, none⟩ = some (.int .i64 at_) := (Naa hb 3).trans rfl
 have hu50 := Tryz.underlying50
 have HBB := lh hB
 have HPV := lh hpv
 have HBK := lh hb
 have HOWN := lh hown
 have HNE := lh hne
 clear h hB hpv hb hown hne
 go_enter_defers Tryz.func50, Tryz.ntmps50
 go_upto_region 0 with (fail)
 refine sP (n := 12) (S := fun w' => w'.cell? ⟨g, 2, none⟩ = some (.slice (some ad) l.length c) ∧ w'.cell? ⟨g, 3, none⟩ = some (.int .i64 at_) ∧ ∀ (j : Nat) v, ([.int .i64 k0, .int .i64 vk, .int .i64 vn, .int .i64 vd, .string vt, .bool vb, .int .i64 ve, .int .i64 op, .string nm, .int .i64 ar, .string s5, .int .i64 r5, .int .i64 c5, .bool p5, .bool q5, .string s6, .int .i64 r6, .int .i64 c6, .bool p6, .bool q6] : List Value)[j]? = some v → w'.cell? ((ad.add (at_.toNat * 20)).add j) = some v) (ds := [11]) ⟨y0, y1, hn⟩ (fun hHeld => ?_)
 refine pP 0 8 ?_ (hQ := fun _ _ _ h => pan50 h)
 refine pP 1 9 ?_ (hQ := fun _ _ _ h => pan50 h)
 refine pP 2 10 ?_ (hQ := fun _ _ _ h => pan50 h)
 refine pP 4 12 ?_ (hQ := fun _ _ _ h => pan50 h)
 refine pP 5 13 ?_ (hQ := fun _ _ _ h => pan50 h)
 refine pP 6 14 ?_ (hQ := fun _ _ _ h => pan50 h)
 refine tP 3 11 hHeld ?_ (hQ := fun _ _ _ h => pan50 h)
 refine tP 7 15 hHeld ?_ (hQ := fun _ _ _ h => pan50 h)
 refine pP 8 16 ?_ (hQ := fun _ _ _ h => pan50 h)
 refine tP 9 17 hHeld ?_ (hQ := fun _ _ _ h => pan50 h) (hy := Or.inl ⟨by rfl, by rintro w' ⟨s0, s1, s2⟩; refine Ne8 (t := 50) (p := .tmp 16) (ad := ad.add (at_.toNat * 20)) (cs := [.int .i64 k0, .int .i64 vk, .int .i64 vn, .int .i64 vd, .string vt, .bool vb, .int .i64 ve, .int .i64 op, .string nm, .int .i64 ar, .string s5, .int .i64 r5, .int .i64 c5, .bool p5, .bool q5, .string s6, .int .i64 r6, .int .i64 c6, .bool p6, .bool q6]) ?_ ?_ s2 hu50 rfl ?_; rfl; rfl; kernel_rfl⟩)
 refine oP 10 (some 4) fun K hK => ?_
 refine Nez (w1 := ?_) (v := ?_) (by rfl) rfl ?_ ?_
 rotate_left 2
 ·go_simp
  constructor
  ·rfl
  ·rfl
 refine hK.out _ _ ⟨Nab (Nae (Below.refl _ _) _) hHeld.1, Nab (Nae (Below.refl _ _) _) hHeld.2.1, fun j v hv => Nab (Nae (Below.refl _ _) _) (hHeld.2.2 j v hv)⟩ (fun hHeld => ?_)
 clear hK K
 refine nP 4 ?_
 refine lP 11 none fun K hK => ?_
 refine store_skip (g := w.heap.size) (o' := 0) (e := 50) (t := 50) (p := .tmp 4) (x := .tmp 17) (cur := #[.int .i64 0, .int .i64 0, .int .i64 0, .int .i64 0, .string ⟨#[]⟩, .bool false, .int .i64 0, .int .i64 0, .string ⟨#[]⟩, .int .i64 0, .string ⟨#[]⟩, .int .i64 0, .int .i64 0, .bool false, .bool false, .string ⟨#[]⟩, .int .i64 0, .int .i64 0, .bool false, .bool false]) (u := .agg #[.int .i64 k0, .int .i64 vk, .int .i64 vn, .int .i64 vd, .string vt, .bool vb, .int .i64 ve, .int .i64 op, .string nm, .int .i64 ar, .string s5, .int .i64 r5, .int .i64 c5, .bool p5, .bool q5, .string s6, .int .i64 r6, .int .i64 c6, .bool p6, .bool q6]) (seg := [.int .i64 k0, .int .i64 vk, .int .i64 vn, .int .i64 vd, .string vt, .bool vb, .int .i64 ve, .int .i64 op, .string nm, .int .i64 ar, .string s5, .int .i64 r5, .int .i64 c5, .bool p5, .bool q5, .string s6, .int .i64 r6, .int .i64 c6, .bool p6, .bool q6]) (new := #[.int .i64 k0, .int .i64 vk, .int .i64 vn, .int .i64 vd, .string vt, .bool vb, .int .i64 ve, .int .i64 op, .string nm, .int .i64 ar, .string s5, .int .i64 r5, .int .i64 c5, .bool p5, .bool q5, .string s6, .int .i64 r6, .int .i64 c6, .bool p6, .bool q6]) (by rfl) rfl rfl rfl rfl rfl (by kernel_rfl) (Nce w.drew _) (by simp) (by rfl) (by kernel_rfl) (fun w1 hb1 hp1 => ?_)
 refine hK.out _ _ ?_
 clear hK K
 refine done_ (by kernel_rfl) ?_
 clear y0 y1 hn hHeld
 obtain ⟨g4, hg4⟩ : ∃ x_ : Nat, x_ = w.heap.size := ⟨_, rfl⟩
 rw [← hg4] at hb1 hp1 ⊢
 have J4 := lh hb1
 have NE := lh (show g4 ≠ g by have := HLT.out; omega)
 have JP := lh hp1
 have HG4 := lh hg4
 clear hb1 hp1 hg4
 simp only [Exit.then]
 go_upto_region 1 with (fail)
 have K1 := lh (JP.out.blk (Nag (Nad HBK.out (Nae (Below.refl _ _) _))) NE.out.symm)
 have e3 : w1.cell? ⟨g, 3, none⟩ = some (.int .i64 at_) := (Naa K1.out 3).trans rfl
 have hw1 : wrap64 (at_ + 1) = at_ + 1 := by unfold wrap64; omega
 go_upto_region 2 with ((with_reducible refine gate_ (.store 3 (.tmp 24) (.tmp 22)) rfl ?_); refine sE K1.out 3 (.tmp 24) (.tmp 22) 3 (.int .i64 (at_ + 1)) #[pv, bv, .slice (some ad) l.length c, .int .i64 (at_ + 1)] ?_; intro w2 hb_ hp_; have K2 := lh hb_; have JQ := lh hp_; have J5 := lh (hp_.blk J4.out NE.out); clear hb_ hp_)
 have HTG := lh (show Nc0.f 2 k0 vk vn vd vt vb ve op nm ar s5 r5 c5 p5 q5 s6 r6 c6 p6 q6 = some (tightP k0 op) by
  unfold Nc0.f tightP
  by_cases h5 : k0 = 5
  ·rw [if_pos h5, if_pos h5, sign_f 0 op]; rfl
  ·rw [if_neg h5, if_neg h5]; split <;> (try split) <;> rfl)
 go_upto_region 3 with (first
  | ((with_reducible refine gD 25 rfl ?_); refine lA J5.out 50 (.tmp 4) hu50 ?_)
  | (go_at_call 73; (with_reducible refine (Nc0.calls 2 k0 vk vn vd vt vb ve op nm ar s5 r5 c5 p5 q5 s6 r6 c6 p6 q6 (tightP k0 op) _ HTG.out).mono ?_); rintro en w3 ⟨rfl, hb_⟩; have B3 := lh hb_; clear hb_))
 have HW3 := lh (show Wrote w0.heap.size w g bs (.slice (some ad) l.length c) (at_ + 1) w3 from by
  have hs1 : w1.heap.size = w.heap.size + 1 := by rw [JP.out.size]; simp
  have hs2 : w2.heap.size = w.heap.size + 1 := by rw [JQ.out.size, hs1]
  have hlt := HLT.out
  refine pr_keep HBB.out HPV.out (Nad K2.out B3.out) HOWN.out HNE.out ?_ ?_
  ·intro i hi hn
   rw [B3.out.block i (by omega), JQ.out.far i hn, JP.out.far i (by have := HG4.out; omega)]
   exact Lib.alloc_old w _ i hi
  ·have hbw := HBB.out
   have b1 := JP.out.below w0 (by have := HG4.out; omega) ((HP.out.bel.alloc (by omega) _).drew)
   have b2 := JQ.out.below w0 hbw b1
   have b3 := b2.trans (B3.out.mono (by omega))
   exact ⟨b3.os.trans HP.out.bel.os.symm, b3.tape.trans HP.out.bel.tape.symm, b3.output.trans HP.out.bel.output.symm, by have := B3.out.size; omega, fun k hk => (b3.block k hk).trans (HP.out.bel.block k hk).symm⟩)
 have J6 := lh (Nad J5.out B3.out)
 clear K2 J5 JP JQ B3 HOWN HPV HBK
 have HSG := lh (show Na6.f 2 op = some (signB op, Nd4 op) from sign_f 0 op)
 have HW0 := lh (show w0.heap.size ≤ w.heap.size from HP.out.bel.size)
 obtain ⟨tg, htg⟩ : ∃ x_ : Int, x_ = tightP k0 op := ⟨_, rfl⟩
 rw [← htg]
 have HTT2 := lh (show tg = Ndv (⟨k0, ⟨vk, ⟨vn, vd⟩, vt, vb, ve⟩, op, nm, ar, ⟨s5, r5, c5, p5, q5⟩, ⟨s6, r6, c6, p6, q6⟩⟩ : S50) from htg.trans HTT.out)
 have HTP := lh htg
 clear htg HTT HTG
 by_cases hlt : tg < least
 have b1 : decide (tg < least) = true := decide_eq_true hlt
 have HBR := lh (show decide (Ndv (⟨k0, ⟨vk, ⟨vn, vd⟩, vt, vb, ve⟩, op, nm, ar, ⟨s5, r5, c5, p5, q5⟩, ⟨s6, r6, c6, p6, q6⟩⟩ : S50) < least) = true by rw [← HTT2.out]; exact b1)
 have HTX := lh (show txt (bra (decide (Ndv (⟨k0, ⟨vk, ⟨vn, vd⟩, vt, vb, ve⟩, op, nm, ar, ⟨s5, r5, c5, p5, q5⟩, ⟨s6, r6, c6, p6, q6⟩⟩ : S50) < least)) U) = 40 :: (txt U ++ [41]) by rw [txt_bra, HBR.out]; rfl)
 have HL1 := lh (show bs.length + 1 ≤ 140737488355328 by have h1 := HLEN.out; rw [HTX.out] at h1; simp at h1; omega)
 go_upto_region 6 with (go_at_call 58; (with_reducible refine (Ncm HW3.out.pr 40 (n := 40) rfl HL1.out (Nat.le_trans HW0.out HW3.out.bel.size)).mono ?_); rintro en w5 ⟨rfl, hw⟩; have HW5 := lh (HW3.out.trans hw); have J7 := lh (hw.far _ _ _ _ NE.out (by decide) J6.out); clear hw)
 obtain ⟨bs1, hbs⟩ : ∃ x_, x_ = bs ++ [40] := ⟨_, rfl⟩
 have HL5 := lh (show (bs1 ++ txt U).length ≤ 1000000000 by have h1 := HLEN.out; rw [HTX.out] at h1; rw [hbs]; simp at h1 ⊢; omega)
 have HE := lh (fun (W : World) (tm : Array Value) (h : Wrote w0.heap.size w g (bs1 ++ txt U) (.slice (some ad) l.length c) ((l.length : Int) - q.length) W) => ends_bracket (tm := tm) (R := fun e w' => e = .returned (.tuple #[]) ∧ Wrote w0.heap.size w g (bs ++ txt (bra (decide (Ndv (⟨k0, ⟨vk, ⟨vn, vd⟩, vt, vb, ve⟩, op, nm, ar, ⟨s5, r5, c5, p5, q5⟩, ⟨s6, r6, c6, p6, q6⟩⟩ : S50) < least)) U)) (.slice (some ad) l.length c) ((l.length : Int) - q.length) w') h (by have := HL5.out; omega) (Nat.le_trans HW0.out h.bel.size) (fun W' hW' => ⟨rfl, by rw [HTX.out, show bs ++ 40 :: (txt U ++ [41]) = bs1 ++ txt U ++ [41] by rw [hbs]; simp]; exact hW'⟩))
 rw [← hbs] at HW5
 clear hbs HL1 HLEN HW3 J6 HTX HBR hlt b1
 rotate_left
 have b1 : decide (tg < least) = false := decide_eq_false hlt
 have HBR := lh (show decide (Ndv (⟨k0, ⟨vk, ⟨vn, vd⟩, vt, vb, ve⟩, op, nm, ar, ⟨s5, r5, c5, p5, q5⟩, ⟨s6, r6, c6, p6, q6⟩⟩ : S50) < least) = false by rw [← HTT2.out]; exact b1)
 have HTX := lh (show txt (bra (decide (Ndv (⟨k0, ⟨vk, ⟨vn, vd⟩, vt, vb, ve⟩, op, nm, ar, ⟨s5, r5, c5, p5, q5⟩, ⟨s6, r6, c6, p6, q6⟩⟩ : S50) < least)) U) = txt U by rw [txt_bra, HBR.out]; rfl)
 obtain ⟨bs1, hbs⟩ : ∃ x_, x_ = bs := ⟨_, rfl⟩
 have HL5 := lh (show (bs1 ++ txt U).length ≤ 1000000000 by have h1 := HLEN.out; rw [HTX.out] at h1; rw [hbs]; exact h1)
 have HE := lh (fun (W : World) (tm : Array Value) (h : Wrote w0.heap.size w g (bs1 ++ txt U) (.slice (some ad) l.length c) ((l.length : Int) - q.length) W) => ends_plain (tm := tm) (W := W) (R := fun e w' => e = .returned (.tuple #[]) ∧ Wrote w0.heap.size w g (bs ++ txt (bra (decide (Ndv (⟨k0, ⟨vk, ⟨vn, vd⟩, vt, vb, ve⟩, op, nm, ar, ⟨s5, r5, c5, p5, q5⟩, ⟨s6, r6, c6, p6, q6⟩⟩ : S50) < least)) U)) (.slice (some ad) l.length c) ((l.length : Int) - q.length) w') ⟨rfl, by rw [HTX.out]; rw [hbs] at h; exact h⟩)
 have HW5 := lh (show Wrote w0.heap.size w g bs1 (.slice (some ad) l.length c) (at_ + 1) w3 by rw [hbs]; exact HW3.out)
 have J7 := lh J6.out
 clear hbs HLEN HW3 J6 HTX HBR hlt
 obtain ⟨w5, rfl⟩ : ∃ x_ : World, x_ = w3 := ⟨_, rfl⟩
 all_goals
  have f7 : w5.cell? ⟨g4, 7, none⟩ = some (.int .i64 op) := (Naa J7.out 7).trans rfl
  go_upto_region 9 with (go_at_call 74; (with_reducible refine (Na6.calls 2 op (signB op) (Nd4 op) _ HSG.out).mono ?_); rintro en w6 ⟨rfl, hd_⟩; have D6 := lh hd_; clear hd_)
  have J8 := lh (Nad J7.out D6.out.below)
  have HW6 := lh (HW5.out.step HW0.out D6.out.below)
  have HPB := lh HP.out.bel
  have HIX := lh (show at_ + 1 = (l.length : Int) - (l.drop (a + 1)).length by have := HAT.out; simp only [List.length_drop]; omega)
  have HAC := lh (show ((a + 1 : Nat) : Int) = at_ + 1 by have := HAT.out; omega)
  clear J7 HW5 D6 HP HAT
  try clear f7
  have f0 : w6.cell? ⟨g4, 0, none⟩ = some (.int .i64 k0) := (Naa J8.out 0).trans rfl
  have f7 : w6.cell? ⟨g4, 7, none⟩ = some (.int .i64 op) := (Naa J8.out 7).trans rfl
  have hu46 := Tryz.underlying46
  have hu48 := Tryz.underlying48
  by_cases h1 : k0 = 1
  ·subst h1
   have HU1 := HU.out
   rw [if_pos rfl] at HU1
   obtain ⟨rfl, rfl⟩ := Prod.mk.inj (sI HU1)
   have HC := lh (show Calls Tryz.prog 75 #[.pointer (some ⟨g, 0, none⟩), .agg #[.int .i64 vk, .int .i64 vn, .int .i64 vd, .string vt, .bool vb, .int .i64 ve]] w6 (fun e w' => e = .returned (.tuple #[]) ∧ Wrote w0.heap.size w6 g (bs1 ++ txt [L.val ⟨vk, ⟨vn, vd⟩, vt, vb, ve⟩]) (.slice (some ad) l.length c) (at_ + 1) w') from HLF.out.lit rfl w6 g bs1 _ ⟨HW6.out.pr, (HPB.out.trans HW6.out.bel)⟩ (by have h := HL5.out; simp at h; omega))
   clear HU1 HU
   go_wp2_with (first
    | ((with_reducible refine gD 57 rfl ?_); refine Nec rfl (t := 46) (p := .tmp 56) rfl (g := g4) (o' := 1) (e := 50) (cs := [.int .i64 vk, .int .i64 vn, .int .i64 vd, .string vt, .bool vb, .int .i64 ve]) ?ha J8.out ?hc hu46 rfl ?hi ?_; (case ha => rfl); (case hc => rfl); (case hi => kernel_rfl))
    | (go_at_call 75; (with_reducible refine (HC.out).mono ?_); rintro en w7 ⟨rfl, hw⟩; have HW7 := lh (HW6.out.trans hw); clear hw))
   exact HE.out _ _ (by rw [← HIX.out]; exact HW7.out)
  have cb1 : (k0 == 1) = false := beq_eq_false_iff_ne.2 h1
  by_cases h2 : k0 = 2
  ·subst h2
   have HU1 := HU.out
   rw [if_neg (by show ¬ (2 : Int) = 1; decide), if_pos rfl] at HU1
   obtain ⟨rfl, rfl⟩ := Prod.mk.inj (sI HU1)
   have HC := lh (show Calls Tryz.prog 76 #[.pointer (some ⟨g, 0, none⟩), .agg #[.string s5, .int .i64 r5, .int .i64 c5, .bool p5, .bool q5]] w6 (fun e w' => e = .returned (.tuple #[]) ∧ Wrote w0.heap.size w6 g (bs1 ++ txt (refT L ⟨s5, r5, c5, p5, q5⟩)) (.slice (some ad) l.length c) (at_ + 1) w') from HLF.out.one (.inl rfl) w6 g bs1 _ ⟨HW6.out.pr, (HPB.out.trans HW6.out.bel)⟩ (by have h := HL5.out; simp at h; omega))
   clear HU1 HU h1
   go_wp2_with (first
    | ((with_reducible refine gD 65 rfl ?_); refine Nec rfl (t := 48) (p := .tmp 64) rfl (g := g4) (o' := 10) (e := 50) (cs := [.string s5, .int .i64 r5, .int .i64 c5, .bool p5, .bool q5]) ?ha J8.out ?hc hu48 rfl ?hi ?_; (case ha => rfl); (case hc => rfl); (case hi => kernel_rfl))
    | (go_at_call 76; (with_reducible refine (HC.out).mono ?_); rintro en w7 ⟨rfl, hw⟩; have HW7 := lh (HW6.out.trans hw); clear hw))
   exact HE.out _ _ (by rw [← HIX.out]; exact HW7.out)
  have cb2 : (k0 == 2) = false := beq_eq_false_iff_ne.2 h2
  by_cases h3 : k0 = 3
  ·subst h3
   have HU1 := HU.out
   rw [if_neg (by show ¬ (3 : Int) = 1; decide), if_neg (by show ¬ (3 : Int) = 2; decide), if_pos rfl] at HU1
   obtain ⟨rfl, rfl⟩ := Prod.mk.inj (sI HU1)
   have HC := lh (show Calls Tryz.prog 76 #[.pointer (some ⟨g, 0, none⟩), .agg #[.string s5, .int .i64 r5, .int .i64 c5, .bool p5, .bool q5]] w6 (fun e w' => e = .returned (.tuple #[]) ∧ Wrote w0.heap.size w6 g (bs1 ++ txt (refT L ⟨s5, r5, c5, p5, q5⟩)) (.slice (some ad) l.length c) (at_ + 1) w') from HLF.out.one (.inr rfl) w6 g bs1 _ ⟨HW6.out.pr, (HPB.out.trans HW6.out.bel)⟩ (by have h := HL5.out; simp at h; omega))
   have HL7 := lh (show (bs1 ++ txt (refT L ⟨s5, r5, c5, p5, q5⟩)).length + 1 ≤ 1000000000 by have h := HL5.out; simp [Nbr, Nb0, tk5, tk3, Ndu, mk, mB] at h ⊢; omega)
   clear HU1 HU h1 h2
   go_upto_region 15 with (first
    | ((with_reducible refine gD 73 rfl ?_); refine Nec rfl (t := 48) (p := .tmp 72) rfl (g := g4) (o' := 10) (e := 50) (cs := [.string s5, .int .i64 r5, .int .i64 c5, .bool p5, .bool q5]) ?ha J8.out ?hc hu48 rfl ?hi ?_; (case ha => rfl); (case hc => rfl); (case hi => kernel_rfl))
    | (go_at_call 76; (with_reducible refine (HC.out).mono ?_); rintro en w7 ⟨rfl, hw⟩; have HW7 := lh (HW6.out.trans hw); have J9 := lh (hw.far _ _ _ _ NE.out (by decide) J8.out); clear hw))
   go_upto_region 16 with (go_at_call 58; (with_reducible refine (Ncm HW7.out.pr 58 (n := 58) rfl (by have h := HL7.out; omega) (Nat.le_trans HW0.out HW7.out.bel.size)).mono ?_); rintro en w8 ⟨rfl, hw⟩; have HW8 := lh (HW7.out.trans hw); have J10 := lh (hw.far _ _ _ _ NE.out (by decide) J9.out); clear hw)
   have HC2 := lh (show Calls Tryz.prog 76 #[.pointer (some ⟨g, 0, none⟩), .agg #[.string s6, .int .i64 r6, .int .i64 c6, .bool p6, .bool q6]] w8 (fun e w' => e = .returned (.tuple #[]) ∧ Wrote w0.heap.size w8 g (bs1 ++ txt (refT L ⟨s5, r5, c5, p5, q5⟩) ++ [58] ++ txt [(3, L.cel ⟨s6, r6, c6, p6, q6⟩)]) (.slice (some ad) l.length c) (at_ + 1) w') from HLF.out.two rfl w8 g _ _ ⟨HW8.out.pr, (HPB.out.trans HW8.out.bel)⟩ (by have h := HL7.out; simp at h ⊢; omega))
   go_wp2_with (first
    | ((with_reducible refine gD 81 rfl ?_); refine Nec rfl (t := 48) (p := .tmp 80) rfl (g := g4) (o' := 15) (e := 50) (cs := [.string s6, .int .i64 r6, .int .i64 c6, .bool p6, .bool q6]) ?ha J10.out ?hc hu48 rfl ?hi ?_; (case ha => rfl); (case hc => rfl); (case hi => kernel_rfl))
    | (go_at_call 76; (with_reducible refine (HC2.out).mono ?_); rintro en w9 ⟨rfl, hw⟩; have HW9 := lh (HW8.out.trans hw); clear hw))
   exact HE.out _ _ (by have h := HW9.out; rw [← HIX.out]; rw [show bs1 ++ txt (refT L ⟨s5, r5, c5, p5, q5⟩ ++ [mk [58], (3, L.cel ⟨s6, r6, c6, p6, q6⟩)]) = bs1 ++ txt (refT L ⟨s5, r5, c5, p5, q5⟩) ++ [58] ++ txt [(3, L.cel ⟨s6, r6, c6, p6, q6⟩)] by rw [Nbr]; simp [Nb0, tk5, tk3, mk, mB]]; exact h)
  have cb3 : (k0 == 3) = false := beq_eq_false_iff_ne.2 h3
  by_cases h6 : k0 = 6
  ·subst h6
   have HU1 := HU.out
   rw [if_neg (by show ¬ (6 : Int) = 1; decide), if_neg (by show ¬ (6 : Int) = 2; decide), if_neg (by show ¬ (6 : Int) = 3; decide), if_pos rfl] at HU1
   obtain ⟨⟨V1, q1⟩, hV1, hE1⟩ := Option.map_eq_some_iff.1 HU1
   obtain ⟨rfl, rfl⟩ := Prod.mk.inj hE1
   have HC := lh (show Calls Tryz.prog 77 #[.pointer (some ⟨g, 0, none⟩), .agg #[.int .i64 6, .int .i64 vk, .int .i64 vn, .int .i64 vd, .string vt, .bool vb, .int .i64 ve, .int .i64 op, .string nm, .int .i64 ar, .string s5, .int .i64 r5, .int .i64 c5, .bool p5, .bool q5, .string s6, .int .i64 r6, .int .i64 c6, .bool p6, .bool q6]] w6 (fun e w' => e = .returned (.tuple #[]) ∧ Wrote w0.heap.size w6 g (bs1 ++ txt ((3, nm) :: mk [40] :: (V1 ++ [mk [41]]))) (.slice (some ad) l.length c) ((l.length : Int) - q1.length) w') from HIC.out (⟨6, ⟨vk, ⟨vn, vd⟩, vt, vb, ve⟩, op, nm, ar, ⟨s5, r5, c5, p5, q5⟩, ⟨s6, r6, c6, p6, q6⟩⟩ : S50) w6 g bs1 (a + 1) V1 q1 HNM.out HAR.out (by omega) ⟨by rw [HAC.out]; exact HW6.out.pr, (HPB.out.trans HW6.out.bel)⟩ hV1 HL5.out)
   clear HU1 HU hV1 hE1 h1 h2 h3
   go_wp2_with (first
    | ((with_reducible refine gD 88 rfl ?_); refine lA J8.out 50 (.tmp 4) hu50 ?_)
    | (go_at_call 77; (with_reducible refine (HC.out).mono ?_); rintro en w7 ⟨rfl, hw⟩; have HW7 := lh (HW6.out.trans hw); clear hw))
   exact HE.out _ _ HW7.out
  have cb6 : (k0 == 6) = false := beq_eq_false_iff_ne.2 h6
  by_cases h5 : k0 = 5
  ·subst h5
   have HU1 := HU.out
   rw [if_neg (by show ¬ (5 : Int) = 1; decide), if_neg (by show ¬ (5 : Int) = 2; decide), if_neg (by show ¬ (5 : Int) = 3; decide), if_neg (by show ¬ (5 : Int) = 6; decide), if_pos rfl] at HU1
   obtain ⟨⟨V1, q1⟩, hV1, hE1⟩ := Option.bind_eq_some_iff.1 HU1
   obtain ⟨⟨V2, q2⟩, hV2, hE2⟩ := Option.map_eq_some_iff.1 hE1
   obtain ⟨rfl, rfl⟩ := Prod.mk.inj hE2
   have htg : tg = Nbu op := HTT2.out
   replace hV1 : tkF L k tg (l.drop (a + 1)) = some (V1, q1) := by rw [htg]; exact hV1
   replace hV2 : tkF L k (tg + 1) q1 = some (V2, q2) := by rw [htg]; exact hV2
   obtain ⟨p1, -, hp1⟩ := (tk_suf L k).1 _ _ _ _ hV1
   obtain ⟨hq1, hq2, hq3⟩ := drop_suf hp1
   have HV2 := lh (show tkF L k (tg + 1) (l.drop (l.length - q1.length)) = some (V2, q2) by rw [hq3]; exact hV2)
   have HQ2 := lh hq2
   have HL7 := lh (show (bs1 ++ txt V1).length + (signB op).data.toList.length + (txt V2).length ≤ 1000000000 by have h := HL5.out; simp [Nbr, Nb0, tk5, tk3, Ndu] at h ⊢; omega)
   have HSL := lh (show (signB op).data.toList.length = (signB op).size from Array.length_toList)
   have HTB := lh (show 1 ≤ tg ∧ tg ≤ 5 by rw [htg]; unfold Nbu; split <;> (try split) <;> (try split) <;> (try split) <;> (try split) <;> (try split) <;> omega)
   have hw2 : wrap64 (tg + 1) = tg + 1 := by have := HTB.out; unfold wrap64; omega
   have HC := lh (show Calls Tryz.prog 50 #[.pointer (some ⟨g, 0, none⟩), .int .i64 tg] w6 (fun e w' => e = .returned (.tuple #[]) ∧ Wrote w0.heap.size w6 g (bs1 ++ txt V1) (.slice (some ad) l.length c) ((l.length : Int) - q1.length) w') from HIH.out tg w6 g bs1 (a + 1) V1 q1 ⟨by rw [HAC.out]; exact HW6.out.pr, (HPB.out.trans HW6.out.bel)⟩ hV1 (by have h := HL7.out; omega))
   clear HU1 HU hV1 hE1 hV2 hE2 htg hp1 hq1 hq2 hq3 h1 h2 h3 h6
   go_upto_region 21 with (go_at_call 50; (with_reducible refine (HC.out).mono ?_); rintro en w7 ⟨rfl, hw⟩; have HW7 := lh (HW6.out.trans hw); clear hw)
   go_upto_region 22 with (go_at_call 59; (with_reducible refine (Na4 HW7.out.pr (signB op) (by have h := HL7.out; have h2 := HSL.out; omega) (Nat.le_trans HW0.out HW7.out.bel.size)).mono ?_); rintro en w8 ⟨rfl, hw⟩; have HW8 := lh (HW7.out.trans hw); clear hw)
   have HC2 := lh (show Calls Tryz.prog 50 #[.pointer (some ⟨g, 0, none⟩), .int .i64 (tg + 1)] w8 (fun e w' => e = .returned (.tuple #[]) ∧ Wrote w0.heap.size w8 g (bs1 ++ txt V1 ++ (signB op).data.toList ++ txt V2) (.slice (some ad) l.length c) ((l.length : Int) - q2.length) w') from HIH.out (tg + 1) w8 g (bs1 ++ txt V1 ++ (signB op).data.toList) (l.length - q1.length) V2 q2 ⟨by rw [HQ2.out]; exact HW8.out.pr, (HPB.out.trans HW8.out.bel)⟩ HV2.out (by have h := HL7.out; simp only [List.length_append] at h ⊢; omega))
   go_wp2_with (go_at_call 50; (with_reducible refine (HC2.out).mono ?_); rintro en w9 ⟨rfl, hw⟩; have HW9 := lh (HW8.out.trans hw); clear hw)
   exact HE.out _ _ (by have h := HW9.out; rw [Nbr, Nb0, ← List.append_assoc, ← List.append_assoc]; exact h)
  have cb5 : (k0 == 5) = false := beq_eq_false_iff_ne.2 h5
  by_cases ho : op = 3
  ·subst ho
   have HU1 := HU.out
   rw [if_neg (show ¬ k0 = 1 from h1), if_neg (show ¬ k0 = 2 from h2), if_neg (show ¬ k0 = 3 from h3), if_neg (show ¬ k0 = 6 from h6), if_neg (show ¬ k0 = 5 from h5), if_pos rfl] at HU1
   obtain ⟨⟨V1, q1⟩, hV1, hE1⟩ := Option.map_eq_some_iff.1 HU1
   obtain ⟨rfl, rfl⟩ := Prod.mk.inj hE1
   have htg : tg = 7 := by rw [HTT2.out]; unfold Ndv; rw [if_neg (show ¬ k0 = 5 from h5), if_neg (fun h => h.2 rfl)]
   subst htg
   have HL7 := lh (show (bs1 ++ txt V1).length + 1 ≤ 1000000000 by have h := HL5.out; simp [Nbr, Nb0, tk5, tk3, Ndu, mk, mB] at h ⊢; omega)
   have HC := lh (show Calls Tryz.prog 50 #[.pointer (some ⟨g, 0, none⟩), .int .i64 7] w6 (fun e w' => e = .returned (.tuple #[]) ∧ Wrote w0.heap.size w6 g (bs1 ++ txt V1) (.slice (some ad) l.length c) ((l.length : Int) - q1.length) w') from HIH.out 7 w6 g bs1 (a + 1) V1 q1 ⟨by rw [HAC.out]; exact HW6.out.pr, (HPB.out.trans HW6.out.bel)⟩ hV1 (by have h := HL7.out; omega))
   clear HU1 HU hV1 hE1 h1 h2 h3 h6 h5
   go_upto_region 25 with (go_at_call 50; (with_reducible refine (HC.out).mono ?_); rintro en w7 ⟨rfl, hw⟩; have HW7 := lh (HW6.out.trans hw); clear hw)
   go_wp2_with (go_at_call 58; (with_reducible refine (Ncm HW7.out.pr 37 (n := 37) rfl (by have h := HL7.out; omega) (Nat.le_trans HW0.out HW7.out.bel.size)).mono ?_); rintro en w8 ⟨rfl, hw⟩; have HW8 := lh (HW7.out.trans hw); clear hw)
   exact HE.out _ _ (by have h := HW8.out; rw [Nbr, ← List.append_assoc]; exact h)
  have cb7 : (op == 3) = false := beq_eq_false_iff_ne.2 ho
  have h4 : k0 = 4 := HK4.out h1 h2 h3 h6 h5
  have HU1 := HU.out
  rw [if_neg (show ¬ k0 = 1 from h1), if_neg (show ¬ k0 = 2 from h2), if_neg (show ¬ k0 = 3 from h3), if_neg (show ¬ k0 = 6 from h6), if_neg (show ¬ k0 = 5 from h5), if_neg (show ¬ op = 3 from ho)] at HU1
  obtain ⟨⟨V1, q1⟩, hV1, hE1⟩ := Option.map_eq_some_iff.1 HU1
  obtain ⟨rfl, rfl⟩ := Prod.mk.inj hE1
  have htg : tg = 6 := by rw [HTT2.out]; unfold Ndv; rw [if_neg (show ¬ k0 = 5 from h5), if_pos ⟨h4, ho⟩]
  subst htg
  have HL7 := lh (show bs1.length + (signB op).data.toList.length + (txt V1).length ≤ 1000000000 by have h := HL5.out; simp [Nbr, Nb0, tk5, tk3, Ndu] at h ⊢; omega)
  have HSL := lh (show (signB op).data.toList.length = (signB op).size from Array.length_toList)
  have HV1 := lh hV1
  clear HU1 HU hV1 hE1 h1 h2 h3 h6 h5 h4 ho
  go_upto_region 8 with (go_at_call 59; (with_reducible refine (Na4 HW6.out.pr (signB op) (by have h := HL7.out; have h2 := HSL.out; omega) (Nat.le_trans HW0.out HW6.out.bel.size)).mono ?_); rintro en w7 ⟨rfl, hw⟩; have HW7 := lh (HW6.out.trans hw); clear hw)
  have HC := lh (show Calls Tryz.prog 50 #[.pointer (some ⟨g, 0, none⟩), .int .i64 6] w7 (fun e w' => e = .returned (.tuple #[]) ∧ Wrote w0.heap.size w7 g (bs1 ++ (signB op).data.toList ++ txt V1) (.slice (some ad) l.length c) ((l.length : Int) - q1.length) w') from HIH.out 6 w7 g (bs1 ++ (signB op).data.toList) (a + 1) V1 q1 ⟨by rw [HAC.out]; exact HW7.out.pr, (HPB.out.trans HW7.out.bel)⟩ HV1.out (by have h := HL7.out; simp only [List.length_append] at h ⊢; omega))
  go_wp2_with (go_at_call 50; (with_reducible refine (HC.out).mono ?_); rintro en w8 ⟨rfl, hw⟩; have HW8 := lh (HW7.out.trans hw); clear hw)
  exact HE.out _ _ (by have h := HW8.out; rw [Nb0, ← List.append_assoc]; exact h)
end Go.Proofs.YtejbbceidnaloaaGreatDoor.P
