import Derived.Test.YtejbbceidnaloaaGreatDoorF8
import Derived.Laws.AppendOwn
set_option linter.unusedVariables false
set_option linter.unusedSimpArgs false
set_option maxRecDepth 100000
set_option maxHeartbeats 8000000
namespace Go.Proofs.YtejbbceidnaloaaGreatDoor.P
open Go.RowKit AW AL AM
theorem Ney : ∀ (seg : List Value) (o : Nat) (cur : Array Value), (Neg cur o seg).size = cur.size
 | [], _, _ => rfl
 | v :: vs, o, cur => by rw [Neg, Ney]; simp
theorem setRun_get : ∀ (seg : List Value) (o : Nat) (cur : Array Value) (k : Nat), o + seg.length ≤ cur.size → (Neg cur o seg)[k]? = if o ≤ k ∧ k < o + seg.length then seg[k - o]? else cur[k]?
 | [], o, cur, k, _ => by rw [Neg, if_neg (by simp only [List.length_nil]; omega)]
 | v :: vs, o, cur, k, h => by
  simp only [List.length_cons] at h
  rw [Neg, setRun_get vs (o + 1) _ k (by simp; omega)]
  simp only [List.length_cons]
  by_cases h1 : o + 1 ≤ k ∧ k < o + 1 + vs.length
  ·rw [if_pos h1, if_pos (by omega), show k - o = (k - (o + 1)) + 1 by omega]; rfl
  ·rw [if_neg h1]
   by_cases h2 : k = o
   ·subst h2
    rw [if_pos (by omega), Nat.sub_self, Array.getElem?_setIfInBounds_self_of_lt (by omega)]; rfl
   ·rw [if_neg (by omega), Array.getElem?_setIfInBounds_ne (by omega)]
def Own (B : Nat) (W : World) (e sz q : Nat) (v : Value) (n : Nat) (f : Nat → Option Int) : Prop :=
 ∃ X, W.ownsRow B e sz v n X ∧ ∀ j < n, ∀ z, f j = some z → X[j * sz + q]? = some (.int .i64 z)
section
variable {B : Nat} {W W1 : World} {e sz q n : Nat} {v : Value} {f : Nat → Option Int}
theorem Own.mono {g : Nat → Option Int} (h : Own B W e sz q v n f) (hg : ∀ j < n, ∀ z, g j = some z → f j = some z) : Own B W e sz q v n g := by
 obtain ⟨X, h1, h2⟩ := h
 exact ⟨X, h1, fun j hj z hz => h2 j hj z (hg j hj z hz)⟩
theorem Own.move (h : Own B W e sz q v n f) (hm : ∀ k, v.ownBlock = some k → W1.heap[k]? = W.heap[k]?) : Own B W1 e sz q v n f := by
 obtain ⟨X, h1, h2⟩ := h
 exact ⟨X, own_move h1 hm, h2⟩
theorem Own.lt (h : Own B W e sz q v n f) (k : Nat) (hk : v.ownBlock = some k) : k < W.heap.size := by
 obtain ⟨X, h1, h2⟩ := h
 exact own_lt h1 k hk
theorem Own.ge (h : Own B W e sz q v n f) (k : Nat) (hk : v.ownBlock = some k) : B ≤ k := by
 obtain ⟨X, h1, h2⟩ := h
 exact own_base h1 k hk
theorem Own.typed (h : Own B W e sz q v n f) (k : Nat) (hk : v.ownBlock = some k) : ∃ cells, W.heap[k]? = some (.cells cells e (0, 0)) := by
 obtain ⟨X, h1, h2⟩ := h
 exact own_typed h1 k hk
theorem Own.below (h : Own B W e sz q v n f) (hb : Below W.heap.size W W1) : Own B W1 e sz q v n f := h.move fun k hk => hb.block k (h.lt k hk)
theorem Own.put {g : Nat} (h : Own B W e sz q v n f) (hp : Put g W W1) (hne : v.ownBlock ≠ some g) : Own B W1 e sz q v n f := h.move fun k hk => hp.far k (fun e => hne (by rw [hk, e]))
theorem Own.cell (h : Own B W e sz q v n f) (j : Nat) (z : Int) (hj : j < n) (hz : f j = some z) (hq : q < sz) : ∃ g c, v = .slice (some ⟨g, 0, none⟩) n c ∧ W.cell? ⟨g, j * sz + q, none⟩ = some (.int .i64 z) := by
 obtain ⟨X, h1, h2⟩ := h
 have hx := h2 j hj z hz
 rcases h1.2 with ⟨rfl, rfl⟩ | ⟨g, c, cur, rfl, hg, hh, hc, _, hs, ht⟩
 ·omega
 ·refine ⟨g, c, rfl, ?_⟩
  rw [Naa hh]
  rw [← ht, List.getElem?_take] at hx
  split at hx
  ·simpa using hx
  ·cases hx
theorem Own.slice (h : Own B W e sz q v n f) (hn : 0 < n) : ∃ g c, v = .slice (some ⟨g, 0, none⟩) n c ∧ n ≤ c := by
 obtain ⟨X, h1, h2⟩ := h
 rcases h1.2 with ⟨rfl, rfl⟩ | ⟨g, c, cur, rfl, hg, hh, hc, _, hs, ht⟩
 ·omega
 ·exact ⟨g, c, rfl, hc⟩
theorem stO {ops : Array Oper} {rest : List Oper} {o : Oper} {a : Act} {Q : Exit → Act → World → Prop} {g c : Nat} (hO : Own B W e sz q (.slice (some ⟨g, 0, none⟩) n c) n f) (t : TypeId) (p x : Operand) (i : Nat) (u : Value) (z : Int) (hi : i < n) (hu : u.cells.toList.length = sz) (hz : u.cells.toList[q]? = some (.int .i64 z))
 (h : ∀ w1, Own B w1 e sz q (.slice (some ⟨g, 0, none⟩) n c) n (fun j => if j = i then some z else f j) → Put g W w1 → wpList Tryz.prog ops Q rest a w1)
 (ha : a.eval p = .pointer (some ⟨g, i * sz, none⟩)) (hN : o.dst = none := by exact rfl) (hgd : o.guard = none := by exact rfl) (ho : o.op = .store t p x := by exact rfl) (hx : a.eval x = u := by exact rfl) (ht : (Tryz.prog.info? t).map (·.size) = some u.cells.toList.length := by kernel_rfl) (h1 : u.cells.toList.all (·.oneCell') = true := by exact rfl) : wpList Tryz.prog ops Q (o :: rest) a W := by
 obtain ⟨X, hX, hf⟩ := hO
 rcases hX.2 with ⟨hv, _⟩ | ⟨g', c', cur, hv, hg, hh, hc, hm, hs, htk⟩
 ·cases hv
 ·cases hv
  have hle : (i + 1) * sz ≤ n * sz := Nat.mul_le_mul_right _ hi
  have hle2 : n * sz ≤ c * sz := Nat.mul_le_mul_right _ hc
  rw [Nat.add_mul, Nat.one_mul] at hle
  refine Nb5 hN hgd ho ha hx rfl ht hh (by rw [hu, hs]; omega) h1 rfl fun w1 hw hp => h w1 ⟨(Neg cur (i * sz) u.cells.toList).toList.take (n * sz), ⟨?_, .inr ⟨g, c, _, rfl, hg, hw, hc, hm, ?_, rfl⟩⟩, fun j hj y hy => ?_⟩ hp
  ·rw [List.length_take, Array.length_toList, Ney, hs]; omega
  ·rw [Ney, hs]
  ·have hlj : (j + 1) * sz ≤ n * sz := Nat.mul_le_mul_right _ hj
   rw [Nat.add_mul, Nat.one_mul] at hlj
   have hq : q < sz := by
    rw [← hu]
    exact (List.getElem?_eq_some_iff.1 hz).1
   rw [List.getElem?_take, if_pos (by omega), Array.getElem?_toList, setRun_get _ _ _ _ (by rw [hu, hs]; omega)]
   by_cases hji : j = i
   ·subst hji
    dsimp only at hy
    rw [if_pos rfl] at hy
    rw [if_pos (by rw [hu]; omega), Nat.add_sub_cancel_left, hz, sI hy]
   ·dsimp only at hy
    rw [if_neg hji] at hy
    have hd : j * sz + q < i * sz ∨ i * sz + sz ≤ j * sz + q := by
     rcases Nat.lt_or_gt_of_ne hji with hlt | hgt
     ·have : (j + 1) * sz ≤ i * sz := Nat.mul_le_mul_right _ hlt
      rw [Nat.add_mul, Nat.one_mul] at this
      omega
     ·have : (i + 1) * sz ≤ j * sz := Nat.mul_le_mul_right _ hgt
      rw [Nat.add_mul, Nat.one_mul] at this
      omega
    rw [if_neg (by rw [hu]; omega)]
    have := hf j hj y hy
    rw [← htk, List.getElem?_take, if_pos (by omega), Array.getElem?_toList] at this
    exact this
theorem run_keep (w : World) (base : Nat) (t ty e : TypeId) (i : TypeInfo) (z : Value) (size bytes : Nat) (ht : Tryz.prog.underlying t = some (.slice e)) (hi : Tryz.prog.info? e = some i) (hz : i.zero = some z)
 (hsize : i.size = size) (hby : i.bytes = bytes) (hzs : z.cells.size = size) (hsz : 0 < size) (v : Value) (n : Nat) (xs : List Value) (hown : w.ownsRow base e size v n xs)
 (a : Addr) (c : Nat) (news : List Value) (hl : news.length = size) (hnews : ∀ j u, news[j]? = some u → w.cell? (a.add j) = some u) (h1 : ∀ u ∈ news, u.oneCell' = true)
 (h63 : n + 1 ≤ maxLen) (hbytes : (n + 1) * bytes ≤ 140737488355328) (hbase : base ≤ w.heap.size) :
 ∃ v' w', (Builtin.append_ #[t, t] ty #[v, .slice (some a) 1 c]).run Tryz.prog w = .ok v' w' ∧ w'.ownsRow base e size v' (n + 1) (xs ++ news) ∧ w.grownBy w' v.ownBlock ∧ (v'.ownBlock = v.ownBlock ∨ ∃ b, v'.ownBlock = some b ∧ w.heap.size ≤ b) ∧
  (∀ u N ys (s2 : Nat) b2, w.ownsRow b2 e s2 u N ys → (∀ k, u.ownBlock = some k → v.ownBlock = some k → N * s2 ≤ n * size) → w'.ownsRow b2 e s2 u N ys) := by
 obtain ⟨v', w', hr, h2, h3, h4⟩ := run_append_own (P := Tryz.prog) w base t ty e i z size bytes ht hi hz hsize hby hzs hsz v n xs hown a 1 c news (by rw [hl, Nat.one_mul]) hnews h1 h63 hbytes hbase
 subst hsize
 subst hby
 rcases hown.2 with ⟨hv, hn⟩ | ⟨g, cap, cur, hv, hbg, hg, hnc, hcm, hcs, htake⟩
 ·subst hv
  subst hn
  have hx : xs = [] := List.eq_nil_of_length_eq_zero (by simpa using hown.1)
  subst hx
  have hr' := run_append_nil (P := Tryz.prog) w t ty e i z ht hi hz a 1 c news (by rw [hl, Nat.one_mul]) hnews (by decide) (by omega) (by omega)
  rw [hr'] at hr
  injection hr with hr1 hr2
  subst hr1
  subst hr2
  refine ⟨_, _, hr', h2, h3, .inr ⟨w.heap.size, rfl, Nat.le_refl _⟩, fun u N ys s2 b2 hu _ => ?_⟩
  exact own_move hu fun k hk => (Go.heap_alloc_old w.drew _ (own_lt hu k hk) : _)
 ·subst hv
  by_cases hroom : n + 1 ≤ cap
  ·have hfit : n * i.size + news.length ≤ cur.size := by
    rw [hl, hcs]
    have := Nat.mul_le_mul_right i.size hroom
    rw [Nat.add_mul, Nat.one_mul] at this
    exact this
   have hr' := run_append_room (P := Tryz.prog) w t ty e i ht hi g n cap cur hg a 1 c news (by rw [hl, Nat.one_mul]) hnews h1 hroom hfit
   rw [hr'] at hr
   injection hr with hr1 hr2
   subst hr1
   subst hr2
   refine ⟨_, _, hr', h2, h3, .inl rfl, fun u N ys s2 b2 hu hk => ?_⟩
   by_cases hug : u.ownBlock = some g
   ·obtain ⟨hu1, hu2⟩ := hu
    rcases hu2 with ⟨rfl, _⟩ | ⟨g2, cap2, cur2, rfl, hb2, hh2, hnc2, hcm2, hcs2, htk2⟩
    ·cases hug
    ·have hgg : g2 = g := by simpa [Value.ownBlock] using hug
     subst hgg
     rw [hg] at hh2
     injection hh2 with hh2
     injection hh2 with hh2
     subst hh2
     have hN := hk g2 rfl rfl
     refine ⟨hu1, .inr ⟨g2, cap2, _, rfl, hb2, setRow_heap w g2 cur _ e _ hg, hnc2, hcm2, ?_, ?_⟩⟩
     ·simp only [List.size_toArray, List.length_append, List.length_take, List.length_drop, Array.length_toList]
      omega
     ·rw [← htk2, List.append_assoc, List.take_append_of_le_length (by rw [List.length_take, Array.length_toList]; omega), List.take_take, Nat.min_eq_left hN]
   ·exact own_move hu fun k hk' => setRow_other w g k _ (fun e => hug (by rw [hk', e]))
  ·have holds : ∀ j u, xs[j]? = some u → w.cell? ((⟨g, 0, none⟩ : Addr).add j) = some u := hown.cells (g := g) rfl
   have hr' := run_append_grow (P := Tryz.prog) w t ty e i z ht hi hz ⟨g, 0, none⟩ n cap xs hown.1 holds a 1 c news (by rw [hl, Nat.one_mul]) hnews (by omega) (by simp only [maxLen] at h63; omega) (growslice_fits (by omega) hbytes)
   rw [hr'] at hr
   injection hr with hr1 hr2
   subst hr1
   subst hr2
   refine ⟨_, _, hr', h2, h3, .inr ⟨w.heap.size, rfl, Nat.le_refl _⟩, fun u N ys s2 b2 hu _ => ?_⟩
   exact own_move hu fun k hk => (Go.heap_alloc_old w.drew _ (own_lt hu k hk) : _)
def Keeps (W W1 : World) (e : Nat) (v : Value) (n sz : Nat) : Prop :=
 (∀ u N s2 b2 q2 f2, Own b2 W e s2 q2 u N f2 → (∀ k, u.ownBlock = some k → v.ownBlock = some k → N * s2 ≤ n * sz) → Own b2 W1 e s2 q2 u N f2) ∧ (∀ u N e2 s2 b2 q2 f2, e2 ≠ e → Own b2 W e2 s2 q2 u N f2 → Own b2 W1 e2 s2 q2 u N f2)
theorem apO {ops : Array Oper} {rest : List Oper} {o : Oper} {a : Act} {Q : Exit → Act → World → Prop} (hO : Own B W e sz q v n f) (s x : Operand) (t : TypeId) (z0 : Value) (bytes : Nat) {g c : Nat} {news : List Value} {z : Int} (hz : news[q]? = some (.int .i64 z)) (hl : news.length = sz) (hn : W.heap[g]? = some (.cells news.toArray e (0, 0))) (hall : news.all (·.oneCell') = true)
 (hu : Tryz.prog.underlying t = some (.slice e)) (hinfo : (Tryz.prog.info? e).map (fun i => (i.zero, i.size, i.bytes)) = some (some z0, sz, bytes)) (hzs : z0.cells.size = sz) (hb : bytes ≤ 176) (hn63 : n ≤ 1000000) (hB : B ≤ W.heap.size)
 (h : ∀ v1 w1, Own B w1 e sz q v1 (n + 1) (fun j => if j < n then f j else some z) → W.grownBy w1 v.ownBlock → (v1.ownBlock = v.ownBlock ∨ ∃ b, v1.ownBlock = some b ∧ W.heap.size ≤ b) → Keeps W w1 e v n sz → wpList Tryz.prog ops Q rest (a.put o.dst v1) w1)
 (hs : a.eval s = v := by exact rfl) (hx : a.eval x = .slice (some ⟨g, 0, none⟩) 1 c := by exact rfl) (ho : o.op = .call { callee := .builtin .append, args := #[s, x], argTypes := #[t, t] } := by exact rfl) (hgd : o.guard = none := by exact rfl) : wpList Tryz.prog ops Q (o :: rest) a W := by
 obtain ⟨i, hi, hz0, hsize, hby⟩ := info_parts hinfo
 obtain ⟨X, hX, hf⟩ := hO
 have hq : q < sz := by rw [← hl]; exact (List.getElem?_eq_some_iff.1 hz).1
 obtain ⟨v', w', hr, h2, h3, h4, h5⟩ := run_keep W B t o.type e i z0 sz bytes hu hi hz0 hsize hby hzs (by omega) v n X hX ⟨g, 0, none⟩ c news hl (fun j u hju => by
  rw [add_plain, Naa hn]; simpa using hju) (fun u hu => List.all_eq_true.mp hall u hu) (by simp only [maxLen]; omega) (by have := Nat.mul_le_mul (show n + 1 ≤ 1000001 by omega) hb; omega) hB
 refine wpList_plain hgd fun K hK => ?_
 unfold Oper.wp execOp
 simp only [ho, resolve, invoke, builtin, Sem.run_bind, Sem.run_pure, Result.andThen_ok, List.map_toArray, List.map_cons, List.map_nil, hs, hx, hr]
 refine hK _ _ (h v' w' ⟨_, h2, fun j hj y hy => ?_⟩ h3 h4 ⟨fun u N s2 b2 q2 f2 hu hk => ?_, fun u N e2 s2 b2 q2 f2 he hu => ?_⟩)
 ·dsimp only at hy
  by_cases hjn : j < n
  ·rw [if_pos hjn] at hy
   have hlj : (j + 1) * sz ≤ n * sz := Nat.mul_le_mul_right _ hjn
   rw [Nat.add_mul, Nat.one_mul] at hlj
   rw [List.getElem?_append_left (by rw [hX.1]; omega)]
   exact hf j hjn y hy
  ·rw [if_neg hjn] at hy
   obtain rfl : j = n := by omega
   rw [List.getElem?_append_right (by rw [hX.1]; omega), hX.1, Nat.add_sub_cancel_left, hz, sI hy]
 ·obtain ⟨Y, hY, hg⟩ := hu
  exact ⟨Y, h5 u N Y s2 b2 hY hk, hg⟩
 ·refine hu.move fun k hk => h3.block k (hu.lt k hk) fun hkv => ?_
  obtain ⟨c1, hc1⟩ := hu.typed k hk
  obtain ⟨c2, hc2⟩ := own_typed hX k hkv.symm
  rw [hc1] at hc2
  injection hc2 with hc2
  injection hc2 with _ hc2
  exact he hc2
end
theorem own50 {w2 : World} {B base : Nat} {ok : Nat → Prop} {v : Value} {l : List S50} (h : Kd.R k50 50 w2 base ok v l) (hB : B ≤ base) : Own B w2 50 20 9 v l.length (fun _ => none) := by
 obtain ⟨X, hX⟩ := Kd.R_own h
 exact ⟨X, own_weaken hX hB, fun j _ z hz => by cases hz⟩
theorem own3 {w2 : World} {B base : Nat} {ok : Nat → Prop} {v : Value} {l : List Int} (h : Kd.R (Kd.int .i64) 3 w2 base ok v l) (hB : B ≤ base) : Own B w2 3 1 0 v l.length (fun _ => none) := by
 obtain ⟨X, hX⟩ := Kd.R_own h
 exact ⟨X, own_weaken hX hB, fun j _ z hz => by cases hz⟩
theorem Own.apart {B B' : Nat} {W : World} {e e' sz sz' q q' n n' : Nat} {v v' : Value} {f f' : Nat → Option Int} (h : Own B W e sz q v n f) (h' : Own B' W e' sz' q' v' n' f') (he : e ≠ e') (k : Nat) (hk : v.ownBlock = some k) : v'.ownBlock ≠ some k := fun hk' => by
 obtain ⟨c1, hc1⟩ := h.typed k hk
 obtain ⟨c2, hc2⟩ := h'.typed k hk'
 rw [hc1] at hc2
 injection hc2 with hc2
 injection hc2 with _ hc2
 exact he hc2
structure F4 (B : Nat) (W : World) (n m : Nat) (v3 v6 v9 v10 : Value) (f3 f6 f9 f10 : Nat → Option Int) : Prop where
 p1 : Own B W 50 20 9 v3 n f3
 p2 : Own B W 50 20 9 v6 n f6
 p3 : Own B W 3 1 0 v9 m f9
 p4 : Own B W 3 1 0 v10 m f10
 d1 : ∀ k, v3.ownBlock = some k → v6.ownBlock ≠ some k
 d2 : ∀ k, v9.ownBlock = some k → v10.ownBlock ≠ some k
section
variable {B : Nat} {W W1 : World} {n m : Nat} {v3 v6 v9 v10 : Value} {f3 f6 f9 f10 f : Nat → Option Int} {g : Nat}
theorem F4.wl (h : F4 B W n m v3 v6 v9 v10 f3 f6 f9 f10) (hv : v3.ownBlock = some g) (hO : Own B W1 50 20 9 v3 n f) (hp : Put g W W1) : F4 B W1 n m v3 v6 v9 v10 f f6 f9 f10 :=
 ⟨hO, h.p2.put hp (h.d1 g hv), h.p3.put hp (h.p1.apart h.p3 (by decide) g hv), h.p4.put hp (h.p1.apart h.p4 (by decide) g hv), h.d1, h.d2⟩
theorem F4.wm (h : F4 B W n m v3 v6 v9 v10 f3 f6 f9 f10) (hv : v6.ownBlock = some g) (hO : Own B W1 50 20 9 v6 n f) (hp : Put g W W1) : F4 B W1 n m v3 v6 v9 v10 f3 f f9 f10 :=
 ⟨h.p1.put hp (fun e => h.d1 g e hv), hO, h.p3.put hp (h.p2.apart h.p3 (by decide) g hv), h.p4.put hp (h.p2.apart h.p4 (by decide) g hv), h.d1, h.d2⟩
theorem F4.wx (h : F4 B W n m v3 v6 v9 v10 f3 f6 f9 f10) (hv : v9.ownBlock = some g) (hO : Own B W1 3 1 0 v9 m f) (hp : Put g W W1) : F4 B W1 n m v3 v6 v9 v10 f3 f6 f f10 :=
 ⟨h.p1.put hp (h.p3.apart h.p1 (by decide) g hv), h.p2.put hp (h.p3.apart h.p2 (by decide) g hv), hO, h.p4.put hp (h.d2 g hv), h.d1, h.d2⟩
theorem F4.wy (h : F4 B W n m v3 v6 v9 v10 f3 f6 f9 f10) (hv : v10.ownBlock = some g) (hO : Own B W1 3 1 0 v10 m f) (hp : Put g W W1) : F4 B W1 n m v3 v6 v9 v10 f3 f6 f9 f :=
 ⟨h.p1.put hp (h.p4.apart h.p1 (by decide) g hv), h.p2.put hp (h.p4.apart h.p2 (by decide) g hv), h.p3.put hp (fun e => h.d2 g e hv), hO, h.d1, h.d2⟩
end
def fA (z : Int) (i : Nat) : Nat → Option Int := fun j => if j < i then some (z + (j : Int)) else none
def fB (z y : Int) (n : Nat) : Nat → Option Int := fun j => if j < n then some (z + (j : Int)) else some y
theorem fA_step {z : Int} {i : Nat} : ∀ j x, fA z (i + 1) j = some x → (if j = i then some (z + (i : Int)) else fA z i j) = some x := fun j x h => by
 unfold fA at h ⊢
 by_cases hj : j = i
 ·subst hj; rw [if_pos rfl]; rw [if_pos (by omega)] at h; exact h
 ·rw [if_neg hj]
  by_cases h2 : j < i
  ·rw [if_pos h2]; rw [if_pos (by omega)] at h; exact h
  ·rw [if_neg (by omega)] at h; cases h
structure F8 (B : Nat) (W : World) (n m : Nat) (v3 v6 v9 v10 v16 v17 v18 v19 : Value) (a b c d : Nat) : Prop where
 p1 : Own B W 50 20 9 v3 n (fA 1000 n)
 p2 : Own B W 50 20 9 v6 n (fA 2000 n)
 p3 : Own B W 3 1 0 v9 m (fA 5000 m)
 p4 : Own B W 3 1 0 v10 m (fA 6000 m)
 p5 : Own B W 50 20 9 v16 (n + a) (fB 1000 (-1) n)
 p6 : Own B W 50 20 9 v17 (n + b) (fB 2000 (-2) n)
 p7 : Own B W 3 1 0 v18 (m + c) (fB 5000 (-1) m)
 p8 : Own B W 3 1 0 v19 (m + d) (fB 6000 (-2) m)
 d1 : ∀ k, v16.ownBlock = some k → v17.ownBlock ≠ some k
 d2 : ∀ k, v18.ownBlock = some k → v19.ownBlock ≠ some k
section
variable {B : Nat} {W W1 : World} {n m : Nat} {v3 v6 v9 v10 v16 v17 v18 v19 v : Value} {a b c d : Nat}
theorem F4.grow (h : F4 B W n m v3 v6 v9 v10 (fA 1000 n) (fA 2000 n) (fA 5000 m) (fA 6000 m)) : F8 B W n m v3 v6 v9 v10 v3 v6 v9 v10 0 0 0 0 := by
 have hx : ∀ (z y : Int) (n : Nat), ∀ j < n, ∀ x, fB z y n j = some x → fA z n j = some x := fun z y n j hj x hx => by
  unfold fA; unfold fB at hx; rw [if_pos hj] at hx ⊢; exact hx
 exact ⟨h.p1, h.p2, h.p3, h.p4, h.p1.mono (hx _ _ _), h.p2.mono (hx _ _ _), h.p3.mono (hx _ _ _), h.p4.mono (hx _ _ _), h.d1, h.d2⟩
theorem F8.below (h : F8 B W n m v3 v6 v9 v10 v16 v17 v18 v19 a b c d) (hb : Below W.heap.size W W1) : F8 B W1 n m v3 v6 v9 v10 v16 v17 v18 v19 a b c d :=
 ⟨h.p1.below hb, h.p2.below hb, h.p3.below hb, h.p4.below hb, h.p5.below hb, h.p6.below hb, h.p7.below hb, h.p8.below hb, h.d1, h.d2⟩
theorem fB_step {z y : Int} {n a : Nat} : ∀ j < n + a + 1, ∀ x, fB z y n j = some x → (if j < n + a then fB z y n j else some y) = some x := fun j hj x h => by
 by_cases h2 : j < n + a
 ·rw [if_pos h2]; exact h
 ·rw [if_neg h2]; unfold fB at h; rw [if_neg (by omega)] at h; exact h
theorem new_apart {u v v1 : Value} {e sz q N : Nat} {f : Nat → Option Int} (hu : Own B W e sz q u N f) (hd : ∀ k, v.ownBlock = some k → u.ownBlock ≠ some k) (hat : v1.ownBlock = v.ownBlock ∨ ∃ b, v1.ownBlock = some b ∧ W.heap.size ≤ b) : ∀ k, v1.ownBlock = some k → u.ownBlock ≠ some k := fun k hk hk' => by
 rcases hat with e | ⟨b, e, hb⟩
 ·exact hd k (e ▸ hk) hk'
 ·have h1 := hu.lt k hk'
  rw [hk] at e
  injection e with e
  omega
theorem F8.ag (h : F8 B W n m v3 v6 v9 v10 v16 v17 v18 v19 a b c d) (hO : Own B W1 50 20 9 v (n + a + 1) (fun j => if j < n + a then fB 1000 (-1) n j else some (-1))) (hat : v.ownBlock = v16.ownBlock ∨ ∃ b, v.ownBlock = some b ∧ W.heap.size ≤ b) (hk : Keeps W W1 50 v16 (n + a) 20) : F8 B W1 n m v3 v6 v9 v10 v v17 v18 v19 (a + 1) b c d :=
 ⟨hk.1 _ _ _ _ _ _ h.p1 (fun _ _ _ => by omega), hk.1 _ _ _ _ _ _ h.p2 (fun _ _ _ => by omega), hk.2 _ _ _ _ _ _ _ (by decide) h.p3, hk.2 _ _ _ _ _ _ _ (by decide) h.p4, hO.mono fB_step, hk.1 _ _ _ _ _ _ h.p6 (fun k e1 e2 => absurd e1 (h.d1 k e2)), hk.2 _ _ _ _ _ _ _ (by decide) h.p7, hk.2 _ _ _ _ _ _ _ (by decide) h.p8, new_apart h.p6 h.d1 hat, h.d2⟩
theorem F8.ah (h : F8 B W n m v3 v6 v9 v10 v16 v17 v18 v19 a b c d) (hO : Own B W1 50 20 9 v (n + b + 1) (fun j => if j < n + b then fB 2000 (-2) n j else some (-2))) (hat : v.ownBlock = v17.ownBlock ∨ ∃ b, v.ownBlock = some b ∧ W.heap.size ≤ b) (hk : Keeps W W1 50 v17 (n + b) 20) : F8 B W1 n m v3 v6 v9 v10 v16 v v18 v19 a (b + 1) c d :=
 ⟨hk.1 _ _ _ _ _ _ h.p1 (fun _ _ _ => by omega), hk.1 _ _ _ _ _ _ h.p2 (fun _ _ _ => by omega), hk.2 _ _ _ _ _ _ _ (by decide) h.p3, hk.2 _ _ _ _ _ _ _ (by decide) h.p4, hk.1 _ _ _ _ _ _ h.p5 (fun k e1 e2 => absurd e2 (h.d1 k e1)), hO.mono fB_step, hk.2 _ _ _ _ _ _ _ (by decide) h.p7, hk.2 _ _ _ _ _ _ _ (by decide) h.p8, fun k e1 e2 => new_apart h.p5 (fun k e e' => h.d1 k e' e) hat k e2 e1, h.d2⟩
theorem F8.au (h : F8 B W n m v3 v6 v9 v10 v16 v17 v18 v19 a b c d) (hO : Own B W1 3 1 0 v (m + c + 1) (fun j => if j < m + c then fB 5000 (-1) m j else some (-1))) (hat : v.ownBlock = v18.ownBlock ∨ ∃ b, v.ownBlock = some b ∧ W.heap.size ≤ b) (hk : Keeps W W1 3 v18 (m + c) 1) : F8 B W1 n m v3 v6 v9 v10 v16 v17 v v19 a b (c + 1) d :=
 ⟨hk.2 _ _ _ _ _ _ _ (by decide) h.p1, hk.2 _ _ _ _ _ _ _ (by decide) h.p2, hk.1 _ _ _ _ _ _ h.p3 (fun _ _ _ => by omega), hk.1 _ _ _ _ _ _ h.p4 (fun _ _ _ => by omega), hk.2 _ _ _ _ _ _ _ (by decide) h.p5, hk.2 _ _ _ _ _ _ _ (by decide) h.p6, hO.mono fB_step, hk.1 _ _ _ _ _ _ h.p8 (fun k e1 e2 => absurd e1 (h.d2 k e2)), h.d1, new_apart h.p8 h.d2 hat⟩
theorem F8.aw (h : F8 B W n m v3 v6 v9 v10 v16 v17 v18 v19 a b c d) (hO : Own B W1 3 1 0 v (m + d + 1) (fun j => if j < m + d then fB 6000 (-2) m j else some (-2))) (hat : v.ownBlock = v19.ownBlock ∨ ∃ b, v.ownBlock = some b ∧ W.heap.size ≤ b) (hk : Keeps W W1 3 v19 (m + d) 1) : F8 B W1 n m v3 v6 v9 v10 v16 v17 v18 v a b c (d + 1) :=
 ⟨hk.2 _ _ _ _ _ _ _ (by decide) h.p1, hk.2 _ _ _ _ _ _ _ (by decide) h.p2, hk.1 _ _ _ _ _ _ h.p3 (fun _ _ _ => by omega), hk.1 _ _ _ _ _ _ h.p4 (fun _ _ _ => by omega), hk.2 _ _ _ _ _ _ _ (by decide) h.p5, hk.2 _ _ _ _ _ _ _ (by decide) h.p6, hk.1 _ _ _ _ _ _ h.p7 (fun k e1 e2 => absurd e2 (h.d2 k e1)), hO.mono fB_step, h.d1, fun k e1 e2 => new_apart h.p7 (fun k e e' => h.d2 k e' e) hat k e2 e1⟩
end
def Nau.l0 : Nat → List Int → List Int → Int → Option (Bool)
 | 0, _, _, _ => none
 | k + 1, x0, x1, x5 => if x5 < (x0.length : Int) then (if 0 ≤ x5 then (if x5 < (x1.length : Int) then (if (rd x0 x5) = (rd x1 x5) then (Nau.l0 k x0 x1 (wrap64 (x5 + 1))) else (some false)) else (none)) else (none)) else (some true)
def Nau.f (k : Nat) (l0 l1 : List Int) : Option (Bool) := if (l0.length : Int) = (l1.length : Int) then (Nau.l0 k l0 l1 0) else (some false)
theorem Nau.calls (k : Nat) (A0 : Option Addr) (c0 : Nat) (l0 : List Int) (A1 : Option Addr) (c1 : Nat) (l1 : List Int) (r : Bool) (w : World) (hr0 : Kd.C (Kd.int .i64) w A0 l0.length l0) (hc0 : l0.length ≤ c0) (hr1 : Kd.C (Kd.int .i64) w A1 l1.length l1) (hc1 : l1.length ≤ c1) (h : Nau.f k l0 l1 = some r) :
 Calls Tryz.prog 33 #[.slice A0 l0.length c0, .slice A1 l1.length c1] w fun e w' => e = .returned (.bool r) ∧ Na4 w w' := by
 have HR0 := aM hr0
 have HC0 := aM hc0
 clear hr0 hc0
 have HR1 := aM hr1
 have HC1 := aM hc1
 clear hr1 hc1
 have H := h
 unfold Nau.f at H
 clear h
 by_cases c3 : (l0.length : Int) = (l1.length : Int)
 ·rw [if_pos c3] at H
  obtain ⟨c3b0, c3b1⟩ := bqT c3
  have c3b2 : (l0.length == l1.length) = true := by first | simpa using c3 | (simp at c3 ⊢; omega)
  clear c3
  have H' := aM H
  clear H
  go_enter Tryz.func33, Tryz.ntmps33
  go_wp2
  repeat (go_quiet (fail); try go_wp2)
  go_loopg [5] k (fun kq v5 w' => ∃ (x5_1 : Int), v5 = .int .i64 x5_1 ∧ Nah (Nau.l0 kq l0 l1 x5_1 = some r) ∧ Nah (kq ≤ k) ∧ Na4 w w')
  case atStart => exact ⟨(0), (by first | rfl | (simp; done) | (simp [*]; done)), H', ⟨Nat.le_refl _⟩, dE⟩
  case round =>
   clear H'
   try clear c1
   try clear p2
   try clear c3
   try clear c3b0
   try clear c3b1
   try clear c3b2
   obtain ⟨x5_1, rfl, HA, HK1, ⟨m1, rfl⟩⟩ := hrel
   cases gk with
   | zero => exact absurd HA.out (by simp [Nau.l0])
   | succ k1 =>
    have H := HA.out
    clear HA
    simp only [Nau.l0] at H
    by_cases c4 : x5_1 < (l0.length : Int)
    ·rw [if_pos c4] at H
     have c4b0 : decide (x5_1 < (l0.length : Int)) = true := decide_eq_true c4
     clear c4
     by_cases c5 : 0 ≤ x5_1
     ·rw [if_pos c5] at H
      have c5b0 : decide (0 ≤ x5_1) = true := decide_eq_true c5
      clear c5
      by_cases c6 : x5_1 < (l1.length : Int)
      ·rw [if_pos c6] at H
       have c6b0 : decide (x5_1 < (l1.length : Int)) = true := decide_eq_true c6
       clear c6
       by_cases c7 : (rd l0 x5_1) = (rd l1 x5_1)
       ·rw [if_pos c7] at H
        obtain ⟨c7b0, c7b1⟩ := bqT c7
        clear c7
        have H' := aM H
        clear H
        have p101 : 0 ≤ (x5_1 : Int) := of_decide_eq_true (by first | (with_reducible assumption) | assumption)
        have q101 : x5_1 < (l0.length : Int) := of_decide_eq_true (by first | (with_reducible assumption) | assumption)
        obtain ⟨ad101, e101, hx101_0⟩ := Kd.at_int HR0.out x5_1 p101 q101
        cases e101
        replace p101 := eq_true p101
        replace q101 := eq_true q101
        have p102 : 0 ≤ (x5_1 : Int) := of_decide_eq_true (by first | (with_reducible assumption) | assumption)
        have q102 : x5_1 < (l1.length : Int) := of_decide_eq_true (by first | (with_reducible assumption) | assumption)
        obtain ⟨ad102, e102, hx102_0⟩ := Kd.at_int HR1.out x5_1 p102 q102
        cases e102
        replace p102 := eq_true p102
        replace q102 := eq_true q102
        go_wp2
        repeat (go_quiet (fail); try go_wp2)
        go_roundg k1
        case measure => have := HK1.out; omega
        case rel => exact ⟨(wrap64 (x5_1 + 1)), (by first | rfl | (simp; done) | (simp [*]; done)), H', ⟨by have := HK1.out; omega⟩, dE⟩
       ·rw [if_neg c7] at H
        obtain ⟨c7b0, c7b1⟩ := bqF c7
        obtain rfl := sI H
        have p101 : 0 ≤ (x5_1 : Int) := of_decide_eq_true (by first | (with_reducible assumption) | assumption)
        have q101 : x5_1 < (l0.length : Int) := of_decide_eq_true (by first | (with_reducible assumption) | assumption)
        obtain ⟨ad101, e101, hx101_0⟩ := Kd.at_int HR0.out x5_1 p101 q101
        cases e101
        replace p101 := eq_true p101
        replace q101 := eq_true q101
        have p102 : 0 ≤ (x5_1 : Int) := of_decide_eq_true (by first | (with_reducible assumption) | assumption)
        have q102 : x5_1 < (l1.length : Int) := of_decide_eq_true (by first | (with_reducible assumption) | assumption)
        obtain ⟨ad102, e102, hx102_0⟩ := Kd.at_int HR1.out x5_1 p102 q102
        cases e102
        replace p102 := eq_true p102
        replace q102 := eq_true q102
        go_wp2
        repeat (go_quiet (fail); try go_wp2)
        go_ret
        exact ⟨eR, dE⟩
      ·rw [if_neg c6] at H
       exact absurd H (by simp)
     ·rw [if_neg c5] at H
      exact absurd H (by simp)
    ·rw [if_neg c4] at H
     have c4b0 : decide (x5_1 < (l0.length : Int)) = false := decide_eq_false c4
     clear c4
     obtain rfl := sI H
     go_wp2
     repeat (go_quiet (fail); try go_wp2)
     go_ret
     exact ⟨eR, dE⟩
 ·rw [if_neg c3] at H
  obtain ⟨c3b0, c3b1⟩ := bqF c3
  have c3b2 : (l0.length == l1.length) = false := by first | simpa using c3 | (simp at c3 ⊢; omega)
  obtain rfl := sI H
  go_enter Tryz.func33, Tryz.ntmps33
  go_wp2
  repeat (go_quiet (fail); try go_wp2)
  go_ret
  exact ⟨eR, dE⟩
end Go.Proofs.YtejbbceidnaloaaGreatDoor.P
