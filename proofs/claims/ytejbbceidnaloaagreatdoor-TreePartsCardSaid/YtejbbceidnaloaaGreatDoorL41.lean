import Derived.Test.YtejbbceidnaloaaGreatDoorL40
namespace Go.Proofs.YtejbbceidnaloaaGreatDoor.P
open Go.RowKit Go.Proofs.YtejbbceidnaloaaGreatDoorW.PrintWords Go.Proofs.YtejbbceidnaloaaGreatDoorW.PrintLast Go.Proofs.YtejbbceidnaloaaGreatDoorW.PrintMore
set_option linter.unusedVariables false
set_option linter.unusedSimpArgs false
theorem cells_event {P : Program} {ops : Array Oper} {rest : List Oper} {o : Oper} {a : Act} {Q : Exit → Act → World → Prop} {W : World} (hgd : o.guard = none) {t : TypeId} {p : Operand} (ho : o.op = .load t p) {ad : Addr} {cs : List Value} {d : TypeDesc}
 (haddr : a.eval p = .pointer (some ad)) (hc : ∀ (j : Nat) v, cs[j]? = some v → W.cell? (ad.add j) = some v) (hu : P.underlying t = some d) (hd : d.isRow = true) (hi : (P.info? t).map (·.size) = some cs.length)
 (h : wpList P ops Q rest (a.put o.dst (.agg cs.toArray)) W) : wpList P ops Q (o :: rest) a W := by
 refine wpList_plain hgd fun K hKK => ?_
 have hrun := run_load_elem (P := P) W ad t cs d hc hu hd hi
 unfold Oper.wp execOp
 simp only [ho, haddr, Instr.loadAt, Instr.sureAddr, Sem.run_bind, Sem.run_pure, Result.andThen_ok, hrun]
 exact hKK _ _ h
set_option maxRecDepth 100000 in
set_option maxHeartbeats 4000000 in
theorem able5_any (w : World) (hG : GL w) : Calls Tryz.prog 23 #[] w fun e w' => e = .returned (.bool true) ∧ Below w.heap.size w w' := by
 have HP := Lib.hid (tree_Parse_g.calls ⟨#[49, 43, 65, 49]⟩ ableL 0 0 w hG (by unfold tree_Parse_g.f; exact congrArg some able_parse))
 have HG := Lib.hid hG
 have hu50 := Tryz.underlying50
 clear hG
 go_enter Tryz.func23, Tryz.ntmps23
 go_upto_region 2 with (go_at_call 21; (with_reducible refine (HP.out).mono ?_); rintro en w1 ⟨v, rfl, hr, hb⟩; have HB := Lib.hid hb; have HR := Lib.hid hr; clear hr hb)
 obtain ⟨A, c, rfl, hle, hC⟩ := Kd.R_reads HR.out
 have HPR := Lib.hid (tree_Print_g.calls A c ableL ⟨#[49, 43, 65, 49]⟩ 0 w1 (HG.out.below HB.out) hC hle (by unfold tree_Print_g.f; rw [able_print]))
 obtain ⟨ad, c0, rfl, hl0, hk0, hx0⟩ := Kd.C_get hC z50 0 (by decide) (by decide)
 obtain ⟨ad2, c2, e2, hl2, hk2, hx2⟩ := Kd.C_get hC z50 2 (by decide) (by decide)
 cases e2
 obtain rfl := k50_open hk0
 obtain rfl := k50_open hk2
 have HX0 := Lib.hid (show ∀ (j : Nat) v, ([.int .i64 5, .int .i64 0, .int .i64 0, .int .i64 0, .string ⟨#[]⟩, .bool false, .int .i64 0, .int .i64 11, .string ⟨#[]⟩, .int .i64 0, .string ⟨#[]⟩, .int .i64 0, .int .i64 0, .bool false, .bool false, .string ⟨#[]⟩, .int .i64 0, .int .i64 0, .bool false, .bool false] : List Value)[j]? = some v → w1.cell? (ad.add j) = some v from fun j v hv => by have := hx0 j v hv; rwa [show Int.toNat 0 * k50.sz + j = j by show 0 * 20 + j = j; omega] at this)
 have HX2 := Lib.hid (show w1.cell? (ad.add 40) = some (.int .i64 2) from hx2 0 (.int .i64 2) rfl)
 clear hx0 hx2 hk0 hk2 hl0 hl2 hC hle HR
 rw [show ableL.length = 3 from rfl] at HPR ⊢
 go_upto_region 3 with (go_at_call 26; (with_reducible refine (HPR.out).mono ?_); rintro en w2 ⟨rfl, hb⟩; have HB2 := Lib.hid hb; clear hb)
 have HY0 := Lib.hid (show ∀ (j : Nat) v, ([.int .i64 5, .int .i64 0, .int .i64 0, .int .i64 0, .string ⟨#[]⟩, .bool false, .int .i64 0, .int .i64 11, .string ⟨#[]⟩, .int .i64 0, .string ⟨#[]⟩, .int .i64 0, .int .i64 0, .bool false, .bool false, .string ⟨#[]⟩, .int .i64 0, .int .i64 0, .bool false, .bool false] : List Value)[j]? = some v → w2.cell? (ad.add j) = some v from fun j v hv => pw_cell_below HB2.out (HX0.out j v hv))
 have y2 : w2.cell? ⟨ad.block, ad.off + 40, none⟩ = some (.int .i64 2) := by have := pw_cell_below HB2.out HX2.out; simpa [Addr.add] using this
 go_wp2_with (first
  | ((with_reducible refine gate_dst (N := 30) rfl ?_); refine gate_guard (by kernel_rfl) ?_; refine cells_event rfl (t := 50) (p := .tmp 29) rfl (ad := ad) (cs := [.int .i64 5, .int .i64 0, .int .i64 0, .int .i64 0, .string ⟨#[]⟩, .bool false, .int .i64 0, .int .i64 11, .string ⟨#[]⟩, .int .i64 0, .string ⟨#[]⟩, .int .i64 0, .int .i64 0, .bool false, .bool false, .string ⟨#[]⟩, .int .i64 0, .int .i64 0, .bool false, .bool false]) ?ha HY0.out hu50 rfl ?hi ?_; (case ha => rfl); (case hi => kernel_rfl)))
 go_ret
 exact ⟨rfl, below_step HB.out HB2.out⟩
def able5_g.f : Option Bool := some true
theorem able5_g.calls (r : Bool) (w : World) (hG : GL w) (h : able5_g.f = some r) : Calls Tryz.prog 23 #[] w fun e w' => e = .returned (.bool r) ∧ Below w.heap.size w w' := by
 obtain rfl := Option.some.inj h
 exact able5_any w hG
end Go.Proofs.YtejbbceidnaloaaGreatDoor.P
