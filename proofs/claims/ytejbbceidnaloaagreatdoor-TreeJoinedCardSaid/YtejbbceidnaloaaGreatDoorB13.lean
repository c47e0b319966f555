import Derived.Test.YtejbbceidnaloaaGreatDoorB3
set_option linter.unusedVariables false
set_option linter.unusedSimpArgs false
set_option maxRecDepth 100000
set_option maxHeartbeats 8000000
namespace Go.Proofs.YtejbbceidnaloaaGreatDoor.P
open Go.RowKit AW AL AM
def Nd2.f (a0_0 a0_1 a0_2 : Int) (a0_3 : ByteArray) (a0_4 : Bool) (a0_5 : Int) : Option ((List (S50))) := some (([(⟨1, (⟨a0_0, (⟨a0_1, a0_2⟩ : S44), a0_3, a0_4, a0_5⟩ : S46), 0, (⟨#[]⟩ : ByteArray), 0, (⟨(⟨#[]⟩ : ByteArray), 0, 0, false, false⟩ : S48), (⟨(⟨#[]⟩ : ByteArray), 0, 0, false, false⟩ : S48)⟩ : S50)] : List (S50)))
theorem Nd2.calls (a0_0 a0_1 a0_2 : Int) (a0_3 : ByteArray) (a0_4 : Bool) (a0_5 : Int) (r : List (S50)) (w : World) (h : Nd2.f a0_0 a0_1 a0_2 a0_3 a0_4 a0_5 = some r) :
 Calls Tryz.prog 180 #[.agg #[.int .i64 a0_0, .int .i64 a0_1, .int .i64 a0_2, .string a0_3, .bool a0_4, .int .i64 a0_5]] w fun e w' => ∃ v0_ : Value, e = .returned (v0_) ∧ Kd.R k50 50 w' w.heap.size (fun _ => True) v0_ r ∧ Below w.heap.size w w' := by
 have hu46 := Tryz.underlying46
 have hu50 := Tryz.underlying50
 have HB := aM (Below.refl w.heap.size w)
 have H := h
 unfold Nd2.f at H
 clear h
 obtain ⟨y102, hy102⟩ : ∃ y_ : List (S50), y_ = (([(⟨1, (⟨a0_0, (⟨a0_1, a0_2⟩ : S44), a0_3, a0_4, a0_5⟩ : S46), 0, (⟨#[]⟩ : ByteArray), 0, (⟨(⟨#[]⟩ : ByteArray), 0, 0, false, false⟩ : S48), (⟨(⟨#[]⟩ : ByteArray), 0, 0, false, false⟩ : S48)⟩ : S50)] : List (S50))) := ⟨_, rfl⟩
 replace H : (some y102) = some r := by first | (rw [hy102]; with_reducible exact H) | (have H2_ := (Option.bind_some _ _).symm.trans H; rw [hy102]; with_reducible exact H2_) | (have H2_ := (Option.bind_some _ _).symm.trans H; with_reducible exact H2_) | with_reducible exact H | (rw [hy102]; exact H) | exact H
 have Ny102 := aM hy102
 clear hy102
 obtain rfl := sI H
 go_enter Tryz.func180, Tryz.ntmps180
 go_wp2_with (first | ((with_reducible refine gD 1 rfl ?_); refine bX 1 #[.int .i64 a0_0, .int .i64 a0_1, .int .i64 a0_2, .string a0_3, .bool a0_4, .int .i64 a0_5] 46 ?_; intro gb101 hg w2 hbox hb; replace HB := bK w hbox hg hb; obtain ⟨BK101, GW101, HB⟩ := HB; have GE101 := GW101; clear hb hbox hg; obtain ⟨hcz3_0, hcz3_1, hcz3_2, hcz3_3, hcz3_4, hcz3_5, hfz3_0, hfz3_1, hfz3_2, hfz3_3, hfz3_4, hfz3_5⟩ := bc6 BK101.out) | ((with_reducible refine gD 5 rfl ?_); refine Kd.R_lit k50 _ 50 ?hg (N := 5) ?hd (xs := ([(⟨1, (⟨a0_0, (⟨a0_1, a0_2⟩ : S44), a0_3, a0_4, a0_5⟩ : S46), 0, (⟨#[]⟩ : ByteArray), 0, (⟨(⟨#[]⟩ : ByteArray), 0, 0, false, false⟩ : S48), (⟨(⟨#[]⟩ : ByteArray), 0, 0, false, false⟩ : S48)⟩ : S50)] : List (S50))) (inner := [.int .i64 1, .int .i64 a0_0, .int .i64 a0_1, .int .i64 a0_2, .string a0_3, .bool a0_4, .int .i64 a0_5, .int .i64 0, .string ⟨#[]⟩, .int .i64 0, .string ⟨#[]⟩, .int .i64 0, .int .i64 0, .bool false, .bool false, .string ⟨#[]⟩, .int .i64 0, .int .i64 0, .bool false, .bool false]) (ok := fun _ => True) (okp := fun _ => True) ?hr ?hp (fun _ hk => hk) trivial (Below.refl _ _) (Nat.le_refl _) (by simp) ?_; (case hd => rfl); (case hg => rfl); (case hr => go_simp <;> rfl); (case hp => exact (Reps.front (show Kd.M k50 _ _ _ (⟨1, (⟨a0_0, (⟨a0_1, a0_2⟩ : S44), a0_3, a0_4, a0_5⟩ : S46), 0, (⟨#[]⟩ : ByteArray), 0, (⟨(⟨#[]⟩ : ByteArray), 0, 0, false, false⟩ : S48), (⟨(⟨#[]⟩ : ByteArray), 0, 0, false, false⟩ : S48)⟩ : S50) [.int .i64 1, .int .i64 a0_0, .int .i64 a0_1, .int .i64 a0_2, .string a0_3, .bool a0_4, .int .i64 a0_5, .int .i64 0, .string ⟨#[]⟩, .int .i64 0, .string ⟨#[]⟩, .int .i64 0, .int .i64 0, .bool false, .bool false, .string ⟨#[]⟩, .int .i64 0, .int .i64 0, .bool false, .bool false] from (k50_mkM _ _ _ (⟨1, (⟨a0_0, (⟨a0_1, a0_2⟩ : S44), a0_3, a0_4, a0_5⟩ : S46), 0, (⟨#[]⟩ : ByteArray), 0, (⟨(⟨#[]⟩ : ByteArray), 0, 0, false, false⟩ : S48), (⟨(⟨#[]⟩ : ByteArray), 0, 0, false, false⟩ : S48)⟩ : S50) )) rfl (Reps.none _ _) rfl)); intro v103 w4 ho5 hb hg_ hnew_; clear hg_ hnew_; (first | rw [← Ny102.out] at ho5 | (simp only [Int.reduceToNat] at ho5; rw [← Ny102.out] at ho5)); have HO104 := aM (Kd.R_lower ho5 (Nbc bE)); replace BK101 := aM (Nad (g := gb101) (o := .cells #[.int .i64 a0_0, .int .i64 a0_1, .int .i64 a0_2, .string a0_3, .bool a0_4, .int .i64 a0_5] 46 (0, 0)) (bd BK101.out) hb); replace HB := aM (Nac bE hb); clear hb ho5))
 go_ret
 exact ⟨_, eR, by (with_reducible repeat (first | apply Kd.R_alloc | apply Kd.R_drewN | apply Kd.R_drew)); exact HO104.out, bE⟩
end Go.Proofs.YtejbbceidnaloaaGreatDoor.P
