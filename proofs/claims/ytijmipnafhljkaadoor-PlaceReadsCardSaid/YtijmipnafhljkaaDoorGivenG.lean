/-
  The contracts, by hand, of the functions that read strconv's tables, and of Index of one byte.
-/
import Derived.Test.YtijmipnafhljkaaDoorGiven
namespace Go.Proofs.YtijmipnafhljkaaDoor.P
open Go.RowKit Go.Proofs.YtijmipnafhljkaaDoorW.PrintWords Go.Proofs.YtijmipnafhljkaaDoorW.PrintLast Go.Proofs.YtijmipnafhljkaaDoorW.PrintMore
set_option linter.unusedVariables false

def strconv_Itoa_g.f (a0 : Int) : Option (ByteArray) := if -9223372036854775808 ≤ a0 ∧ a0 ≤ 9223372036854775807 then some ⟨(Lib.itoa a0).toArray⟩ else none
theorem strconv_Itoa_g.calls (a0 : Int) (r : ByteArray) (w : World) (hG : GL w) (h : strconv_Itoa_g.f a0 = some r) :
    Calls Tryd.prog 64 #[.int .i64 a0] w fun e w' => e = .returned (.string r) ∧ Below w.heap.size w w' := by
  unfold strconv_Itoa_g.f at h
  split at h
  · rename_i hb
    obtain rfl := Option.some.inj h
    exact itoa_any a0 w hb.1 hb.2 (.inr hG)
  · cases h
def place_Read_g.f (a0 : ByteArray) : Option (Int × Int × Bool) := if a0.size ≤ 140737488351232 then some (readF a0) else none
theorem place_Read_g.calls (a0 : ByteArray) (r1 : Int) (r2 : Int) (r3 : Bool) (w : World) (hG : GL w) (h : place_Read_g.f a0 = some (r1, r2, r3)) :
    Calls Tryd.prog 55 #[.string a0] w fun e w' => e = .returned (.tuple #[.int .i64 r1, .int .i64 r2, .bool r3]) ∧ Below w.heap.size w w' := by
  unfold place_Read_g.f at h
  split at h
  · rename_i hb
    have e := Option.some.inj h
    refine (read_any a0 w hb (.inr hG)).mono fun e w' hp => ?_
    obtain ⟨he, hw⟩ := hp
    rw [‹readF a0 = _›] at he
    exact ⟨he, hw⟩
  · cases h
def stringslite_Index_g.f (a0 : ByteArray) (a1 : ByteArray) : Option (Int) := if a1.size = 1 then some (Lib.indexByte a0.data.toList (a1.data.toList.headD 0)) else none
theorem stringslite_Index_g.calls (a0 : ByteArray) (a1 : ByteArray) (r : Int) (w : World) (h : stringslite_Index_g.f a0 a1 = some r) :
    Calls Tryd.prog 82 #[.string a0, .string a1] w fun e w' => e = .returned (.int .i64 r) ∧ Drawn0 w w' := by
  unfold stringslite_Index_g.f at h
  split at h
  · rename_i hb
    obtain rfl := Option.some.inj h
    obtain ⟨d⟩ := a1
    obtain ⟨l⟩ := d
    match l, hb with
    | [c], _ =>
      refine (Tryd.stringslite_Index_one a0 c w).mono fun e w' hp => ?_
      obtain ⟨he, rfl⟩ := hp
      exact ⟨he, 0, rfl⟩
  · cases h
end Go.Proofs.YtijmipnafhljkaaDoor.P
