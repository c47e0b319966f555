import Derived.Test.YtejbbceidnaloaaGreatDoorK44
import Derived.Test.YtejbbceidnaloaaGreatDoorK46
namespace Go.Proofs.YtejbbceidnaloaaGreatDoor.P
open Go.RowKit Go.Proofs.YtejbbceidnaloaaGreatDoorW.PrintWords Go.Proofs.YtejbbceidnaloaaGreatDoorW.PrintLast Go.Proofs.YtejbbceidnaloaaGreatDoorW.PrintMore
set_option linter.unusedVariables false
set_option linter.unusedSimpArgs false
theorem back_f (l : List S50) (hl : l.length < 799644820200) : whittlelaw5_TreeBack_g.f 600 l = some true := by
 have hp : (⟨(printL l).1.toArray⟩ : ByteArray).data.toList = (printL l).1 := rfl
 have hs : (⟨(printL l).1.toArray⟩ : ByteArray).size = (printL l).1.length := rfl
 unfold whittlelaw5_TreeBack_g.f able5_g.f tree_Print_g.f tree_Parse_g.f
 simp only [Option.bind_some, if_true, List.nil_append, List.length_nil, Nat.zero_add, if_pos hl, chk_f, hp, hs]
 by_cases h : chk l = 0
 ·have h2 : (printL l).2 = 0 := by unfold printL; rw [if_pos h]
  rw [if_pos h2]
  by_cases hlen : 1024 < (printL l).1.length
  ·rw [parse_long hlen, if_pos (show ((printL l).1.length : Int) > 1024 by omega)]
   rfl
  ·rw [parse_print h (by omega), if_neg (show ¬ ((printL l).1.length : Int) > 1024 by omega), if_pos rfl, if_pos rfl]
   obtain ⟨d, -, -, h12⟩ := check_back (l := l) (K := 600) (by rw [chk_f, h])
   unfold law5_same_h.f
   rw [if_pos (by omega), eqRows_iff.mpr rfl]
   rfl
 ·have h1 : (printL l).1 = [] := by unfold printL; rw [if_neg h]
  have h2 : (printL l).2 = chk l := by unfold printL; rw [if_neg h]
  rw [if_neg (by rw [h2]; exact h), h1, h2]
  rw [if_pos (by rw [ByteArray.toList_eq])]
  simp
theorem back_calls (W : World) (A : Option Addr) (c : Nat) (l : List S50) (hC : Kd.C k50 W A l.length l) (hle : l.length ≤ c) (hz : l.length * 176 ≤ 140737488351232) (hG : GL W) :
 Calls Tryz.prog 5 #[.slice A l.length c] W fun e w' => e = .returned (.bool true) ∧ Below W.heap.size W w' :=
 whittlelaw5_TreeBack_g.calls 600 A c l true W hC hle hG (Aside0.mk rfl) (back_f l (by omega))
end Go.Proofs.YtejbbceidnaloaaGreatDoor.P
