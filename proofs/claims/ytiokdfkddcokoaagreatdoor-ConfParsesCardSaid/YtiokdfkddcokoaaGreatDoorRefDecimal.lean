/- Walks: the reference's decimal form of an integer. Conditions: none. -/
import Derived.Test.YtiokdfkddcokoaaGreatDoorRefDec
import Derived.Lib.ItoaLen
namespace Go.Proofs.YtiokdfkddcokoaaGreatDoor
open Go.RowKit

set_option maxHeartbeats 400000 in
theorem decimal_any (x : Int) (w : World) (hx : -9223372036854775808 ≤ x ∧ x ≤ 9223372036854775807) : Calls Tryz.prog 62 #[.int .i64 x] w fun e w' => e = .returned (.string ⟨(Lib.itoa x).toArray⟩) ∧ w = w' := by
  have HX := Lib.hid hx
  by_cases hn : x < 0
  · have hw : IntKind.u64.wrap (-IntKind.u64.wrap x) = (x.natAbs : Int) := by rw [IntKind.wrap_u64, IntKind.wrap_u64]; omega
    have H := Lib.hid (unsigned_any x.natAbs w (by omega))
    have hl := dec_len x.natAbs (by omega)
    have HE := Lib.hid (show Lib.itoa x = 45 :: Lib.decDigits x.natAbs by unfold Lib.itoa; rw [if_pos hn])
    clear hx
    go_enter Tryz.func62, Tryz.ntmps62
    go_wp2_with fail
    (with_reducible refine H.out.mono ?_)
    rintro e w1 ⟨rfl, rfl⟩
    go_wp2_with fail
    go_ret
    refine ⟨?_, rfl⟩
    rw [HE.out, show 45 :: Lib.decDigits x.natAbs = [45] ++ Lib.decDigits x.natAbs from rfl, ← list_app]
    rfl
  · have hw : IntKind.u64.wrap x = (x.natAbs : Int) := by rw [IntKind.wrap_u64]; omega
    have H := Lib.hid (unsigned_any x.natAbs w (by omega))
    have HE := Lib.hid (show Lib.itoa x = Lib.decDigits x.natAbs by unfold Lib.itoa; rw [if_neg hn]; congr 1; omega)
    clear hx
    go_enter Tryz.func62, Tryz.ntmps62
    go_wp2_with fail
    (with_reducible refine H.out.mono ?_)
    rintro e w1 ⟨rfl, rfl⟩
    go_wp2_with fail
    go_ret
    refine ⟨?_, rfl⟩
    rw [HE.out]
    rfl

end Go.Proofs.YtiokdfkddcokoaaGreatDoor
