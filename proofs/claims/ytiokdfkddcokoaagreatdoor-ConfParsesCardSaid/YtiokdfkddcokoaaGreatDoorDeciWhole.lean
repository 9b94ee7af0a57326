/- Walks: the program's test of the number of fraction bits. Conditions: none. -/
import Derived.Test.YtiokdfkddcokoaaGreatDoorWords
namespace Go.Proofs.YtiokdfkddcokoaaGreatDoor
open Go.RowKit

set_option maxHeartbeats 400000 in
theorem right_any (q : Int) (w : World) : Calls Tryz.prog 66 #[.int .i64 q] w fun e w' => e = .returned (.bool (decide (0 ≤ q ∧ q ≤ 62))) ∧ w = w' := by
  by_cases h : 0 ≤ q
  · by_cases h2 : q ≤ 62
    · have H := Lib.hid (And.intro h h2)
      go_enter Tryz.func66, Tryz.ntmps66
      go_wp2
      go_ret
      exact ⟨ret_bool (by simp [H.out]), rfl⟩
    · have H := Lib.hid (And.intro h h2)
      go_enter Tryz.func66, Tryz.ntmps66
      go_wp2
      go_ret
      exact ⟨ret_bool (by simp [H.out]), rfl⟩
  · have H := Lib.hid h
    go_enter Tryz.func66, Tryz.ntmps66
    go_wp2
    go_ret
    exact ⟨ret_bool (by have := H.out; symm; simp; omega), rfl⟩

end Go.Proofs.YtiokdfkddcokoaaGreatDoor
