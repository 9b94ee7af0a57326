/- Walks: the program's test of the number of fraction bits. Conditions: none. -/
import Derived.Test.YtnifbipbpengeaaDoorWords
namespace Go.Proofs.YtnifbipbpengeaaDoor
open Go.RowKit

set_option maxHeartbeats 400000 in
theorem right_any (q : Int) (w : World) : Calls Tryd.prog 18 #[.int .i64 q] w fun e w' => e = .returned (.bool (decide (0 ≤ q ∧ q ≤ 62))) ∧ w = w' := by
  by_cases h : 0 ≤ q
  · by_cases h2 : q ≤ 62
    · have H := Lib.hid (And.intro h h2)
      go_enter Tryd.func18, Tryd.ntmps18
      go_wp2
      go_ret
      exact ⟨ret_bool (by simp [H.out]), rfl⟩
    · have H := Lib.hid (And.intro h h2)
      go_enter Tryd.func18, Tryd.ntmps18
      go_wp2
      go_ret
      exact ⟨ret_bool (by simp [H.out]), rfl⟩
  · have H := Lib.hid h
    go_enter Tryd.func18, Tryd.ntmps18
    go_wp2
    go_ret
    exact ⟨ret_bool (by have := H.out; symm; simp; omega), rfl⟩

end Go.Proofs.YtnifbipbpengeaaDoor
