/- Walk: the line that keeps the laws of a configuration's text alive. Conditions: none. -/
import Derived.Test.YtiokdfkddcokoaaGreatDoorSameP
namespace Go.Proofs.YtiokdfkddcokoaaGreatDoor
open Go.RowKit

theorem newNil (w : World) : Calls Tryz.prog 28 #[.slice none 0 0] w fun e w' => e = .returned (.tuple #[.pointer none, .int .i64 5]) ∧ w = w' := by
  go_enter Tryz.func28, Tryz.ntmps28
  go_wp2
  go_ret2
  exact ⟨rfl, rfl⟩

set_option maxRecDepth 100000 in
set_option maxHeartbeats 1000000 in
theorem checkNil (w : World) : Calls Tryz.prog 13 #[.agg (cfCells none 0 0 ⟨99, 0, 0, 0, 0, 0, 0, 0, 0, 0, 0⟩)] w fun e w' => e = .returned (.int .i64 6) ∧ Below w.heap.size w w' := by
  have hb1 := (Below.refl w.heap.size w).alloc (Nat.le_refl _) (.cells (cfCells none 0 0 ⟨99, 0, 0, 0, 0, 0, 0, 0, 0, 0, 0⟩) 24)
  have HB := Lib.hid hb1
  have HN := Lib.hid (fun W => newNil W)
  clear hb1
  unfold cfCells at HB ⊢
  dsimp only at HB ⊢
  go_enter Tryz.func13, Tryz.ntmps13
  go_wp2_with fail
  (with_reducible refine (HN.out _).mono ?_)
  rintro e w1 ⟨rfl, rfl⟩
  go_wp2_with fail
  go_ret
  exact ⟨rfl, HB.out⟩

set_option maxRecDepth 100000 in
set_option maxHeartbeats 1000000 in
theorem alive11_any (w : World) : Calls Tryz.prog 6 #[] w fun e w' => e = .returned (.bool true) ∧ Below w.heap.size w w' := by
  have HC := Lib.hid (fun W => checkNil W)
  unfold cfCells at HC
  dsimp only at HC
  go_enter Tryz.func6, Tryz.ntmps6
  go_wp2_with fail
  (with_reducible refine (HC.out _).mono ?_)
  rintro e w1 ⟨rfl, hb⟩
  have HB := Lib.hid hb
  clear hb
  go_wp2_with fail
  go_ret
  exact ⟨rfl, HB.out⟩

end Go.Proofs.YtiokdfkddcokoaaGreatDoor
