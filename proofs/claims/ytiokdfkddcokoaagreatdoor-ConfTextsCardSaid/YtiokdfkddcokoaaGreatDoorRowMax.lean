/- The library's greatest length, as a row's world bears it. Conditions: none. -/
import Derived.Test.YtiokdfkddcokoaaGreatDoorRowKit
import Derived.Test.YtiokdfkddcokoaaGreatDoorMaxL
import Derived.HandedShaped
import Derived.Shelf.Vars
namespace Go.Proofs.YtiokdfkddcokoaaGreatDoor
open Go.ChangeShapes Go.WideShapes Go.ChangeAt Go.RowKit Go.Deep

theorem maxL_shaped {W : World} (h : W.ShapedOpen Tryz.prog) : MaxL W.heap.size W := by
  obtain ⟨m, hm⟩ := cell_of_shapedOpen_int (P := Tryz.prog) (g := 0) (t := 3) (zero := #[.int .i64 0]) h (of_decide_eq_true (by kernel_rfl)) (by kernel_rfl) rfl (by kernel_rfl) (by kernel_rfl) Tryz.underlying3
  exact ⟨⟨m, hm⟩, World.block_lt_of_cell? W _ hm⟩

end Go.Proofs.YtiokdfkddcokoaaGreatDoor
