/- The library's greatest length, as a row's world bears it. Conditions: none. -/
import Derived.Test.YtjjoendjgiiknaaDoorRowKit
import Derived.Test.YtjjoendjgiiknaaDoorMaxL
import Derived.HandedShaped
import Derived.Shelf.Vars
namespace Go.Proofs.YtjjoendjgiiknaaDoor
open Go.ChangeShapes Go.WideShapes Go.ChangeAt Go.RowKit Go.Deep

theorem maxL_shaped {W : World} (h : W.ShapedOpen Tryd.prog) : MaxL W.heap.size W := by
  obtain ⟨m, hm⟩ := cell_of_shapedOpen_int (P := Tryd.prog) (g := 2) (t := 3) (zero := #[.int .i64 0]) h (of_decide_eq_true (by kernel_rfl)) (by kernel_rfl) rfl (by kernel_rfl) (by kernel_rfl) Tryd.underlying3
  exact ⟨⟨m, hm⟩, World.block_lt_of_cell? W _ hm⟩

end Go.Proofs.YtjjoendjgiiknaaDoor
