/- The library's bound on a search, as a premise on a world. Conditions: none. -/
import Derived.Test.YtjjoendjgiiknaaDoorWords
namespace Go.Proofs.YtjjoendjgiiknaaDoor
open Go.RowKit

/-- The library's greatest length holds some number. -/
def MaxL (B : Nat) (w : World) : Prop := (∃ m, w.cell? ⟨2, 0, none⟩ = some (.int .i64 m)) ∧ 2 < B
theorem MaxL.on {B : Nat} {w w' : World} (h : MaxL B w) (hb : Below B w w') : MaxL B w' := by
  obtain ⟨⟨m, hm⟩, hlt⟩ := h
  exact ⟨⟨m, (hb.cell (p := ⟨2, 0, none⟩) hlt).trans hm⟩, hlt⟩

end Go.Proofs.YtjjoendjgiiknaaDoor
