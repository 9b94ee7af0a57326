/- The library's bound on a search, as a premise on a world. Conditions: none. -/
import Derived.Test.YtiokdfkddcokoaaGreatDoorWords
namespace Go.Proofs.YtiokdfkddcokoaaGreatDoor
open Go.RowKit

/-- The library's greatest length holds some number. -/
def MaxL (B : Nat) (w : World) : Prop := (∃ m, w.cell? ⟨0, 0, none⟩ = some (.int .i64 m)) ∧ 0 < B
theorem MaxL.on {B : Nat} {w w' : World} (h : MaxL B w) (hb : Below B w w') : MaxL B w' := by
  obtain ⟨⟨m, hm⟩, hlt⟩ := h
  exact ⟨⟨m, (hb.cell (p := ⟨0, 0, none⟩) hlt).trans hm⟩, hlt⟩

end Go.Proofs.YtiokdfkddcokoaaGreatDoor
