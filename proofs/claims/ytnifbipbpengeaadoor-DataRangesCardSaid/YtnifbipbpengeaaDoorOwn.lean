/- A row of the call's own outlives what makes new memory only. Conditions: none. -/
import Derived.Test.YtnifbipbpengeaaDoorWords
namespace Go.Proofs.YtnifbipbpengeaaDoor
open Go.RowKit

theorem own_below {w w' : World} {base e size n : Nat} {v : Value} {xs : List Value} (h : w.ownsRow base e size v n xs) (hb : Below w.heap.size w w') : w'.ownsRow base e size v n xs := by
  rcases h.2 with ⟨rfl, h0⟩ | ⟨g, cap, cur, rfl, hg, hgh, h1⟩
  · exact ⟨h.1, .inl ⟨rfl, h0⟩⟩
  · exact ⟨h.1, .inr ⟨g, cap, cur, rfl, hg, (hb.block g (blk_lt hgh)).trans hgh, h1⟩⟩

end Go.Proofs.YtnifbipbpengeaaDoor
