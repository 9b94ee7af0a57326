/- strings.Split at one byte. Conditions: the library's bound on a search is a number. -/
import Derived.Test.YtiokdfkddcokoaaGreatDoorMaxL
import Derived.Test.YtiokdfkddcokoaaGreatDoorShelfC
import Derived.Test.YtiokdfkddcokoaaGreatDoorCutAt
namespace Go.Proofs.YtiokdfkddcokoaaGreatDoor
open Go.RowKit

def Words (c : UInt8) (s : ByteArray) (w : World) (e : Ending) (w' : World) : Prop :=
  ∃ ws : List ByteArray, ws.map (·.data.toList) = cutAt c s.data.toList ∧ e = .returned (.slice (some ⟨w.heap.size, 0, none⟩) ws.length ws.length) ∧ w' = w.alloc (.cells (ws.map Value.string).toArray 9)

theorem split_any (s : ByteArray) (c : UInt8) (B : Nat) (w : World) (hs : s.size ≤ 1048576) (hm : MaxL B w) : Calls Tryz.prog 20 #[.string s, .string ⟨#[c]⟩] w (Words c s w) := by
  obtain ⟨⟨m, hm'⟩, _⟩ := hm
  refine (Tryz.strings_Split s ⟨#[c]⟩ m w (by omega) hm' (Nat.le_refl 1)).mono fun e w' ⟨h1, h2⟩ => ?_
  have hl := Lib.splitB_all ⟨#[c]⟩ (Nat.le_refl 1) 0 _ s rfl
  have hd := Lib.splitB_data ⟨#[c]⟩ 0 (Lib.countB s ⟨#[c]⟩) s
  refine ⟨Lib.splitB ⟨#[c]⟩ 0 (Lib.countB s ⟨#[c]⟩) s, ?_, ?_, h2⟩
  · rw [hd, ← split_cutAt]
    rfl
  · rw [hl]
    exact h1

end Go.Proofs.YtiokdfkddcokoaaGreatDoor
