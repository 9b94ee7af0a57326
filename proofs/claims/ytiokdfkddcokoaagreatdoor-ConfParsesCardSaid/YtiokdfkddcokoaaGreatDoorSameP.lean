/- Whether two configurations are the same: plain. Conditions: none. -/
import Derived.Test.YtiokdfkddcokoaaGreatDoorRefConfT
namespace Go.Proofs.YtiokdfkddcokoaaGreatDoor
open Go.RowKit

/-- Whether two configurations are the same. -/
def sameCf (zs us : List Int) (c d : Cf) : Bool := decide (zs = us) && (decide (c.ra = d.ra) && (decide (c.mo = d.mo) && decide (nums9 c = nums9 d)))
theorem same_iff {zs us : List Int} {c d : Cf} : sameCf zs us c d = true ↔ zs = us ∧ c = d := by
  obtain ⟨sh, ra, mo, wo, ba, mi, st, bu, ch, wi, ca⟩ := c
  obtain ⟨sh', ra', mo', wo', ba', mi', st', bu', ch', wi', ca'⟩ := d
  unfold sameCf nums9
  simp only [Bool.and_eq_true, decide_eq_true_eq, List.cons.injEq, and_true, Cf.mk.injEq]
  constructor
  · rintro ⟨h0, h2, h3, h1, h4, h5, h6, h7, h8, h9, h10, h11⟩
    exact ⟨h0, h1, h2, h3, h4, h5, h6, h7, h8, h9, h10, h11⟩
  · rintro ⟨h0, h1, h2, h3, h4, h5, h6, h7, h8, h9, h10, h11⟩
    exact ⟨h0, h2, h3, h1, h4, h5, h6, h7, h8, h9, h10, h11⟩

end Go.Proofs.YtiokdfkddcokoaaGreatDoor
