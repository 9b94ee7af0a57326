/- Plain Lean: how long a number's text may be. Conditions: none. -/
import Derived.Test.YtiokdfkddcokoaaGreatDoorDeciPlain
import Derived.Test.YtiokdfkddcokoaaGreatDoorRefDec
import Derived.Test.YtiokdfkddcokoaaGreatDoorNumPlain
namespace Go.Proofs.YtiokdfkddcokoaaGreatDoor

theorem decText_len (x : Int) (q : Nat) (hq : q ≤ 62) (hx : In64 x) : (decText x q).length ≤ 100 := by
  unfold In64 at hx
  have h1 : (Lib.decDigits (x.natAbs / p2 q)).length ≤ 20 := dec_len _ (Nat.lt_of_le_of_lt (Nat.div_le_self _ _) (by omega))
  have h2 := cd_length q (x.natAbs % p2 q)
  unfold decText fracText
  split <;> split <;> simp <;> omega

end Go.Proofs.YtiokdfkddcokoaaGreatDoor
