/- The table of the library's decimal numerals, as a premise on a world. Conditions: none. -/
import Derived.Test.YtnifbipbpengeaaDoorShelf
import Derived.Test.YtnifbipbpengeaaDoorWords
import Derived.Lib.AppendIntMem
import Derived.Lib.ItoaLen
namespace Go.Proofs.YtnifbipbpengeaaDoor
open Go.RowKit

/-- The table of powers of ten, from block B on whatever is laid. -/
abbrev Pow (B : Nat) (w : World) : Prop := Lib.TabBelow Tryd.prog B w "internal/strconv.uint64pow10" .u64 Lib.pow10Tab

end Go.Proofs.YtnifbipbpengeaaDoor
