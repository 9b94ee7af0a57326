/- Runs of the interpreter by the kernel: over the calls before. Conditions: none. -/
import Derived.Test.YtoafihjgpbcgbaaGreatSiOrcs
import Derived.Test.YtoafihjgpbcgbaaGreatSiTab
import Derived.Test.YtoafihjgpbcgbaaGreatSiTag
import Derived.KernelRfl
namespace Go.Proofs.YtoafihjgpbcgbaaGreat.Si

theorem siR9 : chkO (runK siT siMT siFT (orCal (tagE 80) (orcA siOT siOF)) 120 false 12 siO9.args siO9.s0) siO9 = true := by kernel_rfl

end Go.Proofs.YtoafihjgpbcgbaaGreat.Si
