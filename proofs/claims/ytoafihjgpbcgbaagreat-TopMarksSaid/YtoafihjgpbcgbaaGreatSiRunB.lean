/- Runs of the interpreter by the kernel: calls by themselves. Conditions: none. -/
import Derived.Test.YtoafihjgpbcgbaaGreatSiOrcs
import Derived.Test.YtoafihjgpbcgbaaGreatSiTab
import Derived.Test.YtoafihjgpbcgbaaGreatSiTag
import Derived.KernelRfl
namespace Go.Proofs.YtoafihjgpbcgbaaGreat.Si

theorem siR7 : chkO (runK siT siMT siFT (tagE 80) 120 false 54 siO7.args siO7.s0) siO7 = true := by kernel_rfl
theorem siR8 : chkO (runK siT siMT siFT (tagE 80) 120 false 54 siO8.args siO8.s0) siO8 = true := by kernel_rfl
theorem siR10 : chkO (runK siT siMT siFT (tagE 80) 120 false 121 siO10.args siO10.s0) siO10 = true := by kernel_rfl
theorem siR11 : chkO (runK siT siMT siFT (tagE 80) 120 false 121 siO11.args siO11.s0) siO11 = true := by kernel_rfl
theorem siR12 : chkO (runK siT siMT siFT (tagE 80) 120 false 125 siO12.args siO12.s0) siO12 = true := by kernel_rfl
theorem siR13 : chkO (runK siT siMT siFT (tagE 80) 120 false 125 siO13.args siO13.s0) siO13 = true := by kernel_rfl

end Go.Proofs.YtoafihjgpbcgbaaGreat.Si
