/- Runs of the interpreter by the kernel: calls by themselves. Conditions: none. -/
import Derived.Test.YtoafihjgpbcgbaaGreatSiOrcs
import Derived.Test.YtoafihjgpbcgbaaGreatSiTab
import Derived.Test.YtoafihjgpbcgbaaGreatSiTag
import Derived.KernelRfl
namespace Go.Proofs.YtoafihjgpbcgbaaGreat.Si

theorem siR0 : chkO (runK siT siMT siFT (tagE 80) 120 false 20 siO0.args siO0.s0) siO0 = true := by kernel_rfl
theorem siR1 : chkO (runK siT siMT siFT (tagE 80) 120 false 20 siO1.args siO1.s0) siO1 = true := by kernel_rfl
theorem siR2 : chkO (runK siT siMT siFT (tagE 80) 120 false 54 siO2.args siO2.s0) siO2 = true := by kernel_rfl
theorem siR3 : chkO (runK siT siMT siFT (tagE 80) 120 false 54 siO3.args siO3.s0) siO3 = true := by kernel_rfl
theorem siR4 : chkO (runK siT siMT siFT (tagE 80) 120 false 54 siO4.args siO4.s0) siO4 = true := by kernel_rfl
theorem siR5 : chkO (runK siT siMT siFT (tagE 80) 120 false 20 siO5.args siO5.s0) siO5 = true := by kernel_rfl
theorem siR6 : chkO (runK siT siMT siFT (tagE 80) 120 false 54 siO6.args siO6.s0) siO6 = true := by kernel_rfl

end Go.Proofs.YtoafihjgpbcgbaaGreat.Si
