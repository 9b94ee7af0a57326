/- Walks: DataRanges. Conditions: the table of powers of ten reads as listed. -/
import Derived.Test.YtnifbipbpengeaaDoorDataText
import Derived.Test.YtnifbipbpengeaaDoorDataCheck
import Derived.Test.YtnifbipbpengeaaDoorRange
import Derived.Test.YtnifbipbpengeaaDoorRefRange10
namespace Go.Proofs.YtnifbipbpengeaaDoor
open Go.RowKit

set_option maxRecDepth 100000 in
set_option maxHeartbeats 1000000 in
theorem dataRanges_any (A : Option Addr) (l : List Ex) (cap : Nat) (w : World) (hp : Pow w.heap.size w) (hr : RdE w w.heap.size A l) (hm : l.length ≤ 9223372036854775807) :
    Calls Tryd.prog 3 #[.slice A l.length cap] w fun e w' => e = .returned (.bool true) ∧ Below w.heap.size w w' := by
  have HA := Lib.hid (fun W (hb : Below w.heap.size w W) => alive10_any w.heap.size W (hp.on hb) hb.size)
  have F := dataFew_any A cap l w hr hm
  cases hf : exFew l
  · rw [hf] at F
    have HF := Lib.hid F
    clear F hf hp hr
    go_enter Tryd.func3, Tryd.ntmps3
    go_wp2_with fail
    (with_reducible refine HF.out.mono ?_)
    rintro e w1 ⟨rfl, n, rfl⟩
    go_wp2_with fail
    (with_reducible refine (HA.out _ (below_drewN (Below.refl _ _) n)).mono ?_)
    rintro e w2 ⟨rfl, hb2⟩
    have HB2 := Lib.hid ((below_drewN (Below.refl w.heap.size w) n).trans hb2)
    clear hb2
    go_wp2_with fail
    go_ret
    exact ⟨rfl, HB2.out⟩
  · obtain ⟨h60, h600⟩ := exFew_mem hf
    rw [hf] at F
    have HF := Lib.hid F
    have HC := Lib.hid (fun W (hb : Below w.heap.size w W) => dataRange_any A l cap h60 h600 W ((hr.below hb).more hb.size))
    have HR := Lib.hid (fun W (hb : Below w.heap.size w W) => refRange_any A l cap h60 h600 W ((hr.below hb).more hb.size))
    unfold rngVal at HC HR
    generalize lowOf (exAll l) = lo at HC HR
    generalize highOf (exAll l) = hi at HC HR
    generalize (!(exAll l).isEmpty) = b at HC HR
    clear F hf hp hr h60 h600
    go_enter Tryd.func3, Tryd.ntmps3
    go_wp2_with fail
    (with_reducible refine HF.out.mono ?_)
    rintro e w1 ⟨rfl, n, rfl⟩
    have HB1 := Lib.hid (below_drewN (Below.refl w.heap.size w) n)
    go_wp2_with fail
    (with_reducible refine (HC.out _ HB1.out).mono ?_)
    rintro e w2 ⟨rfl, hb2⟩
    have HB2 := Lib.hid (HB1.out.trans (hb2.mono HB1.out.size))
    clear hb2 HB1
    go_wp2_with fail
    (with_reducible refine (HR.out _ HB2.out).mono ?_)
    rintro e w3 ⟨rfl, hb3⟩
    have HB3 := Lib.hid (HB2.out.trans (hb3.mono HB2.out.size))
    clear hb3 HB2
    go_wp2_with fail
    (with_reducible refine (HA.out _ HB3.out).mono ?_)
    rintro e w4 ⟨rfl, hb4⟩
    have HB4 := Lib.hid (HB3.out.trans (hb4.mono HB3.out.size))
    clear hb4 HB3
    go_wp2_with fail
    go_ret
    exact ⟨by simp, HB4.out⟩

end Go.Proofs.YtnifbipbpengeaaDoor
