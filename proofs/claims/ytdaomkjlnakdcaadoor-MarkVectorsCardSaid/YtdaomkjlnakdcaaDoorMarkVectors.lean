/- Walks: MarkVectors. Conditions: the table of powers of ten reads as listed. -/
import Derived.Test.YtdaomkjlnakdcaaDoorMarkText
namespace Go.Proofs.YtdaomkjlnakdcaaDoor
open Go.RowKit

set_option maxHeartbeats 800000 in
theorem markVectors_any (A : Option Addr) (cap : Nat) (zs : List Int) (x : Int) (w : World) (hp : Pow w.heap.size w) (hr : RdI w w.heap.size A zs) :
    Calls Tryd.prog 3 #[.slice A zs.length cap, .int .i64 x] w fun e w' => e = .returned (.bool true) ∧ Below w.heap.size w w' := by
  have C0 := Lib.hid (alive_any _ w hp (Nat.le_refl _))
  clear hp
  by_cases hlen : 1000 < zs.length
  · have hd : (1000 : Int) < zs.length := by omega
    go_enter Tryd.func3, Tryd.ntmps3
    go_wp2_with fail
    refine C0.out.mono ?_
    rintro e w1 ⟨rfl, hb1⟩
    go_wp2
    go_ret
    exact ⟨rfl, hb1⟩
  · have hd : (zs.length : Int) ≤ 1000 := by omega
    have hlb := low_bd x
    have LB := Lib.hid hlb
    have HD := Lib.hid hlen
    have q5 := fun c (h : IsF c (low x)) => Lib.hid (feq_int h (IsF.ofInt (low x) (by omega)))
    clear hlen hlb
    go_enter Tryd.func3, Tryd.ntmps3
    go_wp2_with fail
    refine C0.out.mono ?_
    rintro e w1 ⟨rfl, hb1⟩
    have HB1 := Lib.hid hb1
    clear C0 hb1
    have hz1 := Lib.hid (hr.below HB1.out)
    have C1 := Lib.hid (markOf_any A cap zs w1 (hz1.out.more HB1.out.size) (by have := HD.out; omega))
    go_wp2_with fail
    refine C1.out.mono ?_
    rintro e w2 ⟨⟨a, b, rfl, ha, hb⟩, hb2⟩
    have HB2 := Lib.hid (HB1.out.trans (hb2.mono HB1.out.size))
    have HA := Lib.hid (And.intro ha hb)
    clear hb2 ha hb C1 hz1
    have hz2 := Lib.hid (hr.below HB2.out)
    have C2 := Lib.hid (refOf_any A cap zs w2 (hz2.out.more HB2.out.size) (by have := HD.out; omega))
    go_wp2_with fail
    refine C2.out.mono ?_
    rintro e w3 ⟨rfl, hb3⟩
    have HB3 := Lib.hid (HB2.out.trans (hb3.mono HB2.out.size))
    have bd := of_bd zs 0
    have C3 := Lib.hid (given_any (ofRe 0 zs) (ofIm 0 zs) w3 (by have := HD.out; omega) (by have := HD.out; omega))
    clear hb3 C2 hz2 bd
    go_wp2_with fail
    refine C3.out.mono ?_
    rintro e w4 ⟨c, d, rfl, hc, hd', hb4⟩
    have HB4 := Lib.hid (HB3.out.trans (hb4.mono HB3.out.size))
    have q1 := feq_int HA.out.1 hc
    have q2 := feq_int HA.out.2 hd'
    clear hb4 C3 hc hd'
    go_wp2_with fail
    refine (low_any x _).mono ?_
    rintro e w5 ⟨rfl, rfl⟩
    go_wp2_with fail
    refine (refLow_any x _).mono ?_
    rintro e w5 ⟨rfl, rfl⟩
    go_wp2_with fail
    refine (markOf_new [x] _ 2 (by simp)).mono ?_
    rintro e w5 ⟨⟨a', b', rfl, ha, hb⟩, hb5⟩
    have HB5 := Lib.hid (HB4.out.trans (hb5.mono HB4.out.size))
    rw [show ofRe 0 [x] = low x by simp [ofRe, tRe]] at ha
    rw [show ofIm 0 [x] = 0 by simp [ofIm, tIm]] at hb
    have q3 := (q5 _ ha).out
    have q4 := feq_int hb IsF.nought
    clear hb5 ha hb q5
    go_wp2_with fail
    refine (low_any x _).mono ?_
    rintro e w6 ⟨rfl, rfl⟩
    go_wp2
    go_ret
    exact ⟨rfl, HB5.out⟩

end Go.Proofs.YtdaomkjlnakdcaaDoor
