/- Walks: TagUnpacks. Conditions: the table of powers of ten reads as listed. -/
import Derived.Test.YtajilipbnfpemaaDoorTagText
import Derived.Test.YtajilipbnfpemaaDoorRefUnpack
namespace Go.Proofs.YtajilipbnfpemaaDoor
open Go.RowKit

set_option maxRecDepth 100000 in
set_option maxHeartbeats 4000000 in
theorem tagUnpacks_any (xi yi : Int) (w : World) (hp : Pow w.heap.size w) (hx : 0 ≤ xi ∧ xi ≤ 18446744073709551615) (hy : 0 ≤ yi ∧ yi ≤ 18446744073709551615) :
    Calls Tryd.prog 4 #[.int .u64 xi, .int .u64 yi] w fun e w' => e = .returned (.bool true) ∧ Below w.heap.size w w' := by
  obtain ⟨x, rfl⟩ := Int.eq_ofNat_of_zero_le hx.1
  obtain ⟨y, rfl⟩ := Int.eq_ofNat_of_zero_le hy.1
  have hx' : x < 18446744073709551616 := by omega
  have hy' : y < 18446744073709551616 := by omega
  have HA := Lib.hid (fun W (hb : Below w.heap.size w W) => alive17_any w.heap.size W (hp.on hb) hb.size)
  have U := fun W => unpack_any x y hx' hy' W
  have V := fun W => refUnpack_any x y hx' hy' W
  have HB0 := Lib.hid (Below.refl w.heap.size w)
  have g2 := guard2
  have gT := guardT
  have q2 := eql2
  have qT := eqlT
  clear hp hx hy hx' hy'
  by_cases hok : tagOk (unpT x y)
  · have hS : unpS x y = (unpT x y, true) := by unfold unpS; rw [if_pos hok]
    rw [hS] at U V
    have P := fun W => pack_any (unpT x y) W
    have hpv : packV (unpT x y) = .agg #[.int .u64 x, .int .u64 y] := by
      have := pack_unp (x : Int) (y : Int)
      simp [packV, hok, this]
    rw [decide_eq_true hok, hpv] at P
    generalize unpT (x : Int) (y : Int) = t at U V P
    obtain ⟨a, b, p, r, c⟩ := t
    unfold tgV at U V P
    dsimp only at U V P
    have HU := Lib.hid U
    have HV := Lib.hid V
    have HP := Lib.hid P
    clear U V P hS hok hpv
    go_enter Tryd.func4, Tryd.ntmps4
    go_wp2_with fail
    (with_reducible refine (HU.out _).mono ?_)
    rintro e w1 ⟨rfl, hb1⟩
    have HB1 := Lib.hid (hb1.alloc hb1.size (.cells #[.int .i64 a, .int .i64 b, .int .i64 p, .int .i64 r, .int .i64 c] 23))
    have HX1 := Lib.hid (heap_alloc_new w1 (.cells #[.int .i64 a, .int .i64 b, .int .i64 p, .int .i64 r, .int .i64 c] 23))
    clear hb1 HU
    go_wp2_with fail
    (with_reducible refine (HV.out _).mono ?_)
    rintro e w2 ⟨rfl, hb2⟩
    have HB2 := Lib.hid ((HB1.out.trans (hb2.mono HB1.out.size)).alloc (Nat.le_trans HB1.out.size hb2.size) (.cells #[.int .i64 a, .int .i64 b, .int .i64 p, .int .i64 r, .int .i64 c] 23))
    have HX2 := Lib.hid (blk_alloc (blk_below HX1.out hb2 (blk_lt HX1.out)) (.cells #[.int .i64 a, .int .i64 b, .int .i64 p, .int .i64 r, .int .i64 c] 23))
    have HY2 := Lib.hid (heap_alloc_new w2 (.cells #[.int .i64 a, .int .i64 b, .int .i64 p, .int .i64 r, .int .i64 c] 23))
    clear hb2 HX1 HB1 HV
    have c0 := blk_cell HX2.out 0
    have c1 := blk_cell HX2.out 1
    have c2 := blk_cell HX2.out 2
    have c3 := blk_cell HX2.out 3
    have c4 := blk_cell HX2.out 4
    go_wp2_with fail
    (with_reducible refine (HP.out _).mono ?_)
    rintro e w3 ⟨rfl, hb3⟩
    have HB3 := Lib.hid ((HB2.out.trans (hb3.mono HB2.out.size)).alloc (Nat.le_trans HB2.out.size hb3.size) (.cells #[.int .u64 x, .int .u64 y] 25))
    have HX3 := Lib.hid (blk_alloc (blk_below HX2.out hb3 (blk_lt HX2.out)) (.cells #[.int .u64 x, .int .u64 y] 25))
    have HY3 := Lib.hid (blk_alloc (blk_below HY2.out hb3 (blk_lt HY2.out)) (.cells #[.int .u64 x, .int .u64 y] 25))
    have HZ3 := Lib.hid (heap_alloc_new w3 (.cells #[.int .u64 x, .int .u64 y] 25))
    clear hb3 HX2 HB2 HY2 HP c0 c1 c2 c3 c4
    go_wp2_with fail
    (with_reducible refine (HA.out _ HB3.out).mono ?_)
    rintro e w4 ⟨rfl, hb4⟩
    have HB4 := Lib.hid (HB3.out.trans (hb4.mono HB3.out.size))
    have HX4 := Lib.hid (blk_below HX3.out hb4 (blk_lt HX3.out))
    have HY4 := Lib.hid (blk_below HY3.out hb4 (blk_lt HY3.out))
    have HZ4 := Lib.hid (blk_below HZ3.out hb4 (blk_lt HZ3.out))
    clear hb4 HX3 HB3 HY3 HZ3 HA
    have c0 := blk_cell HX4.out 0
    have c1 := blk_cell HX4.out 1
    have c2 := blk_cell HX4.out 2
    have c3 := blk_cell HX4.out 3
    have c4 := blk_cell HX4.out 4
    have d0 := blk_cell HY4.out 0
    have d1 := blk_cell HY4.out 1
    have d2 := blk_cell HY4.out 2
    have d3 := blk_cell HY4.out 3
    have d4 := blk_cell HY4.out 4
    have f0 := blk_cell HZ4.out 0
    have f1 := blk_cell HZ4.out 1
    go_wp2_with fail
    go_ret
    exact ⟨rfl, HB4.out⟩
  · have hS : unpS x y = (tg0, false) := by unfold unpS; rw [if_neg hok]
    rw [hS] at U V
    have P := fun W => pack_any tg0 W
    have hpv : packV tg0 = .agg #[.int .u64 0, .int .u64 0] := by simp [packV, tg0, tagOk, packA, packB]
    rw [decide_eq_true (show tagOk tg0 by decide), hpv] at P
    unfold tgV tg0 at U V P
    dsimp only at U V P
    have HU := Lib.hid U
    have HV := Lib.hid V
    have HP := Lib.hid P
    clear U V P hS hok hpv
    go_enter Tryd.func4, Tryd.ntmps4
    go_wp2_with fail
    (with_reducible refine (HU.out _).mono ?_)
    rintro e w1 ⟨rfl, hb1⟩
    have HB1 := Lib.hid (hb1.alloc hb1.size (.cells #[.int .i64 0, .int .i64 0, .int .i64 0, .int .i64 0, .int .i64 0] 23))
    have HX1 := Lib.hid (heap_alloc_new w1 (.cells #[.int .i64 0, .int .i64 0, .int .i64 0, .int .i64 0, .int .i64 0] 23))
    clear hb1 HU
    go_wp2_with fail
    (with_reducible refine (HV.out _).mono ?_)
    rintro e w2 ⟨rfl, hb2⟩
    have HB2 := Lib.hid ((HB1.out.trans (hb2.mono HB1.out.size)).alloc (Nat.le_trans HB1.out.size hb2.size) (.cells #[.int .i64 0, .int .i64 0, .int .i64 0, .int .i64 0, .int .i64 0] 23))
    have HX2 := Lib.hid (blk_alloc (blk_below HX1.out hb2 (blk_lt HX1.out)) (.cells #[.int .i64 0, .int .i64 0, .int .i64 0, .int .i64 0, .int .i64 0] 23))
    have HY2 := Lib.hid (heap_alloc_new w2 (.cells #[.int .i64 0, .int .i64 0, .int .i64 0, .int .i64 0, .int .i64 0] 23))
    clear hb2 HX1 HB1 HV
    have c0 := blk_cell HX2.out 0
    have c1 := blk_cell HX2.out 1
    have c2 := blk_cell HX2.out 2
    have c3 := blk_cell HX2.out 3
    have c4 := blk_cell HX2.out 4
    go_wp2_with fail
    (with_reducible refine (HP.out _).mono ?_)
    rintro e w3 ⟨rfl, hb3⟩
    have HB3 := Lib.hid ((HB2.out.trans (hb3.mono HB2.out.size)).alloc (Nat.le_trans HB2.out.size hb3.size) (.cells #[.int .u64 0, .int .u64 0] 25))
    have HX3 := Lib.hid (blk_alloc (blk_below HX2.out hb3 (blk_lt HX2.out)) (.cells #[.int .u64 0, .int .u64 0] 25))
    have HY3 := Lib.hid (blk_alloc (blk_below HY2.out hb3 (blk_lt HY2.out)) (.cells #[.int .u64 0, .int .u64 0] 25))
    have HZ3 := Lib.hid (heap_alloc_new w3 (.cells #[.int .u64 0, .int .u64 0] 25))
    clear hb3 HX2 HB2 HY2 HP c0 c1 c2 c3 c4
    go_wp2_with fail
    (with_reducible refine (HA.out _ HB3.out).mono ?_)
    rintro e w4 ⟨rfl, hb4⟩
    have HB4 := Lib.hid (HB3.out.trans (hb4.mono HB3.out.size))
    have HX4 := Lib.hid (blk_below HX3.out hb4 (blk_lt HX3.out))
    have HY4 := Lib.hid (blk_below HY3.out hb4 (blk_lt HY3.out))
    have HZ4 := Lib.hid (blk_below HZ3.out hb4 (blk_lt HZ3.out))
    clear hb4 HX3 HB3 HY3 HZ3 HA
    have c0 := blk_cell HX4.out 0
    have c1 := blk_cell HX4.out 1
    have c2 := blk_cell HX4.out 2
    have c3 := blk_cell HX4.out 3
    have c4 := blk_cell HX4.out 4
    have d0 := blk_cell HY4.out 0
    have d1 := blk_cell HY4.out 1
    have d2 := blk_cell HY4.out 2
    have d3 := blk_cell HY4.out 3
    have d4 := blk_cell HY4.out 4
    have f0 := blk_cell HZ4.out 0
    have f1 := blk_cell HZ4.out 1
    go_wp2_with fail
    go_ret
    exact ⟨rfl, HB4.out⟩

end Go.Proofs.YtajilipbnfpemaaDoor
