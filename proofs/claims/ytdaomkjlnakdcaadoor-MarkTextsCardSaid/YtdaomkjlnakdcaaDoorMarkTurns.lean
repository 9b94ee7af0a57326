/- Walks: MarkTurns. Conditions: the table of powers of ten reads as listed. -/
import Derived.Test.YtdaomkjlnakdcaaDoorMarkText
namespace Go.Proofs.YtdaomkjlnakdcaaDoor
open Go.RowKit

theorem given_held (x y : Int) (w : World) (g : Nat) (o : Obj) (hg : w.heap[g]? = some o) (hx : x.natAbs < 2 ^ 53) (hy : y.natAbs < 2 ^ 53) : Calls Tryd.prog 15 #[.agg #[.int .i64 x, .int .i64 y]] w
    fun e w' => ∃ a b : Nat, e = .returned (.complex .f64 a b) ∧ IsF a x ∧ IsF b y ∧ Below w.heap.size w w' ∧ w'.heap[g]? = some o :=
  (given_any x y w hx hy).mono fun _ _ ⟨a, b, he, ha, hb, hw⟩ => ⟨a, b, he, ha, hb, hw, blk_below hg hw (blk_lt hg)⟩

set_option maxRecDepth 100000 in
set_option maxHeartbeats 1000000 in
theorem markTurns_any (re im n : Int) (w : World) (hp : Pow w.heap.size w) (hx : -2147483648 ≤ re ∧ re ≤ 2147483647) (hy : -2147483648 ≤ im ∧ im ≤ 2147483647) :
    Calls Tryd.prog 4 #[.int .i32 re, .int .i32 im, .int .i64 n] w fun e w' => e = .returned (.bool true) ∧ Below w.heap.size w w' := by
  have tb := turn_bd (n := n) (x := re) (y := im) (m := 2147483648) (by omega) (by omega)
  have t1 := turn_bd (n := n) (x := 1) (y := 0) (m := 1) (by omega) (by omega)
  have HXY := Lib.hid (And.intro hx (And.intro hy (And.intro tb t1)))
  have HP := Lib.hid hp
  clear hp hx hy tb t1
  go_enter Tryd.func4, Tryd.ntmps4
  go_wp2_with fail
  refine (of_any re im _ HXY.out.1 HXY.out.2.1).mono ?_
  rintro e w1 ⟨rfl, hb1⟩
  have HB1 := Lib.hid hb1
  clear hb1
  have hX := heap_alloc_new w1 (.cells #[.int .i64 re, .int .i64 im] 28)
  have hB := Lib.hid (show Below w.heap.size w (w1.alloc (.cells #[.int .i64 re, .int .i64 im] 28)) from HB1.out.alloc HB1.out.size _)
  have HX := Lib.hid hX
  clear hX
  have c0 := blk_cell HX.out 0
  have c1 := blk_cell HX.out 1
  go_wp2_with fail
  clear c0 c1
  go_region_held3 (fun w' => w'.cell? ⟨w1.heap.size, 0, none⟩ = some (.int .i64 re) ∧ w'.cell? ⟨w1.heap.size, 1, none⟩ = some (.int .i64 im))
    (first
      | exact ⟨blk_cell HX6.out 0, blk_cell HX6.out 1⟩
      | exact ⟨blk_cell HX5.out 0, blk_cell HX5.out 1⟩
      | exact ⟨blk_cell HX4.out 0, blk_cell HX4.out 1⟩
      | exact ⟨blk_cell HX3.out 0, blk_cell HX3.out 1⟩
      | exact ⟨blk_cell HX2.out 0, blk_cell HX2.out 1⟩
      | exact ⟨blk_cell HX1.out 0, blk_cell HX1.out 1⟩
      | exact ⟨blk_cell HX.out 0, blk_cell HX.out 1⟩)
    (first
      | (go_at_call 20
         (with_reducible refine (unit_any n _).mono ?_)
         rintro e w2 ⟨a, b, rfl, ha, hb, rfl⟩
         have HA := Lib.hid (And.intro ha hb)
         clear ha hb)
      | (go_at_call 21
         (with_reducible refine (refTurn_any 1 0 n _ (by omega) (by omega)).mono ?_)
         rintro e w3 ⟨rfl, hb3⟩
         have HX1 := Lib.hid (blk_below (blk_drew HX.out) hb3 (by simp))
         have hB1 := Lib.hid ((below_drew hB.out).trans (hb3.mono hB.out.size))
         clear HX hB hb3)
      | (go_at_call 15
         (with_reducible refine (given_any (tRe n 1 0) (tIm n 1 0) _ (by have := HXY.out.2.2.2; omega) (by have := HXY.out.2.2.2; omega)).mono ?_)
         rintro e w4 ⟨c, d, rfl, hc, hd, hb4⟩
         have HX2 := Lib.hid (blk_below HX1.out hb4 (blk_lt HX1.out))
         have hB2 := Lib.hid (hB1.out.trans (hb4.mono hB1.out.size))
         have q1 := feq_int HA.out.1 hc
         have q2 := feq_int HA.out.2 hd
         clear HX1 hB1 hb4 HA hc hd)
      | (go_at_call 15
         (with_reducible refine (given_any re im _ (by have := HXY.out; omega) (by have := HXY.out; omega)).mono ?_)
         rintro e w5 ⟨c5, d5, rfl, hc, hd, hb4⟩
         have HX3 := Lib.hid (blk_below HX2.out hb4 (blk_lt HX2.out))
         have hB3 := Lib.hid (hB2.out.trans (hb4.mono hB2.out.size))
         have HA := Lib.hid (And.intro hc hd)
         clear HX2 hB2 hb4 hc hd)
      | (go_at_call 22
         (with_reducible refine (turn_any _ _ re im n _ HA.out.1 HA.out.2 (by have := HXY.out; omega) (by have := HXY.out; omega)).mono ?_)
         rintro e w6 ⟨a6, b6, rfl, ha, hb, rfl⟩
         have HA6 := Lib.hid (And.intro ha hb)
         clear ha hb HA)
      | (go_at_call 21
         (with_reducible refine (refTurn_any re im n _ (by have := HXY.out; omega) (by have := HXY.out; omega)).mono ?_)
         rintro e w7 ⟨rfl, hb3⟩
         have HX4 := Lib.hid (blk_below HX3.out hb3 (blk_lt HX3.out))
         have hB4 := Lib.hid (hB3.out.trans (hb3.mono hB3.out.size))
         clear HX3 hB3 hb3)
      | (go_at_call 15
         (with_reducible refine (given_any (tRe n re im) (tIm n re im) _ (by have := HXY.out; omega) (by have := HXY.out; omega)).mono ?_)
         rintro e w8 ⟨c8, d8, rfl, hc, hd, hb4⟩
         have HX5 := Lib.hid (blk_below HX4.out hb4 (blk_lt HX4.out))
         have hB5 := Lib.hid (hB4.out.trans (hb4.mono hB4.out.size))
         have q3 := feq_int HA6.out.1 hc
         have q4 := feq_int HA6.out.2 hd
         clear HX4 hB4 hb4 HA6 hc hd))
  clear q1 q2 q3 q4
  have c0 := blk_cell HX5.out 0
  have c1 := blk_cell HX5.out 1
  go_wp2_with fail
  refine (given_any re im _ (by have := HXY.out; omega) (by have := HXY.out; omega)).mono ?_
  rintro e w9 ⟨c9, d9, rfl, hc, hd, hb9⟩
  have HX6 := Lib.hid (blk_below HX5.out hb9 (blk_lt HX5.out))
  have hB6 := Lib.hid (hB5.out.trans (hb9.mono hB5.out.size))
  have HA := Lib.hid (And.intro hc hd)
  clear c0 c1 hb9 hc hd HX5 hB5
  go_wp2
  go_loop [8, 32] (fun z i => ∃ k : Nat, k ≤ 4 ∧ i = .int .i64 k ∧ ∃ a b : Nat, z = .complex .f64 a b ∧ IsF a (tRe k re im) ∧ IsF b (tIm k re im)) (fun _ i => 4 - (intOf i).toNat)
  case atStart => exact ⟨0, Nat.zero_le _, rfl, c9, d9, rfl, HA.out.1, HA.out.2⟩
  case round =>
    obtain ⟨k, hk, rfl, a', b', rfl, ha, hb⟩ := hrel
    have HK := Lib.hid (And.intro ha hb)
    clear ha hb
    by_cases hlt : k < 4
    · have bd := turn_bd (n := k) (x := re) (y := im) (m := 2147483648) (by have := HXY.out; omega) (by have := HXY.out; omega)
      have C := Lib.hid (turn_any a' b' (tRe k re im) (tIm k re im) 1 w9 HK.out.1 HK.out.2 (by omega) (by omega))
      have hs := Lib.hid (turn_step k re im)
      clear bd
      go_wp2_with fail
      (with_reducible refine C.out.mono ?_)
      rintro e w10 ⟨a2, b2, rfl, ha, hb, rfl⟩
      have HK2 := Lib.hid (And.intro ha hb)
      clear ha hb C
      go_wp2
      go_round
      case rel =>
        have h := hs.out
        rw [← Int.natCast_succ] at h
        exact ⟨k + 1, by omega, by go_num, a2, b2, rfl, by rw [h.1]; exact HK2.out.1, by rw [h.2]; exact HK2.out.2⟩
      case measure => simp [intOf]; omega
    · have hk4 : k = 4 := by omega
      subst hk4
      have h4 : tRe ((4 : Nat) : Int) re im = re ∧ tIm ((4 : Nat) : Int) re im = im := ⟨by simp [tRe], by simp [tIm]⟩
      have HK4 := Lib.hid (show IsF a' re ∧ IsF b' im by have := HK.out; rwa [h4.1, h4.2] at this)
      clear h4 HK hlt hk
      have C := Lib.hid (alive_any w.heap.size w9 (HP.out.on hB6.out) hB6.out.size)
      go_wp2_with fail
      (with_reducible refine C.out.mono ?_)
      rintro e w10 ⟨rfl, hb10⟩
      have HX7 := Lib.hid (blk_below HX6.out hb10 (blk_lt HX6.out))
      have hB7 := Lib.hid (hB6.out.trans (hb10.mono hB6.out.size))
      have c0 := blk_cell HX7.out 0
      have c1 := blk_cell HX7.out 1
      clear C hb10
      go_wp2_with fail
      (with_reducible refine (given_any re im _ (by have := HXY.out; omega) (by have := HXY.out; omega)).mono ?_)
      rintro e w11 ⟨c11, d11, rfl, hc, hd, hb11⟩
      have hB8 := Lib.hid (hB7.out.trans (hb11.mono hB7.out.size))
      have q1 := feq_int HK4.out.1 hc
      have q2 := feq_int HK4.out.2 hd
      clear c0 c1 hb11 hc hd
      go_wp2
      go_ret
      exact ⟨rfl, hB8.out⟩

end Go.Proofs.YtdaomkjlnakdcaaDoor
