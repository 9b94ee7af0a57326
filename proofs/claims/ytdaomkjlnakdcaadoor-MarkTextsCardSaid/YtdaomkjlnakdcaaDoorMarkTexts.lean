/- Walks: the reference's Text of a mark; MarkTexts. Conditions: the table of powers of ten and the two sentinels read as listed. -/
import Derived.Test.YtdaomkjlnakdcaaDoorMarkParse
import Derived.Test.YtdaomkjlnakdcaaDoorMarkRef
import Derived.Test.YtdaomkjlnakdcaaDoorMarkTurns
namespace Go.Proofs.YtdaomkjlnakdcaaDoor
open Go.RowKit

set_option maxRecDepth 100000 in
set_option maxHeartbeats 1000000 in
theorem refMarkText_any (x y : Int) (w : World) (hx : In64 x) (hy : In64 y) :
    Calls Tryd.prog 40 #[.agg #[.int .i64 x, .int .i64 y]] w fun e w' => e = .returned (.string ⟨(markText x y).toArray⟩) ∧ Below w.heap.size w w' := by
  have D1 := Lib.hid (fun W => decimal_any x W hx)
  have D2 := Lib.hid (fun W => decimal_any y W hy)
  have HXN := Lib.hid (heap_alloc_new w (.cells #[.int .i64 x, .int .i64 y] 28))
  have HB := Lib.hid ((Below.refl w.heap.size w).alloc (Nat.le_refl _) (.cells #[.int .i64 x, .int .i64 y] 28))
  have lx := Lib.itoa_length_le x hx.1 hx.2
  have ly := Lib.itoa_length_le y hy.1 hy.2
  clear hx hy
  have c0 := blk_cell HXN.out 0
  have c1 := blk_cell HXN.out 1
  by_cases hneg : 0 ≤ y
  · have hm : Hid (Lib.itoa x ++ [43] ++ Lib.itoa y ++ [105] = markText x y) := Lib.hid (by simp [markText, hneg])
    go_enter Tryd.func40, Tryd.ntmps40
    go_wp2_with fail
    (with_reducible refine (D1.out _).mono ?_)
    rintro e w1 ⟨rfl, rfl⟩
    go_wp2_with fail
    (with_reducible refine (D2.out _).mono ?_)
    rintro e w1 ⟨rfl, rfl⟩
    go_wp2_with fail
    go_ret
    refine ⟨?_, HB.out⟩
    rw [← hm.out]
    rfl
  · have hm : Hid (Lib.itoa x ++ Lib.itoa y ++ [105] = markText x y) := Lib.hid (by simp [markText, hneg])
    go_enter Tryd.func40, Tryd.ntmps40
    go_wp2_with fail
    (with_reducible refine (D1.out _).mono ?_)
    rintro e w1 ⟨rfl, rfl⟩
    go_wp2_with fail
    (with_reducible refine (D2.out _).mono ?_)
    rintro e w1 ⟨rfl, rfl⟩
    go_wp2_with fail
    go_ret
    refine ⟨?_, HB.out⟩
    rw [← hm.out]
    rfl

theorem good_tmod (x : Int) : Good (x.tmod 1125899906842625) := by
  unfold Good
  have h1 := Int.tmod_lt_of_pos x (show (0 : Int) < 1125899906842625 by decide)
  have h2 := Int.tmod_lt_of_pos (-x) (show (0 : Int) < 1125899906842625 by decide)
  rw [Int.neg_tmod] at h2
  omega

set_option maxRecDepth 100000 in
set_option maxHeartbeats 1000000 in
theorem markTexts_any (re im : Int) (w : World) (hp : Pow w.heap.size w) (he : Errs w.heap.size w) :
    Calls Tryd.prog 12 #[.int .i64 re, .int .i64 im] w fun e w' => e = .returned (.bool true) ∧ Below w.heap.size w w' := by
  have gx := good_tmod re
  have gy := good_tmod im
  obtain ⟨x, hx⟩ : ∃ x, re.tmod 1125899906842625 = x := ⟨_, rfl⟩
  obtain ⟨y, hy⟩ : ∃ y, im.tmod 1125899906842625 = y := ⟨_, rfl⟩
  rw [hx] at gx
  rw [hy] at gy
  have hx' : In64 x := by unfold Good at gx; unfold In64; omega
  have hy' : In64 y := by unfold Good at gy; unfold In64; omega
  have bx : x.natAbs < 2 ^ 53 := by unfold Good at gx; omega
  have by' : y.natAbs < 2 ^ 53 := by unfold Good at gy; omega
  have HG := Lib.hid (fun W => given_any x y W bx by')
  unfold GivesB at HG
  have HT := Lib.hid (fun a b (ha : IsF a x) (hb : IsF b y) W (hW : Below w.heap.size w W) => markText_any a b x y w.heap.size W (hp.on hW) hW.size ha hb hx' hy')
  have HP := Lib.hid (fun W (hW : Below w.heap.size w W) => markParse_any x y w.heap.size W gx gy (hp.on hW) (he.on hW) hW.size)
  have HR := Lib.hid (fun W => refMarkText_any x y W hx' hy')
  have HA := Lib.hid (fun W (hW : Below w.heap.size w W) => alive_any w.heap.size W (hp.on hW) hW.size)
  obtain ⟨s, hs⟩ : ∃ s : ByteArray, ⟨(markText x y).toArray⟩ = s := ⟨_, rfl⟩
  rw [hs] at HT HP HR
  have HX := Lib.hid (heap_alloc_new w (.cells #[.int .i64 x, .int .i64 y] 28))
  have HB := Lib.hid ((Below.refl w.heap.size w).alloc (Nat.le_refl _) (.cells #[.int .i64 x, .int .i64 y] 28))
  have c0 := blk_cell HX.out 0
  have c1 := blk_cell HX.out 1
  have w1' : IntKind.i64.wrap x = x := IntWalk.i64_in _ hx'
  have w2' : IntKind.i64.wrap y = y := IntWalk.i64_in _ hy'
  clear hp he hx' hy' bx by' gx gy hs
  go_enter Tryd.func12, Tryd.ntmps12
  go_wp2_with fail
  (with_reducible refine (HG.out _).mono ?_)
  rintro e w1 ⟨a1, b1, rfl, ha1, hb1, hw1⟩
  have HX1 := Lib.hid (blk_below HX.out hw1 (blk_lt HX.out))
  have HB1 := Lib.hid (HB.out.trans (hw1.mono HB.out.size))
  have HT1 := Lib.hid (HT.out a1 b1 ha1 hb1 _ HB1.out)
  clear hw1 HX HB ha1 hb1 HT c0 c1
  go_wp2_with fail
  (with_reducible refine HT1.out.mono ?_)
  rintro e w2 ⟨rfl, hw2⟩
  have HX2 := Lib.hid (blk_below HX1.out hw2 (blk_lt HX1.out))
  have HB2 := Lib.hid (HB1.out.trans (hw2.mono HB1.out.size))
  clear hw2 HX1 HB1 HT1
  go_wp2_with fail
  (with_reducible refine (HP.out _ HB2.out).mono ?_)
  rintro e w3 ⟨⟨a3, b3, rfl, ha3, hb3⟩, hw3⟩
  have HX3 := Lib.hid (blk_below HX2.out hw3 (blk_lt HX2.out))
  have HB3 := Lib.hid (HB2.out.trans (hw3.mono HB2.out.size))
  have HI := Lib.hid (And.intro ha3 hb3)
  clear hw3 HX2 HB2 HP ha3 hb3
  go_wp2_with fail
  (with_reducible refine (HA.out _ HB3.out).mono ?_)
  rintro e w4 ⟨rfl, hw4⟩
  have HX4 := Lib.hid (blk_below HX3.out hw4 (blk_lt HX3.out))
  have HB4 := Lib.hid (HB3.out.trans (hw4.mono HB3.out.size))
  clear hw4 HX3 HB3 HA
  have c0 := blk_cell HX4.out 0
  have c1 := blk_cell HX4.out 1
  go_wp2_with fail
  (with_reducible refine (HR.out _).mono ?_)
  rintro e w5 ⟨rfl, hw5⟩
  have HX5 := Lib.hid (blk_below HX4.out hw5 (blk_lt HX4.out))
  have HB5 := Lib.hid (HB4.out.trans (hw5.mono HB4.out.size))
  clear hw5 HX4 HB4 HR c0 c1
  have c0 := blk_cell HX5.out 0
  have c1 := blk_cell HX5.out 1
  go_wp2_with fail
  (with_reducible refine (HG.out _).mono ?_)
  rintro e w6 ⟨a6, b6, rfl, ha6, hb6, hw6⟩
  have HB6 := Lib.hid (HB5.out.trans (hw6.mono HB5.out.size))
  have q1 := feq_int HI.out.1 ha6
  have q2 := feq_int HI.out.2 hb6
  clear hw6 HX5 HB5 HG c0 c1 ha6 hb6
  go_wp2
  go_ret
  exact ⟨by simp, HB6.out⟩

end Go.Proofs.YtdaomkjlnakdcaaDoor
