/- Walks: TagParses. Conditions: the table of powers of ten, the two sentinels and the library's bound on a search read as listed. -/
import Derived.Test.YtajilipbnfpemaaDoorTagParse
import Derived.Test.YtajilipbnfpemaaDoorRefTagParse
import Derived.Test.YtajilipbnfpemaaDoorEqAgg
namespace Go.Proofs.YtajilipbnfpemaaDoor
open Go.RowKit

set_option maxRecDepth 100000 in
set_option maxHeartbeats 4000000 in
theorem tagParses_any (s : ByteArray) (w : World) (hsm : s.size ≤ 9223372036854775807) (hp : Pow w.heap.size w) (he : Errs w.heap.size w) (hm : MaxL w.heap.size w) :
    Calls Tryd.prog 11 #[.string s] w fun e w' => e = .returned (.bool true) ∧ Below w.heap.size w w' := by
  have HA := Lib.hid (fun W (hb : Below w.heap.size w W) => alive17_any w.heap.size W (hp.on hb) hb.size)
  by_cases h300 : 300 < s.size
  · have hd : (300 : Int) < (s.size : Int) := by omega
    clear hp he hm h300 hsm
    go_enter Tryd.func11, Tryd.ntmps11
    go_wp2_with fail
    (with_reducible refine (HA.out _ (Below.refl _ _)).mono ?_)
    rintro e w1 ⟨rfl, hb1⟩
    go_wp2_with fail
    go_ret
    exact ⟨rfl, hb1⟩
  have hd : ¬ (300 : Int) < (s.size : Int) := by omega
  have PA := tagParse_any s w.heap.size w (by omega) hp he hm (Nat.le_refl _)
  have RP := fun W => refTagParse_any s W (by omega)
  have gT := guardT
  have qT := eqlT
  rcases tagS_out s.data.toList with ⟨h1, h2, h3⟩ | ⟨h1, h2, _⟩
  · have TX := fun W (hb : Below w.heap.size w W) => tagText_yes (tagS s.data.toList).1 h2 w.heap.size W (hp.on hb) hb.size
    rw [h1] at PA RP
    generalize (tagS s.data.toList).1 = t at PA RP TX h2 h3
    have hq : (tagText t == s.toList) = true := by rw [ByteArray.toList_eq, h3]; simp
    clear hp he hm h300 hsm h1 h2 h3
    generalize tagText t = l at TX hq
    obtain ⟨a, b, p, r, c⟩ := t
    unfold tgV at PA RP TX
    dsimp only at PA RP TX
    have HPa := Lib.hid PA
    have HRp := Lib.hid RP
    have HTx := Lib.hid TX
    clear PA RP TX
    go_enter Tryd.func11, Tryd.ntmps11
    go_wp2_with fail
    (with_reducible refine HPa.out.mono ?_)
    rintro e w1 ⟨rfl, hb1⟩
    have HB1 := Lib.hid (hb1.alloc hb1.size (.cells #[.int .i64 a, .int .i64 b, .int .i64 p, .int .i64 r, .int .i64 c] 23))
    have HX1 := Lib.hid (heap_alloc_new w1 (.cells #[.int .i64 a, .int .i64 b, .int .i64 p, .int .i64 r, .int .i64 c] 23))
    clear hb1 HPa
    go_wp2_with fail
    (with_reducible refine (HRp.out _).mono ?_)
    rintro e w2 ⟨rfl, hb2⟩
    have HB2 := Lib.hid ((HB1.out.trans (hb2.mono HB1.out.size)).alloc (Nat.le_trans HB1.out.size hb2.size) (.cells #[.int .i64 a, .int .i64 b, .int .i64 p, .int .i64 r, .int .i64 c] 23))
    have HX2 := Lib.hid (blk_alloc (blk_below HX1.out hb2 (blk_lt HX1.out)) (.cells #[.int .i64 a, .int .i64 b, .int .i64 p, .int .i64 r, .int .i64 c] 23))
    have HY2 := Lib.hid (heap_alloc_new w2 (.cells #[.int .i64 a, .int .i64 b, .int .i64 p, .int .i64 r, .int .i64 c] 23))
    clear hb2 HB1 HX1 HRp
    go_wp2_with fail
    (with_reducible refine (HA.out _ HB2.out).mono ?_)
    rintro e w3 ⟨rfl, hb3⟩
    have HB3 := Lib.hid (HB2.out.trans (hb3.mono HB2.out.size))
    have HX3 := Lib.hid (blk_below HX2.out hb3 (blk_lt HX2.out))
    have HY3 := Lib.hid (blk_below HY2.out hb3 (blk_lt HY2.out))
    clear hb3 HB2 HX2 HY2 HA
    have c0 := blk_cell HX3.out 0
    have c1 := blk_cell HX3.out 1
    have c2 := blk_cell HX3.out 2
    have c3 := blk_cell HX3.out 3
    have c4 := blk_cell HX3.out 4
    have d0 := blk_cell HY3.out 0
    have d1 := blk_cell HY3.out 1
    have d2 := blk_cell HY3.out 2
    have d3 := blk_cell HY3.out 3
    have d4 := blk_cell HY3.out 4
    go_wp2_with fail
    (with_reducible refine (HTx.out _ HB3.out).mono ?_)
    rintro e w4 ⟨rfl, hb4⟩
    have HB4 := Lib.hid (HB3.out.trans (hb4.mono HB3.out.size))
    clear hb4 HB3
    go_wp2_with fail
    go_ret
    exact ⟨by simp, HB4.out⟩
  · rw [h1, h2] at PA RP
    clear hp he hm h300 hsm h1 h2
    unfold tg0 at PA RP
    unfold tgV at PA RP
    dsimp only at PA RP
    have HPa := Lib.hid PA
    have HRp := Lib.hid RP
    clear PA RP
    go_enter Tryd.func11, Tryd.ntmps11
    go_wp2_with fail
    (with_reducible refine HPa.out.mono ?_)
    rintro e w1 ⟨rfl, hb1⟩
    have HB1 := Lib.hid (hb1.alloc hb1.size (.cells #[.int .i64 0, .int .i64 0, .int .i64 0, .int .i64 0, .int .i64 0] 23))
    have HX1 := Lib.hid (heap_alloc_new w1 (.cells #[.int .i64 0, .int .i64 0, .int .i64 0, .int .i64 0, .int .i64 0] 23))
    clear hb1 HPa
    go_wp2_with fail
    (with_reducible refine (HRp.out _).mono ?_)
    rintro e w2 ⟨rfl, hb2⟩
    have HB2 := Lib.hid ((HB1.out.trans (hb2.mono HB1.out.size)).alloc (Nat.le_trans HB1.out.size hb2.size) (.cells #[.int .i64 0, .int .i64 0, .int .i64 0, .int .i64 0, .int .i64 0] 23))
    have HX2 := Lib.hid (blk_alloc (blk_below HX1.out hb2 (blk_lt HX1.out)) (.cells #[.int .i64 0, .int .i64 0, .int .i64 0, .int .i64 0, .int .i64 0] 23))
    have HY2 := Lib.hid (heap_alloc_new w2 (.cells #[.int .i64 0, .int .i64 0, .int .i64 0, .int .i64 0, .int .i64 0] 23))
    clear hb2 HB1 HX1 HRp
    go_wp2_with fail
    (with_reducible refine (HA.out _ HB2.out).mono ?_)
    rintro e w3 ⟨rfl, hb3⟩
    have HB3 := Lib.hid (HB2.out.trans (hb3.mono HB2.out.size))
    have HX3 := Lib.hid (blk_below HX2.out hb3 (blk_lt HX2.out))
    have HY3 := Lib.hid (blk_below HY2.out hb3 (blk_lt HY2.out))
    clear hb3 HB2 HX2 HY2 HA
    have c0 := blk_cell HX3.out 0
    have c1 := blk_cell HX3.out 1
    have c2 := blk_cell HX3.out 2
    have c3 := blk_cell HX3.out 3
    have c4 := blk_cell HX3.out 4
    have d0 := blk_cell HY3.out 0
    have d1 := blk_cell HY3.out 1
    have d2 := blk_cell HY3.out 2
    have d3 := blk_cell HY3.out 3
    have d4 := blk_cell HY3.out 4
    go_wp2_with fail
    go_ret
    exact ⟨by simp, HB3.out⟩

end Go.Proofs.YtajilipbnfpemaaDoor
