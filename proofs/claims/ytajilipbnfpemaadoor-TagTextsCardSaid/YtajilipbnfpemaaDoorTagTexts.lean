/- Walks: TagTexts. Conditions: the table of powers of ten, the two sentinels and the library's bound on a search read as listed. -/
import Derived.Test.YtajilipbnfpemaaDoorTagParse
import Derived.Test.YtajilipbnfpemaaDoorRefTagParse
import Derived.Test.YtajilipbnfpemaaDoorEqAgg
namespace Go.Proofs.YtajilipbnfpemaaDoor
open Go.RowKit

theorem tagText_len {t : Tg} (h : tagOk t) : 0 < (tagText t).length ∧ (tagText t).length ≤ 200 := by
  have hin := tag_in h
  have l1 := Lib.itoa_length_le t.a hin.1.1 hin.1.2
  have l2 := Lib.itoa_length_le t.b hin.2.1.1 hin.2.1.2
  have l3 := Lib.itoa_length_le t.r hin.2.2.1.1 hin.2.2.1.2
  have l4 := Lib.itoa_length_le t.c hin.2.2.2.1 hin.2.2.2.2
  have l5 := phase_len t.p
  rw [text_flat]
  constructor
  · simp
  · simp
    omega

set_option maxRecDepth 100000 in
set_option maxHeartbeats 4000000 in
theorem tagTexts_any (t : Tg) (w : World) (hp : Pow w.heap.size w) (he : Errs w.heap.size w) (hm : MaxL w.heap.size w) :
    Calls Tryd.prog 10 #[tgV t] w fun e w' => e = .returned (.bool true) ∧ Below w.heap.size w w' := by
  have HA := Lib.hid (fun W (hb : Below w.heap.size w W) => alive17_any w.heap.size W (hp.on hb) hb.size)
  have TX := fun W (hb : Below w.heap.size w W) => tagText_any t w.heap.size W (hp.on hb) hb.size
  have RT := fun W => refTagText_any t W
  have RR := fun W => refRight_any t W
  have gT := guardT
  have qT := eqlT
  by_cases hok : tagOk t
  · have hS : tagTextS t = tagText t := by unfold tagTextS; rw [if_pos hok]
    have hl := tagText_len hok
    have hts : tagS (tagText t) = (t, true) := tagS_yes hok rfl
    rw [hS] at TX RT
    rw [decide_eq_true hok] at RR
    obtain ⟨S, hSS⟩ : ∃ S : ByteArray, ⟨(tagText t).toArray⟩ = S := ⟨_, rfl⟩
    have hSd : S.data.toList = tagText t := by rw [← hSS]
    have PA := fun W (hb : Below w.heap.size w W) => tagParse_any S w.heap.size W (by have : S.data.toList.length = S.size := Array.length_toList; rw [hSd] at this; omega) (hp.on hb) (he.on hb) (hm.on hb) hb.size
    rw [hSd, hts] at PA
    rw [hSS] at TX RT
    clear hp he hm hok hS hl hts hSS hSd
    obtain ⟨a, b, p, r, c⟩ := t
    unfold tgV at TX RT RR PA ⊢
    dsimp only at TX RT RR PA ⊢
    have HTx := Lib.hid TX
    have HRt := Lib.hid RT
    have HRr := Lib.hid RR
    have HPa := Lib.hid PA
    clear TX RT RR PA
    have HB := Lib.hid ((Below.refl w.heap.size w).alloc (Nat.le_refl _) (.cells #[.int .i64 a, .int .i64 b, .int .i64 p, .int .i64 r, .int .i64 c] 23))
    have HX := Lib.hid (heap_alloc_new w (.cells #[.int .i64 a, .int .i64 b, .int .i64 p, .int .i64 r, .int .i64 c] 23))
    go_enter Tryd.func10, Tryd.ntmps10
    go_wp2_with fail
    (with_reducible refine (HTx.out _ HB.out).mono ?_)
    rintro e w1 ⟨rfl, hb1⟩
    have HB1 := Lib.hid (HB.out.trans (hb1.mono HB.out.size))
    have HX1 := Lib.hid (blk_below HX.out hb1 (blk_lt HX.out))
    clear hb1 HB HX HTx
    have c0 := blk_cell HX1.out 0
    have c1 := blk_cell HX1.out 1
    have c2 := blk_cell HX1.out 2
    have c3 := blk_cell HX1.out 3
    have c4 := blk_cell HX1.out 4
    go_wp2_with fail
    (with_reducible refine (HPa.out _ HB1.out).mono ?_)
    rintro e w2 ⟨rfl, hb2⟩
    have HB2 := Lib.hid ((HB1.out.trans (hb2.mono HB1.out.size)).alloc (Nat.le_trans HB1.out.size hb2.size) (.cells #[.int .i64 a, .int .i64 b, .int .i64 p, .int .i64 r, .int .i64 c] 23))
    have HX2 := Lib.hid (blk_alloc (blk_below HX1.out hb2 (blk_lt HX1.out)) (.cells #[.int .i64 a, .int .i64 b, .int .i64 p, .int .i64 r, .int .i64 c] 23))
    have HY2 := Lib.hid (heap_alloc_new w2 (.cells #[.int .i64 a, .int .i64 b, .int .i64 p, .int .i64 r, .int .i64 c] 23))
    clear hb2 HB1 HX1 HPa c0 c1 c2 c3 c4
    have c0 := blk_cell HX2.out 0
    have c1 := blk_cell HX2.out 1
    have c2 := blk_cell HX2.out 2
    have c3 := blk_cell HX2.out 3
    have c4 := blk_cell HX2.out 4
    go_wp2_with fail
    (with_reducible refine (HRr.out _).mono ?_)
    rintro e w3 ⟨rfl, hb3⟩
    have HB3 := Lib.hid (HB2.out.trans (hb3.mono HB2.out.size))
    have HX3 := Lib.hid (blk_below HX2.out hb3 (blk_lt HX2.out))
    have HY3 := Lib.hid (blk_below HY2.out hb3 (blk_lt HY2.out))
    clear hb3 HB2 HX2 HY2 HRr c0 c1 c2 c3 c4
    go_wp2_with fail
    (with_reducible refine (HA.out _ HB3.out).mono ?_)
    rintro e w4 ⟨rfl, hb4⟩
    have HB4 := Lib.hid (HB3.out.trans (hb4.mono HB3.out.size))
    have HX4 := Lib.hid (blk_below HX3.out hb4 (blk_lt HX3.out))
    have HY4 := Lib.hid (blk_below HY3.out hb4 (blk_lt HY3.out))
    clear hb4 HB3 HX3 HY3 HA
    have c0 := blk_cell HX4.out 0
    have c1 := blk_cell HX4.out 1
    have c2 := blk_cell HX4.out 2
    have c3 := blk_cell HX4.out 3
    have c4 := blk_cell HX4.out 4
    go_wp2_with fail
    (with_reducible refine (HRt.out _).mono ?_)
    rintro e w5 ⟨rfl, hb5⟩
    have HB5 := Lib.hid (HB4.out.trans (hb5.mono HB4.out.size))
    have HX5 := Lib.hid (blk_below HX4.out hb5 (blk_lt HX4.out))
    have HY5 := Lib.hid (blk_below HY4.out hb5 (blk_lt HY4.out))
    clear hb5 HB4 HX4 HY4 HRt c0 c1 c2 c3 c4
    have c0 := blk_cell HX5.out 0
    have c1 := blk_cell HX5.out 1
    have c2 := blk_cell HX5.out 2
    have c3 := blk_cell HX5.out 3
    have c4 := blk_cell HX5.out 4
    have d0 := blk_cell HY5.out 0
    have d1 := blk_cell HY5.out 1
    have d2 := blk_cell HY5.out 2
    have d3 := blk_cell HY5.out 3
    have d4 := blk_cell HY5.out 4
    go_wp2_with fail
    go_ret
    exact ⟨by simp, HB5.out⟩
  · have hS : tagTextS t = [] := by unfold tagTextS; rw [if_neg hok]
    have hts : tagS [] = (tg0, false) := tagS_no fun u hu e => by have := (tagText_len hu).1; rw [← e] at this; exact absurd this (by decide)
    rw [hS] at TX RT
    rw [decide_eq_false hok] at RR
    obtain ⟨S, hSS⟩ : ∃ S : ByteArray, ⟨([] : List UInt8).toArray⟩ = S := ⟨_, rfl⟩
    have hSd : S.data.toList = [] := by rw [← hSS]
    have PA := fun W (hb : Below w.heap.size w W) => tagParse_any S w.heap.size W (by have : S.data.toList.length = S.size := Array.length_toList; rw [hSd] at this; simp at this; omega) (hp.on hb) (he.on hb) (hm.on hb) hb.size
    rw [hSd, hts] at PA
    rw [hSS] at TX RT
    clear hp he hm hok hS hts hSS hSd
    obtain ⟨a, b, p, r, c⟩ := t
    unfold tg0 at PA
    unfold tgV at TX RT RR PA ⊢
    dsimp only at TX RT RR PA ⊢
    have HTx := Lib.hid TX
    have HRt := Lib.hid RT
    have HRr := Lib.hid RR
    have HPa := Lib.hid PA
    clear TX RT RR PA
    have HB := Lib.hid ((Below.refl w.heap.size w).alloc (Nat.le_refl _) (.cells #[.int .i64 a, .int .i64 b, .int .i64 p, .int .i64 r, .int .i64 c] 23))
    have HX := Lib.hid (heap_alloc_new w (.cells #[.int .i64 a, .int .i64 b, .int .i64 p, .int .i64 r, .int .i64 c] 23))
    go_enter Tryd.func10, Tryd.ntmps10
    go_wp2_with fail
    (with_reducible refine (HTx.out _ HB.out).mono ?_)
    rintro e w1 ⟨rfl, hb1⟩
    have HB1 := Lib.hid (HB.out.trans (hb1.mono HB.out.size))
    have HX1 := Lib.hid (blk_below HX.out hb1 (blk_lt HX.out))
    clear hb1 HB HX HTx
    have c0 := blk_cell HX1.out 0
    have c1 := blk_cell HX1.out 1
    have c2 := blk_cell HX1.out 2
    have c3 := blk_cell HX1.out 3
    have c4 := blk_cell HX1.out 4
    go_wp2_with fail
    (with_reducible refine (HPa.out _ HB1.out).mono ?_)
    rintro e w2 ⟨rfl, hb2⟩
    have HB2 := Lib.hid ((HB1.out.trans (hb2.mono HB1.out.size)).alloc (Nat.le_trans HB1.out.size hb2.size) (.cells #[.int .i64 0, .int .i64 0, .int .i64 0, .int .i64 0, .int .i64 0] 23))
    have HX2 := Lib.hid (blk_alloc (blk_below HX1.out hb2 (blk_lt HX1.out)) (.cells #[.int .i64 0, .int .i64 0, .int .i64 0, .int .i64 0, .int .i64 0] 23))
    have HY2 := Lib.hid (heap_alloc_new w2 (.cells #[.int .i64 0, .int .i64 0, .int .i64 0, .int .i64 0, .int .i64 0] 23))
    clear hb2 HB1 HX1 HPa c0 c1 c2 c3 c4
    have c0 := blk_cell HX2.out 0
    have c1 := blk_cell HX2.out 1
    have c2 := blk_cell HX2.out 2
    have c3 := blk_cell HX2.out 3
    have c4 := blk_cell HX2.out 4
    go_wp2_with fail
    (with_reducible refine (HRr.out _).mono ?_)
    rintro e w3 ⟨rfl, hb3⟩
    have HB3 := Lib.hid (HB2.out.trans (hb3.mono HB2.out.size))
    have HX3 := Lib.hid (blk_below HX2.out hb3 (blk_lt HX2.out))
    have HY3 := Lib.hid (blk_below HY2.out hb3 (blk_lt HY2.out))
    clear hb3 HB2 HX2 HY2 HRr c0 c1 c2 c3 c4
    go_wp2_with fail
    (with_reducible refine (HA.out _ HB3.out).mono ?_)
    rintro e w4 ⟨rfl, hb4⟩
    have HB4 := Lib.hid (HB3.out.trans (hb4.mono HB3.out.size))
    have HX4 := Lib.hid (blk_below HX3.out hb4 (blk_lt HX3.out))
    have HY4 := Lib.hid (blk_below HY3.out hb4 (blk_lt HY3.out))
    clear hb4 HB3 HX3 HY3 HA
    have c0 := blk_cell HX4.out 0
    have c1 := blk_cell HX4.out 1
    have c2 := blk_cell HX4.out 2
    have c3 := blk_cell HX4.out 3
    have c4 := blk_cell HX4.out 4
    go_wp2_with fail
    (with_reducible refine (HRt.out _).mono ?_)
    rintro e w5 ⟨rfl, hb5⟩
    have HB5 := Lib.hid (HB4.out.trans (hb5.mono HB4.out.size))
    have HX5 := Lib.hid (blk_below HX4.out hb5 (blk_lt HX4.out))
    have HY5 := Lib.hid (blk_below HY4.out hb5 (blk_lt HY4.out))
    clear hb5 HB4 HX4 HY4 HRt c0 c1 c2 c3 c4
    have c0 := blk_cell HX5.out 0
    have c1 := blk_cell HX5.out 1
    have c2 := blk_cell HX5.out 2
    have c3 := blk_cell HX5.out 3
    have c4 := blk_cell HX5.out 4
    have d0 := blk_cell HY5.out 0
    have d1 := blk_cell HY5.out 1
    have d2 := blk_cell HY5.out 2
    have d3 := blk_cell HY5.out 3
    have d4 := blk_cell HY5.out 4
    go_wp2_with fail
    go_ret
    exact ⟨by simp, HB5.out⟩

end Go.Proofs.YtajilipbnfpemaaDoor
