/- Walks: TagPacks. Conditions: the table of powers of ten reads as listed. -/
import Derived.Test.YtajilipbnfpemaaDoorTagText
import Derived.Test.YtajilipbnfpemaaDoorRefUnpack
namespace Go.Proofs.YtajilipbnfpemaaDoor
open Go.RowKit

theorem pack_bd {t : Tg} (h : tagOk t) : ∃ x y : Nat, packA t = x ∧ packB t = y ∧ x < 18446744073709551616 ∧ y < 18446744073709551616 := by
  obtain ⟨a, b, p, r, c⟩ := t
  unfold tagOk at h
  unfold packA packB
  dsimp only at h ⊢
  exact ⟨(a * 1048576 + b).toNat, ((p * 64 + r) * 1048576 + c).toNat, by omega, by omega, by omega, by omega⟩

set_option maxRecDepth 100000 in
set_option maxHeartbeats 4000000 in
theorem tagPacks_any (t : Tg) (w : World) (hp : Pow w.heap.size w) :
    Calls Tryd.prog 3 #[tgV t] w fun e w' => e = .returned (.bool true) ∧ Below w.heap.size w w' := by
  have HP := Lib.hid (fun W => pack_any t W)
  have HR := Lib.hid (fun W => right_any t W)
  have HS := Lib.hid (fun W => refRight_any t W)
  have HA := Lib.hid (fun W (hb : Below w.heap.size w W) => alive17_any w.heap.size W (hp.on hb) hb.size)
  have g2 := guard2
  have gT := guardT
  have q2 := eql2
  have qT := eqlT
  by_cases hok : tagOk t
  · rw [decide_eq_true hok] at HP HR HS
    have hpv : packV t = .agg #[.int .u64 (packA t), .int .u64 (packB t)] := by simp [packV, hok]
    rw [hpv] at HP
    have HK := Lib.hid (fun W => refPack_any t hok W)
    obtain ⟨x, y, ex, ey, hx, hy⟩ := pack_bd hok
    have hu : unpS x y = (t, true) := by
      unfold unpS
      rw [← ex, ← ey, unp_pack hok, if_pos hok]
    have hU := fun W => unpack_any x y hx hy W
    rw [hu] at hU
    rw [ex, ey] at HP HK
    have HU := Lib.hid hU
    clear hp hok hpv ex ey hx hy hu hU
    obtain ⟨a, b, p, r, c⟩ := t
    unfold tgV at HP HR HS HK HU ⊢
    dsimp only at HP HR HS HK HU ⊢
    have HB := Lib.hid ((Below.refl w.heap.size w).alloc (Nat.le_refl _) (.cells #[.int .i64 a, .int .i64 b, .int .i64 p, .int .i64 r, .int .i64 c] 23))
    have HX := Lib.hid (heap_alloc_new w (.cells #[.int .i64 a, .int .i64 b, .int .i64 p, .int .i64 r, .int .i64 c] 23))
    go_enter Tryd.func3, Tryd.ntmps3
    go_wp2_with fail
    (with_reducible refine (HP.out _).mono ?_)
    rintro e w1 ⟨rfl, hb1⟩
    have HB1 := Lib.hid ((HB.out.trans (hb1.mono (by simp))).alloc (Nat.le_trans HB.out.size hb1.size) (.cells #[.int .u64 x, .int .u64 y] 25))
    have HX1 := Lib.hid (blk_alloc (blk_below HX.out hb1 (by simp)) (.cells #[.int .u64 x, .int .u64 y] 25))
    have HY1 := Lib.hid (heap_alloc_new w1 (.cells #[.int .u64 x, .int .u64 y] 25))
    clear hb1 HX HB HP
    have c0 := blk_cell HX1.out 0
    have c1 := blk_cell HX1.out 1
    have c2 := blk_cell HX1.out 2
    have c3 := blk_cell HX1.out 3
    have c4 := blk_cell HX1.out 4
    go_wp2_with fail
    (with_reducible refine (HS.out _).mono ?_)
    rintro e w2 ⟨rfl, hb2⟩
    have HB2 := Lib.hid (HB1.out.trans (hb2.mono HB1.out.size))
    have HX2 := Lib.hid (blk_below HX1.out hb2 (blk_lt HX1.out))
    have HY2 := Lib.hid (blk_below HY1.out hb2 (blk_lt HY1.out))
    clear hb2 HX1 HB1 HY1 HS c0 c1 c2 c3 c4
    have c0 := blk_cell HX2.out 0
    have c1 := blk_cell HX2.out 1
    have c2 := blk_cell HX2.out 2
    have c3 := blk_cell HX2.out 3
    have c4 := blk_cell HX2.out 4
    go_wp2_with fail
    (with_reducible refine (HR.out _).mono ?_)
    rintro e w3 ⟨rfl, hb3⟩
    have HB3 := Lib.hid (HB2.out.trans (hb3.mono HB2.out.size))
    have HX3 := Lib.hid (blk_below HX2.out hb3 (blk_lt HX2.out))
    have HY3 := Lib.hid (blk_below HY2.out hb3 (blk_lt HY2.out))
    clear hb3 HX2 HB2 HY2 HR c0 c1 c2 c3 c4
    have c0 := blk_cell HX3.out 0
    have c1 := blk_cell HX3.out 1
    have c2 := blk_cell HX3.out 2
    have c3 := blk_cell HX3.out 3
    have c4 := blk_cell HX3.out 4
    have d0 := blk_cell HY3.out 0
    have d1 := blk_cell HY3.out 1
    go_wp2_with fail
    (with_reducible refine (HU.out _).mono ?_)
    rintro e w4 ⟨rfl, hb4⟩
    have HB4 := Lib.hid ((HB3.out.trans (hb4.mono HB3.out.size)).alloc (Nat.le_trans HB3.out.size hb4.size) (.cells #[.int .i64 a, .int .i64 b, .int .i64 p, .int .i64 r, .int .i64 c] 23))
    have HX4 := Lib.hid (blk_alloc (blk_below HX3.out hb4 (blk_lt HX3.out)) (.cells #[.int .i64 a, .int .i64 b, .int .i64 p, .int .i64 r, .int .i64 c] 23))
    have HY4 := Lib.hid (blk_alloc (blk_below HY3.out hb4 (blk_lt HY3.out)) (.cells #[.int .i64 a, .int .i64 b, .int .i64 p, .int .i64 r, .int .i64 c] 23))
    have HZ4 := Lib.hid (heap_alloc_new w4 (.cells #[.int .i64 a, .int .i64 b, .int .i64 p, .int .i64 r, .int .i64 c] 23))
    clear hb4 HX3 HB3 HY3 HU c0 c1 c2 c3 c4 d0 d1
    go_wp2_with fail
    go_region_held3 (fun w' => w'.cell? ⟨w1.heap.size, 0, none⟩ = some (.int .u64 x) ∧ w'.cell? ⟨w1.heap.size, 1, none⟩ = some (.int .u64 y) ∧ w'.cell? ⟨w.heap.size, 0, none⟩ = some (.int .i64 a) ∧ w'.cell? ⟨w.heap.size, 1, none⟩ = some (.int .i64 b) ∧ w'.cell? ⟨w.heap.size, 2, none⟩ = some (.int .i64 p) ∧ w'.cell? ⟨w.heap.size, 3, none⟩ = some (.int .i64 r) ∧ w'.cell? ⟨w.heap.size, 4, none⟩ = some (.int .i64 c) ∧ w'.cell? ⟨w4.heap.size, 0, none⟩ = some (.int .i64 a) ∧ w'.cell? ⟨w4.heap.size, 1, none⟩ = some (.int .i64 b) ∧ w'.cell? ⟨w4.heap.size, 2, none⟩ = some (.int .i64 p) ∧ w'.cell? ⟨w4.heap.size, 3, none⟩ = some (.int .i64 r) ∧ w'.cell? ⟨w4.heap.size, 4, none⟩ = some (.int .i64 c))
      (first
        | exact ⟨blk_cell HY6.out 0, blk_cell HY6.out 1, blk_cell HX6.out 0, blk_cell HX6.out 1, blk_cell HX6.out 2, blk_cell HX6.out 3, blk_cell HX6.out 4, blk_cell HZ6.out 0, blk_cell HZ6.out 1, blk_cell HZ6.out 2, blk_cell HZ6.out 3, blk_cell HZ6.out 4⟩
        | exact ⟨blk_cell HY5.out 0, blk_cell HY5.out 1, blk_cell HX5.out 0, blk_cell HX5.out 1, blk_cell HX5.out 2, blk_cell HX5.out 3, blk_cell HX5.out 4, blk_cell HZ5.out 0, blk_cell HZ5.out 1, blk_cell HZ5.out 2, blk_cell HZ5.out 3, blk_cell HZ5.out 4⟩
        | exact ⟨blk_cell HY4.out 0, blk_cell HY4.out 1, blk_cell HX4.out 0, blk_cell HX4.out 1, blk_cell HX4.out 2, blk_cell HX4.out 3, blk_cell HX4.out 4, blk_cell HZ4.out 0, blk_cell HZ4.out 1, blk_cell HZ4.out 2, blk_cell HZ4.out 3, blk_cell HZ4.out 4⟩)
      (first
        | (go_at_call 17
           (with_reducible refine (HA.out _ (below_drew HB4.out)).mono ?_)
           rintro e w5 ⟨rfl, hb5⟩
           have HB5 := Lib.hid ((below_drew HB4.out).trans (hb5.mono HB4.out.size))
           have HX5 := Lib.hid (blk_below (blk_drew HX4.out) hb5 (blk_lt HX4.out))
           have HY5 := Lib.hid (blk_below (blk_drew HY4.out) hb5 (blk_lt HY4.out))
           have HZ5 := Lib.hid (blk_below (blk_drew HZ4.out) hb5 (blk_lt HZ4.out))
           clear hb5 HX4 HB4 HY4 HZ4 HA)
        | (go_at_call 19
           (with_reducible refine (HK.out _).mono ?_)
           rintro e w6 ⟨rfl, hb6⟩
           have HB6 := Lib.hid (HB5.out.trans (hb6.mono HB5.out.size))
           have HX6 := Lib.hid (blk_below HX5.out hb6 (blk_lt HX5.out))
           have HY6 := Lib.hid (blk_below HY5.out hb6 (blk_lt HY5.out))
           have HZ6 := Lib.hid (blk_below HZ5.out hb6 (blk_lt HZ5.out))
           clear hb6 HX5 HB5 HY5 HZ5 HK))
    go_wp2_with fail
    go_ret
    exact ⟨rfl, HB6.out⟩
  · rw [decide_eq_false hok] at HP HR HS
    have hpv : packV t = .agg #[.int .u64 0, .int .u64 0] := by simp [packV, hok]
    rw [hpv] at HP
    clear hp hok hpv
    obtain ⟨a, b, p, r, c⟩ := t
    unfold tgV at HP HR HS ⊢
    dsimp only at HP HR HS ⊢
    have HB := Lib.hid ((Below.refl w.heap.size w).alloc (Nat.le_refl _) (.cells #[.int .i64 a, .int .i64 b, .int .i64 p, .int .i64 r, .int .i64 c] 23))
    have HX := Lib.hid (heap_alloc_new w (.cells #[.int .i64 a, .int .i64 b, .int .i64 p, .int .i64 r, .int .i64 c] 23))
    go_enter Tryd.func3, Tryd.ntmps3
    go_wp2_with fail
    (with_reducible refine (HP.out _).mono ?_)
    rintro e w1 ⟨rfl, hb1⟩
    have HB1 := Lib.hid ((HB.out.trans (hb1.mono (by simp))).alloc (Nat.le_trans HB.out.size hb1.size) (.cells #[.int .u64 0, .int .u64 0] 25))
    have HX1 := Lib.hid (blk_alloc (blk_below HX.out hb1 (by simp)) (.cells #[.int .u64 0, .int .u64 0] 25))
    have HY1 := Lib.hid (heap_alloc_new w1 (.cells #[.int .u64 0, .int .u64 0] 25))
    clear hb1 HX HB HP
    have c0 := blk_cell HX1.out 0
    have c1 := blk_cell HX1.out 1
    have c2 := blk_cell HX1.out 2
    have c3 := blk_cell HX1.out 3
    have c4 := blk_cell HX1.out 4
    go_wp2_with fail
    (with_reducible refine (HS.out _).mono ?_)
    rintro e w2 ⟨rfl, hb2⟩
    have HB2 := Lib.hid (HB1.out.trans (hb2.mono HB1.out.size))
    have HX2 := Lib.hid (blk_below HX1.out hb2 (blk_lt HX1.out))
    have HY2 := Lib.hid (blk_below HY1.out hb2 (blk_lt HY1.out))
    clear hb2 HX1 HB1 HY1 HS c0 c1 c2 c3 c4
    have c0 := blk_cell HX2.out 0
    have c1 := blk_cell HX2.out 1
    have c2 := blk_cell HX2.out 2
    have c3 := blk_cell HX2.out 3
    have c4 := blk_cell HX2.out 4
    go_wp2_with fail
    (with_reducible refine (HR.out _).mono ?_)
    rintro e w3 ⟨rfl, hb3⟩
    have HB3 := Lib.hid (HB2.out.trans (hb3.mono HB2.out.size))
    have HY3 := Lib.hid (blk_below HY2.out hb3 (blk_lt HY2.out))
    clear hb3 HX2 HB2 HY2 HR c0 c1 c2 c3 c4
    go_wp2_with fail
    (with_reducible refine (HA.out _ HB3.out).mono ?_)
    rintro e w4 ⟨rfl, hb4⟩
    have HB4 := Lib.hid (HB3.out.trans (hb4.mono HB3.out.size))
    have HY4 := Lib.hid (blk_below HY3.out hb4 (blk_lt HY3.out))
    clear hb4 HB3 HY3 HA
    have d0 := blk_cell HY4.out 0
    have d1 := blk_cell HY4.out 1
    go_wp2_with fail
    go_ret
    exact ⟨rfl, HB4.out⟩

end Go.Proofs.YtajilipbnfpemaaDoor
