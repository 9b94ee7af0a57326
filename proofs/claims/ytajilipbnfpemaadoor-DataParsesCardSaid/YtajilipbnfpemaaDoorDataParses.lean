/- Walks: DataParses. Conditions: the table of powers of ten, the two sentinels and the library's bound on a search read as listed. -/
import Derived.Test.YtajilipbnfpemaaDoorRefDataParse
namespace Go.Proofs.YtajilipbnfpemaaDoor
open Go.RowKit

theorem exS_back {l : List UInt8} {q : Int} (h : (exS l q).2 = true) : ∃ (n : Nat) (xs ys : List Int), q = n ∧ n ≤ 62 ∧ exOk xs ys ∧ l = exText xs ys n ∧ exS l q = ((xs, ys), true) := by
  by_cases hq : 0 ≤ q ∧ q ≤ 62
  · obtain ⟨n, rfl⟩ := Int.eq_ofNat_of_zero_le hq.1
    by_cases hex : ∃ xs ys, exOk xs ys ∧ l = exText xs ys n
    · obtain ⟨xs, ys, hok, e⟩ := hex
      exact ⟨n, xs, ys, rfl, by omega, hok, e, exS_yes (by omega) hok e⟩
    · rw [exS_no fun xs ys hok e => hex ⟨xs, ys, hok, e⟩] at h
      cases h
  · rw [exS_out hq] at h
    cases h

theorem cut_short (l p : List UInt8) : (Lib.cut l p).1.length ≤ l.length ∧ (Lib.cut l p).2.1.length ≤ l.length := by
  unfold Lib.cut
  split
  · simp; omega
  · simp

theorem ex_few {xs ys : List Int} {n : Nat} (hok : exOk xs ys) (h : (exText xs ys n).length ≤ 600) : (xs.length ≤ 100000 ∧ ys.length ≤ 100000) ∧ (rowText xs n).length ≤ 100000000 ∧ (rowText ys n).length ≤ 100000000 := by
  have h1 := cutAt_len 32 (exText xs ys n)
  rw [cutAt_ex n hok.1 hok.2.1] at h1
  simp [txtL] at h1
  unfold exText at h h1
  simp at h h1
  omega

set_option maxRecDepth 100000 in
set_option maxHeartbeats 4000000 in
theorem dataParses_any (s : ByteArray) (q : Int) (w : World) (hp : Pow w.heap.size w) (he : Errs w.heap.size w) (hm : MaxL w.heap.size w) :
    Calls Tryd.prog 13 #[.string s, .int .i64 q] w fun e w' => e = .returned (.bool true) ∧ Below w.heap.size w w' := by
  have HA := Lib.hid (fun W (hb : Below w.heap.size w W) => alive10_any w.heap.size W (hp.on hb) hb.size)
  by_cases hl : s.size ≤ 600
  · have hsl : s.data.toList.length = s.size := Array.length_toList
    have c1 := cut_short s.data.toList [32, 62, 32]
    have PA := fun W (hb : Below w.heap.size w W) => dataParse_any s q w.heap.size W (by omega)
      (fun y hy => by have := len_cutAt 32 _ y hy; omega) (fun y hy => by have := len_cutAt 32 _ y hy; omega)
      (by have := cutAt_len 32 (Lib.cut s.data.toList [32, 62, 32]).1; omega) (by have := cutAt_len 32 (Lib.cut s.data.toList [32, 62, 32]).2.1; omega) (by omega) (by omega)
      (hp.on hb) (he.on hb) (hm.on hb) hb.size
    have PR := fun W => refDataParse_any s q W (by omega)
    unfold GivesEx at PA PR
    cases hbb : (exS s.data.toList q).2
    · rw [hbb] at PA PR
      have TX : ∀ W, Below w.heap.size w W → Calls Tryd.prog 36 #[.agg #[.slice none 0 0, .slice none 0 0], .int .i64 q] W fun e w' => e = .returned (.tuple #[.string ⟨#[]⟩, .bool false]) ∧ Below W.heap.size W w' := fun W hb => by
        have r0 : RdX W W.heap.size ⟨none, [], 0, none, [], 0⟩ := ⟨Rd.nil_ _ _ _, Rd.nil_ _ _ _, by simp, by simp, by simp, by simp⟩
        by_cases hq : 0 ≤ q ∧ q ≤ 62
        · obtain ⟨n, rfl⟩ := Int.eq_ofNat_of_zero_le hq.1
          have := dataText_yes ⟨none, [], 0, none, [], 0⟩ n (by omega) ⟨by simp, by simp⟩ ⟨by simp, by simp⟩ ⟨by simp [rowText, txtL, Lib.join_nil], by simp [rowText, txtL, Lib.join_nil]⟩ w.heap.size W (hp.on hb) hb.size r0
          exact this
        · exact dataText_no ⟨none, [], 0, none, [], 0⟩ q hq ⟨by simp, by simp⟩ W r0
      have SM : ∀ W, Calls Tryd.prog 35 #[.agg #[.slice none 0 0, .slice none 0 0], .agg #[.slice none 0 0, .slice none 0 0]] W fun e w' => e = .returned (.bool true) ∧ Below W.heap.size W w' := fun W =>
        have r0 : RdX W W.heap.size ⟨none, [], 0, none, [], 0⟩ := ⟨Rd.nil_ _ _ _, Rd.nil_ _ _ _, by simp, by simp, by simp, by simp⟩
        sameEx_any ⟨none, [], 0, none, [], 0⟩ ⟨none, [], 0, none, [], 0⟩ W r0 r0
      have HPa := Lib.hid PA
      have HPr := Lib.hid PR
      have HTx := Lib.hid TX
      have HSm := Lib.hid SM
      clear PA PR TX SM hp he hm hbb c1 hsl
      go_enter Tryd.func13, Tryd.ntmps13
      go_wp2_with fail
      (with_reducible refine (HPa.out _ (Below.refl _ _)).mono ?_)
      rintro e w1 ⟨⟨habs, _⟩ | ⟨_, rfl⟩, hb1⟩
      · cases habs
      have HB1 := Lib.hid (hb1.alloc hb1.size (.cells #[.slice none 0 0, .slice none 0 0] 46))
      have HX1 := Lib.hid (heap_alloc_new w1 (.cells #[.slice none 0 0, .slice none 0 0] 46))
      clear hb1 HPa
      go_wp2_with fail
      (with_reducible refine (HPr.out _).mono ?_)
      rintro e w2 ⟨⟨habs, _⟩ | ⟨_, rfl⟩, hb2⟩
      · cases habs
      have HB2 := Lib.hid ((HB1.out.trans (hb2.mono HB1.out.size)).alloc (Nat.le_trans HB1.out.size hb2.size) (.cells #[.slice none 0 0, .slice none 0 0] 46))
      have HX2 := Lib.hid (blk_alloc (blk_below HX1.out hb2 (blk_lt HX1.out)) (.cells #[.slice none 0 0, .slice none 0 0] 46))
      have HY2 := Lib.hid (heap_alloc_new w2 (.cells #[.slice none 0 0, .slice none 0 0] 46))
      clear hb2 HPr HB1 HX1
      have c0 := blk_cell HX2.out 0
      have c1 := blk_cell HX2.out 1
      go_wp2_with fail
      (with_reducible refine (HTx.out _ HB2.out).mono ?_)
      rintro e w3 ⟨rfl, hb3⟩
      have HB3 := Lib.hid (HB2.out.trans (hb3.mono HB2.out.size))
      have HX3 := Lib.hid (blk_below HX2.out hb3 (blk_lt HX2.out))
      have HY3 := Lib.hid (blk_below HY2.out hb3 (blk_lt HY2.out))
      clear hb3 HB2 HX2 HY2 c0 c1 HTx
      go_wp2_with fail
      (with_reducible refine (HA.out _ HB3.out).mono ?_)
      rintro e w4 ⟨rfl, hb4⟩
      have HB4 := Lib.hid (HB3.out.trans (hb4.mono HB3.out.size))
      have HX4 := Lib.hid (blk_below HX3.out hb4 (blk_lt HX3.out))
      have HY4 := Lib.hid (blk_below HY3.out hb4 (blk_lt HY3.out))
      clear hb4 HB3 HX3 HY3 HA
      have c0 := blk_cell HX4.out 0
      have c1 := blk_cell HX4.out 1
      have d0 := blk_cell HY4.out 0
      have d1 := blk_cell HY4.out 1
      go_wp2_with fail
      (with_reducible refine (HSm.out _).mono ?_)
      rintro e w5 ⟨rfl, hb5⟩
      have HB5 := Lib.hid (HB4.out.trans (hb5.mono HB4.out.size))
      clear hb5 HB4
      go_wp2_with fail
      go_ret
      exact ⟨by simp, HB5.out⟩
    · obtain ⟨n, xs, ys, rfl, hn, hok, hse, hex⟩ := exS_back hbb
      rw [hex] at PA PR
      dsimp only at PA PR
      have hfew := ex_few (n := n) hok (by rw [← hse, hsl]; exact hl)
      have TX := fun (ex : Ex) W (hb : Below w.heap.size w W) (e1 : ex.xs = xs) (e2 : ex.ys = ys) (hr : RdX W W.heap.size ex) => dataText_yes ex n hn (by rw [e1, e2]; exact ⟨hok.2.2.1, hok.2.2.2⟩) (by rw [e1, e2]; exact hfew.1) (by rw [e1, e2]; exact hfew.2) w.heap.size W (hp.on hb) hb.size hr
      have hT : exTextS xs ys n = (exText xs ys n, true) := by unfold exTextS; rw [if_pos ⟨List.length_pos_iff.2 hok.1, List.length_pos_iff.2 hok.2.1⟩]
      have hst : (⟨(exText xs ys n).toArray⟩ : ByteArray) = s := by rw [← hse]
      have HPa := Lib.hid PA
      have HPr := Lib.hid PR
      have HTx := Lib.hid TX
      have HT := Lib.hid hT
      have HST := Lib.hid hst
      clear PA PR TX hp he hm hbb c1 hsl hT hst hfew hok hse hex hn
      go_enter Tryd.func13, Tryd.ntmps13
      go_wp2_with fail
      (with_reducible refine (HPa.out _ (Below.refl _ _)).mono ?_)
      rintro e w1 ⟨⟨_, ⟨ax, us, cx, ay, vs, cy⟩, rfl, hx, hy, hY⟩ | ⟨habs, _⟩, hb1⟩
      rotate_left
      · cases habs
      dsimp only at hx hy
      subst hx hy
      unfold Ex.val
      have HB1 := Lib.hid (hb1.alloc hb1.size (.cells #[.slice ax us.length cx, .slice ay vs.length cy] 46))
      have HX1 := Lib.hid (heap_alloc_new w1 (.cells #[.slice ax us.length cx, .slice ay vs.length cy] 46))
      have hy1 := (Below.refl w1.heap.size w1).alloc (Nat.le_refl _) (.cells #[.slice ax us.length cx, .slice ay vs.length cy] 46)
      have HR1 := Lib.hid ((hY.below hy1).more hy1.size)
      clear hb1 HPa hY hy1
      go_wp2_with fail
      (with_reducible refine (HPr.out _).mono ?_)
      rintro e w2 ⟨⟨_, ⟨bx, us', dx, bz, vs', dy⟩, rfl, hx, hy, hY⟩ | ⟨habs, _⟩, hb2⟩
      rotate_left
      · cases habs
      dsimp only at hx hy
      subst hx hy
      unfold Ex.val
      have HB2 := Lib.hid ((HB1.out.trans (hb2.mono HB1.out.size)).alloc (Nat.le_trans HB1.out.size hb2.size) (.cells #[.slice bx us'.length dx, .slice bz vs'.length dy] 46))
      have HX2 := Lib.hid (blk_alloc (blk_below HX1.out hb2 (blk_lt HX1.out)) (.cells #[.slice bx us'.length dx, .slice bz vs'.length dy] 46))
      have HY2 := Lib.hid (heap_alloc_new w2 (.cells #[.slice bx us'.length dx, .slice bz vs'.length dy] 46))
      have hy2 := (Below.refl w2.heap.size w2).alloc (Nat.le_refl _) (.cells #[.slice bx us'.length dx, .slice bz vs'.length dy] 46)
      have HR2 := Lib.hid ((((HR1.out.below hb2).more hb2.size).below hy2).more hy2.size)
      have HS2 := Lib.hid ((hY.below hy2).more hy2.size)
      have HTx2 := Lib.hid (HTx.out ⟨ax, us', cx, ay, vs', cy⟩ _ HB2.out rfl rfl HR2.out)
      unfold Ex.val at HTx2
      dsimp only at HTx2
      rw [HT.out] at HTx2
      dsimp only at HTx2
      rw [HST.out] at HTx2
      clear hb2 HPr HB1 HX1 hY hy2 HR1 HTx HT HST
      have c0 := blk_cell HX2.out 0
      have c1 := blk_cell HX2.out 1
      go_wp2_with fail
      (with_reducible refine HTx2.out.mono ?_)
      rintro e w3 ⟨rfl, hb3⟩
      have HB3 := Lib.hid (HB2.out.trans (hb3.mono HB2.out.size))
      have HX3 := Lib.hid (blk_below HX2.out hb3 (blk_lt HX2.out))
      have HY3 := Lib.hid (blk_below HY2.out hb3 (blk_lt HY2.out))
      have HR3 := Lib.hid ((HR2.out.below hb3).more hb3.size)
      have HS3 := Lib.hid ((HS2.out.below hb3).more hb3.size)
      clear hb3 HB2 HX2 HY2 c0 c1 HTx2 HR2 HS2
      go_wp2_with fail
      (with_reducible refine (HA.out _ HB3.out).mono ?_)
      rintro e w4 ⟨rfl, hb4⟩
      have HB4 := Lib.hid (HB3.out.trans (hb4.mono HB3.out.size))
      have HX4 := Lib.hid (blk_below HX3.out hb4 (blk_lt HX3.out))
      have HY4 := Lib.hid (blk_below HY3.out hb4 (blk_lt HY3.out))
      have HSm := Lib.hid (sameEx_any ⟨ax, us', cx, ay, vs', cy⟩ ⟨bx, us', dx, bz, vs', dy⟩ w4 ((HR3.out.below hb4).more hb4.size) ((HS3.out.below hb4).more hb4.size))
      rw [show sameEx ⟨ax, us', cx, ay, vs', cy⟩ ⟨bx, us', dx, bz, vs', dy⟩ = true by simp [sameEx]] at HSm
      unfold Ex.val at HSm
      dsimp only at HSm
      clear hb4 HB3 HX3 HY3 HA HR3 HS3
      have c0 := blk_cell HX4.out 0
      have c1 := blk_cell HX4.out 1
      have d0 := blk_cell HY4.out 0
      have d1 := blk_cell HY4.out 1
      go_wp2_with fail
      (with_reducible refine HSm.out.mono ?_)
      rintro e w5 ⟨rfl, hb5⟩
      have HB5 := Lib.hid (HB4.out.trans (hb5.mono HB4.out.size))
      clear hb5 HB4
      go_wp2_with fail
      go_ret
      exact ⟨by simp, HB5.out⟩
  · clear hp he hm
    go_enter Tryd.func13, Tryd.ntmps13
    go_wp2_with fail
    (with_reducible refine (HA.out _ (Below.refl _ _)).mono ?_)
    rintro e w2 ⟨rfl, hb2⟩
    go_wp2_with fail
    go_ret
    exact ⟨rfl, hb2⟩

end Go.Proofs.YtajilipbnfpemaaDoor
