/- Walk: ConfParses. Conditions: the table of powers of ten, the two sentinels and the library's bound on a search read as listed. -/
import Derived.Test.YtiokdfkddcokoaaGreatDoorSameP
import Derived.Test.YtiokdfkddcokoaaGreatDoorRefConfP
import Derived.Test.YtiokdfkddcokoaaGreatDoorRefSame
namespace Go.Proofs.YtiokdfkddcokoaaGreatDoor
open Go.RowKit

theorem newNil (w : World) : Calls Tryz.prog 28 #[.slice none 0 0] w fun e w' => e = .returned (.tuple #[.pointer none, .int .i64 5]) ∧ w = w' := by
  go_enter Tryz.func28, Tryz.ntmps28
  go_wp2
  go_ret2
  exact ⟨rfl, rfl⟩

set_option maxRecDepth 100000 in
set_option maxHeartbeats 1000000 in
theorem checkNil (w : World) : Calls Tryz.prog 13 #[.agg (cfCells none 0 0 ⟨99, 0, 0, 0, 0, 0, 0, 0, 0, 0, 0⟩)] w fun e w' => e = .returned (.int .i64 6) ∧ Below w.heap.size w w' := by
  have hb1 := (Below.refl w.heap.size w).alloc (Nat.le_refl _) (.cells (cfCells none 0 0 ⟨99, 0, 0, 0, 0, 0, 0, 0, 0, 0, 0⟩) 24)
  have HB := Lib.hid hb1
  have HN := Lib.hid (fun W => newNil W)
  clear hb1
  unfold cfCells at HB ⊢
  dsimp only at HB ⊢
  go_enter Tryz.func13, Tryz.ntmps13
  go_wp2_with fail
  (with_reducible refine (HN.out _).mono ?_)
  rintro e w1 ⟨rfl, rfl⟩
  go_wp2_with fail
  go_ret
  exact ⟨rfl, HB.out⟩

set_option maxRecDepth 100000 in
set_option maxHeartbeats 1000000 in
theorem alive11_any (w : World) : Calls Tryz.prog 6 #[] w fun e w' => e = .returned (.bool true) ∧ Below w.heap.size w w' := by
  have HC := Lib.hid (fun W => checkNil W)
  unfold cfCells at HC
  dsimp only at HC
  go_enter Tryz.func6, Tryz.ntmps6
  go_wp2_with fail
  (with_reducible refine (HC.out _).mono ?_)
  rintro e w1 ⟨rfl, hb⟩
  have HB := Lib.hid hb
  clear hb
  go_wp2_with fail
  go_ret
  exact ⟨rfl, HB.out⟩

end Go.Proofs.YtiokdfkddcokoaaGreatDoor

namespace Go.Proofs.YtiokdfkddcokoaaGreatDoor
open Go.RowKit

set_option maxHeartbeats 400000 in
theorem parses_far (s : ByteArray) (w : World) (h800 : 800 < s.size) (hm : s.size ≤ 9223372036854775807) :
    Calls Tryz.prog 4 #[.string s] w fun e w' => e = .returned (.bool true) ∧ Below w.heap.size w w' := by
  have HA := Lib.hid (fun W => alive11_any W)
  have h1 : (800 : Int) < (s.size : Int) := by omega
  have h2 : (s.size : Int) ≤ 9223372036854775807 := by omega
  clear h800 hm
  go_enter Tryz.func4, Tryz.ntmps4
  go_wp2_with fail
  (with_reducible refine (HA.out _).mono ?_)
  rintro e w1 ⟨rfl, hb⟩
  have HB1 := Lib.hid hb
  clear hb
  go_wp2_with fail
  go_ret
  exact ⟨rfl, HB1.out⟩

theorem sameP_self (zs : List Int) (c : Cf) : sameCf zs zs c c = true := same_iff.2 ⟨rfl, rfl⟩

set_option maxRecDepth 100000 in
set_option maxHeartbeats 16000000 in
theorem parses_near (s : ByteArray) (w : World) (h800 : ¬ 800 < s.size) (hp : Pow w.heap.size w) (he : Errs w.heap.size w) (hm : MaxL w.heap.size w) :
    Calls Tryz.prog 4 #[.string s] w fun e w' => e = .returned (.bool true) ∧ Below w.heap.size w w' := by
  have HA := Lib.hid (fun W => alive11_any W)
  have hl : s.data.toList.length = s.size := Array.length_toList
  have hw : ∀ y ∈ cutAt 32 s.data.toList, y.length ≤ 900 := fun y hy => by have := cutAt_short 32 _ y hy; omega
  have HP := Lib.hid (confParse_any s (by omega) (fun y hy => Nat.le_trans (hw y hy) (by decide)) w.heap.size w hp he hm (Nat.le_refl _))
  have HQ := Lib.hid (fun W => refConfParse_any s (by omega) hw W)
  have HX := Lib.hid (fun W (hb : Below w.heap.size w W) => And.intro (hp.on hb) hb.size)
  have h1 : ¬ (800 : Int) < (s.size : Int) := by omega
  have HSL := Lib.hid (show s.size ≤ 800 by omega)
  clear hp he hm hw h800 hl
  go_enter Tryz.func4, Tryz.ntmps4
  go_wp2_with fail
  (with_reducible refine HP.out.mono ?_)
  rintro e w1 ⟨h, hb⟩
  have HB1 := Lib.hid hb
  clear hb HP
  rcases h with ⟨A, cap, zs, c, hok, h64, hl, rfl, hr⟩ | ⟨hno, rfl⟩
  · as_aux_lemma =>
    have HR1 := Lib.hid hr
    have HOK := Lib.hid hok
    have H64 := Lib.hid h64
    have HL := Lib.hid hl
    clear hr hok h64 hl
    obtain ⟨sh, ra, mo, wo, ba, mi, st, bu, ch, wi, ca⟩ := c
    unfold cfCells
    dsimp only
    have H2 := Lib.hid (heap_alloc_new w1 (.cells #[.slice A zs.length cap, .int .i64 sh, .int .i64 ra, .int .i64 mo, .int .i64 wo, .int .i64 ba, .int .i64 mi, .int .i64 st, .int .i64 bu, .int .i64 ch, .int .i64 wi, .int .i64 ca] 24))
    have HB2 := Lib.hid (HB1.out.alloc HB1.out.size (.cells #[.slice A zs.length cap, .int .i64 sh, .int .i64 ra, .int .i64 mo, .int .i64 wo, .int .i64 ba, .int .i64 mi, .int .i64 st, .int .i64 bu, .int .i64 ch, .int .i64 wi, .int .i64 ca] 24))
    go_wp2_with fail
    (with_reducible refine (HQ.out _).mono ?_)
    rintro e w3 ⟨h, hb⟩
    have HB3 := Lib.hid (HB2.out.trans (hb.mono HB2.out.size))
    have H3 := Lib.hid (blk_below H2.out hb (blk_lt H2.out))
    have HR3 := Lib.hid (((HR1.out.alloc (Nat.le_refl _) (.cells #[.slice A zs.length cap, .int .i64 sh, .int .i64 ra, .int .i64 mo, .int .i64 wo, .int .i64 ba, .int .i64 mi, .int .i64 st, .int .i64 bu, .int .i64 ch, .int .i64 wi, .int .i64 ca] 24)).more (by simp)).below hb |>.more hb.size)
    clear hb HB2 H2 HB1 HR1 HQ
    rcases h with ⟨A', cap', zs', c', hok', h64', hl', rfl, hr'⟩ | ⟨hno', _⟩
    rotate_left
    · exact absurd HL.out (hno' _ _ HOK.out H64.out)
    obtain ⟨ez, ec⟩ := text_inj hok'.ne HOK.out.ne (hl'.symm.trans HL.out)
    subst ez
    subst ec
    have HR3' := Lib.hid hr'
    clear hr' hok' hl' h64'
    unfold cfCells
    dsimp only
    have H24 := Lib.hid (heap_alloc_new w3 (.cells #[.slice A' zs'.length cap', .int .i64 sh, .int .i64 ra, .int .i64 mo, .int .i64 wo, .int .i64 ba, .int .i64 mi, .int .i64 st, .int .i64 bu, .int .i64 ch, .int .i64 wi, .int .i64 ca] 24))
    have H14 := Lib.hid (blk_alloc H3.out (.cells #[.slice A' zs'.length cap', .int .i64 sh, .int .i64 ra, .int .i64 mo, .int .i64 wo, .int .i64 ba, .int .i64 mi, .int .i64 st, .int .i64 bu, .int .i64 ch, .int .i64 wi, .int .i64 ca] 24))
    have HB4 := Lib.hid (HB3.out.alloc HB3.out.size (.cells #[.slice A' zs'.length cap', .int .i64 sh, .int .i64 ra, .int .i64 mo, .int .i64 wo, .int .i64 ba, .int .i64 mi, .int .i64 st, .int .i64 bu, .int .i64 ch, .int .i64 wi, .int .i64 ca] 24))
    have HR4 := Lib.hid ((HR3.out.alloc (Nat.le_refl _) (.cells #[.slice A' zs'.length cap', .int .i64 sh, .int .i64 ra, .int .i64 mo, .int .i64 wo, .int .i64 ba, .int .i64 mi, .int .i64 st, .int .i64 bu, .int .i64 ch, .int .i64 wi, .int .i64 ca] 24)).more (by simp) (B' := (w3.alloc (.cells #[.slice A' zs'.length cap', .int .i64 sh, .int .i64 ra, .int .i64 mo, .int .i64 wo, .int .i64 ba, .int .i64 mi, .int .i64 st, .int .i64 bu, .int .i64 ch, .int .i64 wi, .int .i64 ca] 24)).heap.size))
    have HR4' := Lib.hid ((HR3'.out.alloc (Nat.le_refl _) (.cells #[.slice A' zs'.length cap', .int .i64 sh, .int .i64 ra, .int .i64 mo, .int .i64 wo, .int .i64 ba, .int .i64 mi, .int .i64 st, .int .i64 bu, .int .i64 ch, .int .i64 wi, .int .i64 ca] 24)).more (by simp) (B' := (w3.alloc (.cells #[.slice A' zs'.length cap', .int .i64 sh, .int .i64 ra, .int .i64 mo, .int .i64 wo, .int .i64 ba, .int .i64 mi, .int .i64 st, .int .i64 bu, .int .i64 ch, .int .i64 wi, .int .i64 ca] 24)).heap.size))
    clear HB3 H3 HR3 HR3'
    obtain ⟨hzl, hst, hbt⟩ : zs'.length ≤ 1000 ∧ (⟨(cfTextS zs' ⟨sh, ra, mo, wo, ba, mi, st, bu, ch, wi, ca⟩).toArray⟩ : ByteArray) = s ∧ cfB zs' ⟨sh, ra, mo, wo, ba, mi, st, bu, ch, wi, ca⟩ = true := by
      have hb := cfB_iff.2 HOK.out
      have e1 : cfTextS zs' ⟨sh, ra, mo, wo, ba, mi, st, bu, ch, wi, ca⟩ = s.data.toList := by unfold cfTextS; rw [if_pos hb, HL.out]
      refine ⟨?_, by rw [e1], hb⟩
      have h1 := cutAt_len 44 (szText zs')
      rw [cutAt_sz HOK.out.ne, List.length_map] at h1
      have h2 : szText zs' ∈ cutAt 32 s.data.toList := by rw [HL.out, cutAt_cf]; exact List.mem_of_getElem? (i := 1) rfl
      have h3 := cutAt_short 32 _ _ h2
      have h4 : s.data.toList.length = s.size := Array.length_toList
      have h5 := HSL.out
      have h6 : zs'.length ≤ (szText zs').length + 1 := by
        have := cutAt_len 44 (szText zs')
        rw [cutAt_sz HOK.out.ne, List.length_map] at this
        exact this
      omega
    have HTX := Lib.hid (confText_any A cap zs' ⟨sh, ra, mo, wo, ba, mi, st, bu, ch, wi, ca⟩ H64.out hzl w.heap.size (w3.alloc (.cells #[.slice A' zs'.length cap', .int .i64 sh, .int .i64 ra, .int .i64 mo, .int .i64 wo, .int .i64 ba, .int .i64 mi, .int .i64 st, .int .i64 bu, .int .i64 ch, .int .i64 wi, .int .i64 ca] 24)) (HX.out _ HB4.out).1 (HX.out _ HB4.out).2 HR4.out)
    rw [hst, hbt] at HTX
    have hz63 : zs'.length ≤ 9223372036854775807 := by omega
    have HZ63 := Lib.hid hz63
    clear hst hbt hzl hz63 HL HOK H64 HX
    unfold cfCells at HTX
    dsimp only at HTX
    have a0 := blk_cell H14.out 0
    have a1 := blk_cell H14.out 1
    have a2 := blk_cell H14.out 2
    have a3 := blk_cell H14.out 3
    have a4 := blk_cell H14.out 4
    have a5 := blk_cell H14.out 5
    have a6 := blk_cell H14.out 6
    have a7 := blk_cell H14.out 7
    have a8 := blk_cell H14.out 8
    have a9 := blk_cell H14.out 9
    have a10 := blk_cell H14.out 10
    have a11 := blk_cell H14.out 11
    go_wp2_with fail
    (with_reducible refine HTX.out.mono ?_)
    rintro e w5 ⟨rfl, hb⟩
    have HB5 := Lib.hid (HB4.out.trans (hb.mono HB4.out.size))
    have H15 := Lib.hid (blk_below H14.out hb (blk_lt H14.out))
    have H25 := Lib.hid (blk_below H24.out hb (blk_lt H24.out))
    have HR5 := Lib.hid ((HR4.out.below hb).more hb.size)
    have HR5' := Lib.hid ((HR4'.out.below hb).more hb.size)
    clear HR4 HR4'
    clear hb HB4 H14 H24 HTX a0 a1 a2 a3 a4 a5 a6 a7 a8 a9 a10 a11
    go_wp2_with fail
    (with_reducible refine (HA.out _).mono ?_)
    rintro e w6 ⟨rfl, hb⟩
    have HB6 := Lib.hid (HB5.out.trans (hb.mono HB5.out.size))
    have H16 := Lib.hid (blk_below H15.out hb (blk_lt H15.out))
    have H26 := Lib.hid (blk_below H25.out hb (blk_lt H25.out))
    have HS := Lib.hid (refSame_any A A' cap cap' zs' zs' ⟨sh, ra, mo, wo, ba, mi, st, bu, ch, wi, ca⟩ ⟨sh, ra, mo, wo, ba, mi, st, bu, ch, wi, ca⟩ w6 ((HR5.out.below hb).more hb.size) ((HR5'.out.below hb).more hb.size) HZ63.out HZ63.out)
    clear HR5 HR5' HZ63
    rw [sameP_self] at HS
    unfold cfCells at HS
    dsimp only at HS
    clear hb HB5 H15 H25 HA
    have a0 := blk_cell H16.out 0
    have a1 := blk_cell H16.out 1
    have a2 := blk_cell H16.out 2
    have a3 := blk_cell H16.out 3
    have a4 := blk_cell H16.out 4
    have a5 := blk_cell H16.out 5
    have a6 := blk_cell H16.out 6
    have a7 := blk_cell H16.out 7
    have a8 := blk_cell H16.out 8
    have a9 := blk_cell H16.out 9
    have a10 := blk_cell H16.out 10
    have a11 := blk_cell H16.out 11
    have b0 := blk_cell H26.out 0
    have b1 := blk_cell H26.out 1
    have b2 := blk_cell H26.out 2
    have b3 := blk_cell H26.out 3
    have b4 := blk_cell H26.out 4
    have b5 := blk_cell H26.out 5
    have b6 := blk_cell H26.out 6
    have b7 := blk_cell H26.out 7
    have b8 := blk_cell H26.out 8
    have b9 := blk_cell H26.out 9
    have b10 := blk_cell H26.out 10
    have b11 := blk_cell H26.out 11
    go_wp2_with fail
    (with_reducible refine HS.out.mono ?_)
    rintro e w7 ⟨rfl, hb⟩
    have HB7 := Lib.hid (HB6.out.trans (hb.mono HB6.out.size))
    clear hb HB6 HS H16 H26 a0 a1 a2 a3 a4 a5 a6 a7 a8 a9 a10 a11 b0 b1 b2 b3 b4 b5 b6 b7 b8 b9 b10 b11
    go_wp2_with fail
    go_ret
    exact ⟨rfl, HB7.out⟩
  · as_aux_lemma =>
    have HNO := Lib.hid hno
    clear hno
    unfold cfCells
    dsimp only
    have H2 := Lib.hid (heap_alloc_new w1 (.cells #[.slice none 0 0, .int .i64 0, .int .i64 0, .int .i64 0, .int .i64 0, .int .i64 0, .int .i64 0, .int .i64 0, .int .i64 0, .int .i64 0, .int .i64 0, .int .i64 0] 24))
    have HB2 := Lib.hid (HB1.out.alloc HB1.out.size (.cells #[.slice none 0 0, .int .i64 0, .int .i64 0, .int .i64 0, .int .i64 0, .int .i64 0, .int .i64 0, .int .i64 0, .int .i64 0, .int .i64 0, .int .i64 0, .int .i64 0] 24))
    go_wp2_with fail
    (with_reducible refine (HQ.out _).mono ?_)
    rintro e w3 ⟨h, hb⟩
    have HB3 := Lib.hid (HB2.out.trans (hb.mono HB2.out.size))
    have H3 := Lib.hid (blk_below H2.out hb (blk_lt H2.out))
    clear hb HB2 H2 HB1 HQ
    rcases h with ⟨A', cap', zs', c', hok', h64', hl', rfl, hr'⟩ | ⟨_, rfl⟩
    · exact absurd hl' (HNO.out _ _ hok' h64')
    unfold cfCells
    dsimp only
    have H24 := Lib.hid (heap_alloc_new w3 (.cells #[.slice none 0 0, .int .i64 0, .int .i64 0, .int .i64 0, .int .i64 0, .int .i64 0, .int .i64 0, .int .i64 0, .int .i64 0, .int .i64 0, .int .i64 0, .int .i64 0] 24))
    have H14 := Lib.hid (blk_alloc H3.out (.cells #[.slice none 0 0, .int .i64 0, .int .i64 0, .int .i64 0, .int .i64 0, .int .i64 0, .int .i64 0, .int .i64 0, .int .i64 0, .int .i64 0, .int .i64 0, .int .i64 0] 24))
    have HB4 := Lib.hid (HB3.out.alloc HB3.out.size (.cells #[.slice none 0 0, .int .i64 0, .int .i64 0, .int .i64 0, .int .i64 0, .int .i64 0, .int .i64 0, .int .i64 0, .int .i64 0, .int .i64 0, .int .i64 0, .int .i64 0] 24))
    clear HB3 H3 HNO
    have HTX := Lib.hid (confText_any none 0 [] ⟨0, 0, 0, 0, 0, 0, 0, 0, 0, 0, 0⟩ nil64 (by simp) w.heap.size (w3.alloc (.cells #[.slice none 0 0, .int .i64 0, .int .i64 0, .int .i64 0, .int .i64 0, .int .i64 0, .int .i64 0, .int .i64 0, .int .i64 0, .int .i64 0, .int .i64 0, .int .i64 0] 24)) (HX.out _ HB4.out).1 (HX.out _ HB4.out).2 (Rd.nil_ _ _ _))
    clear HX
    unfold cfCells at HTX
    dsimp only [List.length_nil] at HTX
    generalize (⟨(cfTextS [] ⟨0, 0, 0, 0, 0, 0, 0, 0, 0, 0, 0⟩).toArray⟩ : ByteArray) = t at HTX
    generalize cfB [] ⟨0, 0, 0, 0, 0, 0, 0, 0, 0, 0, 0⟩ = bt at HTX
    have a0 := blk_cell H14.out 0
    have a1 := blk_cell H14.out 1
    have a2 := blk_cell H14.out 2
    have a3 := blk_cell H14.out 3
    have a4 := blk_cell H14.out 4
    have a5 := blk_cell H14.out 5
    have a6 := blk_cell H14.out 6
    have a7 := blk_cell H14.out 7
    have a8 := blk_cell H14.out 8
    have a9 := blk_cell H14.out 9
    have a10 := blk_cell H14.out 10
    have a11 := blk_cell H14.out 11
    go_wp2_with fail
    (with_reducible refine HTX.out.mono ?_)
    rintro e w5 ⟨rfl, hb⟩
    have HB5 := Lib.hid (HB4.out.trans (hb.mono HB4.out.size))
    have H15 := Lib.hid (blk_below H14.out hb (blk_lt H14.out))
    have H25 := Lib.hid (blk_below H24.out hb (blk_lt H24.out))
    clear hb HB4 H14 H24 HTX a0 a1 a2 a3 a4 a5 a6 a7 a8 a9 a10 a11
    go_wp2_with fail
    (with_reducible refine (HA.out _).mono ?_)
    rintro e w6 ⟨rfl, hb⟩
    have HB6 := Lib.hid (HB5.out.trans (hb.mono HB5.out.size))
    have H16 := Lib.hid (blk_below H15.out hb (blk_lt H15.out))
    have H26 := Lib.hid (blk_below H25.out hb (blk_lt H25.out))
    have HS := Lib.hid (refSame_any none none 0 0 [] [] ⟨0, 0, 0, 0, 0, 0, 0, 0, 0, 0, 0⟩ ⟨0, 0, 0, 0, 0, 0, 0, 0, 0, 0, 0⟩ w6 (Rd.nil_ _ _ _) (Rd.nil_ _ _ _) (by simp) (by simp))
    rw [sameP_self] at HS
    unfold cfCells at HS
    dsimp only [List.length_nil] at HS
    clear hb HB5 H15 H25 HA
    have a0 := blk_cell H16.out 0
    have a1 := blk_cell H16.out 1
    have a2 := blk_cell H16.out 2
    have a3 := blk_cell H16.out 3
    have a4 := blk_cell H16.out 4
    have a5 := blk_cell H16.out 5
    have a6 := blk_cell H16.out 6
    have a7 := blk_cell H16.out 7
    have a8 := blk_cell H16.out 8
    have a9 := blk_cell H16.out 9
    have a10 := blk_cell H16.out 10
    have a11 := blk_cell H16.out 11
    have b0 := blk_cell H26.out 0
    have b1 := blk_cell H26.out 1
    have b2 := blk_cell H26.out 2
    have b3 := blk_cell H26.out 3
    have b4 := blk_cell H26.out 4
    have b5 := blk_cell H26.out 5
    have b6 := blk_cell H26.out 6
    have b7 := blk_cell H26.out 7
    have b8 := blk_cell H26.out 8
    have b9 := blk_cell H26.out 9
    have b10 := blk_cell H26.out 10
    have b11 := blk_cell H26.out 11
    go_wp2_with fail
    (with_reducible refine HS.out.mono ?_)
    rintro e w7 ⟨rfl, hb⟩
    have HB7 := Lib.hid (HB6.out.trans (hb.mono HB6.out.size))
    clear hb HB6 HS H16 H26 a0 a1 a2 a3 a4 a5 a6 a7 a8 a9 a10 a11 b0 b1 b2 b3 b4 b5 b6 b7 b8 b9 b10 b11
    go_wp2_with fail
    go_ret
    exact ⟨rfl, HB7.out⟩

theorem confParses_any (s : ByteArray) (w : World) (hl : s.size ≤ 9223372036854775807) (hp : Pow w.heap.size w) (he : Errs w.heap.size w) (hm : MaxL w.heap.size w) :
    Calls Tryz.prog 4 #[.string s] w fun e w' => e = .returned (.bool true) ∧ Below w.heap.size w w' := by
  by_cases h : 800 < s.size
  · exact parses_far s w h hl
  · exact parses_near s w h hp he hm

end Go.Proofs.YtiokdfkddcokoaaGreatDoor
