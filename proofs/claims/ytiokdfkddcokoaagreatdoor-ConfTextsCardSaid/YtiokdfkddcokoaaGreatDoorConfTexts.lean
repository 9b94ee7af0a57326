/- Walk: ConfTexts. Conditions: the table of powers of ten, the two sentinels and the library's bound on a search read as listed. -/
import Derived.Test.YtiokdfkddcokoaaGreatDoorConfParse
import Derived.Test.YtiokdfkddcokoaaGreatDoorRefSame
import Derived.Test.YtiokdfkddcokoaaGreatDoorConfAlive
namespace Go.Proofs.YtiokdfkddcokoaaGreatDoor
open Go.RowKit

theorem cf_nonempty {zs : List Int} {c : Cf} : cfText zs c ≠ [] := fun e => by
  have := cutAt_cf zs c
  rw [e] at this
  have h2 := congrArg List.length this
  rw [show (cfWords zs c).length = 24 from rfl] at h2
  exact absurd h2 (by decide)

theorem cf_word_len {zs : List Int} {c : Cf} (h64 : Cf64 zs c) (h40 : zs.length ≤ 40) (hsh : 0 ≤ c.sh ∧ c.sh ≤ 62) : ∀ y ∈ cfWords zs c, y.length ≤ 1000 := by
  have h1 := sz_len zs h64.1
  have hI : ∀ k, (Lib.itoa (numK c k)).length ≤ 21 := fun k => itoa_len (h64.2 k)
  have hD : ∀ k, (decText (numK c k) c.sh.toNat).length ≤ 100 := fun k => decText_len _ _ (by omega) (h64.2 k)
  intro y hy
  obtain ⟨j, hj⟩ := List.getElem?_of_mem hy
  have hlt : j < 24 := (List.getElem?_eq_some_iff.1 hj).1
  have hk : j / 2 < 12 := by omega
  obtain ⟨e0, e1⟩ := words_at zs c (j / 2) hk
  have hg : (cfWords zs c).getD j [] = y := by rw [List.getD, hj]; rfl
  have hnm : ((nameK (j / 2)).data.toList).length ≤ 8 := nameK_len (j / 2)
  by_cases hp : j = 2 * (j / 2)
  · rw [hp, e0] at hg
    rw [← hg]
    omega
  · rw [show j = 2 * (j / 2) + 1 by omega, e1] at hg
    rw [← hg]
    unfold txtK
    split
    · omega
    · exact Nat.le_trans (hD 2) (m := 100) (by decide)
    · exact Nat.le_trans (hD 3) (m := 100) (by decide)
    · exact Nat.le_trans (hI _) (m := 21) (by decide)

set_option maxHeartbeats 400000 in
theorem texts_far (A : Option Addr) (cap : Nat) (zs : List Int) (c : Cf) (w : World) (h40 : 40 < zs.length) (hm : zs.length ≤ 9223372036854775807) :
    Calls Tryz.prog 3 #[.agg (cfCells A zs.length cap c)] w fun e w' => e = .returned (.bool true) ∧ Below w.heap.size w w' := by
  have hb1 := (Below.refl w.heap.size w).alloc (Nat.le_refl _) (.cells (cfCells A zs.length cap c) 24)
  have HB := Lib.hid hb1
  have HA := Lib.hid (fun W => alive11_any W)
  have h1 : (40 : Int) < (zs.length : Int) := by omega
  have h2 : (zs.length : Int) ≤ 9223372036854775807 := by omega
  clear hb1 h40 hm
  unfold cfCells at HB ⊢
  go_enter Tryz.func3, Tryz.ntmps3
  go_wp2_with fail
  (with_reducible refine (HA.out _).mono ?_)
  rintro e w1 ⟨rfl, hb⟩
  have HB1 := Lib.hid (HB.out.trans (hb.mono HB.out.size))
  clear hb
  go_wp2_with fail
  go_ret
  exact ⟨rfl, HB1.out⟩

set_option maxRecDepth 100000 in
set_option maxHeartbeats 8000000 in
theorem texts_yes (A : Option Addr) (cap : Nat) (zs : List Int) (c : Cf) (w : World) (hr : RdI w w.heap.size A zs) (h40 : ¬ 40 < zs.length) (h64 : Cf64 zs c) (hp : Pow w.heap.size w) (he : Errs w.heap.size w) (hm : MaxL w.heap.size w) (hB : cfB zs c = true) :
    Calls Tryz.prog 3 #[.agg (cfCells A zs.length cap c)] w fun e w' => e = .returned (.bool true) ∧ Below w.heap.size w w' := by
  have hb1 := (Below.refl w.heap.size w).alloc (Nat.le_refl _) (.cells (cfCells A zs.length cap c) 24)
  have h1 := heap_alloc_new w (.cells (cfCells A zs.length cap c) 24)
  have HB := Lib.hid hb1
  have H1 := Lib.hid h1
  have HA := Lib.hid (fun W => alive11_any W)
  obtain ⟨s, hs⟩ : ∃ s : ByteArray, ⟨(cfTextS zs c).toArray⟩ = s := ⟨_, rfl⟩
  have hsd : s.data.toList = cfTextS zs c := by rw [← hs]
  have hsz : s.size = (cfTextS zs c).length := by rw [← hs]; simp [ByteArray.size]
  have HT := Lib.hid (fun W (hb : Below w.heap.size w W) => confText_any A cap zs c h64 (by omega) w.heap.size W (hp.on hb) hb.size ((hr.below hb).more hb.size))
  have HU := Lib.hid (fun W (hb : Below w.heap.size w W) => refConfText_any A cap zs c h64 (by omega) W ((hr.below hb).more hb.size))
  rw [hs, hB] at HT HU
  have hok : CfOk zs c := cfB_iff.1 hB
  have hte : cfTextS zs c = cfText zs c := by unfold cfTextS; rw [if_pos hB]
  rw [hte] at hsd hsz
  have hw1 : s.size ≤ 100000 := by
    rw [hsz]
    have := join_le 32 1000 (cfWords zs c) (cf_word_len h64 (by omega) hok.sh)
    rw [show (cfWords zs c).length = 24 from rfl] at this
    show (Lib.join (cfWords zs c) [32]).length ≤ 100000
    omega
  have hw2 : ∀ y ∈ cutAt 32 s.data.toList, y.length ≤ 1000 := by rw [hsd, cutAt_cf]; exact cf_word_len h64 (by omega) hok.sh
  have HOK := Lib.hid hok
  have HC64 := Lib.hid h64
  have HSD := Lib.hid hsd
  clear hok hte hsd h64
  have HP := Lib.hid (fun W (hb : Below w.heap.size w W) => confParse_any s hw1 hw2 w.heap.size W (hp.on hb) (he.on hb) (hm.on hb) hb.size)
  have hl1 : ¬ (40 : Int) < (zs.length : Int) := by omega
  have h63 : zs.length ≤ 9223372036854775807 := by omega
  have HR := Lib.hid (fun W (hb : Below w.heap.size w W) => (hr.below hb).more hb.size)
  have H63 := Lib.hid h63
  clear hb1 h1 hs hsz hp he hm hr h40 hB h63 hw1 hw2
  obtain ⟨sh, ra, mo, wo, ba, mi, st, bu, ch, wi, ca⟩ := c
  unfold cfCells at HB H1 HT HU ⊢
  dsimp only at HB H1 HT HU ⊢
  go_enter Tryz.func3, Tryz.ntmps3
  go_wp2_with fail
  (with_reducible refine (HT.out _ HB.out).mono ?_)
  rintro e w1 ⟨rfl, hb⟩
  have HB1 := Lib.hid (HB.out.trans (hb.mono HB.out.size))
  have H11 := Lib.hid (blk_below H1.out hb (blk_lt H1.out))
  clear hb HB H1 HT
  have a0 := blk_cell H11.out 0
  have a1 := blk_cell H11.out 1
  have a2 := blk_cell H11.out 2
  have a3 := blk_cell H11.out 3
  have a4 := blk_cell H11.out 4
  have a5 := blk_cell H11.out 5
  have a6 := blk_cell H11.out 6
  have a7 := blk_cell H11.out 7
  have a8 := blk_cell H11.out 8
  have a9 := blk_cell H11.out 9
  have a10 := blk_cell H11.out 10
  have a11 := blk_cell H11.out 11
  go_wp2_with fail
  (with_reducible refine (HU.out _ HB1.out).mono ?_)
  rintro e w2 ⟨rfl, hb⟩
  have HB2 := Lib.hid (HB1.out.trans (hb.mono HB1.out.size))
  have H12 := Lib.hid (blk_below H11.out hb (blk_lt H11.out))
  clear hb HB1 H11 HU a0 a1 a2 a3 a4 a5 a6 a7 a8 a9 a10 a11
  go_wp2_with fail
  (with_reducible refine (HP.out _ HB2.out).mono ?_)
  rintro e w3 ⟨h, hb⟩
  have HB3 := Lib.hid (HB2.out.trans (hb.mono HB2.out.size))
  have H13 := Lib.hid (blk_below H12.out hb (blk_lt H12.out))
  clear hb HB2 H12 HP
  rcases h with ⟨A', cap', zs', c', hok', _, hl, rfl, hr'⟩ | ⟨hno, _⟩
  rotate_left
  · exact absurd HSD.out (hno _ _ HOK.out HC64.out)
  obtain ⟨ez, ec⟩ := text_inj hok'.ne HOK.out.ne (hl.symm.trans HSD.out)
  subst ez
  subst ec
  have HR' := Lib.hid hr'
  clear hr' hok' hl HSD
  unfold cfCells
  dsimp only
  have hb4 := HB3.out.alloc HB3.out.size (.cells #[.slice A' zs'.length cap', .int .i64 sh, .int .i64 ra, .int .i64 mo, .int .i64 wo, .int .i64 ba, .int .i64 mi, .int .i64 st, .int .i64 bu, .int .i64 ch, .int .i64 wi, .int .i64 ca] 24)
  have H24 := Lib.hid (heap_alloc_new w3 (.cells #[.slice A' zs'.length cap', .int .i64 sh, .int .i64 ra, .int .i64 mo, .int .i64 wo, .int .i64 ba, .int .i64 mi, .int .i64 st, .int .i64 bu, .int .i64 ch, .int .i64 wi, .int .i64 ca] 24))
  have H14 := Lib.hid (blk_alloc H13.out (.cells #[.slice A' zs'.length cap', .int .i64 sh, .int .i64 ra, .int .i64 mo, .int .i64 wo, .int .i64 ba, .int .i64 mi, .int .i64 st, .int .i64 bu, .int .i64 ch, .int .i64 wi, .int .i64 ca] 24))
  have HB4 := Lib.hid hb4
  clear hb4 HB3 H13
  go_wp2_with fail
  (with_reducible refine (HA.out _).mono ?_)
  rintro e w5 ⟨rfl, hb⟩
  have HB5 := Lib.hid (HB4.out.trans (hb.mono HB4.out.size))
  have H15 := Lib.hid (blk_below H14.out hb (blk_lt H14.out))
  have H25 := Lib.hid (blk_below H24.out hb (blk_lt H24.out))
  have HR5 := Lib.hid (((((HR'.out.alloc (Nat.le_refl _) (.cells #[.slice A' zs'.length cap', .int .i64 sh, .int .i64 ra, .int .i64 mo, .int .i64 wo, .int .i64 ba, .int .i64 mi, .int .i64 st, .int .i64 bu, .int .i64 ch, .int .i64 wi, .int .i64 ca] 24)).more (by simp)).below hb).more hb.size))
  clear hb HB4 H14 H24 HR' HA
  have a0 := blk_cell H15.out 0
  have a1 := blk_cell H15.out 1
  have a2 := blk_cell H15.out 2
  have a3 := blk_cell H15.out 3
  have a4 := blk_cell H15.out 4
  have a5 := blk_cell H15.out 5
  have a6 := blk_cell H15.out 6
  have a7 := blk_cell H15.out 7
  have a8 := blk_cell H15.out 8
  have a9 := blk_cell H15.out 9
  have a10 := blk_cell H15.out 10
  have a11 := blk_cell H15.out 11
  have b0 := blk_cell H25.out 0
  have b1 := blk_cell H25.out 1
  have b2 := blk_cell H25.out 2
  have b3 := blk_cell H25.out 3
  have b4 := blk_cell H25.out 4
  have b5 := blk_cell H25.out 5
  have b6 := blk_cell H25.out 6
  have b7 := blk_cell H25.out 7
  have b8 := blk_cell H25.out 8
  have b9 := blk_cell H25.out 9
  have b10 := blk_cell H25.out 10
  have b11 := blk_cell H25.out 11
  have HS := Lib.hid (refSame_any A' A cap' cap _ _ ⟨sh, ra, mo, wo, ba, mi, st, bu, ch, wi, ca⟩ ⟨sh, ra, mo, wo, ba, mi, st, bu, ch, wi, ca⟩ w5 HR5.out (HR.out w5 HB5.out) H63.out H63.out)
  rw [same_iff.2 ⟨rfl, rfl⟩] at HS
  unfold cfCells at HS
  dsimp only at HS
  clear HR5 HR H63
  go_wp2_with fail
  (with_reducible refine HS.out.mono ?_)
  rintro e w6 ⟨rfl, hb⟩
  have HB6 := Lib.hid (HB5.out.trans (hb.mono HB5.out.size))
  clear hb a0 a1 a2 a3 a4 a5 a6 a7 a8 a9 a10 a11 b0 b1 b2 b3 b4 b5 b6 b7 b8 b9 b10 b11 HB5 HS
  go_wp2_with fail
  go_ret
  exact ⟨rfl, HB6.out⟩

set_option maxRecDepth 100000 in
set_option maxHeartbeats 8000000 in
theorem texts_no (A : Option Addr) (cap : Nat) (zs : List Int) (c : Cf) (w : World) (hr : RdI w w.heap.size A zs) (h40 : ¬ 40 < zs.length) (h64 : Cf64 zs c) (hp : Pow w.heap.size w) (he : Errs w.heap.size w) (hm : MaxL w.heap.size w) (hB : cfB zs c = false) :
    Calls Tryz.prog 3 #[.agg (cfCells A zs.length cap c)] w fun e w' => e = .returned (.bool true) ∧ Below w.heap.size w w' := by
  have hb1 := (Below.refl w.heap.size w).alloc (Nat.le_refl _) (.cells (cfCells A zs.length cap c) 24)
  have h1 := heap_alloc_new w (.cells (cfCells A zs.length cap c) 24)
  have HB := Lib.hid hb1
  have H1 := Lib.hid h1
  have HA := Lib.hid (fun W => alive11_any W)
  obtain ⟨s, hs⟩ : ∃ s : ByteArray, ⟨(cfTextS zs c).toArray⟩ = s := ⟨_, rfl⟩
  have hsd : s.data.toList = cfTextS zs c := by rw [← hs]
  have hsz : s.size = (cfTextS zs c).length := by rw [← hs]; simp [ByteArray.size]
  have HT := Lib.hid (fun W (hb : Below w.heap.size w W) => confText_any A cap zs c h64 (by omega) w.heap.size W (hp.on hb) hb.size ((hr.below hb).more hb.size))
  have HU := Lib.hid (fun W (hb : Below w.heap.size w W) => refConfText_any A cap zs c h64 (by omega) W ((hr.below hb).more hb.size))
  rw [hs, hB] at HT HU
  have hte : cfTextS zs c = [] := by unfold cfTextS; rw [hB]; rfl
  rw [hte] at hsd hsz
  have hw1 : s.size ≤ 100000 := by rw [hsz]; decide
  have hw2 : ∀ y ∈ cutAt 32 s.data.toList, y.length ≤ 1000 := by rw [hsd]; decide
  have HSD := Lib.hid hsd
  clear hte hsd h64
  have HP := Lib.hid (fun W (hb : Below w.heap.size w W) => confParse_any s hw1 hw2 w.heap.size W (hp.on hb) (he.on hb) (hm.on hb) hb.size)
  have hl1 : ¬ (40 : Int) < (zs.length : Int) := by omega
  have h63 : zs.length ≤ 9223372036854775807 := by omega
  have HR := Lib.hid (fun W (hb : Below w.heap.size w W) => (hr.below hb).more hb.size)
  have H63 := Lib.hid h63
  clear hb1 h1 hs hsz hp he hm hr h40 hB h63 hw1 hw2
  obtain ⟨sh, ra, mo, wo, ba, mi, st, bu, ch, wi, ca⟩ := c
  unfold cfCells at HB H1 HT HU ⊢
  dsimp only at HB H1 HT HU ⊢
  go_enter Tryz.func3, Tryz.ntmps3
  go_wp2_with fail
  (with_reducible refine (HT.out _ HB.out).mono ?_)
  rintro e w1 ⟨rfl, hb⟩
  have HB1 := Lib.hid (HB.out.trans (hb.mono HB.out.size))
  have H11 := Lib.hid (blk_below H1.out hb (blk_lt H1.out))
  clear hb HB H1 HT
  have a0 := blk_cell H11.out 0
  have a1 := blk_cell H11.out 1
  have a2 := blk_cell H11.out 2
  have a3 := blk_cell H11.out 3
  have a4 := blk_cell H11.out 4
  have a5 := blk_cell H11.out 5
  have a6 := blk_cell H11.out 6
  have a7 := blk_cell H11.out 7
  have a8 := blk_cell H11.out 8
  have a9 := blk_cell H11.out 9
  have a10 := blk_cell H11.out 10
  have a11 := blk_cell H11.out 11
  go_wp2_with fail
  (with_reducible refine (HU.out _ HB1.out).mono ?_)
  rintro e w2 ⟨rfl, hb⟩
  have HB2 := Lib.hid (HB1.out.trans (hb.mono HB1.out.size))
  have H12 := Lib.hid (blk_below H11.out hb (blk_lt H11.out))
  clear hb HB1 H11 HU a0 a1 a2 a3 a4 a5 a6 a7 a8 a9 a10 a11
  go_wp2_with fail
  (with_reducible refine (HP.out _ HB2.out).mono ?_)
  rintro e w3 ⟨h, hb⟩
  have HB3 := Lib.hid (HB2.out.trans (hb.mono HB2.out.size))
  have H13 := Lib.hid (blk_below H12.out hb (blk_lt H12.out))
  clear hb HB2 H12 HP
  rcases h with ⟨A', cap', zs', c', _, _, hl, _, _⟩ | ⟨_, rfl⟩
  · exact absurd (hl.symm.trans HSD.out) cf_nonempty
  unfold cfCells
  dsimp only
  have hb4 := HB3.out.alloc HB3.out.size (.cells #[.slice none 0 0, .int .i64 0, .int .i64 0, .int .i64 0, .int .i64 0, .int .i64 0, .int .i64 0, .int .i64 0, .int .i64 0, .int .i64 0, .int .i64 0, .int .i64 0] 24)
  have H24 := Lib.hid (heap_alloc_new w3 (.cells #[.slice none 0 0, .int .i64 0, .int .i64 0, .int .i64 0, .int .i64 0, .int .i64 0, .int .i64 0, .int .i64 0, .int .i64 0, .int .i64 0, .int .i64 0, .int .i64 0] 24))
  have H14 := Lib.hid (blk_alloc H13.out (.cells #[.slice none 0 0, .int .i64 0, .int .i64 0, .int .i64 0, .int .i64 0, .int .i64 0, .int .i64 0, .int .i64 0, .int .i64 0, .int .i64 0, .int .i64 0, .int .i64 0] 24))
  have HB4 := Lib.hid hb4
  clear hb4 HB3 H13
  go_wp2_with fail
  (with_reducible refine (HA.out _).mono ?_)
  rintro e w5 ⟨rfl, hb⟩
  have HB5 := Lib.hid (HB4.out.trans (hb.mono HB4.out.size))
  clear hb HB4 H14 H24 HA
  go_wp2_with fail
  go_ret
  exact ⟨rfl, HB5.out⟩

theorem confTexts_any (A : Option Addr) (cap : Nat) (zs : List Int) (c : Cf) (w : World) (hr : RdI w w.heap.size A zs) (hl : zs.length ≤ 9223372036854775807) (h64 : Cf64 zs c) (hp : Pow w.heap.size w) (he : Errs w.heap.size w) (hm : MaxL w.heap.size w) :
    Calls Tryz.prog 3 #[.agg (cfCells A zs.length cap c)] w fun e w' => e = .returned (.bool true) ∧ Below w.heap.size w w' := by
  by_cases h40 : 40 < zs.length
  · exact texts_far A cap zs c w h40 hl
  cases hB : cfB zs c
  · exact texts_no A cap zs c w hr h40 h64 hp he hm hB
  · exact texts_yes A cap zs c w hr h40 h64 hp he hm hB

end Go.Proofs.YtiokdfkddcokoaaGreatDoor
