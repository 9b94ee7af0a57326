/- Walks: the program's check of an input. Conditions: slices have room for their own elements, as every slice of Go has. -/
import Derived.Test.YtiokdfkddcokoaaConfNeeds
import Derived.Test.YtiokdfkddcokoaaDataCheck
namespace Go.Proofs.Ytiokdfkddcokoaa
open Go.RowKit

/-- The code of an input. -/
def inCode (k : Int) (zs : List Int) (st ba : Int) (l : List Ex) (sn rn : Nat) : Int :=
  if k ≠ 0 then k
  else if (l.length : Int) < ba ∨ 1048576 < (l.length : Int) then 7
  else if exFits (zAt zs 0) (zAt zs (zs.length - 1)) l = false ∨ (sn : Int) ≠ cnt zs then 5
  else if (rn : Int) < nee k st ba l.length then 8 else 0

set_option maxHeartbeats 400000 in
theorem count_any (g : Nat) (zs : List Int) (B : Nat) (w : World) (h : IsShape w B g zs) : Calls Try.prog 24 #[.pointer (some ⟨g, 0, none⟩)] w fun e w' => e = .returned (.int .i64 (cnt zs)) ∧ w' = w := by
  obtain ⟨_, As, Aw, Ab, cs, cw, cb, hg, _⟩ := h
  have c3 : w.cell? ⟨g, 3, none⟩ = some (.int .i64 (cnt zs)) := blk_cell hg 3
  clear hg
  go_enter Try.func24, Try.ntmps24
  go_wp2
  go_ret
  exact ⟨rfl, rfl⟩

theorem in_all {A DA SA RA : Option Addr} {n cap ln dcap sn scap rn rcap g : Nat} {sh ra mo wo ba mi st bu ch wi ca : Int} {W : World} (hn : W.heap[g]? = some (.cells #[.slice A n cap, .int .i64 sh, .int .i64 ra, .int .i64 mo, .int .i64 wo, .int .i64 ba, .int .i64 mi, .int .i64 st, .int .i64 bu, .int .i64 ch, .int .i64 wi, .int .i64 ca, .slice DA ln dcap, .slice SA sn scap, .slice RA rn rcap] 36 (0, 0))) :
    W.cell? ⟨g, 0, none⟩ = some (.slice A n cap) ∧ W.cell? ⟨g, 1, none⟩ = some (.int .i64 sh) ∧ W.cell? ⟨g, 2, none⟩ = some (.int .i64 ra) ∧ W.cell? ⟨g, 3, none⟩ = some (.int .i64 mo) ∧ W.cell? ⟨g, 4, none⟩ = some (.int .i64 wo) ∧ W.cell? ⟨g, 5, none⟩ = some (.int .i64 ba) ∧ W.cell? ⟨g, 6, none⟩ = some (.int .i64 mi) ∧ W.cell? ⟨g, 7, none⟩ = some (.int .i64 st) ∧ W.cell? ⟨g, 8, none⟩ = some (.int .i64 bu) ∧ W.cell? ⟨g, 9, none⟩ = some (.int .i64 ch) ∧ W.cell? ⟨g, 10, none⟩ = some (.int .i64 wi) ∧ W.cell? ⟨g, 11, none⟩ = some (.int .i64 ca) ∧ W.cell? ⟨g, 12, none⟩ = some (.slice DA ln dcap) ∧ W.cell? ⟨g, 13, none⟩ = some (.slice SA sn scap) ∧ W.cell? ⟨g, 14, none⟩ = some (.slice RA rn rcap) := by
  refine ⟨blk_cell hn 0, blk_cell hn 1, blk_cell hn 2, blk_cell hn 3, blk_cell hn 4, blk_cell hn 5, blk_cell hn 6, blk_cell hn 7, blk_cell hn 8, blk_cell hn 9, blk_cell hn 10, blk_cell hn 11, blk_cell hn 12, blk_cell hn 13, blk_cell hn 14⟩

set_option maxHeartbeats 1000000 in
theorem input_bad (A DA SA RA : Option Addr) (cap dcap sn scap rn rcap : Nat) (zs : List Int) (l : List Ex) (sh ra mo wo ba mi st bu ch wi ca : Int) (w : World) (hr : RdI w w.heap.size A zs) (hcap : zs.length ≤ cap) (hm : zs.length ≤ 9223372036854775807)
    (hk : confCode zs ⟨sh, 0, 0, wo, ba, mi, st, bu, ch, wi, ca⟩ ≠ 0) :
    Calls Try.prog 14 #[.agg #[.slice A zs.length cap, .int .i64 sh, .int .i64 ra, .int .i64 mo, .int .i64 wo, .int .i64 ba, .int .i64 mi, .int .i64 st, .int .i64 bu, .int .i64 ch, .int .i64 wi, .int .i64 ca, .slice DA l.length dcap, .slice SA sn scap, .slice RA rn rcap]] w (Coded w (inCode (confCode zs ⟨sh, 0, 0, wo, ba, mi, st, bu, ch, wi, ca⟩) zs st ba l sn rn)) := by
  have hb0 : Below w.heap.size w ((w.alloc (.cells #[.slice A zs.length cap, .int .i64 sh, .int .i64 ra, .int .i64 mo, .int .i64 wo, .int .i64 ba, .int .i64 mi, .int .i64 st, .int .i64 bu, .int .i64 ch, .int .i64 wi, .int .i64 ca, .slice DA l.length dcap, .slice SA sn scap, .slice RA rn rcap] 36)).alloc (.cells #[.slice A zs.length cap, .int .i64 sh, .int .i64 ra, .int .i64 mo, .int .i64 wo, .int .i64 ba, .int .i64 mi, .int .i64 st, .int .i64 bu, .int .i64 ch, .int .i64 wi, .int .i64 ca] 24)) := ((Below.refl _ _).alloc (Nat.le_refl _) _).alloc (by simp) _
  have C := confCheck_flat A cap zs sh ra mo wo ba mi st bu ch wi ca _ ((hr.below hb0).more hb0.size) hcap hm
  generalize confCode zs ⟨sh, 0, 0, wo, ba, mi, st, bu, ch, wi, ca⟩ = k at *
  have hfin : Hid (inCode k zs st ba l sn rn = k) := Lib.hid (if_pos hk)
  have hk' : (k != 0) = true := by simpa using hk
  have HC := Lib.hid C
  clear C hk
  go_enter Try.func14, Try.ntmps14
  go_wp2_with (go_at_call 7; refine HC.out.mono ?_; rintro e w1 ⟨rfl, hb1⟩)
  go_ret
  exact ⟨ret_int hfin.out.symm, hb0.trans (hb1.mono hb0.size)⟩

theorem in7 {zs : List Int} {st ba : Int} {l : List Ex} {sn rn : Nat} (h : (l.length : Int) < ba ∨ 1048576 < (l.length : Int)) : inCode 0 zs st ba l sn rn = 7 := by
  unfold inCode; rw [if_neg (by simp), if_pos h]
theorem in5 {zs : List Int} {st ba : Int} {l : List Ex} {sn rn : Nat} (h : ¬ (l.length : Int) < ba) (h' : ¬ 1048576 < (l.length : Int)) (h2 : exFits (zAt zs 0) (zAt zs (zs.length - 1)) l = false ∨ (sn : Int) ≠ cnt zs) : inCode 0 zs st ba l sn rn = 5 := by
  unfold inCode; rw [if_neg (by simp), if_neg (by omega), if_pos h2]
theorem in8 {zs : List Int} {st ba : Int} {l : List Ex} {sn rn : Nat} (h : ¬ (l.length : Int) < ba) (h' : ¬ 1048576 < (l.length : Int)) (h2 : exFits (zAt zs 0) (zAt zs (zs.length - 1)) l = true) (h3 : (sn : Int) = cnt zs) (h4 : (rn : Int) < nee 0 st ba l.length) : inCode 0 zs st ba l sn rn = 8 := by
  unfold inCode; rw [if_neg (by simp), if_neg (by omega), if_neg (by simp [h2, h3]), if_pos h4]
theorem in0 {zs : List Int} {st ba : Int} {l : List Ex} {sn rn : Nat} (h : ¬ (l.length : Int) < ba) (h' : ¬ 1048576 < (l.length : Int)) (h2 : exFits (zAt zs 0) (zAt zs (zs.length - 1)) l = true) (h3 : (sn : Int) = cnt zs) (h4 : ¬ (rn : Int) < nee 0 st ba l.length) : inCode 0 zs st ba l sn rn = 0 := by
  unfold inCode; rw [if_neg (by simp), if_neg (by omega), if_neg (by simp [h2, h3]), if_neg h4]

theorem sizes_two {zs : List Int} (h : shCode zs = 0) : 2 ≤ zs.length ∧ zs.length ≤ 16 := by
  unfold shCode at h
  split at h
  · cases h
  · omega

set_option maxRecDepth 100000 in
set_option maxHeartbeats 1000000 in
theorem input_good (A DA SA RA : Option Addr) (cap dcap sn scap rn rcap : Nat) (zs : List Int) (l : List Ex) (sh ra mo wo ba mi st bu ch wi ca : Int) (w : World) (hr : RdI w w.heap.size A zs) (hcap : zs.length ≤ cap) (hm : zs.length ≤ 9223372036854775807)
    (hd : RdE w w.heap.size DA l) (hlm : l.length ≤ 9223372036854775807)
    (hk : confCode zs ⟨sh, 0, 0, wo, ba, mi, st, bu, ch, wi, ca⟩ = 0) :
    Calls Try.prog 14 #[.agg #[.slice A zs.length cap, .int .i64 sh, .int .i64 ra, .int .i64 mo, .int .i64 wo, .int .i64 ba, .int .i64 mi, .int .i64 st, .int .i64 bu, .int .i64 ch, .int .i64 wi, .int .i64 ca, .slice DA l.length dcap, .slice SA sn scap, .slice RA rn rcap]] w (Coded w (inCode (confCode zs ⟨sh, 0, 0, wo, ba, mi, st, bu, ch, wi, ca⟩) zs st ba l sn rn)) := by
  have hI := heap_alloc_new w (.cells #[.slice A zs.length cap, .int .i64 sh, .int .i64 ra, .int .i64 mo, .int .i64 wo, .int .i64 ba, .int .i64 mi, .int .i64 st, .int .i64 bu, .int .i64 ch, .int .i64 wi, .int .i64 ca, .slice DA l.length dcap, .slice SA sn scap, .slice RA rn rcap] 36)
  have hb0 : Below w.heap.size w ((w.alloc (.cells #[.slice A zs.length cap, .int .i64 sh, .int .i64 ra, .int .i64 mo, .int .i64 wo, .int .i64 ba, .int .i64 mi, .int .i64 st, .int .i64 bu, .int .i64 ch, .int .i64 wi, .int .i64 ca, .slice DA l.length dcap, .slice SA sn scap, .slice RA rn rcap] 36)).alloc (.cells #[.slice A zs.length cap, .int .i64 sh, .int .i64 ra, .int .i64 mo, .int .i64 wo, .int .i64 ba, .int .i64 mi, .int .i64 st, .int .i64 bu, .int .i64 ch, .int .i64 wi, .int .i64 ca] 24)) := ((Below.refl _ _).alloc (Nat.le_refl _) _).alloc (by simp) _
  have hI0 := blk_alloc hI (.cells #[.slice A zs.length cap, .int .i64 sh, .int .i64 ra, .int .i64 mo, .int .i64 wo, .int .i64 ba, .int .i64 mi, .int .i64 st, .int .i64 bu, .int .i64 ch, .int .i64 wi, .int .i64 ca] 24)
  have hC0 := heap_alloc_new (w.alloc (.cells #[.slice A zs.length cap, .int .i64 sh, .int .i64 ra, .int .i64 mo, .int .i64 wo, .int .i64 ba, .int .i64 mi, .int .i64 st, .int .i64 bu, .int .i64 ch, .int .i64 wi, .int .i64 ca, .slice DA l.length dcap, .slice SA sn scap, .slice RA rn rcap] 36)) (.cells #[.slice A zs.length cap, .int .i64 sh, .int .i64 ra, .int .i64 mo, .int .i64 wo, .int .i64 ba, .int .i64 mi, .int .i64 st, .int .i64 bu, .int .i64 ch, .int .i64 wi, .int .i64 ca] 24)
  rw [World.size_alloc] at hC0
  have C := confCheck_flat A cap zs sh ra mo wo ba mi st bu ch wi ca _ ((hr.below hb0).more hb0.size) hcap hm
  have N := fun W (hb : Below w.heap.size w W) => need_any A cap zs sh ra mo wo ba mi st bu ch wi ca l.length W ((hr.below hb).more hb.size) hcap hm
  have Z := conf_zero hk
  rw [hk] at C N ⊢
  obtain ⟨⟨hst, hst'⟩, hba, hba', hsh⟩ := Z
  dsimp only at hst hst' hba hba'
  have M := fun W (hb : Below w.heap.size w W) => new_ok A cap zs W ((hr.below hb).more hb.size) hcap hm hsh
  have h2 := sizes_two hsh
  obtain ⟨b, off, rfl, hbl, hc⟩ := hr.at_ (by omega)
  obtain ⟨x0, hx0⟩ := get_some zs 0 (by omega)
  obtain ⟨xl, hxl⟩ := get_some zs (zs.length - 1) (by omega)
  have Hx0 := Lib.hid (hc 0 x0 hx0)
  have Hxl := Lib.hid (hc _ xl hxl)
  have hz0 : zAt zs 0 = x0 := by simp [zAt, List.getD, hx0]
  have hzl : zAt zs (zs.length - 1) = xl := by simp [zAt, List.getD, hxl]
  have D := fun W (hb : Below w.heap.size w W) => dataCheck_any x0 xl DA dcap l W ((hd.below hb).more hb.size) hlm
  have HD := Lib.hid D
  have Hz := Lib.hid (And.intro hz0 hzl)
  have i0 : (0 : Int) ≤ (zs.length : Int) - 1 := by omega
  have i1 : (zs.length : Int) - 1 < (zs.length : Int) := by omega
  have i2 : IntKind.i64.wrap ((zs.length : Int) - 1) = (zs.length : Int) - 1 := IntWalk.i64_in _ (by omega)
  have i3 : ((zs.length : Int) - 1).toNat = zs.length - 1 := by omega
  have i4 : (0 : Int) < (zs.length : Int) := by omega
  have i5 : 0 < zs.length := by omega
  have i6 : (1 : Int) ≤ (zs.length : Int) := by omega
  have i7 : 1 ≤ zs.length := by omega
  clear D hc hx0 hxl hz0 hzl
  have HC := Lib.hid C
  have HN := Lib.hid N
  have HM := Lib.hid M
  have HI0 := Lib.hid hI0
  have HC0 := Lib.hid hC0
  clear C N M hI hI0 hC0 hk hsh
  go_enter Try.func14, Try.ntmps14
  go_wp2_with fail
  refine HC.out.mono ?_
  rintro e w1 ⟨rfl, hb1⟩
  have hB1 := hb0.trans (hb1.mono hb0.size)
  have HI1 := Lib.hid (blk_below HI0.out hb1 (by simp; omega))
  have HC1 := Lib.hid (blk_below HC0.out hb1 (by simp))
  clear hb1
  obtain ⟨c0, c1, c2, c3, c4, c5, c6, c7, c8, c9, c10, c11⟩ := cf_all HC1.out
  go_wp2_with fail
  clear c0 c1 c2 c3 c4 c5 c6 c7 c8 c9 c10 c11
  refine (HM.out _ hB1).mono ?_
  rintro e w2 ⟨g, rfl, hb2, hg, hS⟩
  have hB2 := hB1.trans (hb2.mono hB1.size)
  have HI2 := Lib.hid (blk_below HI1.out hb2 (blk_lt HI1.out))
  have HC2 := Lib.hid (blk_below HC1.out hb2 (blk_lt HC1.out))
  clear hb2
  go_wp2_with fail
  have c12 : w2.cell? ⟨w.heap.size, 12, none⟩ = some (.slice DA l.length dcap) := blk_cell HI2.out 12
  have c0 : w2.cell? ⟨w.heap.size + 1, 0, none⟩ = some (.slice (some ⟨b, off, none⟩) zs.length cap) := blk_cell HC2.out 0
  have cx : w2.cell? ⟨b, off, none⟩ = some (.int .i64 x0) := (hB2.cell (p := ⟨b, off, none⟩) hbl).trans Hx0.out
  have cy : w2.cell? ⟨b, off + (zs.length - 1), none⟩ = some (.int .i64 xl) := (hB2.cell (p := ⟨b, off + (zs.length - 1), none⟩) hbl).trans Hxl.out
  go_region_held3 (fun w' => w'.cell? ⟨w.heap.size, 12, none⟩ = some (.slice DA l.length dcap) ∧ w'.cell? ⟨w.heap.size + 1, 0, none⟩ = some (.slice (some ⟨b, off, none⟩) zs.length cap) ∧ w'.cell? ⟨b, off, none⟩ = some (.int .i64 x0) ∧ w'.cell? ⟨b, off + (zs.length - 1), none⟩ = some (.int .i64 xl))
    (first
      | exact ⟨d12, d0, dx, dy⟩
      | exact ⟨c12, c0, cx, cy⟩)
    ((go_at_call 23
      refine (HD.out _ (below_drew hB2)).mono ?_
      rintro e w3 ⟨rfl, hb3⟩
      have hB3 := (below_drew hB2).trans (hb3.mono hB2.size)
      have HI3 := Lib.hid (blk_below (blk_drew HI2.out) hb3 (blk_lt HI2.out))
      have HC3 := Lib.hid (blk_below (blk_drew HC2.out) hb3 (blk_lt HC2.out))
      have HS3 := Lib.hid (IsShape.below (w := w2.drew) hS hb3)
      have d12 : w3.cell? ⟨w.heap.size, 12, none⟩ = some (.slice DA l.length dcap) := blk_cell HI3.out 12
      have d0 : w3.cell? ⟨w.heap.size + 1, 0, none⟩ = some (.slice (some ⟨b, off, none⟩) zs.length cap) := blk_cell HC3.out 0
      have dx : w3.cell? ⟨b, off, none⟩ = some (.int .i64 x0) := (hB3.cell (p := ⟨b, off, none⟩) hbl).trans Hx0.out
      have dy : w3.cell? ⟨b, off + (zs.length - 1), none⟩ = some (.int .i64 xl) := (hB3.cell (p := ⟨b, off + (zs.length - 1), none⟩) hbl).trans Hxl.out))
  clear c12 c0 cx cy d0 dx dy i0 i1 i2 i3 i4 i5 i6 i7
  by_cases n1 : (l.length : Int) < ba
  · have hfin := Lib.hid (in7 (zs := zs) (st := st) (ba := ba) (l := l) (sn := sn) (rn := rn) (.inl n1))
    have c5 : w3.cell? ⟨w.heap.size + 1, 5, none⟩ = some (.int .i64 ba) := blk_cell HC3.out 5
    go_wp2
    go_ret
    exact ⟨ret_int hfin.out.symm, hB3⟩
  by_cases n2 : 1048576 < (l.length : Int)
  · have hfin := Lib.hid (in7 (zs := zs) (st := st) (ba := ba) (l := l) (sn := sn) (rn := rn) (.inr n2))
    have c5 : w3.cell? ⟨w.heap.size + 1, 5, none⟩ = some (.int .i64 ba) := blk_cell HC3.out 5
    go_wp2
    go_ret
    exact ⟨ret_int hfin.out.symm, hB3⟩
  have c5 : w3.cell? ⟨w.heap.size + 1, 5, none⟩ = some (.int .i64 ba) := blk_cell HC3.out 5
  cases hf : exFits x0 xl l
  · have hfin := Lib.hid (in5 (zs := zs) (st := st) (ba := ba) (l := l) (sn := sn) (rn := rn) n1 n2 (.inl (by rw [Hz.out.1, Hz.out.2]; exact hf)))
    go_wp2
    go_quiet (fail)
    go_wp2
    go_ret
    exact ⟨ret_int hfin.out.symm, below_drewN hB3 _⟩
  have c13 : w3.cell? ⟨w.heap.size, 13, none⟩ = some (.slice SA sn scap) := blk_cell HI3.out 13
  by_cases hs : (sn : Int) = cnt zs
  · have k1 : ((sn : Int) != cnt zs) = false := by simpa using hs
    have hg8 := Lib.hid (fun h4 => in8 (zs := zs) (st := st) (ba := ba) (l := l) (sn := sn) (rn := rn) n1 n2 (by rw [Hz.out.1, Hz.out.2]; exact hf) hs h4)
    have hg0 := Lib.hid (fun h4 => in0 (zs := zs) (st := st) (ba := ba) (l := l) (sn := sn) (rn := rn) n1 n2 (by rw [Hz.out.1, Hz.out.2]; exact hf) hs h4)
    generalize nee 0 st ba l.length = D at *
    clear hs
    go_wp2
    go_quiet ((go_at_call 24; exact Calls.quiet_of_same (count_any g zs _ _ HS3.out)))
    go_wp2
    have c14 : w3.cell? ⟨w.heap.size, 14, none⟩ = some (.slice RA rn rcap) := blk_cell HI3.out 14
    clear c5 c13 k1 d12
    go_region_held3 (fun w' => (w'.cell? ⟨w.heap.size + 1, 0, none⟩ = some (.slice (some ⟨b, off, none⟩) zs.length cap) ∧ w'.cell? ⟨w.heap.size + 1, 1, none⟩ = some (.int .i64 sh) ∧ w'.cell? ⟨w.heap.size + 1, 2, none⟩ = some (.int .i64 ra) ∧ w'.cell? ⟨w.heap.size + 1, 3, none⟩ = some (.int .i64 mo) ∧ w'.cell? ⟨w.heap.size + 1, 4, none⟩ = some (.int .i64 wo) ∧ w'.cell? ⟨w.heap.size + 1, 5, none⟩ = some (.int .i64 ba) ∧ w'.cell? ⟨w.heap.size + 1, 6, none⟩ = some (.int .i64 mi) ∧ w'.cell? ⟨w.heap.size + 1, 7, none⟩ = some (.int .i64 st) ∧ w'.cell? ⟨w.heap.size + 1, 8, none⟩ = some (.int .i64 bu) ∧ w'.cell? ⟨w.heap.size + 1, 9, none⟩ = some (.int .i64 ch) ∧ w'.cell? ⟨w.heap.size + 1, 10, none⟩ = some (.int .i64 wi) ∧ w'.cell? ⟨w.heap.size + 1, 11, none⟩ = some (.int .i64 ca)) ∧ w'.cell? ⟨w.heap.size, 14, none⟩ = some (.slice RA rn rcap))
      (first
        | exact ⟨cf_all HC4.out, blk_cell HI4.out 14⟩
        | exact ⟨cf_all HC3.out, c14⟩)
      ((go_at_call 11
        refine (HN.out _ ?_).mono ?_
        · first
            | exact below_drewN hB3 _
            | exact below_drew (below_drewN hB3 _)
        rintro e w4 ⟨rfl, hb4⟩
        have hB4 : Below w.heap.size w w4 := Below.trans (by first | exact below_drewN hB3 _ | exact below_drew (below_drewN hB3 _)) (hb4.mono hB3.size)
        have HI4 := Lib.hid (blk_below (by exact HI3.out) hb4 (by exact blk_lt HI3.out))
        have HC4 := Lib.hid (blk_below (by exact HC3.out) hb4 (by exact blk_lt HC3.out))))
    by_cases hD : (rn : Int) < D
    · have hfin := Lib.hid (hg8.out hD)
      go_wp2
      go_ret
      exact ⟨ret_int hfin.out.symm, hB4⟩
    · have hfin := Lib.hid (hg0.out (by omega))
      go_wp2
      go_ret
      exact ⟨ret_int hfin.out.symm, hB4⟩
  · have k1 : ((sn : Int) != cnt zs) = true := by simpa using hs
    have hfin := Lib.hid (in5 (zs := zs) (st := st) (ba := ba) (l := l) (sn := sn) (rn := rn) n1 n2 (.inr hs))
    clear hs
    go_wp2
    go_quiet ((go_at_call 24; exact Calls.quiet_of_same (count_any g zs _ _ HS3.out)))
    go_wp2
    go_ret
    exact ⟨ret_int hfin.out.symm, below_drewN hB3 _⟩

end Go.Proofs.Ytiokdfkddcokoaa
