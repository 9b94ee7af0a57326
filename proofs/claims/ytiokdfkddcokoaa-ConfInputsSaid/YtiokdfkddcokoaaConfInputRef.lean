/- Walks: the reference's check of an input. Conditions: slices have room for their own elements, as every slice of Go has. -/
import Derived.Test.YtiokdfkddcokoaaConfInput
namespace Go.Proofs.Ytiokdfkddcokoaa
open Go.RowKit

theorem Coded.r {w : World} {k : Int} {e : Ending} {w' : World} (h : CodedR w k e w') : Coded w k e w' := h
theorem quiet_of' {P : Program} {f : FuncId} {args : Array Value} {w : World} {v : Value} (h : Calls P f args w fun e w' => e = .returned v ∧ w = w') : Calls P f args w fun e w' => e = .returned v ∧ w' = w :=
  h.mono fun _ _ ⟨a, b⟩ => ⟨a, b.symm⟩

set_option maxHeartbeats 1000000 in
theorem refInput_bad (A DA SA RA : Option Addr) (cap dcap sn scap rn rcap : Nat) (zs : List Int) (l : List Ex) (sh ra mo wo ba mi st bu ch wi ca : Int) (w : World) (hr : RdI w w.heap.size A zs) (hm : zs.length ≤ 9223372036854775807)
    (hk : confCode zs ⟨sh, 0, 0, wo, ba, mi, st, bu, ch, wi, ca⟩ ≠ 0) :
    Calls Try.prog 15 #[.agg #[.slice A zs.length cap, .int .i64 sh, .int .i64 ra, .int .i64 mo, .int .i64 wo, .int .i64 ba, .int .i64 mi, .int .i64 st, .int .i64 bu, .int .i64 ch, .int .i64 wi, .int .i64 ca, .slice DA l.length dcap, .slice SA sn scap, .slice RA rn rcap]] w (Coded w (inCode (confCode zs ⟨sh, 0, 0, wo, ba, mi, st, bu, ch, wi, ca⟩) zs st ba l sn rn)) := by
  have hb0 : Below w.heap.size w ((w.alloc (.cells #[.slice A zs.length cap, .int .i64 sh, .int .i64 ra, .int .i64 mo, .int .i64 wo, .int .i64 ba, .int .i64 mi, .int .i64 st, .int .i64 bu, .int .i64 ch, .int .i64 wi, .int .i64 ca, .slice DA l.length dcap, .slice SA sn scap, .slice RA rn rcap] 36)).alloc (.cells #[.slice A zs.length cap, .int .i64 sh, .int .i64 ra, .int .i64 mo, .int .i64 wo, .int .i64 ba, .int .i64 mi, .int .i64 st, .int .i64 bu, .int .i64 ch, .int .i64 wi, .int .i64 ca] 24)) := ((Below.refl _ _).alloc (Nat.le_refl _) _).alloc (by simp) _
  have C := refConf_flat A cap zs sh ra mo wo ba mi st bu ch wi ca _ ((hr.below hb0).more hb0.size) hm
  generalize confCode zs ⟨sh, 0, 0, wo, ba, mi, st, bu, ch, wi, ca⟩ = k at *
  have hfin : Hid (inCode k zs st ba l sn rn = k) := Lib.hid (if_pos hk)
  have hk' : (k != 0) = true := by simpa using hk
  have HC := Lib.hid C
  clear C hk
  go_enter Try.func15, Try.ntmps15
  go_wp2_with (go_at_call 8; refine HC.out.mono ?_; rintro e w1 ⟨rfl, hb1⟩)
  go_ret
  exact ⟨ret_int hfin.out.symm, hb0.trans (hb1.mono hb0.size)⟩

set_option maxRecDepth 100000 in
set_option maxHeartbeats 1000000 in
theorem refInput_good (A DA SA RA : Option Addr) (cap dcap sn scap rn rcap : Nat) (zs : List Int) (l : List Ex) (sh ra mo wo ba mi st bu ch wi ca : Int) (w : World) (hr : RdI w w.heap.size A zs) (hm : zs.length ≤ 9223372036854775807)
    (hd : RdE w w.heap.size DA l) (hlm : l.length ≤ 9223372036854775807)
    (hk : confCode zs ⟨sh, 0, 0, wo, ba, mi, st, bu, ch, wi, ca⟩ = 0) :
    Calls Try.prog 15 #[.agg #[.slice A zs.length cap, .int .i64 sh, .int .i64 ra, .int .i64 mo, .int .i64 wo, .int .i64 ba, .int .i64 mi, .int .i64 st, .int .i64 bu, .int .i64 ch, .int .i64 wi, .int .i64 ca, .slice DA l.length dcap, .slice SA sn scap, .slice RA rn rcap]] w (Coded w (inCode (confCode zs ⟨sh, 0, 0, wo, ba, mi, st, bu, ch, wi, ca⟩) zs st ba l sn rn)) := by
  have hI := heap_alloc_new w (.cells #[.slice A zs.length cap, .int .i64 sh, .int .i64 ra, .int .i64 mo, .int .i64 wo, .int .i64 ba, .int .i64 mi, .int .i64 st, .int .i64 bu, .int .i64 ch, .int .i64 wi, .int .i64 ca, .slice DA l.length dcap, .slice SA sn scap, .slice RA rn rcap] 36)
  have hb0 : Below w.heap.size w ((w.alloc (.cells #[.slice A zs.length cap, .int .i64 sh, .int .i64 ra, .int .i64 mo, .int .i64 wo, .int .i64 ba, .int .i64 mi, .int .i64 st, .int .i64 bu, .int .i64 ch, .int .i64 wi, .int .i64 ca, .slice DA l.length dcap, .slice SA sn scap, .slice RA rn rcap] 36)).alloc (.cells #[.slice A zs.length cap, .int .i64 sh, .int .i64 ra, .int .i64 mo, .int .i64 wo, .int .i64 ba, .int .i64 mi, .int .i64 st, .int .i64 bu, .int .i64 ch, .int .i64 wi, .int .i64 ca] 24)) := ((Below.refl _ _).alloc (Nat.le_refl _) _).alloc (by simp) _
  have hI0 := blk_alloc hI (.cells #[.slice A zs.length cap, .int .i64 sh, .int .i64 ra, .int .i64 mo, .int .i64 wo, .int .i64 ba, .int .i64 mi, .int .i64 st, .int .i64 bu, .int .i64 ch, .int .i64 wi, .int .i64 ca] 24)
  have hC0 := heap_alloc_new (w.alloc (.cells #[.slice A zs.length cap, .int .i64 sh, .int .i64 ra, .int .i64 mo, .int .i64 wo, .int .i64 ba, .int .i64 mi, .int .i64 st, .int .i64 bu, .int .i64 ch, .int .i64 wi, .int .i64 ca, .slice DA l.length dcap, .slice SA sn scap, .slice RA rn rcap] 36)) (.cells #[.slice A zs.length cap, .int .i64 sh, .int .i64 ra, .int .i64 mo, .int .i64 wo, .int .i64 ba, .int .i64 mi, .int .i64 st, .int .i64 bu, .int .i64 ch, .int .i64 wi, .int .i64 ca] 24)
  rw [World.size_alloc] at hC0
  have C := refConf_flat A cap zs sh ra mo wo ba mi st bu ch wi ca _ ((hr.below hb0).more hb0.size) hm
  have N := fun W (hb : Below w.heap.size w W) => refNeed_any A cap zs sh ra mo wo ba mi st bu ch wi ca l.length W ((hr.below hb).more hb.size) hm
  have Z := conf_zero hk
  rw [hk] at C N ⊢
  obtain ⟨⟨hst, hst'⟩, hba, hba', hsh⟩ := Z
  dsimp only at hst hst' hba hba'
  have h2 := sizes_two hsh
  have hall : zs.all okSz = true := by
    cases h : zs.all okSz
    · unfold shCode at hsh; rw [if_neg (by omega), if_pos h] at hsh; cases hsh
    · rfl
  have M := fun W (hb : Below w.heap.size w W) => refCount_any A cap zs W ((hr.below hb).more hb.size) (by omega) hall
  have HM := Lib.hid M
  clear M hall
  obtain ⟨b, off, rfl, hbl, hc⟩ := hr.at_ (by omega)
  obtain ⟨x0, hx0⟩ := get_some zs 0 (by omega)
  obtain ⟨xl, hxl⟩ := get_some zs (zs.length - 1) (by omega)
  have Hx0 := Lib.hid (hc 0 x0 hx0)
  have Hxl := Lib.hid (hc _ xl hxl)
  have hz0 : zAt zs 0 = x0 := by simp [zAt, List.getD, hx0]
  have hzl : zAt zs (zs.length - 1) = xl := by simp [zAt, List.getD, hxl]
  have D := fun W (hb : Below w.heap.size w W) => refData_any x0 xl DA dcap l W ((hd.below hb).more hb.size) hlm
  have HD := Lib.hid D
  have Hz := Lib.hid (And.intro hz0 hzl)
  have HC := Lib.hid C
  have HN := Lib.hid N
  have HI0 := Lib.hid hI0
  have HC0 := Lib.hid hC0
  clear C N D hI hI0 hC0 hk hsh hc hx0 hxl hz0 hzl
  go_enter Try.func15, Try.ntmps15
  go_wp2_with fail
  refine HC.out.mono ?_
  rintro e w1 ⟨rfl, hb1⟩
  have hB1 := hb0.trans (hb1.mono hb0.size)
  have HI1 := Lib.hid (blk_below HI0.out hb1 (by simp; omega))
  have HC1 := Lib.hid (blk_below HC0.out hb1 (by simp))
  clear hb1
  have c5 : w1.cell? ⟨w.heap.size + 1, 5, none⟩ = some (.int .i64 ba) := blk_cell HC1.out 5
  have c12 : w1.cell? ⟨w.heap.size, 12, none⟩ = some (.slice DA l.length dcap) := blk_cell HI1.out 12
  cases hbt : betw (l.length : Int) ba 1048576
  · have hfin := Lib.hid (in7 (zs := zs) (st := st) (ba := ba) (l := l) (sn := sn) (rn := rn) (betw_no hbt))
    go_wp2_with (go_at_call 18; refine (between_any _ _ _ _).mono ?_; rintro e w' ⟨rfl, rfl⟩)
    go_ret
    exact ⟨ret_int hfin.out.symm, hB1⟩
  have hby := betw_yes hbt
  have n1 : ¬ (l.length : Int) < ba := by omega
  have n2 : ¬ 1048576 < (l.length : Int) := by omega
  have N12 := Lib.hid (And.intro n1 n2)
  clear hby n1 n2
  have c0 : w1.cell? ⟨w.heap.size + 1, 0, none⟩ = some (.slice (some ⟨b, off, none⟩) zs.length cap) := blk_cell HC1.out 0
  have cx : w1.cell? ⟨b, off, none⟩ = some (.int .i64 x0) := (hB1.cell (p := ⟨b, off, none⟩) hbl).trans Hx0.out
  have cy : w1.cell? ⟨b, off + (zs.length - 1), none⟩ = some (.int .i64 xl) := (hB1.cell (p := ⟨b, off + (zs.length - 1), none⟩) hbl).trans Hxl.out
  have i0 : (0 : Int) ≤ (zs.length : Int) - 1 := by omega
  have i1 : (zs.length : Int) - 1 < (zs.length : Int) := by omega
  have i2 : IntKind.i64.wrap ((zs.length : Int) - 1) = (zs.length : Int) - 1 := IntWalk.i64_in _ (by omega)
  have i3 : ((zs.length : Int) - 1).toNat = zs.length - 1 := by omega
  have i4 : (0 : Int) < (zs.length : Int) := by omega
  have i5 : 0 < zs.length := by omega
  have i6 : (1 : Int) ≤ (zs.length : Int) := by omega
  have i7 : 1 ≤ zs.length := by omega
  go_wp2_with (go_at_call 18; refine (between_any _ _ _ _).mono ?_; rintro e w' ⟨rfl, rfl⟩)
  go_quiet ((go_at_call 25; exact Calls.quiet_of_same (quiet_of' (HD.out _ (below_drewN hB1 _)))))
  clear i0 i1 i2 i3 i4 i5 i6 i7 c0 cx cy c5 c12
  have hB2 : Below w.heap.size w (w1.drewN nq) := below_drewN hB1 _
  have HI2 : Hid ((w1.drewN nq).heap[w.heap.size]? = _) := Lib.hid HI1.out
  have HC2 : Hid ((w1.drewN nq).heap[w.heap.size + 1]? = _) := Lib.hid HC1.out
  generalize w1.drewN nq = w2 at *
  clear hB1 HI1 HC1
  cases hf : exFits x0 xl l
  · have hfin := Lib.hid (in5 (zs := zs) (st := st) (ba := ba) (l := l) (sn := sn) (rn := rn) (by have := N12.out; omega) (by have := N12.out; omega) (.inl (by rw [Hz.out.1, Hz.out.2]; exact hf)))
    go_wp2
    go_quiet (fail)
    go_wp2
    go_ret
    exact ⟨ret_int hfin.out.symm, below_drewN hB2 _⟩
  have c13 : w2.cell? ⟨w.heap.size, 13, none⟩ = some (.slice SA sn scap) := blk_cell HI2.out 13
  have c0 : w2.cell? ⟨w.heap.size + 1, 0, none⟩ = some (.slice (some ⟨b, off, none⟩) zs.length cap) := blk_cell HC2.out 0
  by_cases hs : (sn : Int) = cnt zs
  · have k1 : ((sn : Int) != cnt zs) = false := by simpa using hs
    have hg8 := Lib.hid (fun h4 => in8 (zs := zs) (st := st) (ba := ba) (l := l) (sn := sn) (rn := rn) (by have := N12.out; omega) (by have := N12.out; omega) (by rw [Hz.out.1, Hz.out.2]; exact hf) hs h4)
    have hg0 := Lib.hid (fun h4 => in0 (zs := zs) (st := st) (ba := ba) (l := l) (sn := sn) (rn := rn) (by have := N12.out; omega) (by have := N12.out; omega) (by rw [Hz.out.1, Hz.out.2]; exact hf) hs h4)
    generalize nee 0 st ba l.length = D at *
    clear hs
    go_wp2
    go_quiet ((go_at_call 26; exact Calls.quiet_of (HM.out _ (below_drewN hB2 _))))
    go_wp2
    have hB3 : Below w.heap.size w (w2.drewN nq) := below_drewN hB2 _
    have HI3 : Hid ((w2.drewN nq).heap[w.heap.size]? = _) := Lib.hid HI2.out
    have HC3 : Hid ((w2.drewN nq).heap[w.heap.size + 1]? = _) := Lib.hid HC2.out
    generalize w2.drewN nq = w3 at *
    clear c0 c13 hB2 HI2 HC2
    have c14 : w3.cell? ⟨w.heap.size, 14, none⟩ = some (.slice RA rn rcap) := blk_cell HI3.out 14
    have c12 : w3.cell? ⟨w.heap.size, 12, none⟩ = some (.slice DA l.length dcap) := blk_cell HI3.out 12
    clear k1
    go_region_held3 (fun w' => (w'.cell? ⟨w.heap.size + 1, 0, none⟩ = some (.slice (some ⟨b, off, none⟩) zs.length cap) ∧ w'.cell? ⟨w.heap.size + 1, 1, none⟩ = some (.int .i64 sh) ∧ w'.cell? ⟨w.heap.size + 1, 2, none⟩ = some (.int .i64 ra) ∧ w'.cell? ⟨w.heap.size + 1, 3, none⟩ = some (.int .i64 mo) ∧ w'.cell? ⟨w.heap.size + 1, 4, none⟩ = some (.int .i64 wo) ∧ w'.cell? ⟨w.heap.size + 1, 5, none⟩ = some (.int .i64 ba) ∧ w'.cell? ⟨w.heap.size + 1, 6, none⟩ = some (.int .i64 mi) ∧ w'.cell? ⟨w.heap.size + 1, 7, none⟩ = some (.int .i64 st) ∧ w'.cell? ⟨w.heap.size + 1, 8, none⟩ = some (.int .i64 bu) ∧ w'.cell? ⟨w.heap.size + 1, 9, none⟩ = some (.int .i64 ch) ∧ w'.cell? ⟨w.heap.size + 1, 10, none⟩ = some (.int .i64 wi) ∧ w'.cell? ⟨w.heap.size + 1, 11, none⟩ = some (.int .i64 ca)) ∧ w'.cell? ⟨w.heap.size, 12, none⟩ = some (.slice DA l.length dcap) ∧ w'.cell? ⟨w.heap.size, 14, none⟩ = some (.slice RA rn rcap))
      (first
        | exact ⟨cf_all HC4.out, blk_cell HI4.out 12, blk_cell HI4.out 14⟩
        | exact ⟨cf_all HC3.out, c12, c14⟩)
      ((go_at_call 12
        refine (HN.out _ (below_drew hB3)).mono ?_
        rintro e w4 ⟨rfl, hb4⟩
        have hB4 : Below w.heap.size w w4 := Below.trans (below_drew hB3) (hb4.mono hB3.size)
        have HI4 := Lib.hid (blk_below (by exact HI3.out) hb4 (by exact blk_lt HI3.out))
        have HC4 := Lib.hid (blk_below (by exact HC3.out) hb4 (by exact blk_lt HC3.out))))
    by_cases hD : (rn : Int) < D
    · have hfin := Lib.hid (hg8.out hD)
      go_wp2
      go_ret
      exact ⟨ret_int hfin.out.symm, hB4⟩
    · have hfin := Lib.hid (hg0.out (by omega))
      go_wp2
      go_ret
      exact ⟨ret_int hfin.out.symm, hB4⟩
  · have k1 : ((sn : Int) != cnt zs) = true := by simpa using hs
    have hfin := Lib.hid (in5 (zs := zs) (st := st) (ba := ba) (l := l) (sn := sn) (rn := rn) (by have := N12.out; omega) (by have := N12.out; omega) (.inr hs))
    clear hs
    go_wp2
    go_quiet ((go_at_call 26; exact Calls.quiet_of (HM.out _ (below_drewN hB2 _))))
    go_wp2
    go_ret
    exact ⟨ret_int hfin.out.symm, below_drewN hB2 _⟩

end Go.Proofs.Ytiokdfkddcokoaa
