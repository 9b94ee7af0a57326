/- Walk: the law ConfInputs. Conditions: slices have room for their own elements, as every slice of Go has. -/
import Derived.Test.YtiokdfkddcokoaaConfInputRef
namespace Go.Proofs.Ytiokdfkddcokoaa
open Go.RowKit

theorem input_any (A DA SA RA : Option Addr) (cap dcap sn scap rn rcap : Nat) (zs : List Int) (l : List Ex) (sh ra mo wo ba mi st bu ch wi ca : Int) (w : World) (hr : RdI w w.heap.size A zs) (hcap : zs.length ≤ cap) (hm : zs.length ≤ 9223372036854775807)
    (hd : RdE w w.heap.size DA l) (hlm : l.length ≤ 9223372036854775807) :
    Calls Try.prog 14 #[.agg #[.slice A zs.length cap, .int .i64 sh, .int .i64 ra, .int .i64 mo, .int .i64 wo, .int .i64 ba, .int .i64 mi, .int .i64 st, .int .i64 bu, .int .i64 ch, .int .i64 wi, .int .i64 ca, .slice DA l.length dcap, .slice SA sn scap, .slice RA rn rcap]] w (Coded w (inCode (confCode zs ⟨sh, 0, 0, wo, ba, mi, st, bu, ch, wi, ca⟩) zs st ba l sn rn)) := by
  by_cases h : confCode zs ⟨sh, 0, 0, wo, ba, mi, st, bu, ch, wi, ca⟩ = 0
  · exact input_good A DA SA RA cap dcap sn scap rn rcap zs l sh ra mo wo ba mi st bu ch wi ca w hr hcap hm hd hlm h
  · exact input_bad A DA SA RA cap dcap sn scap rn rcap zs l sh ra mo wo ba mi st bu ch wi ca w hr hcap hm h

theorem refInput_any (A DA SA RA : Option Addr) (cap dcap sn scap rn rcap : Nat) (zs : List Int) (l : List Ex) (sh ra mo wo ba mi st bu ch wi ca : Int) (w : World) (hr : RdI w w.heap.size A zs) (hm : zs.length ≤ 9223372036854775807)
    (hd : RdE w w.heap.size DA l) (hlm : l.length ≤ 9223372036854775807) :
    Calls Try.prog 15 #[.agg #[.slice A zs.length cap, .int .i64 sh, .int .i64 ra, .int .i64 mo, .int .i64 wo, .int .i64 ba, .int .i64 mi, .int .i64 st, .int .i64 bu, .int .i64 ch, .int .i64 wi, .int .i64 ca, .slice DA l.length dcap, .slice SA sn scap, .slice RA rn rcap]] w (Coded w (inCode (confCode zs ⟨sh, 0, 0, wo, ba, mi, st, bu, ch, wi, ca⟩) zs st ba l sn rn)) := by
  by_cases h : confCode zs ⟨sh, 0, 0, wo, ba, mi, st, bu, ch, wi, ca⟩ = 0
  · exact refInput_good A DA SA RA cap dcap sn scap rn rcap zs l sh ra mo wo ba mi st bu ch wi ca w hr hm hd hlm h
  · exact refInput_bad A DA SA RA cap dcap sn scap rn rcap zs l sh ra mo wo ba mi st bu ch wi ca w hr hm h

def fewIn (n : Nat) (l : List Ex) (sn rn : Nat) : Bool := decide (n ≤ 40) && exFew l && decide (sn ≤ 600) && decide (rn ≤ 2000)

set_option maxHeartbeats 1000000 in
theorem fewIn_any (A DA SA RA : Option Addr) (cap dcap sn scap rn rcap : Nat) (zs : List Int) (l : List Ex) (sh ra mo wo ba mi st bu ch wi ca : Int) (w : World)
    (hd : RdE w w.heap.size DA l) (hlm : l.length ≤ 9223372036854775807) (hm : zs.length ≤ 9223372036854775807) (hsm : sn ≤ 9223372036854775807) (hrm : rn ≤ 9223372036854775807) :
    Calls Try.prog 13 #[.agg #[.slice A zs.length cap, .int .i64 sh, .int .i64 ra, .int .i64 mo, .int .i64 wo, .int .i64 ba, .int .i64 mi, .int .i64 st, .int .i64 bu, .int .i64 ch, .int .i64 wi, .int .i64 ca, .slice DA l.length dcap, .slice SA sn scap, .slice RA rn rcap]] w fun e w' => e = .returned (.bool (fewIn zs.length l sn rn)) ∧ Below w.heap.size w w' := by
  have hb0 : Below w.heap.size w (w.alloc (.cells #[.slice A zs.length cap, .int .i64 sh, .int .i64 ra, .int .i64 mo, .int .i64 wo, .int .i64 ba, .int .i64 mi, .int .i64 st, .int .i64 bu, .int .i64 ch, .int .i64 wi, .int .i64 ca, .slice DA l.length dcap, .slice SA sn scap, .slice RA rn rcap] 36)) := (Below.refl _ _).alloc (Nat.le_refl _) _
  have hI := heap_alloc_new w (.cells #[.slice A zs.length cap, .int .i64 sh, .int .i64 ra, .int .i64 mo, .int .i64 wo, .int .i64 ba, .int .i64 mi, .int .i64 st, .int .i64 bu, .int .i64 ch, .int .i64 wi, .int .i64 ca, .slice DA l.length dcap, .slice SA sn scap, .slice RA rn rcap] 36)
  have C := Lib.hid (dataFew_any DA dcap l (w.alloc (.cells #[.slice A zs.length cap, .int .i64 sh, .int .i64 ra, .int .i64 mo, .int .i64 wo, .int .i64 ba, .int .i64 mi, .int .i64 st, .int .i64 bu, .int .i64 ch, .int .i64 wi, .int .i64 ca, .slice DA l.length dcap, .slice SA sn scap, .slice RA rn rcap] 36)) ((hd.below hb0).more hb0.size) hlm)
  clear hI
  by_cases h1 : zs.length ≤ 40
  · cases hf : exFew l
    · have hfin : Hid (fewIn zs.length l sn rn = false) := Lib.hid (by simp [fewIn, hf])
      go_enter Try.func13, Try.ntmps13
      go_wp2_with (go_at_call 22; refine C.out.mono ?_; rintro e w1 ⟨rfl, q, rfl⟩; rw [hf])
      go_ret
      exact ⟨ret_bool (by first | exact hfin.out.symm | (rw [hfin.out]; simp; omega)), below_drewN hb0 _⟩
    by_cases h2 : sn ≤ 600
    · by_cases h3 : rn ≤ 2000
      · have hfin : Hid (fewIn zs.length l sn rn = true) := Lib.hid (by simp [fewIn, hf, h1, h2, h3])
        go_enter Try.func13, Try.ntmps13
        go_wp2_with (go_at_call 22; refine C.out.mono ?_; rintro e w1 ⟨rfl, q, rfl⟩; rw [hf])
        go_ret
        exact ⟨ret_bool (by first | exact hfin.out.symm | (rw [hfin.out]; simp; omega)), below_drewN hb0 _⟩
      · have hfin : Hid (fewIn zs.length l sn rn = false) := Lib.hid (by simp [fewIn, h3])
        go_enter Try.func13, Try.ntmps13
        go_wp2_with (go_at_call 22; refine C.out.mono ?_; rintro e w1 ⟨rfl, q, rfl⟩; rw [hf])
        go_ret
        exact ⟨ret_bool (by first | exact hfin.out.symm | (rw [hfin.out]; simp; omega)), below_drewN hb0 _⟩
    · have hfin : Hid (fewIn zs.length l sn rn = false) := Lib.hid (by simp [fewIn, h2])
      go_enter Try.func13, Try.ntmps13
      go_wp2_with (go_at_call 22; refine C.out.mono ?_; rintro e w1 ⟨rfl, q, rfl⟩; rw [hf])
      go_ret
      exact ⟨ret_bool (by first | exact hfin.out.symm | (rw [hfin.out]; simp; omega)), below_drewN hb0 _⟩
  · have hfin : Hid (fewIn zs.length l sn rn = false) := Lib.hid (by simp [fewIn, h1])
    go_enter Try.func13, Try.ntmps13
    go_wp2
    go_ret
    exact ⟨ret_bool hfin.out.symm, hb0⟩

set_option maxRecDepth 100000 in
set_option maxHeartbeats 1000000 in
theorem confInputs_any (A DA SA RA : Option Addr) (cap dcap sn scap rn rcap : Nat) (zs : List Int) (l : List Ex) (sh ra mo wo ba mi st bu ch wi ca : Int) (w : World) (hr : RdI w w.heap.size A zs) (hcap : zs.length ≤ cap) (hm : zs.length ≤ 9223372036854775807)
    (hd : RdE w w.heap.size DA l) (hlm : l.length ≤ 9223372036854775807) (hsm : sn ≤ 9223372036854775807) (hrm : rn ≤ 9223372036854775807) :
    Calls Try.prog 5 #[.agg #[.slice A zs.length cap, .int .i64 sh, .int .i64 ra, .int .i64 mo, .int .i64 wo, .int .i64 ba, .int .i64 mi, .int .i64 st, .int .i64 bu, .int .i64 ch, .int .i64 wi, .int .i64 ca, .slice DA l.length dcap, .slice SA sn scap, .slice RA rn rcap]] w fun e w' => e = .returned (.bool true) ∧ Below w.heap.size w w' := by
  have hb0 : Below w.heap.size w (w.alloc (.cells #[.slice A zs.length cap, .int .i64 sh, .int .i64 ra, .int .i64 mo, .int .i64 wo, .int .i64 ba, .int .i64 mi, .int .i64 st, .int .i64 bu, .int .i64 ch, .int .i64 wi, .int .i64 ca, .slice DA l.length dcap, .slice SA sn scap, .slice RA rn rcap] 36)) := (Below.refl _ _).alloc (Nat.le_refl _) _
  have hI := heap_alloc_new w (.cells #[.slice A zs.length cap, .int .i64 sh, .int .i64 ra, .int .i64 mo, .int .i64 wo, .int .i64 ba, .int .i64 mi, .int .i64 st, .int .i64 bu, .int .i64 ch, .int .i64 wi, .int .i64 ca, .slice DA l.length dcap, .slice SA sn scap, .slice RA rn rcap] 36)
  have F := fewIn_any A DA SA RA cap dcap sn scap rn rcap zs l sh ra mo wo ba mi st bu ch wi ca _ ((hd.below hb0).more hb0.size) hlm hm hsm hrm
  have C1 := fun W (hb : Below w.heap.size w W) => input_any A DA SA RA cap dcap sn scap rn rcap zs l sh ra mo wo ba mi st bu ch wi ca W ((hr.below hb).more hb.size) hcap hm ((hd.below hb).more hb.size) hlm
  have C2 := fun W (hb : Below w.heap.size w W) => refInput_any A DA SA RA cap dcap sn scap rn rcap zs l sh ra mo wo ba mi st bu ch wi ca W ((hr.below hb).more hb.size) hm ((hd.below hb).more hb.size) hlm
  generalize inCode (confCode zs ⟨sh, 0, 0, wo, ba, mi, st, bu, ch, wi, ca⟩) zs st ba l sn rn = k at *
  have HF := Lib.hid F
  have H1 := Lib.hid C1
  have H2 := Lib.hid C2
  have HI := Lib.hid hI
  clear F C1 C2 hI
  obtain ⟨c0, c1, c2, c3, c4, c5, c6, c7, c8, c9, c10, c11, c12, c13, c14⟩ := in_all HI.out
  cases hf : fewIn zs.length l sn rn
  · have Hf := Lib.hid hf
    clear hf
    go_enter Try.func5, Try.ntmps5
    go_wp2_with fail
    refine HF.out.mono ?_
    rw [Hf.out]
    rintro e w1 ⟨rfl, hb1⟩
    have hB1 := hb0.trans (hb1.mono hb0.size)
    clear c0 c1 c2 c3 c4 c5 c6 c7 c8 c9 c10 c11 c12 c13 c14
    go_wp2_with (go_at_call 6; refine (alive_any _).mono ?_; rintro e w2 ⟨rfl, hb2⟩)
    go_ret
    exact ⟨rfl, hB1.trans (hb2.mono hB1.size)⟩
  · have Hf := Lib.hid hf
    clear hf
    go_enter Try.func5, Try.ntmps5
    go_wp2_with fail
    refine HF.out.mono ?_
    rw [Hf.out]
    rintro e w1 ⟨rfl, hb1⟩
    have hB1 := hb0.trans (hb1.mono hb0.size)
    have HI1 := Lib.hid (blk_below HI.out hb1 (by simp))
    clear c0 c1 c2 c3 c4 c5 c6 c7 c8 c9 c10 c11 c12 c13 c14
    go_wp2_with fail
    go_region_held3 (fun w' => w'.cell? ⟨w.heap.size, 0, none⟩ = some (.slice A zs.length cap) ∧ w'.cell? ⟨w.heap.size, 1, none⟩ = some (.int .i64 sh) ∧ w'.cell? ⟨w.heap.size, 2, none⟩ = some (.int .i64 ra) ∧ w'.cell? ⟨w.heap.size, 3, none⟩ = some (.int .i64 mo) ∧ w'.cell? ⟨w.heap.size, 4, none⟩ = some (.int .i64 wo) ∧ w'.cell? ⟨w.heap.size, 5, none⟩ = some (.int .i64 ba) ∧ w'.cell? ⟨w.heap.size, 6, none⟩ = some (.int .i64 mi) ∧ w'.cell? ⟨w.heap.size, 7, none⟩ = some (.int .i64 st) ∧ w'.cell? ⟨w.heap.size, 8, none⟩ = some (.int .i64 bu) ∧ w'.cell? ⟨w.heap.size, 9, none⟩ = some (.int .i64 ch) ∧ w'.cell? ⟨w.heap.size, 10, none⟩ = some (.int .i64 wi) ∧ w'.cell? ⟨w.heap.size, 11, none⟩ = some (.int .i64 ca) ∧ w'.cell? ⟨w.heap.size, 12, none⟩ = some (.slice DA l.length dcap) ∧ w'.cell? ⟨w.heap.size, 13, none⟩ = some (.slice SA sn scap) ∧ w'.cell? ⟨w.heap.size, 14, none⟩ = some (.slice RA rn rcap))
      (first
        | exact in_all HI4.out
        | exact in_all HI3.out
        | exact in_all HI2.out
        | exact in_all HI1.out)
      (first
        | (go_at_call 6
           refine (alive_any _).mono ?_
           rintro e w2 ⟨rfl, hb2⟩
           have hB2 := (below_drew hB1).trans (hb2.mono hB1.size)
           have HI2 := Lib.hid (blk_below (blk_drew HI1.out) hb2 (blk_lt HI1.out)))
        | (go_at_call 14
           refine (H1.out _ hB2).mono ?_
           rintro e w3 ⟨rfl, hb3⟩
           have hB3 := hB2.trans (hb3.mono hB2.size)
           have HI3 := Lib.hid (blk_below HI2.out hb3 (blk_lt HI2.out)))
        | (go_at_call 15
           refine (H2.out _ hB3).mono ?_
           rintro e w4 ⟨rfl, hb4⟩
           have hB4 := hB3.trans (hb4.mono hB3.size)
           have HI4 := Lib.hid (blk_below HI3.out hb4 (blk_lt HI3.out))))
    go_wp2
    go_ret
    exact ⟨ret_bool (by simp), hB4⟩

end Go.Proofs.Ytiokdfkddcokoaa
