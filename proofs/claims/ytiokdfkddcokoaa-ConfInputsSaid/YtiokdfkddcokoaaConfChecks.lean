/- Walk: the law ConfChecks. Conditions: the slice of sizes has room for its own elements, as every slice of Go has. -/
import Derived.Test.YtiokdfkddcokoaaConfCheck
import Derived.Test.YtiokdfkddcokoaaConfRef
namespace Go.Proofs.Ytiokdfkddcokoaa
open Go.RowKit

theorem cf_all {A : Option Addr} {n cap g : Nat} {sh ra mo wo ba mi st bu ch wi ca : Int} {W : World} (hn : W.heap[g]? = some (.cells #[.slice A n cap, .int .i64 sh, .int .i64 ra, .int .i64 mo, .int .i64 wo, .int .i64 ba, .int .i64 mi, .int .i64 st, .int .i64 bu, .int .i64 ch, .int .i64 wi, .int .i64 ca] 24 (0, 0))) :
    W.cell? ⟨g, 0, none⟩ = some (.slice A n cap) ∧ W.cell? ⟨g, 1, none⟩ = some (.int .i64 sh) ∧ W.cell? ⟨g, 2, none⟩ = some (.int .i64 ra) ∧ W.cell? ⟨g, 3, none⟩ = some (.int .i64 mo) ∧ W.cell? ⟨g, 4, none⟩ = some (.int .i64 wo) ∧ W.cell? ⟨g, 5, none⟩ = some (.int .i64 ba) ∧ W.cell? ⟨g, 6, none⟩ = some (.int .i64 mi) ∧ W.cell? ⟨g, 7, none⟩ = some (.int .i64 st) ∧ W.cell? ⟨g, 8, none⟩ = some (.int .i64 bu) ∧ W.cell? ⟨g, 9, none⟩ = some (.int .i64 ch) ∧ W.cell? ⟨g, 10, none⟩ = some (.int .i64 wi) ∧ W.cell? ⟨g, 11, none⟩ = some (.int .i64 ca) := by
  refine ⟨blk_cell hn 0, blk_cell hn 1, blk_cell hn 2, blk_cell hn 3, blk_cell hn 4, blk_cell hn 5, blk_cell hn 6, blk_cell hn 7, blk_cell hn 8, blk_cell hn 9, blk_cell hn 10, blk_cell hn 11⟩

theorem confCheck_flat (A : Option Addr) (cap : Nat) (zs : List Int) (sh ra mo wo ba mi st bu ch wi ca : Int) (w : World) (hr : RdI w w.heap.size A zs) (hcap : zs.length ≤ cap) (hm : zs.length ≤ 9223372036854775807) :
    Calls Try.prog 7 #[.agg #[.slice A zs.length cap, .int .i64 sh, .int .i64 ra, .int .i64 mo, .int .i64 wo, .int .i64 ba, .int .i64 mi, .int .i64 st, .int .i64 bu, .int .i64 ch, .int .i64 wi, .int .i64 ca]] w (Coded w (confCode zs ⟨sh, 0, 0, wo, ba, mi, st, bu, ch, wi, ca⟩)) :=
  confCheck_any A cap zs ⟨sh, ra, mo, wo, ba, mi, st, bu, ch, wi, ca⟩ w hr hcap hm

theorem refConf_flat (A : Option Addr) (cap : Nat) (zs : List Int) (sh ra mo wo ba mi st bu ch wi ca : Int) (w : World) (hr : RdI w w.heap.size A zs) (hm : zs.length ≤ 9223372036854775807) :
    Calls Try.prog 8 #[.agg #[.slice A zs.length cap, .int .i64 sh, .int .i64 ra, .int .i64 mo, .int .i64 wo, .int .i64 ba, .int .i64 mi, .int .i64 st, .int .i64 bu, .int .i64 ch, .int .i64 wi, .int .i64 ca]] w (CodedR w (confCode zs ⟨sh, 0, 0, wo, ba, mi, st, bu, ch, wi, ca⟩)) :=
  refConf_any A cap zs ⟨sh, ra, mo, wo, ba, mi, st, bu, ch, wi, ca⟩ w hr hm

set_option maxHeartbeats 400000 in
theorem alive_any (w : World) : Calls Try.prog 6 #[] w fun e w' => e = .returned (.bool true) ∧ Below w.heap.size w w' := by
  have C : Hid (Calls Try.prog 7 #[.agg #[.slice none 0 0, .int .i64 99, .int .i64 0, .int .i64 0, .int .i64 0, .int .i64 0, .int .i64 0, .int .i64 0, .int .i64 0, .int .i64 0, .int .i64 0, .int .i64 0]] w (Coded w 6)) :=
    Lib.hid (confCheck_flat none 0 [] 99 0 0 0 0 0 0 0 0 0 0 w (Rd.nil_ _ _ _) (Nat.le_refl _) (by simp))
  go_enter Try.func6, Try.ntmps6
  go_wp2_with (go_at_call 7; refine C.out.mono ?_; rintro e w1 ⟨rfl, hb1⟩)
  go_ret
  exact ⟨rfl, hb1⟩

set_option maxHeartbeats 400000 in
theorem checks_far (A : Option Addr) (cap : Nat) (zs : List Int) (sh ra mo wo ba mi st bu ch wi ca x : Int) (w : World) (h40 : 40 < zs.length) (hm : zs.length ≤ 9223372036854775807) :
    Calls Try.prog 3 #[.agg #[.slice A zs.length cap, .int .i64 sh, .int .i64 ra, .int .i64 mo, .int .i64 wo, .int .i64 ba, .int .i64 mi, .int .i64 st, .int .i64 bu, .int .i64 ch, .int .i64 wi, .int .i64 ca], .int .i64 x] w fun e w' => e = .returned (.bool true) ∧ Below w.heap.size w w' := by
  go_enter Try.func3, Try.ntmps3
  go_wp2_with (go_at_call 6; refine (alive_any _).mono ?_; rintro e w1 ⟨rfl, hb1⟩)
  go_ret
  exact ⟨rfl, ((Below.refl _ _).alloc (Nat.le_refl _) _).trans (hb1.mono (by simp))⟩

set_option maxHeartbeats 1000000 in
theorem checks_near (A : Option Addr) (cap : Nat) (zs : List Int) (sh ra mo wo ba mi st bu ch wi ca x : Int) (w : World) (hr : RdI w w.heap.size A zs) (hcap : zs.length ≤ cap) (h40 : ¬ 40 < zs.length) :
    Calls Try.prog 3 #[.agg #[.slice A zs.length cap, .int .i64 sh, .int .i64 ra, .int .i64 mo, .int .i64 wo, .int .i64 ba, .int .i64 mi, .int .i64 st, .int .i64 bu, .int .i64 ch, .int .i64 wi, .int .i64 ca], .int .i64 x] w fun e w' => e = .returned (.bool true) ∧ Below w.heap.size w w' := by
  have hb0 : Below w.heap.size w (w.alloc (.cells #[.slice A zs.length cap, .int .i64 sh, .int .i64 ra, .int .i64 mo, .int .i64 wo, .int .i64 ba, .int .i64 mi, .int .i64 st, .int .i64 bu, .int .i64 ch, .int .i64 wi, .int .i64 ca] 24)) := (Below.refl _ _).alloc (Nat.le_refl _) _
  have hX := heap_alloc_new w (.cells #[.slice A zs.length cap, .int .i64 sh, .int .i64 ra, .int .i64 mo, .int .i64 wo, .int .i64 ba, .int .i64 mi, .int .i64 st, .int .i64 bu, .int .i64 ch, .int .i64 wi, .int .i64 ca] 24)
  have C := fun ra' mo' W (hb : Below w.heap.size w W) => confCheck_flat A cap zs sh ra' mo' wo ba mi st bu ch wi ca W ((hr.below hb).more hb.size) hcap (by omega)
  have R := fun W (hb : Below w.heap.size w W) => refConf_flat A cap zs sh ra mo wo ba mi st bu ch wi ca W ((hr.below hb).more hb.size) (by omega)
  generalize confCode zs ⟨sh, 0, 0, wo, ba, mi, st, bu, ch, wi, ca⟩ = k at *
  have HC := Lib.hid C
  have HR := Lib.hid R
  have HX := Lib.hid hX
  clear C R hX
  go_enter Try.func3, Try.ntmps3
  go_wp2_with fail
  refine (HC.out ra mo _ hb0).mono ?_
  rintro e w1 ⟨rfl, hb1⟩
  have hB1 := hb0.trans (hb1.mono hb0.size)
  have HX1 := Lib.hid (blk_below HX.out hb1 (by simp))
  obtain ⟨c0, c1, c2, c3, c4, c5, c6, c7, c8, c9, c10, c11⟩ := cf_all HX1.out
  go_wp2_with fail
  have hB2 := hB1.alloc hB1.size (.cells #[.slice A zs.length cap, .int .i64 sh, .int .i64 x, .int .i64 (wrap64 (-x)), .int .i64 wo, .int .i64 ba, .int .i64 mi, .int .i64 st, .int .i64 bu, .int .i64 ch, .int .i64 wi, .int .i64 ca] 24)
  have HD2 := Lib.hid (heap_alloc_new w1 (.cells #[.slice A zs.length cap, .int .i64 sh, .int .i64 x, .int .i64 (wrap64 (-x)), .int .i64 wo, .int .i64 ba, .int .i64 mi, .int .i64 st, .int .i64 bu, .int .i64 ch, .int .i64 wi, .int .i64 ca] 24))
  have HX2 := Lib.hid (blk_alloc HX1.out (.cells #[.slice A zs.length cap, .int .i64 sh, .int .i64 x, .int .i64 (wrap64 (-x)), .int .i64 wo, .int .i64 ba, .int .i64 mi, .int .i64 st, .int .i64 bu, .int .i64 ch, .int .i64 wi, .int .i64 ca] 24))
  have lw1 := blk_lt HX1.out
  clear c0 c1 c2 c3 c4 c5 c6 c7 c8 c9 c10 c11
  refine (alive_any _).mono ?_
  rintro e w2 ⟨rfl, hb2⟩
  have hB3 := hB2.trans (hb2.mono hB2.size)
  have HD3 := Lib.hid (blk_below HD2.out hb2 (by simp))
  have HX3 := Lib.hid (blk_below HX2.out hb2 (by simp; omega))
  obtain ⟨c0, c1, c2, c3, c4, c5, c6, c7, c8, c9, c10, c11⟩ := cf_all HX3.out
  go_wp2_with fail
  clear c0 c1 c2 c3 c4 c5 c6 c7 c8 c9 c10 c11
  refine (HR.out _ hB3).mono ?_
  rintro e w3 ⟨rfl, hb3⟩
  have hB4 := hB3.trans (hb3.mono hB3.size)
  have HD4 := Lib.hid (blk_below HD3.out hb3 (blk_lt HD3.out))
  obtain ⟨c0, c1, c2, c3, c4, c5, c6, c7, c8, c9, c10, c11⟩ := cf_all HD4.out
  have hkk : (k == k) = true := by simp
  go_wp2_with fail
  clear c0 c1 c2 c3 c4 c5 c6 c7 c8 c9 c10 c11
  refine (HC.out _ _ _ hB4).mono ?_
  rintro e w4 ⟨rfl, hb4⟩
  have hB5 := hB4.trans (hb4.mono hB4.size)
  go_wp2_with fail
  go_ret
  exact ⟨ret_bool (by simp), hB5⟩

theorem confChecks_any (A : Option Addr) (cap : Nat) (zs : List Int) (sh ra mo wo ba mi st bu ch wi ca x : Int) (w : World) (hr : RdI w w.heap.size A zs) (hcap : zs.length ≤ cap) (hm : zs.length ≤ 9223372036854775807) :
    Calls Try.prog 3 #[.agg #[.slice A zs.length cap, .int .i64 sh, .int .i64 ra, .int .i64 mo, .int .i64 wo, .int .i64 ba, .int .i64 mi, .int .i64 st, .int .i64 bu, .int .i64 ch, .int .i64 wi, .int .i64 ca], .int .i64 x] w fun e w' => e = .returned (.bool true) ∧ Below w.heap.size w w' := by
  by_cases h40 : 40 < zs.length
  · exact checks_far A cap zs sh ra mo wo ba mi st bu ch wi ca x w h40 hm
  · exact checks_near A cap zs sh ra mo wo ba mi st bu ch wi ca x w hr hcap h40

end Go.Proofs.Ytiokdfkddcokoaa
