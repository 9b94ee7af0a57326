/- Walks: Need of the program and of the reference, and the law ConfNeeds. Conditions: the slice of sizes has room for its own elements, as every slice of Go has. -/
import Derived.Test.YtiokdfkddcokoaaConfNeed
namespace Go.Proofs.Ytiokdfkddcokoaa
open Go.RowKit

theorem blk_drew {w : World} {g : Nat} {o : Obj} (h : w.heap[g]? = some o) : w.drew.heap[g]? = some o := h

def SomeInt (w : World) (e : Ending) (w' : World) : Prop := ∃ x : Int, e = .returned (.int .i64 x) ∧ w = w'

set_option maxHeartbeats 400000 in
theorem permNeed_pos (n : Int) (w : World) (h : 1 ≤ n) (h' : n ≤ 1048576) : Calls Try.prog 20 #[.int .i64 n] w fun e w' => e = .returned (.int .i64 (n - 1)) ∧ w = w' := by
  go_enter Try.func20, Try.ntmps20
  go_wp2
  all_goals (go_ret; exact ⟨ret_int (by omega), rfl⟩)

set_option maxHeartbeats 400000 in
theorem permNeed_some (n : Int) (w : World) : Calls Try.prog 20 #[.int .i64 n] w (SomeInt w) := by
  go_enter Try.func20, Try.ntmps20
  go_wp2
  all_goals (go_ret; exact ⟨_, rfl, rfl⟩)

set_option maxHeartbeats 400000 in
theorem refPermNeed_pos (n : Int) (w : World) (h : 1 ≤ n) (h' : n ≤ 1048576) : Calls Try.prog 21 #[.int .i64 n] w fun e w' => e = .returned (.int .i64 (n - 1)) ∧ w = w' := by
  go_enter Try.func21, Try.ntmps21
  go_wp2
  go_ret
  exact ⟨rfl, rfl⟩

set_option maxHeartbeats 400000 in
theorem refPermNeed_some (n : Int) (w : World) : Calls Try.prog 21 #[.int .i64 n] w (SomeInt w) := by
  by_cases h : n < 1
  all_goals
    go_enter Try.func21, Try.ntmps21
    go_wp2
    go_ret
    exact ⟨_, rfl, rfl⟩

/-- How many draws a run needs. -/
def nee (k st ba n : Int) : Int := epo k st ba n * (n - 1)

theorem nee_bd {e n : Int} (h0 : 0 ≤ e) (h1 : e ≤ 2097152) (hn : 1 ≤ n) (hn' : n ≤ 1048576) : 0 ≤ e * (n - 1) ∧ e * (n - 1) ≤ 2199023255552 :=
  ⟨Int.mul_nonneg h0 (by omega), by
    have h : e * (n - 1) ≤ 2097152 * 1048576 := Int.mul_le_mul h1 (by omega) (by omega) (by omega)
    omega⟩

set_option maxHeartbeats 400000 in
theorem need_any (A : Option Addr) (cap : Nat) (zs : List Int) (sh ra mo wo ba mi st bu ch wi ca n : Int) (w : World) (hr : RdI w w.heap.size A zs) (hcap : zs.length ≤ cap) (hm : zs.length ≤ 9223372036854775807) :
    Calls Try.prog 11 #[.agg #[.slice A zs.length cap, .int .i64 sh, .int .i64 ra, .int .i64 mo, .int .i64 wo, .int .i64 ba, .int .i64 mi, .int .i64 st, .int .i64 bu, .int .i64 ch, .int .i64 wi, .int .i64 ca], .int .i64 n] w (Coded w (nee (confCode zs ⟨sh, 0, 0, wo, ba, mi, st, bu, ch, wi, ca⟩) st ba n)) := by
  have hb0 : Below w.heap.size w (w.alloc (.cells #[.slice A zs.length cap, .int .i64 sh, .int .i64 ra, .int .i64 mo, .int .i64 wo, .int .i64 ba, .int .i64 mi, .int .i64 st, .int .i64 bu, .int .i64 ch, .int .i64 wi, .int .i64 ca] 24)) := (Below.refl _ _).alloc (Nat.le_refl _) _
  have C := epochs_any A cap zs sh ra mo wo ba mi st bu ch wi ca n _ ((hr.below hb0).more hb0.size) hcap hm
  have Z := conf_zero (zs := zs) (c := ⟨sh, 0, 0, wo, ba, mi, st, bu, ch, wi, ca⟩)
  dsimp only at Z
  generalize confCode zs ⟨sh, 0, 0, wo, ba, mi, st, bu, ch, wi, ca⟩ = k at *
  by_cases h : k ≠ 0 ∨ n < ba ∨ 1048576 < n
  · rw [epo_no h] at C
    have hfin : Hid (nee k st ba n = 0) := Lib.hid (by unfold nee; rw [epo_no h, Int.zero_mul])
    have HC := Lib.hid C
    clear C Z h
    go_enter Try.func11, Try.ntmps11
    go_wp2_with fail
    refine HC.out.mono ?_
    rintro e w1 ⟨rfl, hb1⟩
    go_wp2_with (go_at_call 20; refine (permNeed_some _ _).mono ?_; rintro e w2 ⟨x, rfl, rfl⟩)
    go_ret
    exact ⟨ret_int hfin.out.symm, hb0.trans (hb1.mono hb0.size)⟩
  · have hz := Z (by omega)
    have hbd := epo_bd (k := k) (st := st) (ba := ba) (n := n) (fun _ => hz.2.1) hz.1.1 hz.1.2
    have hn1 : 1 ≤ n := by omega
    have hn2 : n ≤ 1048576 := by omega
    unfold nee
    generalize epo k st ba n = E at *
    have bm := nee_bd hbd.1 hbd.2 hn1 hn2
    have HC := Lib.hid C
    clear C Z h
    go_enter Try.func11, Try.ntmps11
    go_wp2_with fail
    refine HC.out.mono ?_
    rintro e w1 ⟨rfl, hb1⟩
    go_wp2_with (go_at_call 20; refine (permNeed_pos _ _ hn1 hn2).mono ?_; rintro e w2 ⟨rfl, rfl⟩)
    go_ret
    exact ⟨rfl, hb0.trans (hb1.mono hb0.size)⟩

set_option maxHeartbeats 400000 in
theorem refNeed_any (A : Option Addr) (cap : Nat) (zs : List Int) (sh ra mo wo ba mi st bu ch wi ca n : Int) (w : World) (hr : RdI w w.heap.size A zs) (hm : zs.length ≤ 9223372036854775807) :
    Calls Try.prog 12 #[.agg #[.slice A zs.length cap, .int .i64 sh, .int .i64 ra, .int .i64 mo, .int .i64 wo, .int .i64 ba, .int .i64 mi, .int .i64 st, .int .i64 bu, .int .i64 ch, .int .i64 wi, .int .i64 ca], .int .i64 n] w (Coded w (nee (confCode zs ⟨sh, 0, 0, wo, ba, mi, st, bu, ch, wi, ca⟩) st ba n)) := by
  have hb0 : Below w.heap.size w (w.alloc (.cells #[.slice A zs.length cap, .int .i64 sh, .int .i64 ra, .int .i64 mo, .int .i64 wo, .int .i64 ba, .int .i64 mi, .int .i64 st, .int .i64 bu, .int .i64 ch, .int .i64 wi, .int .i64 ca] 24)) := (Below.refl _ _).alloc (Nat.le_refl _) _
  have C := refEpochs_any A cap zs sh ra mo wo ba mi st bu ch wi ca n _ ((hr.below hb0).more hb0.size) hm
  have Z := conf_zero (zs := zs) (c := ⟨sh, 0, 0, wo, ba, mi, st, bu, ch, wi, ca⟩)
  dsimp only at Z
  generalize confCode zs ⟨sh, 0, 0, wo, ba, mi, st, bu, ch, wi, ca⟩ = k at *
  by_cases h : k ≠ 0 ∨ n < ba ∨ 1048576 < n
  · rw [epo_no h] at C
    have hfin : Hid (nee k st ba n = 0) := Lib.hid (by unfold nee; rw [epo_no h, Int.zero_mul])
    have HC := Lib.hid C
    clear C Z h
    go_enter Try.func12, Try.ntmps12
    go_wp2_with fail
    refine HC.out.mono ?_
    rintro e w1 ⟨rfl, hb1⟩
    go_wp2_with (go_at_call 21; refine (refPermNeed_some _ _).mono ?_; rintro e w2 ⟨x, rfl, rfl⟩)
    go_ret
    exact ⟨ret_int hfin.out.symm, hb0.trans (hb1.mono hb0.size)⟩
  · have hz := Z (by omega)
    have hbd := epo_bd (k := k) (st := st) (ba := ba) (n := n) (fun _ => hz.2.1) hz.1.1 hz.1.2
    have hn1 : 1 ≤ n := by omega
    have hn2 : n ≤ 1048576 := by omega
    unfold nee
    generalize epo k st ba n = E at *
    have bm := nee_bd hbd.1 hbd.2 hn1 hn2
    have HC := Lib.hid C
    clear C Z h
    go_enter Try.func12, Try.ntmps12
    go_wp2_with fail
    refine HC.out.mono ?_
    rintro e w1 ⟨rfl, hb1⟩
    go_wp2_with (go_at_call 21; refine (refPermNeed_pos _ _ hn1 hn2).mono ?_; rintro e w2 ⟨rfl, rfl⟩)
    go_ret
    exact ⟨rfl, hb0.trans (hb1.mono hb0.size)⟩

set_option maxHeartbeats 400000 in
theorem needs_far (A : Option Addr) (cap : Nat) (zs : List Int) (sh ra mo wo ba mi st bu ch wi ca n : Int) (w : World) (h40 : 40 < zs.length ∨ 5000 < st) (hm : zs.length ≤ 9223372036854775807) :
    Calls Try.prog 4 #[.agg #[.slice A zs.length cap, .int .i64 sh, .int .i64 ra, .int .i64 mo, .int .i64 wo, .int .i64 ba, .int .i64 mi, .int .i64 st, .int .i64 bu, .int .i64 ch, .int .i64 wi, .int .i64 ca], .int .i64 n] w fun e w' => e = .returned (.bool true) ∧ Below w.heap.size w w' := by
  by_cases h : 40 < zs.length
  · go_enter Try.func4, Try.ntmps4
    go_wp2_with (go_at_call 6; refine (alive_any _).mono ?_; rintro e w1 ⟨rfl, hb1⟩)
    go_ret
    exact ⟨rfl, ((Below.refl _ _).alloc (Nat.le_refl _) _).trans (hb1.mono (by simp))⟩
  · have h5 : 5000 < st := by omega
    clear h40
    go_enter Try.func4, Try.ntmps4
    go_wp2_with (go_at_call 6; refine (alive_any _).mono ?_; rintro e w1 ⟨rfl, hb1⟩)
    go_ret
    exact ⟨rfl, ((Below.refl _ _).alloc (Nat.le_refl _) _).trans (hb1.mono (by simp))⟩

set_option maxHeartbeats 1000000 in
theorem needs_near (A : Option Addr) (cap : Nat) (zs : List Int) (sh ra mo wo ba mi st bu ch wi ca n : Int) (w : World) (hr : RdI w w.heap.size A zs) (hcap : zs.length ≤ cap) (h40 : ¬ 40 < zs.length) (h5 : ¬ 5000 < st) :
    Calls Try.prog 4 #[.agg #[.slice A zs.length cap, .int .i64 sh, .int .i64 ra, .int .i64 mo, .int .i64 wo, .int .i64 ba, .int .i64 mi, .int .i64 st, .int .i64 bu, .int .i64 ch, .int .i64 wi, .int .i64 ca], .int .i64 n] w fun e w' => e = .returned (.bool true) ∧ Below w.heap.size w w' := by
  have hb0 : Below w.heap.size w (w.alloc (.cells #[.slice A zs.length cap, .int .i64 sh, .int .i64 ra, .int .i64 mo, .int .i64 wo, .int .i64 ba, .int .i64 mi, .int .i64 st, .int .i64 bu, .int .i64 ch, .int .i64 wi, .int .i64 ca] 24)) := (Below.refl _ _).alloc (Nat.le_refl _) _
  have hX := heap_alloc_new w (.cells #[.slice A zs.length cap, .int .i64 sh, .int .i64 ra, .int .i64 mo, .int .i64 wo, .int .i64 ba, .int .i64 mi, .int .i64 st, .int .i64 bu, .int .i64 ch, .int .i64 wi, .int .i64 ca] 24)
  have C1 := fun W (hb : Below w.heap.size w W) => epochs_any A cap zs sh ra mo wo ba mi st bu ch wi ca n W ((hr.below hb).more hb.size) hcap (by omega)
  have C2 := fun W (hb : Below w.heap.size w W) => refEpochs_any A cap zs sh ra mo wo ba mi st bu ch wi ca n W ((hr.below hb).more hb.size) (by omega)
  have C3 := fun W (hb : Below w.heap.size w W) => need_any A cap zs sh ra mo wo ba mi st bu ch wi ca n W ((hr.below hb).more hb.size) hcap (by omega)
  have C4 := fun W (hb : Below w.heap.size w W) => refNeed_any A cap zs sh ra mo wo ba mi st bu ch wi ca n W ((hr.below hb).more hb.size) (by omega)
  generalize confCode zs ⟨sh, 0, 0, wo, ba, mi, st, bu, ch, wi, ca⟩ = k at *
  generalize epo k st ba n = E at *
  generalize nee k st ba n = D at *
  have H1 := Lib.hid C1
  have H2 := Lib.hid C2
  have H3 := Lib.hid C3
  have H4 := Lib.hid C4
  have HX := Lib.hid hX
  clear C1 C2 C3 C4 hX
  obtain ⟨c0, c1, c2, c3, c4, c5, c6, c7, c8, c9, c10, c11⟩ := cf_all HX.out
  have d1 : decide (40 < (zs.length : Int)) = false := by simp; omega
  have d2 : decide (5000 < st) = false := by simp; omega
  go_enter Try.func4, Try.ntmps4
  go_wp2_with fail
  clear c0 c1 c2 c3 c4 c5 c6 c7 c8 c9 c10 c11
  go_region_held3 (fun w' => w'.cell? ⟨w.heap.size, 0, none⟩ = some (.slice A zs.length cap) ∧ w'.cell? ⟨w.heap.size, 1, none⟩ = some (.int .i64 sh) ∧ w'.cell? ⟨w.heap.size, 2, none⟩ = some (.int .i64 ra) ∧ w'.cell? ⟨w.heap.size, 3, none⟩ = some (.int .i64 mo) ∧ w'.cell? ⟨w.heap.size, 4, none⟩ = some (.int .i64 wo) ∧ w'.cell? ⟨w.heap.size, 5, none⟩ = some (.int .i64 ba) ∧ w'.cell? ⟨w.heap.size, 6, none⟩ = some (.int .i64 mi) ∧ w'.cell? ⟨w.heap.size, 7, none⟩ = some (.int .i64 st) ∧ w'.cell? ⟨w.heap.size, 8, none⟩ = some (.int .i64 bu) ∧ w'.cell? ⟨w.heap.size, 9, none⟩ = some (.int .i64 ch) ∧ w'.cell? ⟨w.heap.size, 10, none⟩ = some (.int .i64 wi) ∧ w'.cell? ⟨w.heap.size, 11, none⟩ = some (.int .i64 ca))
    (first
      | exact cf_all HX5.out
      | exact cf_all HX4.out
      | exact cf_all HX3.out
      | exact cf_all HX2.out
      | exact cf_all HX1.out
      | exact cf_all HX.out)
    (first
      | (go_at_call 6
         refine (alive_any _).mono ?_
         rintro e w1 ⟨rfl, hb1⟩
         have hB1 := (below_drew hb0).trans (hb1.mono hb0.size)
         have HX1 := Lib.hid (blk_below (blk_drew HX.out) hb1 (by simp)))
      | (go_at_call 9
         refine (H1.out _ hB1).mono ?_
         rintro e w2 ⟨rfl, hb2⟩
         have hB2 := hB1.trans (hb2.mono hB1.size)
         have HX2 := Lib.hid (blk_below HX1.out hb2 (blk_lt HX1.out)))
      | (go_at_call 10
         refine (H2.out _ hB2).mono ?_
         rintro e w3 ⟨rfl, hb3⟩
         have hB3 := hB2.trans (hb3.mono hB2.size)
         have HX3 := Lib.hid (blk_below HX2.out hb3 (blk_lt HX2.out)))
      | (go_at_call 11
         refine (H3.out _ hB3).mono ?_
         rintro e w4 ⟨rfl, hb4⟩
         have hB4 := hB3.trans (hb4.mono hB3.size)
         have HX4 := Lib.hid (blk_below HX3.out hb4 (blk_lt HX3.out)))
      | (go_at_call 12
         refine (H4.out _ hB4).mono ?_
         rintro e w5 ⟨rfl, hb5⟩
         have hB5 := hB4.trans (hb5.mono hB4.size)
         have HX5 := Lib.hid (blk_below HX4.out hb5 (blk_lt HX4.out))))
  go_wp2
  go_ret
  exact ⟨ret_bool (by simp), hB5⟩

theorem confNeeds_any (A : Option Addr) (cap : Nat) (zs : List Int) (sh ra mo wo ba mi st bu ch wi ca n : Int) (w : World) (hr : RdI w w.heap.size A zs) (hcap : zs.length ≤ cap) (hm : zs.length ≤ 9223372036854775807) :
    Calls Try.prog 4 #[.agg #[.slice A zs.length cap, .int .i64 sh, .int .i64 ra, .int .i64 mo, .int .i64 wo, .int .i64 ba, .int .i64 mi, .int .i64 st, .int .i64 bu, .int .i64 ch, .int .i64 wi, .int .i64 ca], .int .i64 n] w fun e w' => e = .returned (.bool true) ∧ Below w.heap.size w w' := by
  by_cases h40 : 40 < zs.length
  · exact needs_far A cap zs sh ra mo wo ba mi st bu ch wi ca n w (.inl h40) hm
  by_cases h5 : 5000 < st
  · exact needs_far A cap zs sh ra mo wo ba mi st bu ch wi ca n w (.inr h5) hm
  · exact needs_near A cap zs sh ra mo wo ba mi st bu ch wi ca n w hr hcap h40 h5

end Go.Proofs.Ytiokdfkddcokoaa
