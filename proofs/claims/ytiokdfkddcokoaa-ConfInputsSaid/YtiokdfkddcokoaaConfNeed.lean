/- Walks: Epochs and Need of the program and of the reference. Conditions: the slice of sizes has room for its own elements, as every slice of Go has. -/
import Derived.Test.YtiokdfkddcokoaaConfChecks
import Derived.Test.YtiokdfkddcokoaaConfNeedPlain
namespace Go.Proofs.Ytiokdfkddcokoaa
open Go.RowKit

set_option maxHeartbeats 1000000 in
theorem epochs_any (A : Option Addr) (cap : Nat) (zs : List Int) (sh ra mo wo ba mi st bu ch wi ca n : Int) (w : World) (hr : RdI w w.heap.size A zs) (hcap : zs.length ≤ cap) (hm : zs.length ≤ 9223372036854775807) :
    Calls Try.prog 9 #[.agg #[.slice A zs.length cap, .int .i64 sh, .int .i64 ra, .int .i64 mo, .int .i64 wo, .int .i64 ba, .int .i64 mi, .int .i64 st, .int .i64 bu, .int .i64 ch, .int .i64 wi, .int .i64 ca], .int .i64 n] w (Coded w (epo (confCode zs ⟨sh, 0, 0, wo, ba, mi, st, bu, ch, wi, ca⟩) st ba n)) := by
  have hb0 : Below w.heap.size w (w.alloc (.cells #[.slice A zs.length cap, .int .i64 sh, .int .i64 ra, .int .i64 mo, .int .i64 wo, .int .i64 ba, .int .i64 mi, .int .i64 st, .int .i64 bu, .int .i64 ch, .int .i64 wi, .int .i64 ca] 24)) := (Below.refl _ _).alloc (Nat.le_refl _) _
  have hX := heap_alloc_new w (.cells #[.slice A zs.length cap, .int .i64 sh, .int .i64 ra, .int .i64 mo, .int .i64 wo, .int .i64 ba, .int .i64 mi, .int .i64 st, .int .i64 bu, .int .i64 ch, .int .i64 wi, .int .i64 ca] 24)
  have C := confCheck_flat A cap zs sh ra mo wo ba mi st bu ch wi ca _ ((hr.below hb0).more hb0.size) hcap hm
  have Z := conf_zero (zs := zs) (c := ⟨sh, 0, 0, wo, ba, mi, st, bu, ch, wi, ca⟩)
  dsimp only at Z
  generalize confCode zs ⟨sh, 0, 0, wo, ba, mi, st, bu, ch, wi, ca⟩ = k at *
  have HC := Lib.hid C
  have HX := Lib.hid hX
  have HZ := Lib.hid Z
  clear C hX Z
  by_cases hk : k = 0
  · subst hk
    obtain ⟨hst, hba, hba', _⟩ := HZ.out rfl
    by_cases h1 : n < ba
    · have hfin := Lib.hid (epo_no (k := 0) (st := st) (ba := ba) (n := n) (.inr (.inl h1)))
      go_enter Try.func9, Try.ntmps9
      go_wp2_with fail
      refine HC.out.mono ?_
      rintro e w1 ⟨rfl, hb1⟩
      have HX1 := Lib.hid (blk_below HX.out hb1 (by simp))
      obtain ⟨c0, c1, c2, c3, c4, c5, c6, c7, c8, c9, c10, c11⟩ := cf_all HX1.out
      go_wp2
      go_ret
      exact ⟨ret_int hfin.out.symm, hb0.trans (hb1.mono hb0.size)⟩
    by_cases h2 : 1048576 < n
    · have hfin := Lib.hid (epo_no (k := 0) (st := st) (ba := ba) (n := n) (.inr (.inr h2)))
      go_enter Try.func9, Try.ntmps9
      go_wp2_with fail
      refine HC.out.mono ?_
      rintro e w1 ⟨rfl, hb1⟩
      have HX1 := Lib.hid (blk_below HX.out hb1 (by simp))
      obtain ⟨c0, c1, c2, c3, c4, c5, c6, c7, c8, c9, c10, c11⟩ := cf_all HX1.out
      go_wp2
      go_ret
      exact ⟨ret_int hfin.out.symm, hb0.trans (hb1.mono hb0.size)⟩
    · have hfin := Lib.hid (epo_yes (k := 0) (st := st) (ba := ba) (n := n) (by omega))
      have hq := quo_bd (n := n) hba (by omega) (by omega)
      go_enter Try.func9, Try.ntmps9
      go_wp2_with fail
      refine HC.out.mono ?_
      rintro e w1 ⟨rfl, hb1⟩
      have HX1 := Lib.hid (blk_below HX.out hb1 (by simp))
      obtain ⟨c0, c1, c2, c3, c4, c5, c6, c7, c8, c9, c10, c11⟩ := cf_all HX1.out
      go_wp2
      go_ret
      exact ⟨ret_int hfin.out.symm, hb0.trans (hb1.mono hb0.size)⟩
  · have hfin := Lib.hid (epo_no (k := k) (st := st) (ba := ba) (n := n) (.inl hk))
    have hk' : (k != 0) = true := by simpa using hk
    go_enter Try.func9, Try.ntmps9
    go_wp2_with fail
    refine HC.out.mono ?_
    rintro e w1 ⟨rfl, hb1⟩
    have HX1 := Lib.hid (blk_below HX.out hb1 (by simp))
    obtain ⟨c0, c1, c2, c3, c4, c5, c6, c7, c8, c9, c10, c11⟩ := cf_all HX1.out
    go_wp2
    go_ret
    exact ⟨ret_int hfin.out.symm, hb0.trans (hb1.mono hb0.size)⟩

theorem ref_measure (s e d : Int) (h : s < e) (hd : 1 ≤ d) : (e - (s + d)).toNat < (e - s).toNat := by omega

set_option maxHeartbeats 1000000 in
theorem refEpochs_any (A : Option Addr) (cap : Nat) (zs : List Int) (sh ra mo wo ba mi st bu ch wi ca n : Int) (w : World) (hr : RdI w w.heap.size A zs) (hm : zs.length ≤ 9223372036854775807) :
    Calls Try.prog 10 #[.agg #[.slice A zs.length cap, .int .i64 sh, .int .i64 ra, .int .i64 mo, .int .i64 wo, .int .i64 ba, .int .i64 mi, .int .i64 st, .int .i64 bu, .int .i64 ch, .int .i64 wi, .int .i64 ca], .int .i64 n] w (Coded w (epo (confCode zs ⟨sh, 0, 0, wo, ba, mi, st, bu, ch, wi, ca⟩) st ba n)) := by
  have hb0 : Below w.heap.size w (w.alloc (.cells #[.slice A zs.length cap, .int .i64 sh, .int .i64 ra, .int .i64 mo, .int .i64 wo, .int .i64 ba, .int .i64 mi, .int .i64 st, .int .i64 bu, .int .i64 ch, .int .i64 wi, .int .i64 ca] 24)) := (Below.refl _ _).alloc (Nat.le_refl _) _
  have hX := heap_alloc_new w (.cells #[.slice A zs.length cap, .int .i64 sh, .int .i64 ra, .int .i64 mo, .int .i64 wo, .int .i64 ba, .int .i64 mi, .int .i64 st, .int .i64 bu, .int .i64 ch, .int .i64 wi, .int .i64 ca] 24)
  have C := refConf_flat A cap zs sh ra mo wo ba mi st bu ch wi ca _ ((hr.below hb0).more hb0.size) hm
  have Z := conf_zero (zs := zs) (c := ⟨sh, 0, 0, wo, ba, mi, st, bu, ch, wi, ca⟩)
  dsimp only at Z
  generalize confCode zs ⟨sh, 0, 0, wo, ba, mi, st, bu, ch, wi, ca⟩ = k at *
  have HC := Lib.hid C
  have HX := Lib.hid hX
  have HZ := Lib.hid Z
  clear C hX Z
  by_cases hk : k = 0
  · subst hk
    obtain ⟨hst, hba, hba', _⟩ := HZ.out rfl
    cases h1 : betw n ba 1048576
    · have hfin := Lib.hid (epo_no (k := 0) (st := st) (ba := ba) (n := n) (by have := betw_no h1; omega))
      go_enter Try.func10, Try.ntmps10
      go_wp2_with fail
      refine HC.out.mono ?_
      rintro e w1 ⟨rfl, hb1⟩
      have HX1 := Lib.hid (blk_below HX.out hb1 (by simp))
      obtain ⟨c0, c1, c2, c3, c4, c5, c6, c7, c8, c9, c10, c11⟩ := cf_all HX1.out
      go_wp2_with (go_at_call 18; refine (between_any _ _ _ _).mono ?_; rintro e w' ⟨rfl, rfl⟩)
      go_ret
      exact ⟨ret_int hfin.out.symm, hb0.trans (hb1.mono hb0.size)⟩
    · have hy := betw_yes h1
      have hfin := Lib.hid (epo_yes (k := 0) (st := st) (ba := ba) (n := n) (by omega))
      have hq := quo_bd (n := n) hba hy.1 hy.2
      go_enter Try.func10, Try.ntmps10
      go_wp2_with fail
      refine HC.out.mono ?_
      rintro e w1 ⟨rfl, hb1⟩
      have HX1 := Lib.hid (blk_below HX.out hb1 (by simp))
      obtain ⟨c0, c1, c2, c3, c4, c5, c6, c7, c8, c9, c10, c11⟩ := cf_all HX1.out
      go_wp2_with (go_at_call 18; refine (between_any _ _ _ _).mono ?_; rintro e w' ⟨rfl, rfl⟩)
      go_loop [5, 6] (fun e s => ∃ x y : Int, e = .int .i64 x ∧ s = .int .i64 y ∧ 0 ≤ x ∧ x ≤ y ∧ y ≤ 2097152 ∧ Hid (y = x * (n / ba)) ∧ Hid (x = 0 ∨ (x - 1) * (n / ba) < st)) (fun _ s => (st - intOf s).toNat)
      case atStart => exact ⟨0, 0, rfl, rfl, by omega, by omega, by omega, Lib.hid (by simp), Lib.hid (.inl rfl)⟩
      case round =>
        obtain ⟨x, y, rfl, rfl, hx0, hxy, hy2, hm1, hm2⟩ := hrel
        by_cases hlt : y < st
        · go_wp2
          go_round
          case rel => exact ⟨x + 1, y + n / ba, rfl, rfl, by omega, by omega, by omega, Lib.hid (by rw [hm1.out, Int.add_mul, Int.one_mul]), Lib.hid (.inr (by rw [Int.add_sub_cancel, ← hm1.out]; exact hlt))⟩
          case measure => simp only [intOf]; omega
        · have hce : Hid ((st + n / ba - 1) / (n / ba) = x) := Lib.hid (ceil_of hq.1 (by rw [← hm1.out]; omega) hm2.out hst.1)
          go_wp2
          go_ret
          exact ⟨ret_int (by rw [hfin.out, hce.out]), hb0.trans (hb1.mono hb0.size)⟩
  · have hfin := Lib.hid (epo_no (k := k) (st := st) (ba := ba) (n := n) (.inl hk))
    have hk' : (k != 0) = true := by simpa using hk
    go_enter Try.func10, Try.ntmps10
    go_wp2_with fail
    refine HC.out.mono ?_
    rintro e w1 ⟨rfl, hb1⟩
    have HX1 := Lib.hid (blk_below HX.out hb1 (by simp))
    obtain ⟨c0, c1, c2, c3, c4, c5, c6, c7, c8, c9, c10, c11⟩ := cf_all HX1.out
    go_wp2_with (go_at_call 18; refine (between_any _ _ _ _).mono ?_; rintro e w' ⟨rfl, rfl⟩)
    go_ret
    exact ⟨ret_int hfin.out.symm, hb0.trans (hb1.mono hb0.size)⟩

end Go.Proofs.Ytiokdfkddcokoaa
