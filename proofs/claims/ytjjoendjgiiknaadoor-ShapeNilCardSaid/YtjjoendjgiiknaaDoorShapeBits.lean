/- Walks: Sizes, Links, Count of a shape; slices.Equal at ints; the chapter's example. Conditions: the table of powers of ten reads as listed. -/
import Derived.Test.YtjjoendjgiiknaaDoorName
namespace Go.Proofs.YtjjoendjgiiknaaDoor
open Go.RowKit

theorem count_any (g : Nat) (zs : List Int) (B : Nat) (w : World) (h : IsShape w B g zs) : Calls Tryd.prog 14 #[.pointer (some ⟨g, 0, none⟩)] w fun e w' => e = .returned (.int .i64 (cnt zs)) ∧ w = w' := by
  obtain ⟨_, As, Aw, Ab, cs, cw, cb, hg, _⟩ := h
  have c3 : w.cell? ⟨g, 3, none⟩ = some (.int .i64 (cnt zs)) := blk_cell hg 3
  clear hg
  go_enter Tryd.func14, Tryd.ntmps14
  go_wp2
  go_ret
  exact ⟨rfl, rfl⟩
theorem count_nil (w : World) : Calls Tryd.prog 14 #[.pointer none] w fun e w' => e = .returned (.int .i64 0) ∧ w = w' := by
  go_enter Tryd.func14, Tryd.ntmps14
  go_wp2
  go_ret
  exact ⟨rfl, rfl⟩

theorem links_any (g : Nat) (zs : List Int) (B : Nat) (w : World) (h : IsShape w B g zs) : Calls Tryd.prog 13 #[.pointer (some ⟨g, 0, none⟩)] w fun e w' => e = .returned (.int .i64 ((zs.length - 1 : Nat) : Int)) ∧ w = w' := by
  obtain ⟨_, As, Aw, Ab, cs, cw, cb, hg, _⟩ := h
  obtain ⟨n, hn⟩ : ∃ n, zs.length - 1 = n := ⟨_, rfl⟩
  rw [hn] at hg ⊢
  have c1 : w.cell? ⟨g, 1, none⟩ = some (.slice Aw n cw) := blk_cell hg 1
  clear hg hn
  go_enter Tryd.func13, Tryd.ntmps13
  go_wp2
  go_ret
  exact ⟨rfl, rfl⟩
theorem links_nil (w : World) : Calls Tryd.prog 13 #[.pointer none] w fun e w' => e = .returned (.int .i64 0) ∧ w = w' := by
  go_enter Tryd.func13, Tryd.ntmps13
  go_wp2
  go_ret
  exact ⟨rfl, rfl⟩

theorem cloneInt_any (A : Option Addr) (cap : Nat) (zs : List Int) (w : World) (hr : RdI w w.heap.size A zs) (hl : zs.length ≤ 1099511627776) :
    Calls Tryd.prog 30 #[.slice A zs.length cap] w fun e w' => ∃ v, e = .returned v ∧ w'.ownsRow w.heap.size 3 1 v zs.length (zs.map (Value.int .i64)) ∧ Below w.heap.size w w' := by
  rcases A with _ | a
  · have hz : zs = [] := by
      cases zs with
      | nil => rfl
      | cons z r => obtain ⟨b, off, e, _⟩ := hr.at_ (by simp); cases e
    subst hz
    exact (Tryd.slices_Clone_int_nil 0 cap w).mono fun e w' ⟨he, hw⟩ => ⟨_, he, own_nil _ _ _ _, hw ▸ Below.refl _ _⟩
  · rcases Nat.eq_zero_or_pos zs.length with h0 | h0
    · obtain rfl : zs = [] := List.eq_nil_of_length_eq_zero h0
      exact (Tryd.slices_Clone_int_zero a cap w).mono fun e w' ⟨v, he, ho, _, hb⟩ => ⟨v, he, ho, hb⟩
    · obtain ⟨b, off, e, hb, hc⟩ := hr.at_ h0
      injection e with e
      subst e
      refine (Tryd.slices_Clone_int b off zs.length cap zs w (Nat.le_refl _) (by omega) fun j hj => ?_).mono fun e w' ⟨v, he, ho, _, hb⟩ => ⟨v, he, by rw [List.take_length] at ho; exact ho, hb⟩
      rw [hc j zs[j] (by simp [hj])]
      simp [List.getD, hj]

set_option maxHeartbeats 1000000 in
theorem sizes_any (g : Nat) (zs : List Int) (w : World) (h : IsShape w w.heap.size g zs) (hl : zs.length ≤ 1099511627776) : Calls Tryd.prog 12 #[.pointer (some ⟨g, 0, none⟩)] w
    fun e w' => ∃ v, e = .returned v ∧ w'.ownsRow w.heap.size 3 1 v zs.length (zs.map (Value.int .i64)) ∧ Below w.heap.size w w' := by
  obtain ⟨_, As, Aw, Ab, cs, cw, cb, hg, _, _, _, hS, _⟩ := h
  have HC := Lib.hid (cloneInt_any As cs zs w hS hl)
  have c0 : w.cell? ⟨g, 0, none⟩ = some (.slice As zs.length cs) := blk_cell hg 0
  clear hg hS
  go_enter Tryd.func12, Tryd.ntmps12
  go_wp2_with fail
  (with_reducible refine HC.out.mono ?_)
  rintro e w1 ⟨v, rfl, ho, hb⟩
  have HO := Lib.hid ho
  clear ho
  go_wp2_with fail
  go_ret
  exact ⟨v, rfl, HO.out, hb⟩
theorem sizes_nil (w : World) : Calls Tryd.prog 12 #[.pointer none] w fun e w' => e = .returned (.slice none 0 0) ∧ w = w' := by
  go_enter Tryd.func12, Tryd.ntmps12
  go_wp2
  go_ret
  exact ⟨rfl, rfl⟩

set_option maxHeartbeats 2000000 in
theorem equalInt_any (A C : Option Addr) (cap cap' : Nat) (xs us : List Int) (w : World) (hr : RdI w w.heap.size A xs) (hs : RdI w w.heap.size C us) (hx : xs.length ≤ 9223372036854775807) (hu : us.length ≤ 9223372036854775807) :
    Calls Tryd.prog 11 #[.slice A xs.length cap, .slice C us.length cap'] w fun e w' => e = .returned (.bool (decide (xs = us))) ∧ Below w.heap.size w w' := by
  have HR := Lib.hid hr
  have HS := Lib.hid hs
  have hxl : (xs.length : Int) ≤ 9223372036854775807 := by omega
  have hul : (us.length : Int) ≤ 9223372036854775807 := by omega
  clear hr hs hx hu
  by_cases hl : xs.length = us.length
  · have HL := Lib.hid hl
    have hne : ((xs.length : Int) != (us.length : Int)) = false := by simp [hl]
    clear hl
    go_enter Tryd.func11, Tryd.ntmps11
    go_wp2_with fail
    go_loopw [13] (fun i wr => ∃ k : Nat, k ≤ xs.length ∧ i = .int .i64 k ∧ Hid (xs.take k = us.take k) ∧ Hid (Below w.heap.size w wr)) (fun i _ => xs.length - (intOf i).toNat)
    case atStart => exact ⟨0, Nat.zero_le _, rfl, Lib.hid rfl, Lib.hid (Below.refl _ _)⟩
    case round =>
      obtain ⟨k, hk, rfl, HT, HBk⟩ := hrel
      by_cases h1 : k < xs.length
      · have h2 : k < us.length := by have := HL.out; omega
        obtain ⟨b, off, rfl, hb, hcz⟩ := HR.out.at_ (by omega)
        obtain ⟨b', off', rfl, hb', hcz'⟩ := HS.out.at_ (by omega)
        obtain ⟨x, hx⟩ := get_some xs k h1
        obtain ⟨u, hu⟩ := get_some us k h2
        have c1 : wr.cell? ⟨b, off + k, none⟩ = some (.int .i64 x) := (HBk.out.cell (p := ⟨b, off + k, none⟩) hb).trans (hcz k x hx)
        have c2 : wr.cell? ⟨b', off' + k, none⟩ = some (.int .i64 u) := (HBk.out.cell (p := ⟨b', off' + k, none⟩) hb').trans (hcz' k u hu)
        have tx : xs.take (k + 1) = xs.take k ++ [x] := by rw [List.take_add_one, hx]; rfl
        have tu : us.take (k + 1) = us.take k ++ [u] := by rw [List.take_add_one, hu]; rfl
        have h0 : (0 : Int) ≤ (k : Int) := by omega
        have h1' : (k : Int) < (xs.length : Int) := by omega
        have h2' : (k : Int) < (us.length : Int) := by omega
        by_cases he : x = u
        · have HT' := Lib.hid (show xs.take (k + 1) = us.take (k + 1) by rw [tx, tu, HT.out, he])
          have hq : (x != u) = false := by simp [he]
          clear hcz hcz' hx hu tx tu he
          go_wp2_with fail
          go_quiet (fail)
          go_wp2_with fail
          go_roundw
          case rel => exact ⟨k + 1, by omega, by go_num, HT', Lib.hid (below_drewN HBk.out _)⟩
          case measure => simp [intOf]; omega
        · have HN := Lib.hid (show decide (xs = us) = false from decide_eq_false fun e => he (by rw [e, hu] at hx; injection hx with hx; exact hx.symm))
          have hq : (x != u) = true := by simp [he]
          clear hcz hcz' hx hu tx tu he
          go_wp2_with fail
          go_quiet (fail)
          go_wp2_with fail
          go_ret
          exact ⟨ret_bool HN.out.symm, below_drewN HBk.out _⟩
      · have HE := Lib.hid (show decide (xs = us) = true by
          have := HT.out
          have hl := HL.out
          rw [List.take_of_length_le (by omega), List.take_of_length_le (by omega)] at this
          exact decide_eq_true this)
        go_wp2_with fail
        go_ret
        exact ⟨ret_bool HE.out.symm, HBk.out⟩
  · have HN := Lib.hid (show decide (xs = us) = false from decide_eq_false fun e => hl (by rw [e]))
    have hne : ((xs.length : Int) != (us.length : Int)) = true := by simp; omega
    go_enter Tryd.func11, Tryd.ntmps11
    go_wp2_with fail
    go_ret
    exact ⟨ret_bool HN.out.symm, Below.refl _ _⟩

theorem shOk231 : ShOk [2, 3, 1] := shOk_of (by decide)
theorem place7 : PlaceIs [2, 3, 1] 7 ⟨0, 1, -1⟩ := ⟨0, ⟨by decide, by decide, by decide⟩, rfl⟩

set_option maxRecDepth 100000 in
set_option maxHeartbeats 1000000 in
theorem alive08_any (B : Nat) (w : World) (hp : Pow B w) (hB : B ≤ w.heap.size) : Calls Tryd.prog 8 #[] w fun e w' => e = .returned (.bool true) ∧ Below w.heap.size w w' := by
  have hb0 := (Below.refl w.heap.size w).alloc (Nat.le_refl _) (.cells #[.int .i64 2, .int .i64 3, .int .i64 1] 3)
  have hN : Calls Tryd.prog 9 #[.slice (some ⟨w.heap.size, 0, none⟩) 3 3] (w.alloc (.cells #[.int .i64 2, .int .i64 3, .int .i64 1] 3)) _ :=
    new_any (some ⟨w.heap.size, 0, none⟩) 3 [2, 3, 1] (w.alloc (.cells #[.int .i64 2, .int .i64 3, .int .i64 1] 3)) (rd_new (heap_alloc_new w _) (by simp)) (show 3 ≤ 3 by decide) (show 3 ≤ 9223372036854775807 by decide)
  have HN := Lib.hid hN
  have HB := Lib.hid hb0
  have HP := Lib.hid hp
  have hcn : cnt [2, 3, 1] = 13 := by decide
  have HC := Lib.hid hcn
  have hnm : (⟨(nameL ⟨0, 1, -1⟩).toArray⟩ : ByteArray) = ⟨#[98, 48, 46, 49]⟩ := by decide +kernel
  have HM := Lib.hid hnm
  clear hN hb0 hcn hnm hp
  go_enter Tryd.func8, Tryd.ntmps8
  go_wp2_with fail
  (with_reducible refine HN.out.mono ?_)
  intro e w1 ⟨hb1, h0, _⟩
  obtain ⟨g, rfl, _, hS⟩ := h0 (by decide)
  have HB1 := Lib.hid (HB.out.trans (hb1.mono HB.out.size))
  have HS := Lib.hid hS
  have HK := Lib.hid (count_any g [2, 3, 1] _ w1 hS)
  rw [HC.out] at HK
  have HY := Lib.hid (name_yes g [2, 3, 1] shOk231 7 _ place7 B w1 (HP.out.on (HB1.out.mono hB)) (Nat.le_trans hB HB1.out.size) hS)
  rw [HM.out] at HY
  clear hb1 h0 hS
  go_wp2_with fail
  (with_reducible refine HK.out.mono ?_)
  rintro e w2 ⟨rfl, rfl⟩
  go_wp2_with fail
  (with_reducible refine HY.out.mono ?_)
  rintro e w2 ⟨rfl, hb2⟩
  have HB2 := Lib.hid (HB1.out.trans (hb2.mono HB1.out.size))
  clear hb2
  go_wp2_with fail
  go_ret
  exact ⟨rfl, HB2.out⟩

end Go.Proofs.YtjjoendjgiiknaaDoor
