/- Walks: Blocks of the reference; the hashes of both. Conditions: none. -/
import Derived.Test.YtoafihjgpbcgbaaGreatMarkFew
namespace Go.Proofs.YtoafihjgpbcgbaaGreat
open Go.RowKit

/-- The first k blocks of n indices in blocks of s. -/
def bcells (n s : Nat) : Nat → List Value
  | 0 => []
  | k + 1 => bcells n s k ++ [.int .i64 (min (k * s) n : Nat), .int .i64 (min ((k + 1) * s) n : Nat)]
theorem bcells_len (n s : Nat) : ∀ k, (bcells n s k).length = k * 2
  | 0 => rfl
  | k + 1 => by simp [bcells, bcells_len n s k]; omega
theorem bcells_at (n s : Nat) : ∀ (k j : Nat), j < k → (bcells n s k)[j * 2]? = some (.int .i64 (min (j * s) n : Nat)) ∧ (bcells n s k)[j * 2 + 1]? = some (.int .i64 (min ((j + 1) * s) n : Nat))
  | 0, j, h => absurd h (Nat.not_lt_zero _)
  | k + 1, j, h => by
    have hl := bcells_len n s k
    simp only [bcells]
    by_cases hj : j < k
    · have ih := bcells_at n s k j hj
      rw [List.getElem?_append_left (by omega), List.getElem?_append_left (by omega)]
      exact ih
    · have e : j = k := by omega
      subst e
      rw [List.getElem?_append_right (by omega), List.getElem?_append_right (by omega), hl]
      simp

theorem infoR : (Tryz.prog.info? 29).map (fun i => (i.zero, i.size, i.bytes)) = some (some (.agg #[.int .i64 0, .int .i64 0]), 2, 16) := by kernel_rfl

theorem newAt (w : World) (o : Obj) {g : Nat} (hg : w.heap.size = g) : (w.alloc o).heap[g]? = some o := by subst hg; exact heap_alloc_new w o

set_option maxRecDepth 100000 in
set_option maxHeartbeats 2000000 in
theorem blocks_any (n s : Nat) (w : World) (hn : n ≤ 1500) (hs : 1 ≤ s ∧ s ≤ 256) :
    Calls Tryz.prog 6 #[.int .i64 n, .int .i64 s] w fun e w' => ∃ v K, e = .returned v ∧ w'.ownsRow w.heap.size 29 2 v K (bcells n s K) ∧ min (K * s) n = n ∧ K ≤ n ∧ (∀ j, j < K → j * s < n) ∧ Below w.heap.size w w' := by
  obtain ⟨i0, hi, hz0, hz1, hz2⟩ := info_parts infoR
  have HI := Lib.hid (And.intro hi (And.intro hz0 (And.intro hz1 hz2)))
  clear hi hz0 hz1 hz2
  by_cases h0 : n = 0
  · subst h0
    go_enter Tryz.func6, Tryz.ntmps6
    go_wp2
    go_ret
    exact ⟨_, 0, rfl, own_nil _ _ _ _, by simp, by omega, fun j h => absurd h (Nat.not_lt_zero j), Below.refl _ _⟩
  · have h1 : 1 ≤ n := by omega
    clear h0
    go_enter Tryz.func6, Tryz.ntmps6
    go_wp2_with fail
    go_loopw [5, 6] (fun v lo wr => ∃ k l : Nat, lo = .int .i64 l ∧ l ≤ n ∧ k ≤ l ∧ Hid (l = min (k * s) n) ∧ Hid (wr.ownsRow w.heap.size 29 2 v k (bcells n s k)) ∧ Hid (∀ j, j < k → j * s < n) ∧ Hid (Below w.heap.size w wr)) (fun _ lo _ => n - (intOf lo).toNat)
    case atStart => exact ⟨0, 0, rfl, by omega, by omega, Lib.hid (by simp), Lib.hid (own_nil _ _ _ _), Lib.hid (fun j h => absurd h (Nat.not_lt_zero j)), Lib.hid (Below.refl _ _)⟩
    case round =>
      obtain ⟨k, l, rfl, hl, hkl, HL, HO, HJ, HB⟩ := hrel
      by_cases hlt : l < n
      · have hks : k * s < n := by have := HL.out; omega
        have hl' : l = k * s := by have := HL.out; omega
        obtain ⟨h, hh⟩ : ∃ h : Nat, h = min ((k + 1) * s) n := ⟨_, rfl⟩
        have hh2 : h = min (l + s) n := by rw [hh, hl', Nat.succ_mul]
        have HH := Lib.hid hh
        have HL2 := Lib.hid (show l = min (k * s) n from HL.out)
        have HJ2 := Lib.hid (show ∀ j, j < k + 1 → j * s < n from fun j hj => by
          rcases Nat.lt_or_ge j k with h | h
          · exact HJ.out j h
          · rw [show j = k by omega]; exact hks)
        have hkk : k < 1500 := by omega
        have HK := Lib.hid hkk
        have hlh : l < h := by omega
        have hhn : h ≤ n := by omega
        clear hh hkk hks hl'
        by_cases hsn : (s : Int) < n - l
        · have e : (l : Int) + s = h := by omega
          clear hh2
          have HW := Lib.hid (HO.out.alloc (.cells #[.int .i64 l, .int .i64 h] 29))
          have HN := Lib.hid (newAt wr (.cells #[.int .i64 l, .int .i64 h] 29) rfl)
          have HB2 := Lib.hid (HB.out.alloc HB.out.size (.cells #[.int .i64 l, .int .i64 h] 29))
          go_wp2_with (at_builtin; refine wpList_append_own _ rfl _ _ 26 rfl w.heap.size 29 i0 (.agg #[.int .i64 0, .int .i64 0]) 2 16 Tryz.underlying26 HI.out.1 HI.out.2.1 HI.out.2.2.1 HI.out.2.2.2 rfl (by decide) _ _ _ rfl HW.out ⟨wr.heap.size, 0, none⟩ 1 1 [.int .i64 l, .int .i64 h] rfl rfl ?c1 ?c2 ?c3 ?c4 ?c5 ?_)
          case c1 =>
            intro j u hj
            rw [add_none, Nat.zero_add, blk_cell HN.out]
            simpa using hj
          case c2 => intro u hu; simp at hu; rcases hu with rfl | rfl <;> rfl
          case c3 => have h := HK.out; unfold maxLen; omega
          case c4 => have h := HK.out; omega
          case c5 => have := HB.out.size; simp; omega
          intro v' w2 hown' hgrow _
          have HB3 := Lib.hid (below_own HB2.out (Nat.le_refl _) (Nat.le_refl _) HW.out hgrow)
          have HS := Lib.hid hown'
          clear hown' hgrow HW HN HB2
          go_wp2_with fail
          go_roundw
          case rel => exact ⟨k + 1, h, rfl, hhn, by omega, Lib.hid HH.out, Lib.hid (by have := HS.out; rw [HL2.out, HH.out] at this; exact this), HJ2, HB3⟩
          case measure => simp [intOf]; omega
        · have e : h = n := by omega
          clear hh2
          have HW := Lib.hid (HO.out.alloc (.cells #[.int .i64 l, .int .i64 n] 29))
          have HN := Lib.hid (newAt wr (.cells #[.int .i64 l, .int .i64 n] 29) rfl)
          have HB2 := Lib.hid (HB.out.alloc HB.out.size (.cells #[.int .i64 l, .int .i64 n] 29))
          go_wp2_with (at_builtin; refine wpList_append_own _ rfl _ _ 26 rfl w.heap.size 29 i0 (.agg #[.int .i64 0, .int .i64 0]) 2 16 Tryz.underlying26 HI.out.1 HI.out.2.1 HI.out.2.2.1 HI.out.2.2.2 rfl (by decide) _ _ _ rfl HW.out ⟨wr.heap.size, 0, none⟩ 1 1 [.int .i64 l, .int .i64 n] rfl rfl ?d1 ?d2 ?d3 ?d4 ?d5 ?_)
          case d2 => exact ⟨rfl, rfl⟩
          case d3 => have h := HK.out; unfold maxLen; omega
          case d4 => have h := HK.out; omega
          case d5 => have := HB.out.size; simp; omega
          intro v' w2 hown' hgrow _
          have HB3 := Lib.hid (below_own HB2.out (Nat.le_refl _) (Nat.le_refl _) HW.out hgrow)
          have HS := Lib.hid hown'
          clear hown' hgrow HW HN HB2
          go_wp2_with fail
          go_roundw
          case rel => exact ⟨k + 1, n, rfl, Nat.le_refl _, by omega, Lib.hid (by have := HH.out; omega), Lib.hid (by have := HS.out; rw [HL2.out] at this; simp only [bcells]; rw [← HH.out, e]; exact this), HJ2, HB3⟩
          case measure => simp [intOf]; omega
      · have e : l = n := by omega
        go_wp2_with fail
        go_ret
        exact ⟨_, k, rfl, HO.out, by have := HL.out; omega, by omega, HJ.out, HB.out⟩

end Go.Proofs.YtoafihjgpbcgbaaGreat
