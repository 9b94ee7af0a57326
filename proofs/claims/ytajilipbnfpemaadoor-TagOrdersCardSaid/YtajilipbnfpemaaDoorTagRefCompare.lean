/- Walks: TagOrders. Conditions: the table of powers of ten reads as listed. -/
import Derived.Test.YtajilipbnfpemaaDoorTagCompare
import Derived.Test.YtajilipbnfpemaaDoorTagPacks
namespace Go.Proofs.YtajilipbnfpemaaDoor
open Go.RowKit

set_option maxRecDepth 100000 in
set_option maxHeartbeats 4000000 in
theorem refCompare_any (t u : Tg) (w : World) : Calls Tryd.prog 30 #[tgV t, tgV u] w fun e w' => e = .returned (.int .i64 (cmpT t u)) ∧ Below w.heap.size w w' := by
  obtain ⟨a0, a1, a2, a3, a4⟩ := t
  obtain ⟨b0, b1, b2, b3, b4⟩ := u
  unfold tgV
  dsimp only
  have HB := Lib.hid ((((Below.refl w.heap.size w).alloc (Nat.le_refl _) (.cells #[.int .i64 a0, .int .i64 a1, .int .i64 a2, .int .i64 a3, .int .i64 a4] 23)).alloc (by simp) (.cells #[.int .i64 b0, .int .i64 b1, .int .i64 b2, .int .i64 b3, .int .i64 b4] 23)).alloc (by simp; omega) (.cells #[.int .i64 a0, .int .i64 a1, .int .i64 a2, .int .i64 a3, .int .i64 a4] 3) |>.alloc (by simp; omega) (.cells #[.int .i64 b0, .int .i64 b1, .int .i64 b2, .int .i64 b3, .int .i64 b4] 3))
  have HG := Lib.hid (blk_alloc (newAt (w := ((w.alloc (.cells #[.int .i64 a0, .int .i64 a1, .int .i64 a2, .int .i64 a3, .int .i64 a4] 23)).alloc (.cells #[.int .i64 b0, .int .i64 b1, .int .i64 b2, .int .i64 b3, .int .i64 b4] 23))) (n := w.heap.size + 2) (by simp) (.cells #[.int .i64 a0, .int .i64 a1, .int .i64 a2, .int .i64 a3, .int .i64 a4] 3)) (.cells #[.int .i64 b0, .int .i64 b1, .int .i64 b2, .int .i64 b3, .int .i64 b4] 3))
  have HK := Lib.hid (newAt (w := (((w.alloc (.cells #[.int .i64 a0, .int .i64 a1, .int .i64 a2, .int .i64 a3, .int .i64 a4] 23)).alloc (.cells #[.int .i64 b0, .int .i64 b1, .int .i64 b2, .int .i64 b3, .int .i64 b4] 23)).alloc (.cells #[.int .i64 a0, .int .i64 a1, .int .i64 a2, .int .i64 a3, .int .i64 a4] 3))) (n := w.heap.size + 3) (by simp) (.cells #[.int .i64 b0, .int .i64 b1, .int .i64 b2, .int .i64 b3, .int .i64 b4] 3))
  go_enter Tryd.func30, Tryd.ntmps30
  go_wp2_with fail
  go_loopw [7] (fun i wr => ∃ m : Nat, m ≤ 5 ∧ i = .int .i64 m ∧ Hid (SameTo m a0 a1 a2 a3 a4 b0 b1 b2 b3 b4) ∧ Hid (wr.heap[w.heap.size + 2]? = some (.cells #[.int .i64 a0, .int .i64 a1, .int .i64 a2, .int .i64 a3, .int .i64 a4] 3 (0, 0))) ∧ Hid (wr.heap[w.heap.size + 3]? = some (.cells #[.int .i64 b0, .int .i64 b1, .int .i64 b2, .int .i64 b3, .int .i64 b4] 3 (0, 0))) ∧ Hid (Below w.heap.size w wr)) (fun i _ => 5 - (intOf i).toNat)
  case atStart => exact ⟨0, by decide, rfl, Lib.hid ⟨fun h => absurd h (by decide), fun h => absurd h (by decide), fun h => absurd h (by decide), fun h => absurd h (by decide), fun h => absurd h (by decide)⟩, HG, HK, HB⟩
  case round =>
    obtain ⟨m, hm, rfl, HS, HGr, HKr, HBr⟩ := hrel
    clear HG HK HB
    have hc : m = 0 ∨ m = 1 ∨ m = 2 ∨ m = 3 ∨ m = 4 ∨ m = 5 := by omega
    rcases hc with rfl | rfl | rfl | rfl | rfl | rfl
    · have c := blk_cell HGr.out 0
      have d := blk_cell HKr.out 0
      rcases Int.lt_trichotomy a0 b0 with h | h | h
      · have HR := Lib.hid (show cmpT ⟨a0, a1, a2, a3, a4⟩ ⟨b0, b1, b2, b3, b4⟩ = -1 by
          unfold cmpT
          dsimp only
          skip
          simp [orI, cmpI, h])
        go_wp2_with fail
        go_quiet (fail)
        go_wp2_with fail
        go_ret
        exact ⟨by rw [HR.out]; rfl, below_drewN HBr.out _⟩
      · have HE := Lib.hid h
        have h1 : ¬ a0 < b0 := by omega
        have h2 : ¬ b0 < a0 := by omega
        clear h
        go_wp2_with fail
        go_quiet (fail)
        go_wp2_with fail
        go_quiet (fail)
        go_wp2_with fail
        go_roundw
        case rel => exact ⟨1, by decide, by go_num, Lib.hid ⟨fun _ => HE.out, fun h => absurd h (by decide), fun h => absurd h (by decide), fun h => absurd h (by decide), fun h => absurd h (by decide)⟩, Lib.hid (blk_drewN HGr.out _), Lib.hid (blk_drewN HKr.out _), Lib.hid (below_drewN HBr.out _)⟩
        case measure => simp [intOf]
      · have h1 : ¬ a0 < b0 := by omega
        have HR := Lib.hid (show cmpT ⟨a0, a1, a2, a3, a4⟩ ⟨b0, b1, b2, b3, b4⟩ = 1 by
          unfold cmpT
          dsimp only
          skip
          simp [orI, cmpI, h, h1])
        go_wp2_with fail
        go_quiet (fail)
        go_wp2_with fail
        go_quiet (fail)
        go_wp2_with fail
        go_ret
        exact ⟨by rw [HR.out]; rfl, below_drewN (below_drewN HBr.out _) _⟩
    · have c := blk_cell HGr.out 1
      have d := blk_cell HKr.out 1
      rcases Int.lt_trichotomy a1 b1 with h | h | h
      · have HR := Lib.hid (show cmpT ⟨a0, a1, a2, a3, a4⟩ ⟨b0, b1, b2, b3, b4⟩ = -1 by
          unfold cmpT
          dsimp only
          rw [(cmpI_zero a0 b0).2 (HS.out.1 (by decide))]
          simp [orI, cmpI, h])
        go_wp2_with fail
        go_quiet (fail)
        go_wp2_with fail
        go_ret
        exact ⟨by rw [HR.out]; rfl, below_drewN HBr.out _⟩
      · have HE := Lib.hid h
        have h1 : ¬ a1 < b1 := by omega
        have h2 : ¬ b1 < a1 := by omega
        clear h
        go_wp2_with fail
        go_quiet (fail)
        go_wp2_with fail
        go_quiet (fail)
        go_wp2_with fail
        go_roundw
        case rel => exact ⟨2, by decide, by go_num, Lib.hid ⟨fun _ => HS.out.1 (by decide), fun _ => HE.out, fun h => absurd h (by decide), fun h => absurd h (by decide), fun h => absurd h (by decide)⟩, Lib.hid (blk_drewN HGr.out _), Lib.hid (blk_drewN HKr.out _), Lib.hid (below_drewN HBr.out _)⟩
        case measure => simp [intOf]
      · have h1 : ¬ a1 < b1 := by omega
        have HR := Lib.hid (show cmpT ⟨a0, a1, a2, a3, a4⟩ ⟨b0, b1, b2, b3, b4⟩ = 1 by
          unfold cmpT
          dsimp only
          rw [(cmpI_zero a0 b0).2 (HS.out.1 (by decide))]
          simp [orI, cmpI, h, h1])
        go_wp2_with fail
        go_quiet (fail)
        go_wp2_with fail
        go_quiet (fail)
        go_wp2_with fail
        go_ret
        exact ⟨by rw [HR.out]; rfl, below_drewN (below_drewN HBr.out _) _⟩
    · have c := blk_cell HGr.out 2
      have d := blk_cell HKr.out 2
      rcases Int.lt_trichotomy a2 b2 with h | h | h
      · have HR := Lib.hid (show cmpT ⟨a0, a1, a2, a3, a4⟩ ⟨b0, b1, b2, b3, b4⟩ = -1 by
          unfold cmpT
          dsimp only
          rw [(cmpI_zero a0 b0).2 (HS.out.1 (by decide))]; rw [(cmpI_zero a1 b1).2 (HS.out.2.1 (by decide))]
          simp [orI, cmpI, h])
        go_wp2_with fail
        go_quiet (fail)
        go_wp2_with fail
        go_ret
        exact ⟨by rw [HR.out]; rfl, below_drewN HBr.out _⟩
      · have HE := Lib.hid h
        have h1 : ¬ a2 < b2 := by omega
        have h2 : ¬ b2 < a2 := by omega
        clear h
        go_wp2_with fail
        go_quiet (fail)
        go_wp2_with fail
        go_quiet (fail)
        go_wp2_with fail
        go_roundw
        case rel => exact ⟨3, by decide, by go_num, Lib.hid ⟨fun _ => HS.out.1 (by decide), fun _ => HS.out.2.1 (by decide), fun _ => HE.out, fun h => absurd h (by decide), fun h => absurd h (by decide)⟩, Lib.hid (blk_drewN HGr.out _), Lib.hid (blk_drewN HKr.out _), Lib.hid (below_drewN HBr.out _)⟩
        case measure => simp [intOf]
      · have h1 : ¬ a2 < b2 := by omega
        have HR := Lib.hid (show cmpT ⟨a0, a1, a2, a3, a4⟩ ⟨b0, b1, b2, b3, b4⟩ = 1 by
          unfold cmpT
          dsimp only
          rw [(cmpI_zero a0 b0).2 (HS.out.1 (by decide))]; rw [(cmpI_zero a1 b1).2 (HS.out.2.1 (by decide))]
          simp [orI, cmpI, h, h1])
        go_wp2_with fail
        go_quiet (fail)
        go_wp2_with fail
        go_quiet (fail)
        go_wp2_with fail
        go_ret
        exact ⟨by rw [HR.out]; rfl, below_drewN (below_drewN HBr.out _) _⟩
    · have c := blk_cell HGr.out 3
      have d := blk_cell HKr.out 3
      rcases Int.lt_trichotomy a3 b3 with h | h | h
      · have HR := Lib.hid (show cmpT ⟨a0, a1, a2, a3, a4⟩ ⟨b0, b1, b2, b3, b4⟩ = -1 by
          unfold cmpT
          dsimp only
          rw [(cmpI_zero a0 b0).2 (HS.out.1 (by decide))]; rw [(cmpI_zero a1 b1).2 (HS.out.2.1 (by decide))]; rw [(cmpI_zero a2 b2).2 (HS.out.2.2.1 (by decide))]
          simp [orI, cmpI, h])
        go_wp2_with fail
        go_quiet (fail)
        go_wp2_with fail
        go_ret
        exact ⟨by rw [HR.out]; rfl, below_drewN HBr.out _⟩
      · have HE := Lib.hid h
        have h1 : ¬ a3 < b3 := by omega
        have h2 : ¬ b3 < a3 := by omega
        clear h
        go_wp2_with fail
        go_quiet (fail)
        go_wp2_with fail
        go_quiet (fail)
        go_wp2_with fail
        go_roundw
        case rel => exact ⟨4, by decide, by go_num, Lib.hid ⟨fun _ => HS.out.1 (by decide), fun _ => HS.out.2.1 (by decide), fun _ => HS.out.2.2.1 (by decide), fun _ => HE.out, fun h => absurd h (by decide)⟩, Lib.hid (blk_drewN HGr.out _), Lib.hid (blk_drewN HKr.out _), Lib.hid (below_drewN HBr.out _)⟩
        case measure => simp [intOf]
      · have h1 : ¬ a3 < b3 := by omega
        have HR := Lib.hid (show cmpT ⟨a0, a1, a2, a3, a4⟩ ⟨b0, b1, b2, b3, b4⟩ = 1 by
          unfold cmpT
          dsimp only
          rw [(cmpI_zero a0 b0).2 (HS.out.1 (by decide))]; rw [(cmpI_zero a1 b1).2 (HS.out.2.1 (by decide))]; rw [(cmpI_zero a2 b2).2 (HS.out.2.2.1 (by decide))]
          simp [orI, cmpI, h, h1])
        go_wp2_with fail
        go_quiet (fail)
        go_wp2_with fail
        go_quiet (fail)
        go_wp2_with fail
        go_ret
        exact ⟨by rw [HR.out]; rfl, below_drewN (below_drewN HBr.out _) _⟩
    · have c := blk_cell HGr.out 4
      have d := blk_cell HKr.out 4
      rcases Int.lt_trichotomy a4 b4 with h | h | h
      · have HR := Lib.hid (show cmpT ⟨a0, a1, a2, a3, a4⟩ ⟨b0, b1, b2, b3, b4⟩ = -1 by
          unfold cmpT
          dsimp only
          rw [(cmpI_zero a0 b0).2 (HS.out.1 (by decide))]; rw [(cmpI_zero a1 b1).2 (HS.out.2.1 (by decide))]; rw [(cmpI_zero a2 b2).2 (HS.out.2.2.1 (by decide))]; rw [(cmpI_zero a3 b3).2 (HS.out.2.2.2.1 (by decide))]
          simp [orI, cmpI, h])
        go_wp2_with fail
        go_quiet (fail)
        go_wp2_with fail
        go_ret
        exact ⟨by rw [HR.out]; rfl, below_drewN HBr.out _⟩
      · have HE := Lib.hid h
        have h1 : ¬ a4 < b4 := by omega
        have h2 : ¬ b4 < a4 := by omega
        clear h
        go_wp2_with fail
        go_quiet (fail)
        go_wp2_with fail
        go_quiet (fail)
        go_wp2_with fail
        go_roundw
        case rel => exact ⟨5, by decide, by go_num, Lib.hid ⟨fun _ => HS.out.1 (by decide), fun _ => HS.out.2.1 (by decide), fun _ => HS.out.2.2.1 (by decide), fun _ => HS.out.2.2.2.1 (by decide), fun _ => HE.out⟩, Lib.hid (blk_drewN HGr.out _), Lib.hid (blk_drewN HKr.out _), Lib.hid (below_drewN HBr.out _)⟩
        case measure => simp [intOf]
      · have h1 : ¬ a4 < b4 := by omega
        have HR := Lib.hid (show cmpT ⟨a0, a1, a2, a3, a4⟩ ⟨b0, b1, b2, b3, b4⟩ = 1 by
          unfold cmpT
          dsimp only
          rw [(cmpI_zero a0 b0).2 (HS.out.1 (by decide))]; rw [(cmpI_zero a1 b1).2 (HS.out.2.1 (by decide))]; rw [(cmpI_zero a2 b2).2 (HS.out.2.2.1 (by decide))]; rw [(cmpI_zero a3 b3).2 (HS.out.2.2.2.1 (by decide))]
          simp [orI, cmpI, h, h1])
        go_wp2_with fail
        go_quiet (fail)
        go_wp2_with fail
        go_quiet (fail)
        go_wp2_with fail
        go_ret
        exact ⟨by rw [HR.out]; rfl, below_drewN (below_drewN HBr.out _) _⟩
    · have HZ := Lib.hid (show cmpT ⟨a0, a1, a2, a3, a4⟩ ⟨b0, b1, b2, b3, b4⟩ = 0 by
        rw [HS.out.1 (by decide), HS.out.2.1 (by decide), HS.out.2.2.1 (by decide), HS.out.2.2.2.1 (by decide), HS.out.2.2.2.2 (by decide)]
        exact (cmpT_zero _ _).2 rfl)
      go_wp2_with fail
      go_ret
      exact ⟨by rw [HZ.out]; rfl, HBr.out⟩

theorem cmpT_bd (t u : Tg) : -1 ≤ cmpT t u ∧ cmpT t u ≤ 1 := by
  have h : ∀ x y : Int, -1 ≤ cmpI x y ∧ cmpI x y ≤ 1 := fun x y => by unfold cmpI; repeat' split <;> omega
  have o : ∀ x y : Int, (-1 ≤ x ∧ x ≤ 1) → (-1 ≤ y ∧ y ≤ 1) → -1 ≤ orI x y ∧ orI x y ≤ 1 := fun x y hx hy => by unfold orI; split <;> assumption
  exact o _ _ (h _ _) (o _ _ (h _ _) (o _ _ (h _ _) (o _ _ (h _ _) (h _ _))))

end Go.Proofs.YtajilipbnfpemaaDoor
