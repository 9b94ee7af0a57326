/- Walks: Unpack of the reference's tags. Conditions: none. -/
import Derived.Test.YtajilipbnfpemaaDoorRefTag
import Derived.Test.YtajilipbnfpemaaDoorEqAgg
namespace Go.Proofs.YtajilipbnfpemaaDoor
open Go.RowKit

/-- The tag that the reference looks at. -/
def refT (x y : Int) : Tg := ⟨x / 1048576 % 1099511627776, x % 1048576, y / 1048576 / 64 % 1099511627776, y / 1048576 % 64, y % 1048576⟩
theorem refT_eq {x y : Nat} (h : tagOk (unpT x y)) : refT x y = unpT x y := by
  unfold tagOk unpT at h
  unfold refT unpT
  dsimp only at h
  rw [Int.emod_eq_of_lt h.1.1 (by omega), Int.emod_eq_of_lt h.2.2.1.1 (by omega)]
theorem unpS_none {x y : Int} (h : ¬ tagOk (unpT x y)) : unpS x y = (tg0, false) := by unfold unpS; rw [if_neg h]
theorem unpS_no {x y : Nat} (h : ¬ tagOk (refT x y) ∨ packA (refT x y) ≠ x ∨ packB (refT x y) ≠ y) : unpS x y = (tg0, false) := by
  refine unpS_none fun hk => ?_
  rw [refT_eq hk] at h
  have hp := pack_unp x y
  rcases h with h | h | h
  · exact h hk
  · exact h hp.1
  · exact h hp.2
theorem unpS_yes {x y : Int} (h : tagOk (refT x y)) (h1 : packA (refT x y) = x) (h2 : packB (refT x y) = y) : unpS x y = (refT x y, true) := by
  have e := unp_pack h
  rw [h1, h2] at e
  unfold unpS
  rw [e, if_pos h]

theorem ref_word (x y : Nat) (hx : x < 18446744073709551616) (hy : y < 18446744073709551616) : ∃ a1 a b y1 p1 p r c : Nat, (x : Int) / 1048576 = (a1 : Int) ∧ (a1 : Int) % 1099511627776 = (a : Int) ∧ (x : Int) % 1048576 = (b : Int) ∧ (y : Int) / 1048576 = (y1 : Int) ∧ (y1 : Int) / 64 = (p1 : Int) ∧ (p1 : Int) % 1099511627776 = (p : Int) ∧ (y1 : Int) % 64 = (r : Int) ∧ (y : Int) % 1048576 = (c : Int) ∧
    IntKind.i64.wrap (a : Int) = (a : Int) ∧ IntKind.i64.wrap (b : Int) = (b : Int) ∧ IntKind.i64.wrap (p : Int) = (p : Int) ∧ IntKind.i64.wrap (r : Int) = (r : Int) ∧ IntKind.i64.wrap (c : Int) = (c : Int) ∧ IntKind.u64.wrap (a1 : Int) = (a1 : Int) ∧ IntKind.u64.wrap (y1 : Int) = (y1 : Int) ∧ IntKind.u64.wrap (p1 : Int) = (p1 : Int) ∧ refT x y = ⟨a, b, p, r, c⟩ := by
  refine ⟨x / 1048576, x / 1048576 % 1099511627776, x % 1048576, y / 1048576, y / 1048576 / 64, y / 1048576 / 64 % 1099511627776, y / 1048576 % 64, y % 1048576, by omega, by omega, by omega, by omega, by omega, by omega, by omega, by omega, ?_, ?_, ?_, ?_, ?_, ?_, ?_, ?_, ?_⟩
  · rw [IntKind.wrap_i64]; omega
  · rw [IntKind.wrap_i64]; omega
  · rw [IntKind.wrap_i64]; omega
  · rw [IntKind.wrap_i64]; omega
  · rw [IntKind.wrap_i64]; omega
  · rw [IntKind.wrap_u64]; omega
  · rw [IntKind.wrap_u64]; omega
  · rw [IntKind.wrap_u64]; omega
  · unfold refT
    simp only [Tg.mk.injEq]
    omega

set_option maxRecDepth 100000 in
set_option maxHeartbeats 2000000 in
theorem refUnpack_any (x y : Nat) (hx : x < 18446744073709551616) (hy : y < 18446744073709551616) (w : World) :
    Calls Tryd.prog 20 #[.agg #[.int .u64 x, .int .u64 y]] w fun e w' => e = .returned (.tuple #[tgV (unpS x y).1, .bool (unpS x y).2]) ∧ Below w.heap.size w w' := by
  have HB := Lib.hid ((Below.refl w.heap.size w).alloc (Nat.le_refl _) (.cells #[.int .u64 x, .int .u64 y] 25))
  have HNo := Lib.hid (unpS_no (x := x) (y := y))
  have HYes := Lib.hid (unpS_yes (x := (x : Int)) (y := (y : Int)))
  obtain ⟨a1, a, b, y1, p1, p, r, c, e1, e2, e3, e4, e5, e6, e7, e8, e9, e10, e11, e12, e13, e14, e15, e16, eT⟩ := ref_word x y hx hy
  rw [eT] at HNo HYes
  clear eT hx hy
  have HR := Lib.hid (fun W => refRight_any ⟨a, b, p, r, c⟩ W)
  have HZ := Lib.hid (blk_alloc (blk_alloc (heap_alloc_new w (.cells #[.int .u64 x, .int .u64 y] 25)) (.cells #[.int .i64 0, .int .i64 0, .int .i64 0, .int .i64 0, .int .i64 0] 23)) (.cells #[.int .i64 a, .int .i64 b, .int .i64 p, .int .i64 r, .int .i64 c] 23))
  have HY := Lib.hid (blk_alloc (blk_new (show (w.alloc (.cells #[.int .u64 x, .int .u64 y] 25)).heap.size = w.heap.size + 1 by simp) (.cells #[.int .i64 0, .int .i64 0, .int .i64 0, .int .i64 0, .int .i64 0] 23)) (.cells #[.int .i64 a, .int .i64 b, .int .i64 p, .int .i64 r, .int .i64 c] 23))
  have HX := Lib.hid (blk_new (show ((w.alloc (.cells #[.int .u64 x, .int .u64 y] 25)).alloc (.cells #[.int .i64 0, .int .i64 0, .int .i64 0, .int .i64 0, .int .i64 0] 23)).heap.size = w.heap.size + 2 by simp) (.cells #[.int .i64 a, .int .i64 b, .int .i64 p, .int .i64 r, .int .i64 c] 23))
  have HB3 := Lib.hid ((HB.out.alloc (by simp) (.cells #[.int .i64 0, .int .i64 0, .int .i64 0, .int .i64 0, .int .i64 0] 23)).alloc (by rw [World.size_alloc, World.size_alloc]; omega) (.cells #[.int .i64 a, .int .i64 b, .int .i64 p, .int .i64 r, .int .i64 c] 23))
  generalize hW3 : ((w.alloc (.cells #[.int .u64 x, .int .u64 y] 25)).alloc (.cells #[.int .i64 0, .int .i64 0, .int .i64 0, .int .i64 0, .int .i64 0] 23)).alloc (.cells #[.int .i64 a, .int .i64 b, .int .i64 p, .int .i64 r, .int .i64 c] 23) = W3 at HZ HY HX HB3
  by_cases hok : tagOk ⟨a, b, p, r, c⟩
  · have HP := Lib.hid (fun W => refPack_any ⟨a, b, p, r, c⟩ hok W)
    rw [decide_eq_true hok] at HR
    have HNo2 := Lib.hid (fun h => HNo.out (.inr h))
    have HYes2 := Lib.hid (HYes.out hok)
    clear HNo HYes hok
    generalize packA ⟨a, b, p, r, c⟩ = PA at HP HNo2 HYes2
    generalize packB ⟨a, b, p, r, c⟩ = PB at HP HNo2 HYes2
    unfold tgV at HR HP
    dsimp only at HR HP
    by_cases q1 : PA = (x : Int)
    · by_cases q2 : PB = (y : Int)
      · have HS := Lib.hid (HYes2.out q1 q2)
        have b1 : (PA == (x : Int)) = true := beq_iff_eq.2 q1
        have b2 : (PB == (y : Int)) = true := beq_iff_eq.2 q2
        clear HNo2 HYes2 q1 q2
        have n2 := neq2
        have g2 := guard2
        go_enter Tryd.func20, Tryd.ntmps20
        go_wp2_with fail
        go_region_held3 (fun w' => w'.cell? ⟨w.heap.size + 1 + 1, 0, none⟩ = some (.int .i64 a) ∧ w'.cell? ⟨w.heap.size + 1 + 1, 1, none⟩ = some (.int .i64 b) ∧ w'.cell? ⟨w.heap.size + 1 + 1, 2, none⟩ = some (.int .i64 p) ∧ w'.cell? ⟨w.heap.size + 1 + 1, 3, none⟩ = some (.int .i64 r) ∧ w'.cell? ⟨w.heap.size + 1 + 1, 4, none⟩ = some (.int .i64 c) ∧ w'.cell? ⟨w.heap.size, 0, none⟩ = some (.int .u64 x) ∧ w'.cell? ⟨w.heap.size, 1, none⟩ = some (.int .u64 y))
          (first
            | exact ⟨blk_cell HX2.out 0, blk_cell HX2.out 1, blk_cell HX2.out 2, blk_cell HX2.out 3, blk_cell HX2.out 4, blk_cell HZ2.out 0, blk_cell HZ2.out 1⟩
            | exact ⟨blk_cell HX1.out 0, blk_cell HX1.out 1, blk_cell HX1.out 2, blk_cell HX1.out 3, blk_cell HX1.out 4, blk_cell HZ1.out 0, blk_cell HZ1.out 1⟩
            | exact ⟨blk_cell HX.out 0, blk_cell HX.out 1, blk_cell HX.out 2, blk_cell HX.out 3, blk_cell HX.out 4, blk_cell HZ.out 0, blk_cell HZ.out 1⟩)
          (first
            | (go_at_call 15
               (with_reducible refine (HR.out _).mono ?_)
               rintro e w8 ⟨rfl, hb8⟩
               have HX1 := Lib.hid (blk_below (blk_drew HX.out) hb8 (blk_lt HX.out))
               have HY1 := Lib.hid (blk_below (blk_drew HY.out) hb8 (blk_lt HY.out))
               have HZ1 := Lib.hid (blk_below (blk_drew HZ.out) hb8 (blk_lt HZ.out))
               have HBk1 := Lib.hid ((below_drew HB3.out).trans (hb8.mono HB3.out.size))
               clear HX HY HZ HB3 hb8 HR)
            | (go_at_call 19
               (with_reducible refine (HP.out _).mono ?_)
               rintro e w9 ⟨rfl, hb9⟩
               have HX2 := Lib.hid (blk_below HX1.out hb9 (blk_lt HX1.out))
               have HY2 := Lib.hid (blk_below HY1.out hb9 (blk_lt HY1.out))
               have HZ2 := Lib.hid (blk_below HZ1.out hb9 (blk_lt HZ1.out))
               have HBk2 := Lib.hid (HBk1.out.trans (hb9.mono HBk1.out.size))
               clear HX1 HY1 HZ1 HBk1 hb9 HP))
        have x0 := blk_cell HX2.out 0
        have x1 := blk_cell HX2.out 1
        have x2 := blk_cell HX2.out 2
        have x3 := blk_cell HX2.out 3
        have x4 := blk_cell HX2.out 4
        have y0 := blk_frozen HY2.out 0
        have y1 := blk_frozen HY2.out 1
        have y2 := blk_frozen HY2.out 2
        have y3 := blk_frozen HY2.out 3
        have y4 := blk_frozen HY2.out 4
        have d0 := blk_cell HY2.out 0
        have d1 := blk_cell HY2.out 1
        have d2 := blk_cell HY2.out 2
        have d3 := blk_cell HY2.out 3
        have d4 := blk_cell HY2.out 4
        have ly := blk_lt HY2.out
        clear hW3 e1 e2 e3 e4 e5 e6 e7 e8 e9 e10 e11 e12 e13 e14 e15 e16 n2
        go_wp2_with fail
        have s0 := blk_set HY2.out 0 (.int .i64 a)
        have s1 := blk_set s0 1 (.int .i64 b)
        have s2 := blk_set s1 2 (.int .i64 p)
        have s3 := blk_set s2 3 (.int .i64 r)
        have s4 := blk_set s3 4 (.int .i64 c)
        have hbW := (((((HBk2.out.setCell (p := ⟨w.heap.size + 1, 0, none⟩) (by simp) (.int .i64 a)).setCell (p := ⟨w.heap.size + 1, 1, none⟩) (by simp) (.int .i64 b)).setCell (p := ⟨w.heap.size + 1, 2, none⟩) (by simp) (.int .i64 p)).setCell (p := ⟨w.heap.size + 1, 3, none⟩) (by simp) (.int .i64 r)).setCell (p := ⟨w.heap.size + 1, 4, none⟩) (by simp) (.int .i64 c))
        generalize (World.setCell (World.setCell (World.setCell (World.setCell (World.setCell w9 ⟨w.heap.size + 1, 0, none⟩ (.int .i64 a)) ⟨w.heap.size + 1, 1, none⟩ (.int .i64 b)) ⟨w.heap.size + 1, 2, none⟩ (.int .i64 p)) ⟨w.heap.size + 1, 3, none⟩ (.int .i64 r)) ⟨w.heap.size + 1, 4, none⟩ (.int .i64 c)) = W at s4 hbW ⊢
        clear s0 s1 s2 s3
        have k0 := blk_cell s4 0
        have k1 := blk_cell s4 1
        have k2 := blk_cell s4 2
        have k3 := blk_cell s4 3
        have k4 := blk_cell s4 4
        refine bodyPost_ret (v := .tuple #[.agg #[.int .i64 a, .int .i64 b, .int .i64 p, .int .i64 r, .int .i64 c], .bool true]) ?_ rfl ⟨by rw [HS.out]; rfl, hbW⟩
        simp [results, Tryd.results20, go_sem, k0, k1, k2, k3, k4]
      · have HS := Lib.hid (HNo2.out (.inr q2))
        have b1 : (PA == (x : Int)) = true := beq_iff_eq.2 q1
        have b2 : (PB == (y : Int)) = false := beq_eq_false_iff_ne.2 q2
        clear HNo2 HYes2 q1 q2
        have n2 := neq2
        have g2 := guard2
        go_enter Tryd.func20, Tryd.ntmps20
        go_wp2_with fail
        go_region_held3 (fun w' => w'.cell? ⟨w.heap.size + 1 + 1, 0, none⟩ = some (.int .i64 a) ∧ w'.cell? ⟨w.heap.size + 1 + 1, 1, none⟩ = some (.int .i64 b) ∧ w'.cell? ⟨w.heap.size + 1 + 1, 2, none⟩ = some (.int .i64 p) ∧ w'.cell? ⟨w.heap.size + 1 + 1, 3, none⟩ = some (.int .i64 r) ∧ w'.cell? ⟨w.heap.size + 1 + 1, 4, none⟩ = some (.int .i64 c) ∧ w'.cell? ⟨w.heap.size, 0, none⟩ = some (.int .u64 x) ∧ w'.cell? ⟨w.heap.size, 1, none⟩ = some (.int .u64 y))
          (first
            | exact ⟨blk_cell HX2.out 0, blk_cell HX2.out 1, blk_cell HX2.out 2, blk_cell HX2.out 3, blk_cell HX2.out 4, blk_cell HZ2.out 0, blk_cell HZ2.out 1⟩
            | exact ⟨blk_cell HX1.out 0, blk_cell HX1.out 1, blk_cell HX1.out 2, blk_cell HX1.out 3, blk_cell HX1.out 4, blk_cell HZ1.out 0, blk_cell HZ1.out 1⟩
            | exact ⟨blk_cell HX.out 0, blk_cell HX.out 1, blk_cell HX.out 2, blk_cell HX.out 3, blk_cell HX.out 4, blk_cell HZ.out 0, blk_cell HZ.out 1⟩)
          (first
            | (go_at_call 15
               (with_reducible refine (HR.out _).mono ?_)
               rintro e w8 ⟨rfl, hb8⟩
               have HX1 := Lib.hid (blk_below (blk_drew HX.out) hb8 (blk_lt HX.out))
               have HY1 := Lib.hid (blk_below (blk_drew HY.out) hb8 (blk_lt HY.out))
               have HZ1 := Lib.hid (blk_below (blk_drew HZ.out) hb8 (blk_lt HZ.out))
               have HBk1 := Lib.hid ((below_drew HB3.out).trans (hb8.mono HB3.out.size))
               clear HX HY HZ HB3 hb8 HR)
            | (go_at_call 19
               (with_reducible refine (HP.out _).mono ?_)
               rintro e w9 ⟨rfl, hb9⟩
               have HX2 := Lib.hid (blk_below HX1.out hb9 (blk_lt HX1.out))
               have HY2 := Lib.hid (blk_below HY1.out hb9 (blk_lt HY1.out))
               have HZ2 := Lib.hid (blk_below HZ1.out hb9 (blk_lt HZ1.out))
               have HBk2 := Lib.hid (HBk1.out.trans (hb9.mono HBk1.out.size))
               clear HX1 HY1 HZ1 HBk1 hb9 HP))
        have y0 := blk_frozen HY2.out 0
        have y1 := blk_frozen HY2.out 1
        have y2 := blk_frozen HY2.out 2
        have y3 := blk_frozen HY2.out 3
        have y4 := blk_frozen HY2.out 4
        have d0 := blk_cell HY2.out 0
        have d1 := blk_cell HY2.out 1
        have d2 := blk_cell HY2.out 2
        have d3 := blk_cell HY2.out 3
        have d4 := blk_cell HY2.out 4
        have ly := blk_lt HY2.out
        clear hW3 e1 e2 e3 e4 e5 e6 e7 e8 e9 e10 e11 e12 e13 e14 e15 e16 n2
        go_wp2_with fail
        have s0 := blk_set HY2.out 0 (.int .i64 0)
        have s1 := blk_set s0 1 (.int .i64 0)
        have s2 := blk_set s1 2 (.int .i64 0)
        have s3 := blk_set s2 3 (.int .i64 0)
        have s4 := blk_set s3 4 (.int .i64 0)
        have hbW := (((((HBk2.out.setCell (p := ⟨w.heap.size + 1, 0, none⟩) (by simp) (.int .i64 0)).setCell (p := ⟨w.heap.size + 1, 1, none⟩) (by simp) (.int .i64 0)).setCell (p := ⟨w.heap.size + 1, 2, none⟩) (by simp) (.int .i64 0)).setCell (p := ⟨w.heap.size + 1, 3, none⟩) (by simp) (.int .i64 0)).setCell (p := ⟨w.heap.size + 1, 4, none⟩) (by simp) (.int .i64 0))
        generalize (World.setCell (World.setCell (World.setCell (World.setCell (World.setCell w9 ⟨w.heap.size + 1, 0, none⟩ (.int .i64 0)) ⟨w.heap.size + 1, 1, none⟩ (.int .i64 0)) ⟨w.heap.size + 1, 2, none⟩ (.int .i64 0)) ⟨w.heap.size + 1, 3, none⟩ (.int .i64 0)) ⟨w.heap.size + 1, 4, none⟩ (.int .i64 0)) = W at s4 hbW ⊢
        clear s0 s1 s2 s3
        have k0 := blk_cell s4 0
        have k1 := blk_cell s4 1
        have k2 := blk_cell s4 2
        have k3 := blk_cell s4 3
        have k4 := blk_cell s4 4
        refine bodyPost_ret (v := .tuple #[.agg #[.int .i64 0, .int .i64 0, .int .i64 0, .int .i64 0, .int .i64 0], .bool false]) ?_ rfl ⟨by rw [HS.out]; rfl, hbW⟩
        simp [results, Tryd.results20, go_sem, k0, k1, k2, k3, k4]
    · have HS := Lib.hid (HNo2.out (.inl q1))
      have b1 : (PA == (x : Int)) = false := beq_eq_false_iff_ne.2 q1
      clear HNo2 HYes2 q1
      have n2 := neq2
      have g2 := guard2
      go_enter Tryd.func20, Tryd.ntmps20
      go_wp2_with fail
      go_region_held3 (fun w' => w'.cell? ⟨w.heap.size + 1 + 1, 0, none⟩ = some (.int .i64 a) ∧ w'.cell? ⟨w.heap.size + 1 + 1, 1, none⟩ = some (.int .i64 b) ∧ w'.cell? ⟨w.heap.size + 1 + 1, 2, none⟩ = some (.int .i64 p) ∧ w'.cell? ⟨w.heap.size + 1 + 1, 3, none⟩ = some (.int .i64 r) ∧ w'.cell? ⟨w.heap.size + 1 + 1, 4, none⟩ = some (.int .i64 c) ∧ w'.cell? ⟨w.heap.size, 0, none⟩ = some (.int .u64 x) ∧ w'.cell? ⟨w.heap.size, 1, none⟩ = some (.int .u64 y))
        (first
          | exact ⟨blk_cell HX2.out 0, blk_cell HX2.out 1, blk_cell HX2.out 2, blk_cell HX2.out 3, blk_cell HX2.out 4, blk_cell HZ2.out 0, blk_cell HZ2.out 1⟩
          | exact ⟨blk_cell HX1.out 0, blk_cell HX1.out 1, blk_cell HX1.out 2, blk_cell HX1.out 3, blk_cell HX1.out 4, blk_cell HZ1.out 0, blk_cell HZ1.out 1⟩
          | exact ⟨blk_cell HX.out 0, blk_cell HX.out 1, blk_cell HX.out 2, blk_cell HX.out 3, blk_cell HX.out 4, blk_cell HZ.out 0, blk_cell HZ.out 1⟩)
        (first
          | (go_at_call 15
             (with_reducible refine (HR.out _).mono ?_)
             rintro e w8 ⟨rfl, hb8⟩
             have HX1 := Lib.hid (blk_below (blk_drew HX.out) hb8 (blk_lt HX.out))
             have HY1 := Lib.hid (blk_below (blk_drew HY.out) hb8 (blk_lt HY.out))
             have HZ1 := Lib.hid (blk_below (blk_drew HZ.out) hb8 (blk_lt HZ.out))
             have HBk1 := Lib.hid ((below_drew HB3.out).trans (hb8.mono HB3.out.size))
             clear HX HY HZ HB3 hb8 HR)
          | (go_at_call 19
             (with_reducible refine (HP.out _).mono ?_)
             rintro e w9 ⟨rfl, hb9⟩
             have HX2 := Lib.hid (blk_below HX1.out hb9 (blk_lt HX1.out))
             have HY2 := Lib.hid (blk_below HY1.out hb9 (blk_lt HY1.out))
             have HZ2 := Lib.hid (blk_below HZ1.out hb9 (blk_lt HZ1.out))
             have HBk2 := Lib.hid (HBk1.out.trans (hb9.mono HBk1.out.size))
             clear HX1 HY1 HZ1 HBk1 hb9 HP))
      have y0 := blk_frozen HY2.out 0
      have y1 := blk_frozen HY2.out 1
      have y2 := blk_frozen HY2.out 2
      have y3 := blk_frozen HY2.out 3
      have y4 := blk_frozen HY2.out 4
      have d0 := blk_cell HY2.out 0
      have d1 := blk_cell HY2.out 1
      have d2 := blk_cell HY2.out 2
      have d3 := blk_cell HY2.out 3
      have d4 := blk_cell HY2.out 4
      have ly := blk_lt HY2.out
      clear hW3 e1 e2 e3 e4 e5 e6 e7 e8 e9 e10 e11 e12 e13 e14 e15 e16 n2
      go_wp2_with fail
      have s0 := blk_set HY2.out 0 (.int .i64 0)
      have s1 := blk_set s0 1 (.int .i64 0)
      have s2 := blk_set s1 2 (.int .i64 0)
      have s3 := blk_set s2 3 (.int .i64 0)
      have s4 := blk_set s3 4 (.int .i64 0)
      have hbW := (((((HBk2.out.setCell (p := ⟨w.heap.size + 1, 0, none⟩) (by simp) (.int .i64 0)).setCell (p := ⟨w.heap.size + 1, 1, none⟩) (by simp) (.int .i64 0)).setCell (p := ⟨w.heap.size + 1, 2, none⟩) (by simp) (.int .i64 0)).setCell (p := ⟨w.heap.size + 1, 3, none⟩) (by simp) (.int .i64 0)).setCell (p := ⟨w.heap.size + 1, 4, none⟩) (by simp) (.int .i64 0))
      generalize (World.setCell (World.setCell (World.setCell (World.setCell (World.setCell w9 ⟨w.heap.size + 1, 0, none⟩ (.int .i64 0)) ⟨w.heap.size + 1, 1, none⟩ (.int .i64 0)) ⟨w.heap.size + 1, 2, none⟩ (.int .i64 0)) ⟨w.heap.size + 1, 3, none⟩ (.int .i64 0)) ⟨w.heap.size + 1, 4, none⟩ (.int .i64 0)) = W at s4 hbW ⊢
      clear s0 s1 s2 s3
      have k0 := blk_cell s4 0
      have k1 := blk_cell s4 1
      have k2 := blk_cell s4 2
      have k3 := blk_cell s4 3
      have k4 := blk_cell s4 4
      refine bodyPost_ret (v := .tuple #[.agg #[.int .i64 0, .int .i64 0, .int .i64 0, .int .i64 0, .int .i64 0], .bool false]) ?_ rfl ⟨by rw [HS.out]; rfl, hbW⟩
      simp [results, Tryd.results20, go_sem, k0, k1, k2, k3, k4]
  · rw [decide_eq_false hok] at HR
    have HS := Lib.hid (HNo.out (.inl hok))
    clear HNo HYes hok
    unfold tgV at HR
    dsimp only at HR
    have n2 := neq2
    have g2 := guard2
    go_enter Tryd.func20, Tryd.ntmps20
    go_wp2_with fail
    have x0 := blk_cell HX.out 0
    have x1 := blk_cell HX.out 1
    have x2 := blk_cell HX.out 2
    have x3 := blk_cell HX.out 3
    have x4 := blk_cell HX.out 4
    go_region_with
      (go_at_call 15
       (with_reducible refine (HR.out _).mono ?_)
       rintro e w8 ⟨rfl, hb8⟩
       have HY1 := Lib.hid (blk_below (blk_drew HY.out) hb8 (blk_lt HY.out))
       have HBk1 := Lib.hid ((below_drew HB3.out).trans (hb8.mono HB3.out.size))
       clear hb8)
    all_goals
      have y0 := blk_frozen HY1.out 0
      have y1 := blk_frozen HY1.out 1
      have y2 := blk_frozen HY1.out 2
      have y3 := blk_frozen HY1.out 3
      have y4 := blk_frozen HY1.out 4
      have d0 := blk_cell HY1.out 0
      have d1 := blk_cell HY1.out 1
      have d2 := blk_cell HY1.out 2
      have d3 := blk_cell HY1.out 3
      have d4 := blk_cell HY1.out 4
      have ly := blk_lt HY1.out
      clear hW3 e1 e2 e3 e4 e5 e6 e7 e8 e9 e10 e11 e12 e13 e14 e15 e16 n2
      clear x0 x1 x2 x3 x4 g2
      show Exit.then _ _ Exit.normal (Act.put _ (some 38) _) _
      simp only [Act.put, List.setIfInBounds_toArray, List.set_cons_zero, List.set_cons_succ]
      rename_i K0 a0
      refine a0 _ _ ?_
      clear a0 K0
      go_wp2_with fail
      have s0 := blk_set HY1.out 0 (.int .i64 0)
      have s1 := blk_set s0 1 (.int .i64 0)
      have s2 := blk_set s1 2 (.int .i64 0)
      have s3 := blk_set s2 3 (.int .i64 0)
      have s4 := blk_set s3 4 (.int .i64 0)
      have hbW := (((((HBk1.out.setCell (p := ⟨w.heap.size + 1, 0, none⟩) (by simp) (.int .i64 0)).setCell (p := ⟨w.heap.size + 1, 1, none⟩) (by simp) (.int .i64 0)).setCell (p := ⟨w.heap.size + 1, 2, none⟩) (by simp) (.int .i64 0)).setCell (p := ⟨w.heap.size + 1, 3, none⟩) (by simp) (.int .i64 0)).setCell (p := ⟨w.heap.size + 1, 4, none⟩) (by simp) (.int .i64 0))
      generalize (World.setCell (World.setCell (World.setCell (World.setCell (World.setCell w8 ⟨w.heap.size + 1, 0, none⟩ (.int .i64 0)) ⟨w.heap.size + 1, 1, none⟩ (.int .i64 0)) ⟨w.heap.size + 1, 2, none⟩ (.int .i64 0)) ⟨w.heap.size + 1, 3, none⟩ (.int .i64 0)) ⟨w.heap.size + 1, 4, none⟩ (.int .i64 0)) = W at s4 hbW ⊢
      clear s0 s1 s2 s3
      have k0 := blk_cell s4 0
      have k1 := blk_cell s4 1
      have k2 := blk_cell s4 2
      have k3 := blk_cell s4 3
      have k4 := blk_cell s4 4
      refine bodyPost_ret (v := .tuple #[.agg #[.int .i64 0, .int .i64 0, .int .i64 0, .int .i64 0, .int .i64 0], .bool false]) ?_ rfl ⟨by rw [HS.out]; rfl, hbW⟩
      simp [results, Tryd.results20, go_sem, k0, k1, k2, k3, k4]

end Go.Proofs.YtajilipbnfpemaaDoor
