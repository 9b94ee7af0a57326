/- Walks: Unpack of tags, the heads of a tag's text, the order of tags. Conditions: none. -/
import Derived.Test.YtajilipbnfpemaaDoorTag
import Derived.Test.YtajilipbnfpemaaDoorShelf
namespace Go.Proofs.YtajilipbnfpemaaDoor
open Go.RowKit

/-- The words of a tag that two numbers are. -/
theorem unp_word (x y : Nat) (hx : x < 18446744073709551616) (hy : y < 18446744073709551616) : ∃ a b k p r c : Nat, (x : Int) / 1048576 = (a : Int) ∧ bits .and .u64 (x : Int) 1048575 = (b : Int) ∧ (y : Int) / 1048576 = (k : Int) ∧ IntKind.i64.wrap (a : Int) = (a : Int) ∧ IntKind.i64.wrap (b : Int) = (b : Int) ∧ IntKind.i64.wrap (k : Int) = (k : Int) ∧
    (k : Int) / 64 = (p : Int) ∧ bits .and .i64 (k : Int) 63 = (r : Int) ∧ bits .and .u64 (y : Int) 1048575 = (c : Int) ∧ IntKind.i64.wrap (c : Int) = (c : Int) ∧ unpT x y = ⟨a, b, p, r, c⟩ := by
  have a1 : x &&& 1048575 = x % 1048576 := Nat.and_two_pow_sub_one_eq_mod x 20
  have a2 : y &&& 1048575 = y % 1048576 := Nat.and_two_pow_sub_one_eq_mod y 20
  have a3 : (y / 1048576) &&& 63 = y / 1048576 % 64 := Nat.and_two_pow_sub_one_eq_mod _ 6
  refine ⟨x / 1048576, x % 1048576, y / 1048576, y / 1048576 / 64, y / 1048576 % 64, y % 1048576, by omega, ?_, by omega, ?_, ?_, ?_, by omega, ?_, ?_, ?_, ?_⟩
  · have := u64_and_nat x 1048575 hx (by omega); rw [a1] at this; exact this
  · rw [IntKind.wrap_i64]; omega
  · rw [IntKind.wrap_i64]; omega
  · rw [IntKind.wrap_i64]; omega
  · have := i64_and_nat (y / 1048576) 63 (by omega) (by omega); rw [a3] at this; exact this
  · have := u64_and_nat y 1048575 hy (by omega); rw [a2] at this; exact this
  · rw [IntKind.wrap_i64]; omega
  · unfold unpT
    simp only [Tg.mk.injEq]
    omega

theorem unpS_big {x y : Int} (h : 1099511627776 ≤ x ∨ 1099511627776 ≤ y) : unpS x y = (tg0, false) := by
  unfold unpS
  rw [if_neg]
  unfold tagOk unpT
  dsimp only
  omega

set_option maxHeartbeats 1000000 in
theorem unpack_any (x y : Nat) (hx : x < 18446744073709551616) (hy : y < 18446744073709551616) (w : World) :
    Calls Tryd.prog 18 #[.agg #[.int .u64 x, .int .u64 y]] w fun e w' => e = .returned (.tuple #[tgV (unpS x y).1, .bool (unpS x y).2]) ∧ Below w.heap.size w w' := by
  have HB := Lib.hid ((Below.refl w.heap.size w).alloc (Nat.le_refl _) (.cells #[.int .u64 x, .int .u64 y] 25))
  by_cases h1 : 1099511627776 ≤ x
  · have HU := Lib.hid (unpS_big (x := x) (y := y) (.inl (by omega)))
    have hd : (0 : Int) < (x : Int) / 1099511627776 := by omega
    clear h1 hx hy
    go_enter Tryd.func18, Tryd.ntmps18
    go_wp2_with fail
    refine bodyPost_ret (v := .tuple #[.agg #[.int .i64 0, .int .i64 0, .int .i64 0, .int .i64 0, .int .i64 0], .bool false]) ?_ rfl ⟨by rw [HU.out]; rfl, HB.out.alloc (by simp) _⟩
    simp [results, Tryd.results18, go_sem]
  by_cases h2 : 1099511627776 ≤ y
  · have HU := Lib.hid (unpS_big (x := x) (y := y) (.inr (by omega)))
    have hd : ¬ (0 : Int) < (x : Int) / 1099511627776 := by omega
    have hd2 : (0 : Int) < (y : Int) / 1099511627776 := by omega
    clear h1 h2 hx hy
    go_enter Tryd.func18, Tryd.ntmps18
    go_wp2_with fail
    refine bodyPost_ret (v := .tuple #[.agg #[.int .i64 0, .int .i64 0, .int .i64 0, .int .i64 0, .int .i64 0], .bool false]) ?_ rfl ⟨by rw [HU.out]; rfl, HB.out.alloc (by simp) _⟩
    simp [results, Tryd.results18, go_sem]
  have hd : ¬ (0 : Int) < (x : Int) / 1099511627776 := by omega
  have hd2 : ¬ (0 : Int) < (y : Int) / 1099511627776 := by omega
  obtain ⟨a, b, k, p, r, c, e1, e2, e3, e4, e5, e6, e7, e8, e9, e10, eU⟩ := unp_word x y hx hy
  have hS : unpS x y = if tagOk (unpT x y) then (unpT x y, true) else (tg0, false) := rfl
  rw [eU] at hS
  clear h1 h2 hx hy eU
  have HR := Lib.hid (fun W => right_any ⟨a, b, p, r, c⟩ W)
  by_cases hok : tagOk ⟨a, b, p, r, c⟩
  · rw [if_pos hok] at hS
    rw [decide_eq_true hok] at HR
    have HS := Lib.hid hS
    clear hS hok
    unfold tgV at HR
    dsimp only at HR
    go_enter Tryd.func18, Tryd.ntmps18
    go_wp2_with fail
    (with_reducible refine (HR.out _).mono ?_)
    rintro e w1 ⟨rfl, hb1⟩
    have Z0 := heap_alloc_new ((w.alloc (.cells #[.int .u64 x, .int .u64 y] 25)).alloc (.cells #[.int .i64 0, .int .i64 0, .int .i64 0, .int .i64 0, .int .i64 0] 23)) (.cells #[.int .i64 a, .int .i64 b, .int .i64 p, .int .i64 r, .int .i64 c] 23)
    rw [World.size_alloc, World.size_alloc] at Z0
    have Z1 := Lib.hid (blk_below Z0 hb1 (by rw [World.size_alloc, World.size_alloc, World.size_alloc]; omega))
    have Y0 := blk_alloc (blk_new (show (w.alloc (.cells #[.int .u64 x, .int .u64 y] 25)).heap.size = w.heap.size + 1 by simp) (.cells #[.int .i64 0, .int .i64 0, .int .i64 0, .int .i64 0, .int .i64 0] 23)) (.cells #[.int .i64 a, .int .i64 b, .int .i64 p, .int .i64 r, .int .i64 c] 23)
    have Z2 := Lib.hid (blk_below Y0 hb1 (by rw [World.size_alloc, World.size_alloc, World.size_alloc]; omega))
    have HB1 := Lib.hid (((HB.out.alloc (by simp) (.cells #[.int .i64 0, .int .i64 0, .int .i64 0, .int .i64 0, .int .i64 0] 23)).alloc (by rw [World.size_alloc, World.size_alloc]; omega) (.cells #[.int .i64 a, .int .i64 b, .int .i64 p, .int .i64 r, .int .i64 c] 23)).trans (hb1.mono (by rw [World.size_alloc, World.size_alloc, World.size_alloc]; omega)))
    clear hb1 Z0 Y0
    have c0 := blk_cell Z1.out 0
    have c1 := blk_cell Z1.out 1
    have c2 := blk_cell Z1.out 2
    have c3 := blk_cell Z1.out 3
    have c4 := blk_cell Z1.out 4
    have d0 := blk_cell Z2.out 0
    have d1 := blk_cell Z2.out 1
    have d2 := blk_cell Z2.out 2
    have d3 := blk_cell Z2.out 3
    have d4 := blk_cell Z2.out 4
    have z0 := blk_frozen Z2.out 0
    have z1 := blk_frozen Z2.out 1
    have z2 := blk_frozen Z2.out 2
    have z3 := blk_frozen Z2.out 3
    have z4 := blk_frozen Z2.out 4
    have l1 := blk_lt Z1.out
    have l2 := blk_lt Z2.out
    go_wp2_with fail
    have s0 := blk_set Z2.out 0 (.int .i64 a)
    have s1 := blk_set s0 1 (.int .i64 b)
    have s2 := blk_set s1 2 (.int .i64 p)
    have s3 := blk_set s2 3 (.int .i64 r)
    have s4 := blk_set s3 4 (.int .i64 c)
    have hbW := ((((HB1.out.setCell (p := ⟨w.heap.size + 1, 0, none⟩) (by simp) (.int .i64 a)).setCell (p := ⟨w.heap.size + 1, 1, none⟩) (by simp) (.int .i64 b)).setCell (p := ⟨w.heap.size + 1, 2, none⟩) (by simp) (.int .i64 p)).setCell (p := ⟨w.heap.size + 1, 3, none⟩) (by simp) (.int .i64 r)).setCell (p := ⟨w.heap.size + 1, 4, none⟩) (by simp) (.int .i64 c)
    generalize (World.setCell (World.setCell (World.setCell (World.setCell (World.setCell w1 ⟨w.heap.size + 1, 0, none⟩ (.int .i64 a)) ⟨w.heap.size + 1, 1, none⟩ (.int .i64 b)) ⟨w.heap.size + 1, 2, none⟩ (.int .i64 p)) ⟨w.heap.size + 1, 3, none⟩ (.int .i64 r)) ⟨w.heap.size + 1, 4, none⟩ (.int .i64 c)) = W at s4 hbW ⊢
    clear s0 s1 s2 s3
    have k0 := blk_cell s4 0
    have k1 := blk_cell s4 1
    have k2 := blk_cell s4 2
    have k3 := blk_cell s4 3
    have k4 := blk_cell s4 4
    refine bodyPost_ret (v := .tuple #[.agg #[.int .i64 a, .int .i64 b, .int .i64 p, .int .i64 r, .int .i64 c], .bool true]) ?_ rfl ⟨by rw [HS.out]; rfl, hbW⟩
    simp [results, Tryd.results18, go_sem, k0, k1, k2, k3, k4]
  · rw [if_neg hok] at hS
    rw [decide_eq_false hok] at HR
    have HS := Lib.hid hS
    clear hS hok
    unfold tgV at HR
    dsimp only at HR
    go_enter Tryd.func18, Tryd.ntmps18
    go_wp2_with fail
    (with_reducible refine (HR.out _).mono ?_)
    rintro e w1 ⟨rfl, hb1⟩
    have Y0 := blk_alloc (blk_new (show (w.alloc (.cells #[.int .u64 x, .int .u64 y] 25)).heap.size = w.heap.size + 1 by simp) (.cells #[.int .i64 0, .int .i64 0, .int .i64 0, .int .i64 0, .int .i64 0] 23)) (.cells #[.int .i64 a, .int .i64 b, .int .i64 p, .int .i64 r, .int .i64 c] 23)
    have Z2 := Lib.hid (blk_below Y0 hb1 (by rw [World.size_alloc, World.size_alloc, World.size_alloc]; omega))
    have HB1 := Lib.hid (((HB.out.alloc (by simp) (.cells #[.int .i64 0, .int .i64 0, .int .i64 0, .int .i64 0, .int .i64 0] 23)).alloc (by rw [World.size_alloc, World.size_alloc]; omega) (.cells #[.int .i64 a, .int .i64 b, .int .i64 p, .int .i64 r, .int .i64 c] 23)).trans (hb1.mono (by rw [World.size_alloc, World.size_alloc, World.size_alloc]; omega)))
    clear hb1 Y0
    have d0 := blk_cell Z2.out 0
    have d1 := blk_cell Z2.out 1
    have d2 := blk_cell Z2.out 2
    have d3 := blk_cell Z2.out 3
    have d4 := blk_cell Z2.out 4
    have z0 := blk_frozen Z2.out 0
    have z1 := blk_frozen Z2.out 1
    have z2 := blk_frozen Z2.out 2
    have z3 := blk_frozen Z2.out 3
    have z4 := blk_frozen Z2.out 4
    have l2 := blk_lt Z2.out
    go_wp2_with fail
    have s0 := blk_set Z2.out 0 (.int .i64 0)
    have s1 := blk_set s0 1 (.int .i64 0)
    have s2 := blk_set s1 2 (.int .i64 0)
    have s3 := blk_set s2 3 (.int .i64 0)
    have s4 := blk_set s3 4 (.int .i64 0)
    have hbW := ((((HB1.out.setCell (p := ⟨w.heap.size + 1, 0, none⟩) (by simp) (.int .i64 0)).setCell (p := ⟨w.heap.size + 1, 1, none⟩) (by simp) (.int .i64 0)).setCell (p := ⟨w.heap.size + 1, 2, none⟩) (by simp) (.int .i64 0)).setCell (p := ⟨w.heap.size + 1, 3, none⟩) (by simp) (.int .i64 0)).setCell (p := ⟨w.heap.size + 1, 4, none⟩) (by simp) (.int .i64 0)
    generalize (World.setCell (World.setCell (World.setCell (World.setCell (World.setCell w1 ⟨w.heap.size + 1, 0, none⟩ (.int .i64 0)) ⟨w.heap.size + 1, 1, none⟩ (.int .i64 0)) ⟨w.heap.size + 1, 2, none⟩ (.int .i64 0)) ⟨w.heap.size + 1, 3, none⟩ (.int .i64 0)) ⟨w.heap.size + 1, 4, none⟩ (.int .i64 0)) = W at s4 hbW ⊢
    clear s0 s1 s2 s3
    have k0 := blk_cell s4 0
    have k1 := blk_cell s4 1
    have k2 := blk_cell s4 2
    have k3 := blk_cell s4 3
    have k4 := blk_cell s4 4
    refine bodyPost_ret (v := .tuple #[.agg #[.int .i64 0, .int .i64 0, .int .i64 0, .int .i64 0, .int .i64 0], .bool false]) ?_ rfl ⟨by rw [HS.out]; rfl, hbW⟩
    simp [results, Tryd.results18, go_sem, k0, k1, k2, k3, k4]

end Go.Proofs.YtajilipbnfpemaaDoor
