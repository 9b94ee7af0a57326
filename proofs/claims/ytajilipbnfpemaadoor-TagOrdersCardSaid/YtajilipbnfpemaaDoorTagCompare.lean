/- Walks: the order of tags. Conditions: none. -/
import Derived.Test.YtajilipbnfpemaaDoorRefTag
import Derived.Test.YtajilipbnfpemaaDoorEqAgg
import Derived.Deep.DeepCutAuto
namespace Go.Proofs.YtajilipbnfpemaaDoor
open Go.RowKit

theorem compareInt_any (x y : Int) (w : World) : Calls Tryd.prog 56 #[.int .i64 x, .int .i64 y] w fun e w' => e = .returned (.int .i64 (cmpI x y)) ∧ w = w' := by
  refine (Tryd.cmp_Compare_int x y w).mono fun e w' h => ⟨?_, h.2.symm⟩
  rw [h.1]
  congr 1

theorem same_of {P : Program} {f : FuncId} {args : Array Value} {w : World} {v : Value} (h : Calls P f args w fun e w' => e = .returned v ∧ w = w') : Calls P f args w fun e w' => e = .returned v ∧ w' = w :=
  h.mono fun _ _ ⟨a, b⟩ => ⟨a, b.symm⟩
theorem isNaN64_any (x : Int) (w : World) : Calls Tryd.prog 57 #[.int .u64 x] w fun e w' => e = .returned (.bool false) ∧ w = w' := by
  go_enter Tryd.func57, Tryd.ntmps57
  go_wp2
  go_ret
  exact ⟨by simp, rfl⟩

theorem compareU64_any (x y : Int) (w : World) : Calls Tryd.prog 34 #[.int .u64 x, .int .u64 y] w fun e w' => e = .returned (.int .i64 (cmpI x y)) ∧ w = w' := by
  have HX := Lib.hid (isNaN64_any x w)
  have HY := Lib.hid (isNaN64_any y w)
  rcases Int.lt_trichotomy x y with h | h | h
  · have HC := Lib.hid (show cmpI x y = -1 by simp [cmpI, h])
    go_enter Tryd.func34, Tryd.ntmps34
    go_wp2_with fail
    (with_reducible refine HX.out.mono ?_)
    rintro e w1 ⟨rfl, rfl⟩
    go_wp2_with fail
    (with_reducible refine HY.out.mono ?_)
    rintro e w1 ⟨rfl, rfl⟩
    go_wp2_with fail
    go_ret
    exact ⟨by rw [HC.out]; rfl, rfl⟩
  · have HC := Lib.hid (show cmpI x y = 0 by simp [cmpI, h])
    have h1 : ¬ x < y := by omega
    have h2 : ¬ y < x := by omega
    clear h
    go_enter Tryd.func34, Tryd.ntmps34
    go_wp2_with fail
    (with_reducible refine HX.out.mono ?_)
    rintro e w1 ⟨rfl, rfl⟩
    go_wp2_with fail
    (with_reducible refine HY.out.mono ?_)
    rintro e w1 ⟨rfl, rfl⟩
    go_wp2_with fail
    go_ret
    exact ⟨by rw [HC.out]; rfl, rfl⟩
  · have h1 : ¬ x < y := by omega
    have HC := Lib.hid (show cmpI x y = 1 by simp [cmpI, h, h1])
    go_enter Tryd.func34, Tryd.ntmps34
    go_wp2_with fail
    (with_reducible refine HX.out.mono ?_)
    rintro e w1 ⟨rfl, rfl⟩
    go_wp2_with fail
    (with_reducible refine HY.out.mono ?_)
    rintro e w1 ⟨rfl, rfl⟩
    go_wp2_with fail
    go_ret
    exact ⟨by rw [HC.out]; rfl, rfl⟩

/-- The first of two numbers that is not nought. -/
theorem or_any (g : Nat) (a b : Int) (w : World) (c0 : w.cell? ⟨g, 0, none⟩ = some (.int .i64 a)) (c1 : w.cell? ⟨g, 1, none⟩ = some (.int .i64 b)) :
    Calls Tryd.prog 33 #[.slice (some ⟨g, 0, none⟩) 2 2] w fun e w' => e = .returned (.int .i64 (orI a b)) ∧ w = w' := by
  go_enter Tryd.func33, Tryd.ntmps33
  go_wp2_with fail
  go_loop [5, 8] (fun _ i => ∃ k : Nat, k ≤ 2 ∧ i = .int .i64 k ∧ (0 < k → a = 0) ∧ (1 < k → b = 0)) (fun _ i => 2 - (intOf i).toNat)
  case atStart => exact ⟨0, by decide, rfl, fun h => absurd h (by decide), fun h => absurd h (by decide)⟩
  case round =>
    obtain ⟨k, hk, rfl, h0, h1⟩ := hrel
    have H0 := Lib.hid h0
    have H1 := Lib.hid h1
    clear h0 h1
    have hc : k = 0 ∨ k = 1 ∨ k = 2 := by omega
    rcases hc with rfl | rfl | rfl
    · by_cases ha : a = 0
      · have e0 : (a != 0) = false := by simp [ha]
        have HA := Lib.hid ha
        clear ha
        go_wp2_with fail
        go_round
        case rel => exact ⟨1, by decide, by go_num, fun _ => HA.out, fun h => absurd h (by decide)⟩
        case measure => simp [intOf]
      · have e0 : (a != 0) = true := by simp [ha]
        have HA := Lib.hid (show orI a b = a by simp [orI, ha])
        clear ha
        go_wp2_with fail
        go_ret
        exact ⟨by rw [HA.out]; rfl, rfl⟩
    · have ha := H0.out (by decide)
      by_cases hb : b = 0
      · have e0 : (b != 0) = false := by simp [hb]
        have HA := Lib.hid ha
        have HB := Lib.hid hb
        clear ha hb
        go_wp2_with fail
        go_round
        case rel => exact ⟨2, by decide, by go_num, fun _ => HA.out, fun _ => HB.out⟩
        case measure => simp [intOf]
      · have e0 : (b != 0) = true := by simp [hb]
        have HA := Lib.hid (show orI a b = b by simp [orI, ha])
        clear ha hb
        go_wp2_with fail
        go_ret
        exact ⟨by rw [HA.out]; rfl, rfl⟩
    · have HA := Lib.hid (show orI a b = 0 by simp [orI, H0.out (by decide), H1.out (by decide)])
      go_wp2_with fail
      go_ret
      exact ⟨by rw [HA.out]; rfl, rfl⟩

theorem newAt {w : World} {n : Nat} (h : w.heap.size = n) (o : Obj) : (w.alloc o).heap[n]? = some o := by subst h; exact heap_alloc_new w o

theorem size_two (w : World) (o o' : Obj) : ((w.alloc o).alloc o').heap.size = w.heap.size + 2 := by simp
theorem size_three (w : World) (o o' o'' : Obj) : (((w.alloc o).alloc o').alloc o'').heap.size = w.heap.size + 3 := by simp
theorem blk_keep {W w' : World} {g : Nat} {o : Obj} (h : W.heap[g]? = some o) (hb : Below W.heap.size W w') : w'.heap[g]? = some o := blk_below h hb (blk_lt h)

/-- The cells of two tags. -/
@[reducible] def TagCells (x : Nat) (a0 a1 a2 a3 a4 b0 b1 b2 b3 b4 : Int) (w' : World) : Prop :=
  w'.cell? ⟨x, 0, none⟩ = some (.int .i64 a0) ∧ w'.cell? ⟨x, 1, none⟩ = some (.int .i64 a1) ∧ w'.cell? ⟨x, 2, none⟩ = some (.int .i64 a2) ∧ w'.cell? ⟨x, 3, none⟩ = some (.int .i64 a3) ∧ w'.cell? ⟨x, 4, none⟩ = some (.int .i64 a4) ∧ w'.cell? ⟨x + 1, 0, none⟩ = some (.int .i64 b0) ∧ w'.cell? ⟨x + 1, 1, none⟩ = some (.int .i64 b1) ∧ w'.cell? ⟨x + 1, 2, none⟩ = some (.int .i64 b2) ∧ w'.cell? ⟨x + 1, 3, none⟩ = some (.int .i64 b3) ∧ w'.cell? ⟨x + 1, 4, none⟩ = some (.int .i64 b4)

theorem TagCells.by_ {x : Nat} {a0 a1 a2 a3 a4 b0 b1 b2 b3 b4 : Int} {w w' : World} (h : TagCells x a0 a1 a2 a3 a4 b0 b1 b2 b3 b4 w) (hk : ∀ p : Addr, p.block = x ∨ p.block = x + 1 → w'.cell? p = w.cell? p) : TagCells x a0 a1 a2 a3 a4 b0 b1 b2 b3 b4 w' := by
  obtain ⟨h0, h1, h2, h3, h4, h5, h6, h7, h8, h9⟩ := h
  exact ⟨(hk _ (.inl rfl)).trans h0, (hk _ (.inl rfl)).trans h1, (hk _ (.inl rfl)).trans h2, (hk _ (.inl rfl)).trans h3, (hk _ (.inl rfl)).trans h4, (hk _ (.inr rfl)).trans h5, (hk _ (.inr rfl)).trans h6, (hk _ (.inr rfl)).trans h7, (hk _ (.inr rfl)).trans h8, (hk _ (.inr rfl)).trans h9⟩
theorem TagCells.lt {x : Nat} {a0 a1 a2 a3 a4 b0 b1 b2 b3 b4 : Int} {w : World} (h : TagCells x a0 a1 a2 a3 a4 b0 b1 b2 b3 b4 w) : ∀ p : Addr, p.block = x ∨ p.block = x + 1 → p.block < w.heap.size := by
  rintro p (hp | hp)
  · rw [hp]; exact World.block_lt_of_cell? w _ h.1
  · rw [hp]; exact World.block_lt_of_cell? w _ h.2.2.2.2.2.1
theorem TagCells.below {x : Nat} {a0 a1 a2 a3 a4 b0 b1 b2 b3 b4 : Int} {w w' : World} (h : TagCells x a0 a1 a2 a3 a4 b0 b1 b2 b3 b4 w) (hb : Below w.heap.size w w') : TagCells x a0 a1 a2 a3 a4 b0 b1 b2 b3 b4 w' :=
  h.by_ fun p hp => hb.cell (h.lt p hp)
theorem TagCells.drew {x : Nat} {a0 a1 a2 a3 a4 b0 b1 b2 b3 b4 : Int} {w : World} (h : TagCells x a0 a1 a2 a3 a4 b0 b1 b2 b3 b4 w) : TagCells x a0 a1 a2 a3 a4 b0 b1 b2 b3 b4 w.drew := h
theorem TagCells.alloc {x : Nat} {a0 a1 a2 a3 a4 b0 b1 b2 b3 b4 : Int} {w : World} (h : TagCells x a0 a1 a2 a3 a4 b0 b1 b2 b3 b4 w) (o : Obj) : TagCells x a0 a1 a2 a3 a4 b0 b1 b2 b3 b4 (w.alloc o) :=
  h.by_ fun p hp => World.cell?_alloc_lt w o p (h.lt p hp)

theorem TagCells.set {x : Nat} {a0 a1 a2 a3 a4 b0 b1 b2 b3 b4 : Int} {w : World} (h : TagCells x a0 a1 a2 a3 a4 b0 b1 b2 b3 b4 w) {p : Addr} (hp : p.block ≠ x ∧ p.block ≠ x + 1) (u : Value) : TagCells x a0 a1 a2 a3 a4 b0 b1 b2 b3 b4 (w.setCell p u) :=
  h.by_ fun q hq => World.cell?_of_block (Below.heap_setCell w p u q.block (fun e => by
    rcases hq with hq | hq
    · exact hp.1 (by rw [← e, hq])
    · exact hp.2 (by rw [← e, hq])))

/-- The two arrays of the parts, as they lie. -/
def TwoArr (n : Nat) (w0 : World) (a0 a1 a2 a3 a4 b0 b1 b2 b3 b4 : Int) (s5 s6 : Value) (w' : World) : Prop :=
  ∃ g k, s5 = .pointer (some ⟨g, 0, none⟩) ∧ s6 = .pointer (some ⟨k, 0, none⟩) ∧ w'.heap[g]? = some (.cells #[.int .i64 a0, .int .i64 a1, .int .i64 a2, .int .i64 a3, .int .i64 a4] 69 (0, 0)) ∧ w'.heap[k]? = some (.cells #[.int .i64 b0, .int .i64 b1, .int .i64 b2, .int .i64 b3, .int .i64 b4] 69 (0, 0)) ∧ Below n w0 w'

@[reducible] def set5 (w : World) (g : Nat) (a0 a1 a2 a3 a4 : Int) : World := ((((w.setCell ⟨g, 0, none⟩ (.int .i64 a0)).setCell ⟨g, 1, none⟩ (.int .i64 a1)).setCell ⟨g, 2, none⟩ (.int .i64 a2)).setCell ⟨g, 3, none⟩ (.int .i64 a3)).setCell ⟨g, 4, none⟩ (.int .i64 a4)
@[reducible] def arr5 (a0 a1 a2 a3 a4 : Int) : Obj := .cells #[.int .i64 a0, .int .i64 a1, .int .i64 a2, .int .i64 a3, .int .i64 a4] 69 (0, 0)

theorem set5_at {w : World} {g : Nat} (h : w.heap[g]? = some (arr5 0 0 0 0 0)) (a0 a1 a2 a3 a4 : Int) : (set5 w g a0 a1 a2 a3 a4).heap[g]? = some (arr5 a0 a1 a2 a3 a4) := by
  have := blk_set (blk_set (blk_set (blk_set (blk_set h 0 (.int .i64 a0)) 1 (.int .i64 a1)) 2 (.int .i64 a2)) 3 (.int .i64 a3)) 4 (.int .i64 a4)
  simpa using this
theorem set5_far {w : World} {g k : Nat} {o : Obj} (h : w.heap[k]? = some o) (hne : k ≠ g) (a0 a1 a2 a3 a4 : Int) : (set5 w g a0 a1 a2 a3 a4).heap[k]? = some o :=
  blk_far (blk_far (blk_far (blk_far (blk_far h (by exact hne) _) (by exact hne) _) (by exact hne) _) (by exact hne) _) (by exact hne) _
theorem set5_size (w : World) (g : Nat) (a0 a1 a2 a3 a4 : Int) : (set5 w g a0 a1 a2 a3 a4).heap.size = w.heap.size := by simp [set5, World.setCell]
theorem set5_below {n : Nat} {w0 w : World} {g : Nat} (h : Below n w0 w) (hn : n ≤ g) (a0 a1 a2 a3 a4 : Int) : Below n w0 (set5 w g a0 a1 a2 a3 a4) :=
  ((((h.setCell (p := ⟨g, 0, none⟩) hn _).setCell (p := ⟨g, 1, none⟩) hn _).setCell (p := ⟨g, 2, none⟩) hn _).setCell (p := ⟨g, 3, none⟩) hn _).setCell (p := ⟨g, 4, none⟩) hn _

theorem arrs_kk {n : Nat} {w0 w : World} {g k : Nat} {a0 a1 a2 a3 a4 b0 b1 b2 b3 b4 : Int} (hg : w.heap[g]? = some (arr5 0 0 0 0 0)) (hk : w.heap[k]? = some (arr5 0 0 0 0 0)) (hne : g ≠ k) (hb : Below n w0 w) (h1 : n ≤ g) (h2 : n ≤ k) :
    TwoArr n w0 a0 a1 a2 a3 a4 b0 b1 b2 b3 b4 (.pointer (some ⟨g, 0, none⟩)) (.pointer (some ⟨k, 0, none⟩)) (set5 (set5 w g a0 a1 a2 a3 a4) k b0 b1 b2 b3 b4) :=
  ⟨g, k, rfl, rfl, set5_far (set5_at hg _ _ _ _ _) hne _ _ _ _ _, set5_at (set5_far hk (Ne.symm hne) _ _ _ _ _) _ _ _ _ _, set5_below (set5_below hb h1 _ _ _ _ _) h2 _ _ _ _ _⟩
theorem arrs_k1 {n : Nat} {w0 w : World} {g : Nat} {a0 a1 a2 a3 a4 b0 b1 b2 b3 b4 : Int} (hg : w.heap[g]? = some (arr5 0 0 0 0 0)) (hb : Below n w0 w) (h1 : n ≤ g) (h2 : n ≤ w.heap.size) :
    TwoArr n w0 a0 a1 a2 a3 a4 b0 b1 b2 b3 b4 (.pointer (some ⟨g, 0, none⟩)) (.pointer (some ⟨w.heap.size, 0, none⟩)) ((set5 w g a0 a1 a2 a3 a4).alloc (arr5 b0 b1 b2 b3 b4)) :=
  ⟨g, w.heap.size, rfl, rfl, blk_alloc (set5_at hg _ _ _ _ _) _, newAt (set5_size _ _ _ _ _ _ _) _, (set5_below hb h1 _ _ _ _ _).alloc (by rw [set5_size]; exact h2) _⟩
theorem arrs_k2 {n : Nat} {w0 w : World} {g : Nat} {a0 a1 a2 a3 a4 b0 b1 b2 b3 b4 : Int} (hg : w.heap[g]? = some (arr5 0 0 0 0 0)) (hb : Below n w0 w) (h1 : n ≤ g) (h2 : n ≤ w.heap.size) :
    TwoArr n w0 a0 a1 a2 a3 a4 b0 b1 b2 b3 b4 (.pointer (some ⟨w.heap.size, 0, none⟩)) (.pointer (some ⟨g, 0, none⟩)) ((set5 w g b0 b1 b2 b3 b4).alloc (arr5 a0 a1 a2 a3 a4)) :=
  ⟨w.heap.size, g, rfl, rfl, newAt (set5_size _ _ _ _ _ _ _) _, blk_alloc (set5_at hg _ _ _ _ _) _, (set5_below hb h1 _ _ _ _ _).alloc (by rw [set5_size]; exact h2) _⟩
theorem arrs_f1 {n : Nat} {w0 w : World} {a0 a1 a2 a3 a4 b0 b1 b2 b3 b4 : Int} (hb : Below n w0 w) (h2 : n ≤ w.heap.size) :
    TwoArr n w0 a0 a1 a2 a3 a4 b0 b1 b2 b3 b4 (.pointer (some ⟨w.heap.size, 0, none⟩)) (.pointer (some ⟨w.heap.size + 1, 0, none⟩)) ((w.alloc (arr5 a0 a1 a2 a3 a4)).alloc (arr5 b0 b1 b2 b3 b4)) :=
  ⟨_, _, rfl, rfl, blk_alloc (heap_alloc_new _ _) _, newAt (by simp) _, (hb.alloc h2 _).alloc (by simp; omega) _⟩
theorem arrs_f2 {n : Nat} {w0 w : World} {a0 a1 a2 a3 a4 b0 b1 b2 b3 b4 : Int} (hb : Below n w0 w) (h2 : n ≤ w.heap.size) :
    TwoArr n w0 a0 a1 a2 a3 a4 b0 b1 b2 b3 b4 (.pointer (some ⟨w.heap.size + 1, 0, none⟩)) (.pointer (some ⟨w.heap.size, 0, none⟩)) ((w.alloc (arr5 b0 b1 b2 b3 b4)).alloc (arr5 a0 a1 a2 a3 a4)) :=
  ⟨_, _, rfl, rfl, newAt (by simp) _, blk_alloc (heap_alloc_new _ _) _, (hb.alloc h2 _).alloc (by simp; omega) _⟩

/-- The first m parts are the same. -/
def SameTo (m : Nat) (a0 a1 a2 a3 a4 b0 b1 b2 b3 b4 : Int) : Prop := (0 < m → a0 = b0) ∧ (1 < m → a1 = b1) ∧ (2 < m → a2 = b2) ∧ (3 < m → a3 = b3) ∧ (4 < m → a4 = b4)

set_option maxRecDepth 100000 in
set_option maxHeartbeats 4000000 in
theorem compare_any (t u : Tg) (w : World) : Calls Tryd.prog 29 #[tgV t, tgV u] w fun e w' => e = .returned (.int .i64 (cmpT t u)) ∧ Below w.heap.size w w' := by
  have HP := Lib.hid (fun W => parts_any t W)
  have HQ := Lib.hid (fun W => parts_any u W)
  have g5 := guard5
  have q5 := eql5
  obtain ⟨a0, a1, a2, a3, a4⟩ := t
  obtain ⟨b0, b1, b2, b3, b4⟩ := u
  unfold tgV at HP HQ ⊢
  dsimp only at HP HQ ⊢
  have HB := Lib.hid (((Below.refl w.heap.size w).alloc (Nat.le_refl _) (.cells #[.int .i64 a0, .int .i64 a1, .int .i64 a2, .int .i64 a3, .int .i64 a4] 23)).alloc (by simp) (.cells #[.int .i64 b0, .int .i64 b1, .int .i64 b2, .int .i64 b3, .int .i64 b4] 23))
  have HX := Lib.hid (blk_alloc (heap_alloc_new w (.cells #[.int .i64 a0, .int .i64 a1, .int .i64 a2, .int .i64 a3, .int .i64 a4] 23)) (.cells #[.int .i64 b0, .int .i64 b1, .int .i64 b2, .int .i64 b3, .int .i64 b4] 23))
  have HY := Lib.hid (newAt (show (w.alloc (.cells #[.int .i64 a0, .int .i64 a1, .int .i64 a2, .int .i64 a3, .int .i64 a4] 23)).heap.size = w.heap.size + 1 by simp) (.cells #[.int .i64 b0, .int .i64 b1, .int .i64 b2, .int .i64 b3, .int .i64 b4] 23))
  have HC := Lib.hid (show TagCells w.heap.size a0 a1 a2 a3 a4 b0 b1 b2 b3 b4 _ from ⟨blk_cell HX.out 0, blk_cell HX.out 1, blk_cell HX.out 2, blk_cell HX.out 3, blk_cell HX.out 4, blk_cell HY.out 0, blk_cell HY.out 1, blk_cell HY.out 2, blk_cell HY.out 3, blk_cell HY.out 4⟩)
  go_enter Tryd.func29, Tryd.ntmps29
  go_upto_region 1 with fail
  go_cut [5, 6] (fun s5 s6 wx => TwoArr w.heap.size w a0 a1 a2 a3 a4 b0 b1 b2 b3 b4 s5 s6 wx)
  case first =>
    go_region_held3 (fun w' => w'.cell? ⟨w.heap.size, 0, none⟩ = some (.int .i64 a0) ∧ w'.cell? ⟨w.heap.size, 1, none⟩ = some (.int .i64 a1) ∧ w'.cell? ⟨w.heap.size, 2, none⟩ = some (.int .i64 a2) ∧ w'.cell? ⟨w.heap.size, 3, none⟩ = some (.int .i64 a3) ∧ w'.cell? ⟨w.heap.size, 4, none⟩ = some (.int .i64 a4) ∧ w'.cell? ⟨w.heap.size + 1, 0, none⟩ = some (.int .i64 b0) ∧ w'.cell? ⟨w.heap.size + 1, 1, none⟩ = some (.int .i64 b1) ∧ w'.cell? ⟨w.heap.size + 1, 2, none⟩ = some (.int .i64 b2) ∧ w'.cell? ⟨w.heap.size + 1, 3, none⟩ = some (.int .i64 b3) ∧ w'.cell? ⟨w.heap.size + 1, 4, none⟩ = some (.int .i64 b4))
      (((repeat (with_reducible first | exact HC.out | exact HC1.out | exact HC2.out | refine TagCells.set ?_ (And.intro (by dsimp only; omega) (by dsimp only; omega)) _ | refine TagCells.alloc ?_ _ | refine TagCells.drew ?_)); done))
      (first
        | (go_at_call 48; (with_reducible refine (HP.out ((((((w.alloc (.cells #[.int .i64 a0, .int .i64 a1, .int .i64 a2, .int .i64 a3, .int .i64 a4] 23)).alloc (.cells #[.int .i64 b0, .int .i64 b1, .int .i64 b2, .int .i64 b3, .int .i64 b4] 23)).alloc (.cells #[.int .i64 0, .int .i64 0, .int .i64 0, .int .i64 0, .int .i64 0] 69)).alloc (.cells #[.int .i64 0, .int .i64 0, .int .i64 0, .int .i64 0, .int .i64 0] 69))).drew)).mono ?_); rintro e w1 ⟨rfl, hb1⟩; have L1 : w.heap.size + 4 ≤ w1.heap.size := (by have h := hb1.size; (try simp [World.drew] at h); omega); have HB1 := Lib.hid hb1; have HC1 := Lib.hid (TagCells.below (((HC.out.alloc (.cells #[.int .i64 0, .int .i64 0, .int .i64 0, .int .i64 0, .int .i64 0] 69)).alloc (.cells #[.int .i64 0, .int .i64 0, .int .i64 0, .int .i64 0, .int .i64 0] 69)).drew) hb1); have HB1 := Lib.hid ((below_drew ((HB.out.alloc (by first | omega | (simp; omega) | (simp; done)) (.cells #[.int .i64 0, .int .i64 0, .int .i64 0, .int .i64 0, .int .i64 0] 69)).alloc (by first | omega | (simp; omega) | (simp; done)) (.cells #[.int .i64 0, .int .i64 0, .int .i64 0, .int .i64 0, .int .i64 0] 69))).trans (hb1.mono (by first | omega | (simp [World.drew]; omega) | (simp [World.drew]; done)))); have F1 := Lib.hid (blk_keep (blk_drew (blk_alloc (newAt (w := ((w.alloc (.cells #[.int .i64 a0, .int .i64 a1, .int .i64 a2, .int .i64 a3, .int .i64 a4] 23)).alloc (.cells #[.int .i64 b0, .int .i64 b1, .int .i64 b2, .int .i64 b3, .int .i64 b4] 23))) (n := w.heap.size + 1 + 1) (by simp) (.cells #[.int .i64 0, .int .i64 0, .int .i64 0, .int .i64 0, .int .i64 0] 69)) (.cells #[.int .i64 0, .int .i64 0, .int .i64 0, .int .i64 0, .int .i64 0] 69))) hb1); have F2 := Lib.hid (blk_keep (blk_drew (newAt (w := (((w.alloc (.cells #[.int .i64 a0, .int .i64 a1, .int .i64 a2, .int .i64 a3, .int .i64 a4] 23)).alloc (.cells #[.int .i64 b0, .int .i64 b1, .int .i64 b2, .int .i64 b3, .int .i64 b4] 23)).alloc (.cells #[.int .i64 0, .int .i64 0, .int .i64 0, .int .i64 0, .int .i64 0] 69))) (n := w.heap.size + 1 + 1 + 1) (by simp) (.cells #[.int .i64 0, .int .i64 0, .int .i64 0, .int .i64 0, .int .i64 0] 69))) hb1); clear hb1 HC HB HX HY)
        | (go_at_call 48; (with_reducible refine (HP.out ((((((w.alloc (.cells #[.int .i64 a0, .int .i64 a1, .int .i64 a2, .int .i64 a3, .int .i64 a4] 23)).alloc (.cells #[.int .i64 b0, .int .i64 b1, .int .i64 b2, .int .i64 b3, .int .i64 b4] 23)).drew).alloc (.cells #[.int .i64 0, .int .i64 0, .int .i64 0, .int .i64 0, .int .i64 0] 69)).alloc (.cells #[.int .i64 0, .int .i64 0, .int .i64 0, .int .i64 0, .int .i64 0] 69)))).mono ?_); rintro e w1 ⟨rfl, hb1⟩; have L1 : w.heap.size + 4 ≤ w1.heap.size := (by have h := hb1.size; (try simp [World.drew] at h); omega); have HB1 := Lib.hid hb1; have HC1 := Lib.hid (TagCells.below (((HC.out.drew).alloc (.cells #[.int .i64 0, .int .i64 0, .int .i64 0, .int .i64 0, .int .i64 0] 69)).alloc (.cells #[.int .i64 0, .int .i64 0, .int .i64 0, .int .i64 0, .int .i64 0] 69)) hb1); have HB1 := Lib.hid ((((below_drew HB.out).alloc (by first | omega | (simp [World.drew]; omega) | (simp [World.drew]; done)) (.cells #[.int .i64 0, .int .i64 0, .int .i64 0, .int .i64 0, .int .i64 0] 69)).alloc (by first | omega | (simp [World.drew]; omega) | (simp [World.drew]; done)) (.cells #[.int .i64 0, .int .i64 0, .int .i64 0, .int .i64 0, .int .i64 0] 69)).trans (hb1.mono (by first | omega | (simp [World.drew]; omega) | (simp [World.drew]; done)))); have F1 := Lib.hid (blk_keep (blk_alloc (newAt (w := (((w.alloc (.cells #[.int .i64 a0, .int .i64 a1, .int .i64 a2, .int .i64 a3, .int .i64 a4] 23)).alloc (.cells #[.int .i64 b0, .int .i64 b1, .int .i64 b2, .int .i64 b3, .int .i64 b4] 23)).drew)) (n := w.heap.size + 1 + 1) (by simp [World.drew]) (.cells #[.int .i64 0, .int .i64 0, .int .i64 0, .int .i64 0, .int .i64 0] 69)) (.cells #[.int .i64 0, .int .i64 0, .int .i64 0, .int .i64 0, .int .i64 0] 69)) hb1); have F2 := Lib.hid (blk_keep (newAt (w := ((((w.alloc (.cells #[.int .i64 a0, .int .i64 a1, .int .i64 a2, .int .i64 a3, .int .i64 a4] 23)).alloc (.cells #[.int .i64 b0, .int .i64 b1, .int .i64 b2, .int .i64 b3, .int .i64 b4] 23)).drew).alloc (.cells #[.int .i64 0, .int .i64 0, .int .i64 0, .int .i64 0, .int .i64 0] 69))) (n := w.heap.size + 1 + 1 + 1) (by simp [World.drew]) (.cells #[.int .i64 0, .int .i64 0, .int .i64 0, .int .i64 0, .int .i64 0] 69)) hb1); clear hb1 HC HB HX HY)
        | (go_at_call 48; (with_reducible refine (HP.out (((((w.alloc (.cells #[.int .i64 a0, .int .i64 a1, .int .i64 a2, .int .i64 a3, .int .i64 a4] 23)).alloc (.cells #[.int .i64 b0, .int .i64 b1, .int .i64 b2, .int .i64 b3, .int .i64 b4] 23)).alloc (.cells #[.int .i64 0, .int .i64 0, .int .i64 0, .int .i64 0, .int .i64 0] 69))).drew)).mono ?_); rintro e w1 ⟨rfl, hb1⟩; have L1 : w.heap.size + 3 ≤ w1.heap.size := (by have h := hb1.size; (try simp [World.drew] at h); omega); have HB1 := Lib.hid hb1; have HC1 := Lib.hid (TagCells.below ((HC.out.alloc (.cells #[.int .i64 0, .int .i64 0, .int .i64 0, .int .i64 0, .int .i64 0] 69)).drew) hb1); have HB1 := Lib.hid ((below_drew (HB.out.alloc (by first | omega | (simp; omega) | (simp; done)) (.cells #[.int .i64 0, .int .i64 0, .int .i64 0, .int .i64 0, .int .i64 0] 69))).trans (hb1.mono (by first | omega | (simp [World.drew]; omega) | (simp [World.drew]; done)))); have F1 := Lib.hid (blk_keep (blk_drew (newAt (w := ((w.alloc (.cells #[.int .i64 a0, .int .i64 a1, .int .i64 a2, .int .i64 a3, .int .i64 a4] 23)).alloc (.cells #[.int .i64 b0, .int .i64 b1, .int .i64 b2, .int .i64 b3, .int .i64 b4] 23))) (n := w.heap.size + 1 + 1) (by simp) (.cells #[.int .i64 0, .int .i64 0, .int .i64 0, .int .i64 0, .int .i64 0] 69))) hb1); clear hb1 HC HB HX HY)
        | (go_at_call 48; (with_reducible refine (HP.out (((((w.alloc (.cells #[.int .i64 a0, .int .i64 a1, .int .i64 a2, .int .i64 a3, .int .i64 a4] 23)).alloc (.cells #[.int .i64 b0, .int .i64 b1, .int .i64 b2, .int .i64 b3, .int .i64 b4] 23)).drew).alloc (.cells #[.int .i64 0, .int .i64 0, .int .i64 0, .int .i64 0, .int .i64 0] 69)))).mono ?_); rintro e w1 ⟨rfl, hb1⟩; have L1 : w.heap.size + 3 ≤ w1.heap.size := (by have h := hb1.size; (try simp [World.drew] at h); omega); have HB1 := Lib.hid hb1; have HC1 := Lib.hid (TagCells.below ((HC.out.drew).alloc (.cells #[.int .i64 0, .int .i64 0, .int .i64 0, .int .i64 0, .int .i64 0] 69)) hb1); have HB1 := Lib.hid (((below_drew HB.out).alloc (by first | omega | (simp [World.drew]; omega) | (simp [World.drew]; done)) (.cells #[.int .i64 0, .int .i64 0, .int .i64 0, .int .i64 0, .int .i64 0] 69)).trans (hb1.mono (by first | omega | (simp [World.drew]; omega) | (simp [World.drew]; done)))); have F1 := Lib.hid (blk_keep (newAt (w := (((w.alloc (.cells #[.int .i64 a0, .int .i64 a1, .int .i64 a2, .int .i64 a3, .int .i64 a4] 23)).alloc (.cells #[.int .i64 b0, .int .i64 b1, .int .i64 b2, .int .i64 b3, .int .i64 b4] 23)).drew)) (n := w.heap.size + 1 + 1) (by simp [World.drew]) (.cells #[.int .i64 0, .int .i64 0, .int .i64 0, .int .i64 0, .int .i64 0] 69)) hb1); clear hb1 HC HB HX HY)
        | (go_at_call 48; (with_reducible refine (HP.out ((((w.alloc (.cells #[.int .i64 a0, .int .i64 a1, .int .i64 a2, .int .i64 a3, .int .i64 a4] 23)).alloc (.cells #[.int .i64 b0, .int .i64 b1, .int .i64 b2, .int .i64 b3, .int .i64 b4] 23))).drew)).mono ?_); rintro e w1 ⟨rfl, hb1⟩; have L1 : w.heap.size + 2 ≤ w1.heap.size := (by have h := hb1.size; (try simp [World.drew] at h); omega); have HB1 := Lib.hid hb1; have HC1 := Lib.hid (TagCells.below (HC.out.drew) hb1); have HB1 := Lib.hid ((below_drew HB.out).trans (hb1.mono (by first | omega | (simp [World.drew]; omega) | (simp [World.drew]; done)))); clear hb1 HC HB HX HY)
        | (go_at_call 48; (with_reducible refine (HQ.out w1).mono ?_); rintro e w2 ⟨rfl, hb2⟩; have L2 : w1.heap.size ≤ w2.heap.size := (by have h := hb2.size; omega); have HC2 := Lib.hid (TagCells.below HC1.out hb2); have HB2 := Lib.hid (HB1.out.trans (hb2.mono (by first | omega | (simp; omega) | (simp; done)))); have G1 := Lib.hid (blk_keep F1.out hb2); have G2 := Lib.hid (blk_keep F2.out hb2); have G1c0 := blk_cell G1.out 0; have G1z0 := blk_frozen G1.out 0; have G1c1 := blk_cell G1.out 1; have G1z1 := blk_frozen G1.out 1; have G1c2 := blk_cell G1.out 2; have G1z2 := blk_frozen G1.out 2; have G1c3 := blk_cell G1.out 3; have G1z3 := blk_frozen G1.out 3; have G1c4 := blk_cell G1.out 4; have G1z4 := blk_frozen G1.out 4; have G1l := blk_lt G1.out; have G2c0 := blk_cell G2.out 0; have G2z0 := blk_frozen G2.out 0; have G2c1 := blk_cell G2.out 1; have G2z1 := blk_frozen G2.out 1; have G2c2 := blk_cell G2.out 2; have G2z2 := blk_frozen G2.out 2; have G2c3 := blk_cell G2.out 3; have G2z3 := blk_frozen G2.out 3; have G2c4 := blk_cell G2.out 4; have G2z4 := blk_frozen G2.out 4; have G2l := blk_lt G2.out; clear hb2 HC1 HB1 F1 F2)
        | (go_at_call 48; (with_reducible refine (HQ.out (w1.alloc (.cells #[.int .i64 0, .int .i64 0, .int .i64 0, .int .i64 0, .int .i64 0] 69))).mono ?_); rintro e w2 ⟨rfl, hb2⟩; have L2 : w1.heap.size + 1 ≤ w2.heap.size := (by have h := hb2.size; (try simp at h); omega); have HC2 := Lib.hid (TagCells.below (HC1.out.alloc (.cells #[.int .i64 0, .int .i64 0, .int .i64 0, .int .i64 0, .int .i64 0] 69)) hb2); have HB2 := Lib.hid ((HB1.out.alloc (by first | omega | (simp; omega) | (simp; done)) (.cells #[.int .i64 0, .int .i64 0, .int .i64 0, .int .i64 0, .int .i64 0] 69)).trans (hb2.mono (by first | omega | (simp; omega) | (simp; done)))); have G1 := Lib.hid (blk_keep (blk_alloc F1.out (.cells #[.int .i64 0, .int .i64 0, .int .i64 0, .int .i64 0, .int .i64 0] 69)) hb2); have G2 := Lib.hid (blk_keep (newAt (w := w1) (n := w1.heap.size) (by simp) (.cells #[.int .i64 0, .int .i64 0, .int .i64 0, .int .i64 0, .int .i64 0] 69)) hb2); have G1c0 := blk_cell G1.out 0; have G1z0 := blk_frozen G1.out 0; have G1c1 := blk_cell G1.out 1; have G1z1 := blk_frozen G1.out 1; have G1c2 := blk_cell G1.out 2; have G1z2 := blk_frozen G1.out 2; have G1c3 := blk_cell G1.out 3; have G1z3 := blk_frozen G1.out 3; have G1c4 := blk_cell G1.out 4; have G1z4 := blk_frozen G1.out 4; have G1l := blk_lt G1.out; have G2c0 := blk_cell G2.out 0; have G2z0 := blk_frozen G2.out 0; have G2c1 := blk_cell G2.out 1; have G2z1 := blk_frozen G2.out 1; have G2c2 := blk_cell G2.out 2; have G2z2 := blk_frozen G2.out 2; have G2c3 := blk_cell G2.out 3; have G2z3 := blk_frozen G2.out 3; have G2c4 := blk_cell G2.out 4; have G2z4 := blk_frozen G2.out 4; have G2l := blk_lt G2.out; clear hb2 HC1 HB1 F1)
        | (go_at_call 48; (with_reducible refine (HQ.out w1).mono ?_); rintro e w2 ⟨rfl, hb2⟩; have L2 : w1.heap.size ≤ w2.heap.size := (by have h := hb2.size; omega); have HC2 := Lib.hid (TagCells.below HC1.out hb2); have HB2 := Lib.hid (HB1.out.trans (hb2.mono (by first | omega | (simp; omega) | (simp; done)))); have G1 := Lib.hid (blk_keep F1.out hb2); have G1c0 := blk_cell G1.out 0; have G1z0 := blk_frozen G1.out 0; have G1c1 := blk_cell G1.out 1; have G1z1 := blk_frozen G1.out 1; have G1c2 := blk_cell G1.out 2; have G1z2 := blk_frozen G1.out 2; have G1c3 := blk_cell G1.out 3; have G1z3 := blk_frozen G1.out 3; have G1c4 := blk_cell G1.out 4; have G1z4 := blk_frozen G1.out 4; have G1l := blk_lt G1.out; clear hb2 HC1 HB1 F1)
        | (go_at_call 48; (with_reducible refine (HQ.out ((w1.alloc (.cells #[.int .i64 0, .int .i64 0, .int .i64 0, .int .i64 0, .int .i64 0] 69)).alloc (.cells #[.int .i64 0, .int .i64 0, .int .i64 0, .int .i64 0, .int .i64 0] 69))).mono ?_); rintro e w2 ⟨rfl, hb2⟩; have L2 : w1.heap.size + 2 ≤ w2.heap.size := (by have h := hb2.size; (try simp at h); omega); have HC2 := Lib.hid (TagCells.below ((HC1.out.alloc (.cells #[.int .i64 0, .int .i64 0, .int .i64 0, .int .i64 0, .int .i64 0] 69)).alloc (.cells #[.int .i64 0, .int .i64 0, .int .i64 0, .int .i64 0, .int .i64 0] 69)) hb2); have HB2 := Lib.hid (((HB1.out.alloc (by first | omega | (simp; omega) | (simp; done)) (.cells #[.int .i64 0, .int .i64 0, .int .i64 0, .int .i64 0, .int .i64 0] 69)).alloc (by first | omega | (simp; omega) | (simp; done)) (.cells #[.int .i64 0, .int .i64 0, .int .i64 0, .int .i64 0, .int .i64 0] 69)).trans (hb2.mono (by first | omega | (simp; omega) | (simp; done)))); have G1 := Lib.hid (blk_keep (blk_alloc (newAt (w := w1) (n := w1.heap.size) (by simp) (.cells #[.int .i64 0, .int .i64 0, .int .i64 0, .int .i64 0, .int .i64 0] 69)) (.cells #[.int .i64 0, .int .i64 0, .int .i64 0, .int .i64 0, .int .i64 0] 69)) hb2); have G2 := Lib.hid (blk_keep (newAt (w := (w1.alloc (.cells #[.int .i64 0, .int .i64 0, .int .i64 0, .int .i64 0, .int .i64 0] 69))) (n := w1.heap.size + 1) (by simp) (.cells #[.int .i64 0, .int .i64 0, .int .i64 0, .int .i64 0, .int .i64 0] 69)) hb2); have G1c0 := blk_cell G1.out 0; have G1z0 := blk_frozen G1.out 0; have G1c1 := blk_cell G1.out 1; have G1z1 := blk_frozen G1.out 1; have G1c2 := blk_cell G1.out 2; have G1z2 := blk_frozen G1.out 2; have G1c3 := blk_cell G1.out 3; have G1z3 := blk_frozen G1.out 3; have G1c4 := blk_cell G1.out 4; have G1z4 := blk_frozen G1.out 4; have G1l := blk_lt G1.out; have G2c0 := blk_cell G2.out 0; have G2z0 := blk_frozen G2.out 0; have G2c1 := blk_cell G2.out 1; have G2z1 := blk_frozen G2.out 1; have G2c2 := blk_cell G2.out 2; have G2z2 := blk_frozen G2.out 2; have G2c3 := blk_cell G2.out 3; have G2z3 := blk_frozen G2.out 3; have G2c4 := blk_cell G2.out 4; have G2z4 := blk_frozen G2.out 4; have G2l := blk_lt G2.out; clear hb2 HC1 HB1)
        | (go_at_call 48; (with_reducible refine (HQ.out (w1.alloc (.cells #[.int .i64 0, .int .i64 0, .int .i64 0, .int .i64 0, .int .i64 0] 69))).mono ?_); rintro e w2 ⟨rfl, hb2⟩; have L2 : w1.heap.size + 1 ≤ w2.heap.size := (by have h := hb2.size; (try simp at h); omega); have HC2 := Lib.hid (TagCells.below (HC1.out.alloc (.cells #[.int .i64 0, .int .i64 0, .int .i64 0, .int .i64 0, .int .i64 0] 69)) hb2); have HB2 := Lib.hid ((HB1.out.alloc (by first | omega | (simp; omega) | (simp; done)) (.cells #[.int .i64 0, .int .i64 0, .int .i64 0, .int .i64 0, .int .i64 0] 69)).trans (hb2.mono (by first | omega | (simp; omega) | (simp; done)))); have G1 := Lib.hid (blk_keep (newAt (w := w1) (n := w1.heap.size) (by simp) (.cells #[.int .i64 0, .int .i64 0, .int .i64 0, .int .i64 0, .int .i64 0] 69)) hb2); have G1c0 := blk_cell G1.out 0; have G1z0 := blk_frozen G1.out 0; have G1c1 := blk_cell G1.out 1; have G1z1 := blk_frozen G1.out 1; have G1c2 := blk_cell G1.out 2; have G1z2 := blk_frozen G1.out 2; have G1c3 := blk_cell G1.out 3; have G1z3 := blk_frozen G1.out 3; have G1c4 := blk_cell G1.out 4; have G1z4 := blk_frozen G1.out 4; have G1l := blk_lt G1.out; clear hb2 HC1 HB1)
        | (go_at_call 48; (with_reducible refine (HQ.out w1).mono ?_); rintro e w2 ⟨rfl, hb2⟩; have L2 : w1.heap.size ≤ w2.heap.size := (by have h := hb2.size; omega); have HC2 := Lib.hid (TagCells.below HC1.out hb2); have HB2 := Lib.hid (HB1.out.trans (hb2.mono (by first | omega | (simp; omega) | (simp; done)))); clear hb2 HC1 HB1))
    all_goals
      go_wp2_with fail
      go_meet
      first
        | (with_reducible refine arrs_kk G1.out G2.out ?_ HB2.out ?_ ?_) <;> omega
        | (with_reducible refine arrs_kk G2.out G1.out ?_ HB2.out ?_ ?_) <;> omega
        | (with_reducible refine arrs_k1 G1.out HB2.out ?_ ?_) <;> omega
        | (with_reducible refine arrs_k2 G1.out HB2.out ?_ ?_) <;> omega
        | (with_reducible refine arrs_f1 HB2.out ?_) <;> omega
        | (with_reducible refine arrs_f2 HB2.out ?_) <;> omega
  case rest =>
    obtain ⟨g, k, rfl, rfl, hg, hk, hb⟩ := hcut
    have HB2 := Lib.hid hb
    have HG := Lib.hid hg
    have HK := Lib.hid hk
    have HGL := blk_lt hg
    have HKL := blk_lt hk
    have c0 := blk_cell hg 0
    have d0 := blk_cell hk 0
    have c1 := blk_cell hg 1
    have d1 := blk_cell hk 1
    have c2 := blk_cell hg 2
    have d2 := blk_cell hk 2
    have c3 := blk_cell hg 3
    have d3 := blk_cell hk 3
    have c4 := blk_cell hg 4
    have d4 := blk_cell hk 4
    clear hb hg hk HC HB HX HY HP HQ
    by_cases he : a0 = b0 ∧ a1 = b1 ∧ a2 = b2 ∧ a3 = b3 ∧ a4 = b4
    · obtain ⟨rfl, rfl, rfl, rfl, rfl⟩ := he
      have hq : (a0 == a0 && (a1 == a1 && (a2 == a2 && (a3 == a3 && a4 == a4)))) = true := by simp
      have HZ := Lib.hid (show cmpT ⟨a0, a1, a2, a3, a4⟩ ⟨a0, a1, a2, a3, a4⟩ = 0 from (cmpT_zero _ _).2 rfl)
      go_wp2_with fail
      go_ret
      exact ⟨by rw [HZ.out]; rfl, HB2.out⟩
    · have hq : (a0 == b0 && (a1 == b1 && (a2 == b2 && (a3 == b3 && a4 == b4)))) = false := by
        rw [Bool.eq_false_iff]
        intro h
        simp only [Bool.and_eq_true, beq_iff_eq] at h
        exact he h
      clear he
      go_wp2_with fail
      clear hq c0 c1 c2 c3 c4 d0 d1 d2 d3 d4 g5 q5
      go_loopw [16] (fun i wr => ∃ m : Nat, m ≤ 5 ∧ i = .int .i64 m ∧ Hid (SameTo m a0 a1 a2 a3 a4 b0 b1 b2 b3 b4) ∧ Hid (wr.heap[g]? = some (.cells #[.int .i64 a0, .int .i64 a1, .int .i64 a2, .int .i64 a3, .int .i64 a4] 69 (0, 0))) ∧ Hid (wr.heap[k]? = some (.cells #[.int .i64 b0, .int .i64 b1, .int .i64 b2, .int .i64 b3, .int .i64 b4] 69 (0, 0))) ∧ Hid (Below w.heap.size w wr)) (fun i _ => 5 - (intOf i).toNat)
      case atStart => exact ⟨0, by decide, rfl, Lib.hid ⟨fun h => absurd h (by decide), fun h => absurd h (by decide), fun h => absurd h (by decide), fun h => absurd h (by decide), fun h => absurd h (by decide)⟩, HG, HK, HB2⟩
      case round =>
        obtain ⟨m, hm, rfl, HS, HGr, HKr, HBr⟩ := hrel
        clear HG HK HB2
        have hc : m = 0 ∨ m = 1 ∨ m = 2 ∨ m = 3 ∨ m = 4 ∨ m = 5 := by omega
        rcases hc with rfl | rfl | rfl | rfl | rfl | rfl
        · have c := blk_cell HGr.out 0
          have d := blk_cell HKr.out 0
          have HC := Lib.hid (fun W => same_of (compareInt_any a0 b0 W))
          by_cases he : a0 = b0
          · have HE := Lib.hid he
            have hz := (cmpI_zero a0 b0).2 he
            rw [hz] at HC
            clear he hz
            go_wp2_with fail
            go_quiet ((go_at_call 56; exact Calls.quiet_of_same (HC.out _)))
            go_wp2_with fail
            go_roundw
            case rel => exact ⟨1, by decide, by go_num, Lib.hid ⟨fun _ => HE.out, fun h => absurd h (by decide), fun h => absurd h (by decide), fun h => absurd h (by decide), fun h => absurd h (by decide)⟩, Lib.hid (blk_drewN HGr.out _), Lib.hid (blk_drewN HKr.out _), Lib.hid (below_drewN HBr.out _)⟩
            case measure => simp [intOf]
          · have hn : ¬ cmpI a0 b0 = 0 := fun h => he ((cmpI_zero a0 b0).1 h)
            have HR := Lib.hid (show cmpT ⟨a0, a1, a2, a3, a4⟩ ⟨b0, b1, b2, b3, b4⟩ = cmpI a0 b0 by
              unfold cmpT
              dsimp only
              skip
              simp [orI, hn])
            obtain ⟨r, hr⟩ : ∃ r, cmpI a0 b0 = r := ⟨_, rfl⟩
            rw [hr] at HC HR hn
            have hb0 : (r != 0) = true := by simp [hn]
            clear he hr hn
            go_wp2_with fail
            go_quiet ((go_at_call 56; exact Calls.quiet_of_same (HC.out _)))
            go_wp2_with fail
            go_ret
            exact ⟨by rw [HR.out]; rfl, below_drewN HBr.out _⟩
        · have c := blk_cell HGr.out 1
          have d := blk_cell HKr.out 1
          have HC := Lib.hid (fun W => same_of (compareInt_any a1 b1 W))
          by_cases he : a1 = b1
          · have HE := Lib.hid he
            have hz := (cmpI_zero a1 b1).2 he
            rw [hz] at HC
            clear he hz
            go_wp2_with fail
            go_quiet ((go_at_call 56; exact Calls.quiet_of_same (HC.out _)))
            go_wp2_with fail
            go_roundw
            case rel => exact ⟨2, by decide, by go_num, Lib.hid ⟨fun _ => HS.out.1 (by decide), fun _ => HE.out, fun h => absurd h (by decide), fun h => absurd h (by decide), fun h => absurd h (by decide)⟩, Lib.hid (blk_drewN HGr.out _), Lib.hid (blk_drewN HKr.out _), Lib.hid (below_drewN HBr.out _)⟩
            case measure => simp [intOf]
          · have hn : ¬ cmpI a1 b1 = 0 := fun h => he ((cmpI_zero a1 b1).1 h)
            have HR := Lib.hid (show cmpT ⟨a0, a1, a2, a3, a4⟩ ⟨b0, b1, b2, b3, b4⟩ = cmpI a1 b1 by
              unfold cmpT
              dsimp only
              rw [(cmpI_zero a0 b0).2 (HS.out.1 (by decide))]
              simp [orI, hn])
            obtain ⟨r, hr⟩ : ∃ r, cmpI a1 b1 = r := ⟨_, rfl⟩
            rw [hr] at HC HR hn
            have hb0 : (r != 0) = true := by simp [hn]
            clear he hr hn
            go_wp2_with fail
            go_quiet ((go_at_call 56; exact Calls.quiet_of_same (HC.out _)))
            go_wp2_with fail
            go_ret
            exact ⟨by rw [HR.out]; rfl, below_drewN HBr.out _⟩
        · have c := blk_cell HGr.out 2
          have d := blk_cell HKr.out 2
          have HC := Lib.hid (fun W => same_of (compareInt_any a2 b2 W))
          by_cases he : a2 = b2
          · have HE := Lib.hid he
            have hz := (cmpI_zero a2 b2).2 he
            rw [hz] at HC
            clear he hz
            go_wp2_with fail
            go_quiet ((go_at_call 56; exact Calls.quiet_of_same (HC.out _)))
            go_wp2_with fail
            go_roundw
            case rel => exact ⟨3, by decide, by go_num, Lib.hid ⟨fun _ => HS.out.1 (by decide), fun _ => HS.out.2.1 (by decide), fun _ => HE.out, fun h => absurd h (by decide), fun h => absurd h (by decide)⟩, Lib.hid (blk_drewN HGr.out _), Lib.hid (blk_drewN HKr.out _), Lib.hid (below_drewN HBr.out _)⟩
            case measure => simp [intOf]
          · have hn : ¬ cmpI a2 b2 = 0 := fun h => he ((cmpI_zero a2 b2).1 h)
            have HR := Lib.hid (show cmpT ⟨a0, a1, a2, a3, a4⟩ ⟨b0, b1, b2, b3, b4⟩ = cmpI a2 b2 by
              unfold cmpT
              dsimp only
              rw [(cmpI_zero a0 b0).2 (HS.out.1 (by decide))]; rw [(cmpI_zero a1 b1).2 (HS.out.2.1 (by decide))]
              simp [orI, hn])
            obtain ⟨r, hr⟩ : ∃ r, cmpI a2 b2 = r := ⟨_, rfl⟩
            rw [hr] at HC HR hn
            have hb0 : (r != 0) = true := by simp [hn]
            clear he hr hn
            go_wp2_with fail
            go_quiet ((go_at_call 56; exact Calls.quiet_of_same (HC.out _)))
            go_wp2_with fail
            go_ret
            exact ⟨by rw [HR.out]; rfl, below_drewN HBr.out _⟩
        · have c := blk_cell HGr.out 3
          have d := blk_cell HKr.out 3
          have HC := Lib.hid (fun W => same_of (compareInt_any a3 b3 W))
          by_cases he : a3 = b3
          · have HE := Lib.hid he
            have hz := (cmpI_zero a3 b3).2 he
            rw [hz] at HC
            clear he hz
            go_wp2_with fail
            go_quiet ((go_at_call 56; exact Calls.quiet_of_same (HC.out _)))
            go_wp2_with fail
            go_roundw
            case rel => exact ⟨4, by decide, by go_num, Lib.hid ⟨fun _ => HS.out.1 (by decide), fun _ => HS.out.2.1 (by decide), fun _ => HS.out.2.2.1 (by decide), fun _ => HE.out, fun h => absurd h (by decide)⟩, Lib.hid (blk_drewN HGr.out _), Lib.hid (blk_drewN HKr.out _), Lib.hid (below_drewN HBr.out _)⟩
            case measure => simp [intOf]
          · have hn : ¬ cmpI a3 b3 = 0 := fun h => he ((cmpI_zero a3 b3).1 h)
            have HR := Lib.hid (show cmpT ⟨a0, a1, a2, a3, a4⟩ ⟨b0, b1, b2, b3, b4⟩ = cmpI a3 b3 by
              unfold cmpT
              dsimp only
              rw [(cmpI_zero a0 b0).2 (HS.out.1 (by decide))]; rw [(cmpI_zero a1 b1).2 (HS.out.2.1 (by decide))]; rw [(cmpI_zero a2 b2).2 (HS.out.2.2.1 (by decide))]
              simp [orI, hn])
            obtain ⟨r, hr⟩ : ∃ r, cmpI a3 b3 = r := ⟨_, rfl⟩
            rw [hr] at HC HR hn
            have hb0 : (r != 0) = true := by simp [hn]
            clear he hr hn
            go_wp2_with fail
            go_quiet ((go_at_call 56; exact Calls.quiet_of_same (HC.out _)))
            go_wp2_with fail
            go_ret
            exact ⟨by rw [HR.out]; rfl, below_drewN HBr.out _⟩
        · have c := blk_cell HGr.out 4
          have d := blk_cell HKr.out 4
          have HC := Lib.hid (fun W => same_of (compareInt_any a4 b4 W))
          by_cases he : a4 = b4
          · have HE := Lib.hid he
            have hz := (cmpI_zero a4 b4).2 he
            rw [hz] at HC
            clear he hz
            go_wp2_with fail
            go_quiet ((go_at_call 56; exact Calls.quiet_of_same (HC.out _)))
            go_wp2_with fail
            go_roundw
            case rel => exact ⟨5, by decide, by go_num, Lib.hid ⟨fun _ => HS.out.1 (by decide), fun _ => HS.out.2.1 (by decide), fun _ => HS.out.2.2.1 (by decide), fun _ => HS.out.2.2.2.1 (by decide), fun _ => HE.out⟩, Lib.hid (blk_drewN HGr.out _), Lib.hid (blk_drewN HKr.out _), Lib.hid (below_drewN HBr.out _)⟩
            case measure => simp [intOf]
          · have hn : ¬ cmpI a4 b4 = 0 := fun h => he ((cmpI_zero a4 b4).1 h)
            have HR := Lib.hid (show cmpT ⟨a0, a1, a2, a3, a4⟩ ⟨b0, b1, b2, b3, b4⟩ = cmpI a4 b4 by
              unfold cmpT
              dsimp only
              rw [(cmpI_zero a0 b0).2 (HS.out.1 (by decide))]; rw [(cmpI_zero a1 b1).2 (HS.out.2.1 (by decide))]; rw [(cmpI_zero a2 b2).2 (HS.out.2.2.1 (by decide))]; rw [(cmpI_zero a3 b3).2 (HS.out.2.2.2.1 (by decide))]
              simp [orI])
            obtain ⟨r, hr⟩ : ∃ r, cmpI a4 b4 = r := ⟨_, rfl⟩
            rw [hr] at HC HR hn
            have hb0 : (r != 0) = true := by simp [hn]
            clear he hr hn
            go_wp2_with fail
            go_quiet ((go_at_call 56; exact Calls.quiet_of_same (HC.out _)))
            go_wp2_with fail
            go_ret
            exact ⟨by rw [HR.out]; rfl, below_drewN HBr.out _⟩
        · have HZ := Lib.hid (show cmpT ⟨a0, a1, a2, a3, a4⟩ ⟨b0, b1, b2, b3, b4⟩ = 0 by
            rw [HS.out.1 (by decide), HS.out.2.1 (by decide), HS.out.2.2.1 (by decide), HS.out.2.2.2.1 (by decide), HS.out.2.2.2.2 (by decide)]
            exact (cmpT_zero _ _).2 rfl)
          go_wp2_with fail
          go_ret
          exact ⟨by rw [HZ.out]; rfl, HBr.out⟩

end Go.Proofs.YtajilipbnfpemaaDoor
