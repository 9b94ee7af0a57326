/- Walks: the marks of the reference. Conditions: none. -/
import Derived.Test.YtdaomkjlnakdcaaDoorMark
namespace Go.Proofs.YtdaomkjlnakdcaaDoor
open Go.RowKit

theorem tmod_16 (x : Int) : x.tmod 65536 = if 0 ≤ x then x % 65536 else -((-x) % 65536) := by
  split
  · exact Int.tmod_eq_emod_of_nonneg (by assumption)
  · have := Int.tmod_eq_emod_of_nonneg (a := -x) (b := 65536) (by omega)
    rw [Int.neg_tmod] at this
    omega

set_option maxHeartbeats 400000 in
theorem refLow_any (x : Int) (w : World) : Calls Tryd.prog 18 #[.int .i64 x] w fun e w' => e = .returned (.int .i64 (low x)) ∧ w = w' := by
  have ht := tmod_16 x
  have hr : -65536 < x.tmod 65536 ∧ x.tmod 65536 < 65536 := by rw [ht]; split <;> omega
  have hw : IntKind.i64.wrap (x.tmod 65536) = x.tmod 65536 := IntWalk.i64_in _ (by omega)
  have HT := Lib.hid ht
  clear ht
  go_enter Tryd.func18, Tryd.ntmps18
  go_wp2
  all_goals
    go_ret
    refine ⟨ret_int ?_, rfl⟩
    have := HT.out
    unfold low
    (repeat split at this) <;> (repeat split) <;> omega

/-- A complex number with these whole parts, with new memory. -/
def GivesB (w : World) (x y : Int) (e : Ending) (w' : World) : Prop := ∃ a b : Nat, e = .returned (.complex .f64 a b) ∧ IsF a x ∧ IsF b y ∧ Below w.heap.size w w'

set_option maxHeartbeats 400000 in
theorem given_any (x y : Int) (w : World) (hx : x.natAbs < 2 ^ 53) (hy : y.natAbs < 2 ^ 53) : Calls Tryd.prog 15 #[.agg #[.int .i64 x, .int .i64 y]] w (GivesB w x y) := by
  have HX := Lib.hid (IsF.ofInt x hx)
  have HY := Lib.hid (IsF.ofInt y hy)
  clear hx hy
  go_enter Tryd.func15, Tryd.ntmps15
  go_wp2
  go_ret
  exact ⟨_, _, rfl, HX.out, HY.out, (Below.refl _ _).alloc (Nat.le_refl _) _⟩

/-- A mark of the reference, with new memory. -/
def GivesM (w : World) (x y : Int) (e : Ending) (w' : World) : Prop := e = .returned (.agg #[.int .i64 x, .int .i64 y]) ∧ Below w.heap.size w w'

theorem tmod_4 (n : Int) : n.tmod 4 = if 0 ≤ n then n % 4 else -((-n) % 4) := by
  split
  · exact Int.tmod_eq_emod_of_nonneg (by assumption)
  · have := Int.tmod_eq_emod_of_nonneg (a := -n) (b := 4) (by omega)
    rw [Int.neg_tmod] at this
    omega

theorem blk_new {w : World} {n : Nat} (h : w.heap.size = n) (o : Obj) : (w.alloc o).heap[n]? = some o := by subst h; exact heap_alloc_new w o

theorem turn_step (k x y : Int) : tRe (k + 1) x y = -tIm k x y ∧ tIm (k + 1) x y = tRe k x y := by
  unfold tRe tIm
  have h : k % 4 = 0 ∨ k % 4 = 1 ∨ k % 4 = 2 ∨ k % 4 = 3 := by omega
  rcases h with h | h | h | h
  · have e : (k + 1) % 4 = 1 := by omega
    simp [h, e]
  · have e : (k + 1) % 4 = 2 := by omega
    simp [h, e]
  · have e : (k + 1) % 4 = 3 := by omega
    simp [h, e]
  · have e : (k + 1) % 4 = 0 := by omega
    simp [h, e]
theorem turn_mod (n x y : Int) : tRe (n % 4) x y = tRe n x y ∧ tIm (n % 4) x y = tIm n x y := by
  unfold tRe tIm
  rw [Int.emod_emod_of_dvd _ (Int.dvd_refl 4)]
  exact ⟨rfl, rfl⟩

set_option maxHeartbeats 400000 in
theorem refTurn_any (x y n : Int) (w : World) (hx : -4611686018427387904 ≤ x ∧ x ≤ 4611686018427387904) (hy : -4611686018427387904 ≤ y ∧ y ≤ 4611686018427387904) :
    Calls Tryd.prog 21 #[.agg #[.int .i64 x, .int .i64 y], .int .i64 n] w (GivesM w (tRe n x y) (tIm n x y)) := by
  have ht := tmod_4 n
  obtain ⟨hr1, hr2⟩ : -4 < n.tmod 4 ∧ n.tmod 4 < 4 := by rw [ht]; split <;> omega
  have hw : IntKind.i64.wrap (n.tmod 4) = n.tmod 4 := IntWalk.i64_in _ (by omega)
  obtain ⟨k0, hk0⟩ : ∃ k0 : Nat, (k0 : Int) = n % 4 := ⟨(n % 4).toNat, by omega⟩
  have hk4 : k0 < 4 := by omega
  have hkk : (if n.tmod 4 < 0 then n.tmod 4 + 4 else n.tmod 4) = k0 := by rw [ht, hk0]; split <;> split <;> omega
  have HM := Lib.hid (show tRe k0 x y = tRe n x y ∧ tIm k0 x y = tIm n x y by rw [hk0]; exact turn_mod n x y)
  have HXY := Lib.hid (And.intro hx hy)
  have HT := Lib.hid (fun k : Int => turn_bd (n := k) (x := x) (y := y) (m := 4611686018427387904) hx hy)
  clear ht hk0 hx hy
  by_cases hneg : n.tmod 4 < 0
  · rw [if_pos hneg] at hkk
    have hw2 : IntKind.i64.wrap (n.tmod 4 + 4) = n.tmod 4 + 4 := IntWalk.i64_in _ (by omega)
    have HKK := Lib.hid hkk
    clear hkk
    go_enter Tryd.func21, Tryd.ntmps21
    go_wp2
    rw [HKK.out]
    go_loopw [6] (fun i wr => ∃ k : Nat, k ≤ k0 ∧ i = .int .i64 k ∧ wr.heap[w.heap.size]? = some (.cells #[.int .i64 (tRe k x y), .int .i64 (tIm k x y)] 28 (0, 0)) ∧ wr.heap[w.heap.size + 1]? = some (.cells #[.int .i64 0, .int .i64 0] 28 (0, 0)) ∧ Below w.heap.size w wr)
      (fun i _ => k0 - (intOf i).toNat)
    case atStart =>
      exact ⟨0, Nat.zero_le _, rfl, blk_alloc (heap_alloc_new w _) _, blk_new (by simp) _, ((Below.refl _ _).alloc (Nat.le_refl _) _).alloc (by simp) _⟩
    case round =>
      obtain ⟨k, hk, rfl, hz, ho, hbr⟩ := hrel
      by_cases hlt : k < k0
      · have c0 : wr.cell? ⟨w.heap.size, 0, none⟩ = some (.int .i64 (tRe k x y)) := blk_cell hz 0
        have c1 : wr.cell? ⟨w.heap.size, 1, none⟩ = some (.int .i64 (tIm k x y)) := blk_cell hz 1
        have z0 : wr.frozen? ⟨w.heap.size, 0, none⟩ = false := blk_frozen hz 0
        have z1 : wr.frozen? ⟨w.heap.size, 1, none⟩ = false := blk_frozen hz 1
        have hsz := blk_lt hz
        have hs := turn_step k x y
        have b := (HT.out k).2
        have hn : wrap64 (-tIm k x y) = -tIm k x y := IntWalk.wrap64_in _ (by omega)
        have HS := Lib.hid hs
        have HZ := Lib.hid hz
        have HO := Lib.hid ho
        clear hz ho hs b
        go_wp2
        go_roundw
        case rel =>
          refine ⟨k + 1, by omega, by go_num, ?_, blk_far (blk_far HO.out (by simp) _) (by simp) _, (hbr.setCell (Nat.le_refl _) _).setCell (Nat.le_refl _) _⟩
          rw [Int.natCast_succ, HS.out.1, HS.out.2]
          exact blk_set (blk_set HZ.out 0 _) 1 _
        case measure => simp [intOf]; omega
      · have hke : k = k0 := by omega
        subst hke
        have c0 : wr.cell? ⟨w.heap.size, 0, none⟩ = some (.int .i64 (tRe k x y)) := blk_cell hz 0
        have c1 : wr.cell? ⟨w.heap.size, 1, none⟩ = some (.int .i64 (tIm k x y)) := blk_cell hz 1
        have d0 : wr.cell? ⟨w.heap.size + 1, 0, none⟩ = some (.int .i64 0) := blk_cell ho 0
        have d1 : wr.cell? ⟨w.heap.size + 1, 1, none⟩ = some (.int .i64 0) := blk_cell ho 1
        have z0 : wr.frozen? ⟨w.heap.size + 1, 0, none⟩ = false := blk_frozen ho 0
        have z1 : wr.frozen? ⟨w.heap.size + 1, 1, none⟩ = false := blk_frozen ho 1
        have hsz := blk_lt ho
        have HZ := Lib.hid hz
        have HO := Lib.hid ho
        clear hz ho
        have b1 : (w.heap.size + 1 == w.heap.size) = false := by simp
        go_wp2
        have h0 := blk_set HO.out 0 (.int .i64 (tRe k x y))
        have h1 := blk_set h0 1 (.int .i64 (tIm k x y))
        have c0 := blk_cell h1 0
        have c1 := blk_cell h1 1
        have hm := HM.out
        refine bodyPost_ret (v := .agg #[.int .i64 (tRe k x y), .int .i64 (tIm k x y)]) ?_ rfl ⟨?_, (hbr.setCell (by simp) _).setCell (by simp) _⟩
        · simp [results, Tryd.results21, go_sem] at c0 c1 ⊢
          simp [c0, c1]
        · rw [hm.1, hm.2]
  · rw [if_neg hneg] at hkk
    have HKK := Lib.hid hkk
    clear hkk
    go_enter Tryd.func21, Tryd.ntmps21
    go_wp2
    rw [HKK.out]
    go_loopw [6] (fun i wr => ∃ k : Nat, k ≤ k0 ∧ i = .int .i64 k ∧ wr.heap[w.heap.size]? = some (.cells #[.int .i64 (tRe k x y), .int .i64 (tIm k x y)] 28 (0, 0)) ∧ wr.heap[w.heap.size + 1]? = some (.cells #[.int .i64 0, .int .i64 0] 28 (0, 0)) ∧ Below w.heap.size w wr)
      (fun i _ => k0 - (intOf i).toNat)
    case atStart =>
      exact ⟨0, Nat.zero_le _, rfl, blk_alloc (heap_alloc_new w _) _, blk_new (by simp) _, ((Below.refl _ _).alloc (Nat.le_refl _) _).alloc (by simp) _⟩
    case round =>
      obtain ⟨k, hk, rfl, hz, ho, hbr⟩ := hrel
      by_cases hlt : k < k0
      · have c0 : wr.cell? ⟨w.heap.size, 0, none⟩ = some (.int .i64 (tRe k x y)) := blk_cell hz 0
        have c1 : wr.cell? ⟨w.heap.size, 1, none⟩ = some (.int .i64 (tIm k x y)) := blk_cell hz 1
        have z0 : wr.frozen? ⟨w.heap.size, 0, none⟩ = false := blk_frozen hz 0
        have z1 : wr.frozen? ⟨w.heap.size, 1, none⟩ = false := blk_frozen hz 1
        have hsz := blk_lt hz
        have hs := turn_step k x y
        have b := (HT.out k).2
        have hn : wrap64 (-tIm k x y) = -tIm k x y := IntWalk.wrap64_in _ (by omega)
        have HS := Lib.hid hs
        have HZ := Lib.hid hz
        have HO := Lib.hid ho
        clear hz ho hs b
        go_wp2
        go_roundw
        case rel =>
          refine ⟨k + 1, by omega, by go_num, ?_, blk_far (blk_far HO.out (by simp) _) (by simp) _, (hbr.setCell (Nat.le_refl _) _).setCell (Nat.le_refl _) _⟩
          rw [Int.natCast_succ, HS.out.1, HS.out.2]
          exact blk_set (blk_set HZ.out 0 _) 1 _
        case measure => simp [intOf]; omega
      · have hke : k = k0 := by omega
        subst hke
        have c0 : wr.cell? ⟨w.heap.size, 0, none⟩ = some (.int .i64 (tRe k x y)) := blk_cell hz 0
        have c1 : wr.cell? ⟨w.heap.size, 1, none⟩ = some (.int .i64 (tIm k x y)) := blk_cell hz 1
        have d0 : wr.cell? ⟨w.heap.size + 1, 0, none⟩ = some (.int .i64 0) := blk_cell ho 0
        have d1 : wr.cell? ⟨w.heap.size + 1, 1, none⟩ = some (.int .i64 0) := blk_cell ho 1
        have z0 : wr.frozen? ⟨w.heap.size + 1, 0, none⟩ = false := blk_frozen ho 0
        have z1 : wr.frozen? ⟨w.heap.size + 1, 1, none⟩ = false := blk_frozen ho 1
        have hsz := blk_lt ho
        have HZ := Lib.hid hz
        have HO := Lib.hid ho
        clear hz ho
        have b1 : (w.heap.size + 1 == w.heap.size) = false := by simp
        go_wp2
        have h0 := blk_set HO.out 0 (.int .i64 (tRe k x y))
        have h1 := blk_set h0 1 (.int .i64 (tIm k x y))
        have c0 := blk_cell h1 0
        have c1 := blk_cell h1 1
        have hm := HM.out
        refine bodyPost_ret (v := .agg #[.int .i64 (tRe k x y), .int .i64 (tIm k x y)]) ?_ rfl ⟨?_, (hbr.setCell (by simp) _).setCell (by simp) _⟩
        · simp [results, Tryd.results21, go_sem] at c0 c1 ⊢
          simp [c0, c1]
        · rw [hm.1, hm.2]

end Go.Proofs.YtdaomkjlnakdcaaDoor
