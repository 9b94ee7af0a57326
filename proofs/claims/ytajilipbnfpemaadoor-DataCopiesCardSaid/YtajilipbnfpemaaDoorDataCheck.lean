/- Walks: data.Check of the program and of the reference, and the reference's Few. Conditions: none. -/
import Derived.Test.YtajilipbnfpemaaDoorEx
namespace Go.Proofs.YtajilipbnfpemaaDoor
open Go.RowKit

/-- The closure of data.Check: do this example's lengths differ? -/
def Asked (w : World) (b : Bool) (e : Ending) (w' : World) : Prop := e = .returned (.bool b) ∧ Below w.heap.size w w'

theorem bad_x {inn out : Int} {e : Ex} (h : ¬ (e.xs.length : Int) = inn) : exBad inn out e = true := by simp [exBad, h]
theorem bad_y {inn out : Int} {e : Ex} (h : ¬ (e.ys.length : Int) = out) : exBad inn out e = true := by simp [exBad, h]
theorem bad_no {inn out : Int} {e : Ex} (h : (e.xs.length : Int) = inn) (h' : (e.ys.length : Int) = out) : exBad inn out e = false := by simp [exBad, h, h']

set_option maxHeartbeats 400000 in
theorem lens_any (inn out : Int) (ex : Ex) (b1 b2 : Nat) (w : World) (h1 : w.cell? ⟨b1, 0, none⟩ = some (.int .i64 inn)) (h2 : w.cell? ⟨b2, 0, none⟩ = some (.int .i64 out)) :
    Calls Tryd.prog 51 #[ex.val, .pointer (some ⟨b1, 0, none⟩), .pointer (some ⟨b2, 0, none⟩)] w (Asked w (exBad inn out ex)) := by
  have l1 := World.block_lt_of_cell? w _ h1
  have l2 := World.block_lt_of_cell? w _ h2
  dsimp only at l1 l2
  have hx := fun h => bad_x (out := out) (e := ex) (inn := inn) h
  have hy := fun h => bad_y (out := out) (e := ex) (inn := inn) h
  have hn := fun h h' => bad_no (out := out) (e := ex) (inn := inn) h h'
  obtain ⟨ax, xs, cx, ay, ys, cy⟩ := ex
  dsimp only [Ex.val] at hx hy hn ⊢
  generalize exBad inn out ⟨ax, xs, cx, ay, ys, cy⟩ = bb at *
  have Hx := Lib.hid hx
  have Hy := Lib.hid hy
  have Hn := Lib.hid hn
  clear hx hy hn
  by_cases e1 : (xs.length : Int) = inn
  · have k1 : ((xs.length : Int) != inn) = false := by simpa using e1
    by_cases e2 : (ys.length : Int) = out
    · have k2 : ((ys.length : Int) != out) = false := by simpa using e2
      have hb := Lib.hid (Hn.out e1 e2)
      clear e1 e2
      go_enter Tryd.func51, Tryd.ntmps51
      go_wp2
      go_ret
      exact ⟨ret_bool hb.out.symm, (Below.refl _ _).alloc (Nat.le_refl _) _⟩
    · have k2 : ((ys.length : Int) != out) = true := by simpa using e2
      have hb := Lib.hid (Hy.out e2)
      clear e1 e2
      go_enter Tryd.func51, Tryd.ntmps51
      go_wp2
      go_ret
      exact ⟨ret_bool hb.out.symm, (Below.refl _ _).alloc (Nat.le_refl _) _⟩
  · have k1 : ((xs.length : Int) != inn) = true := by simpa using e1
    have hb := Lib.hid (Hx.out e1)
    clear e1
    go_enter Tryd.func51, Tryd.ntmps51
    go_wp2
    go_ret
    exact ⟨ret_bool hb.out.symm, (Below.refl _ _).alloc (Nat.le_refl _) _⟩

set_option maxHeartbeats 400000 in
theorem findEx_any (inn out : Int) (A : Option Addr) (cap : Nat) (l : List Ex) (b1 b2 : Nat) (w : World) (hr : RdE w w.heap.size A l) (hm : l.length ≤ 9223372036854775807)
    (h1 : w.cell? ⟨b1, 0, none⟩ = some (.int .i64 inn)) (h2 : w.cell? ⟨b2, 0, none⟩ = some (.int .i64 out)) :
    Calls Tryd.prog 50 #[.slice A l.length cap, .func (.func 51) #[] #[.pointer (some ⟨b1, 0, none⟩), .pointer (some ⟨b2, 0, none⟩)]] w
      fun e w' => (exFits inn out l = true → e = .returned (.int .i64 (-1))) ∧ (exFits inn out l = false → e = .returned (.int .i64 (exIdx inn out l))) ∧ Below w.heap.size w w' := by
  have l1 := World.block_lt_of_cell? w _ h1
  have l2 := World.block_lt_of_cell? w _ h2
  dsimp only at l1 l2
  have H1 := Lib.hid h1
  have H2 := Lib.hid h2
  clear h1 h2
  go_enter Tryd.func50, Tryd.ntmps50
  go_wp2
  go_loopw [5, 8] (fun _ i wr => ∃ k : Nat, k ≤ l.length ∧ i = .int .i64 k ∧ Hid (exFits inn out (l.take k) = true) ∧ Below w.heap.size w wr) (fun _ i _ => l.length - (intOf i).toNat)
  case atStart => exact ⟨0, Nat.zero_le _, rfl, Lib.hid rfl, Below.refl _ _⟩
  case round =>
    obtain ⟨k, hk, rfl, hfit, hbr⟩ := hrel
    by_cases hlt : k < l.length
    · obtain ⟨b, off, rfl, hb, hc⟩ := hr.at_ (by omega)
      obtain ⟨ex, hex⟩ := get_some l k hlt
      have c1 : wr.cell? ⟨b, off + k * 2, none⟩ = some (.slice ex.ax ex.xs.length ex.cx) := (hbr.cell (p := ⟨b, off + k * 2, none⟩) hb).trans (hc k ex hex).1
      have c2 : wr.cell? ⟨b, off + k * 2 + 1, none⟩ = some (.slice ex.ay ex.ys.length ex.cy) := (hbr.cell (p := ⟨b, off + k * 2 + 1, none⟩) hb).trans (hc k ex hex).2
      have h1' : wr.cell? ⟨b1, 0, none⟩ = some (.int .i64 inn) := (hbr.cell (p := ⟨b1, 0, none⟩) l1).trans H1.out
      have h2' : wr.cell? ⟨b2, 0, none⟩ = some (.int .i64 out) := (hbr.cell (p := ⟨b2, 0, none⟩) l2).trans H2.out
      have C := Lib.hid (lens_any inn out ex b1 b2 wr h1' h2')
      have HE := Lib.hid hex
      clear hc hex h1' h2'
      cases hbad : exBad inn out ex
      · go_wp2_with (go_at_call 51; refine C.out.mono ?_; rintro e w1 ⟨rfl, hb1⟩; rw [hbad])
        go_roundw
        case rel => exact ⟨k + 1, by omega, by go_num, Lib.hid (fits_step HE.out hfit.out hbad), hbr.trans (hb1.mono hbr.size)⟩
        case measure => simp [intOf]; omega
      · have hf := Lib.hid (fits_idx HE.out hfit.out hbad)
        go_wp2_with (go_at_call 51; refine C.out.mono ?_; rintro e w1 ⟨rfl, hb1⟩; rw [hbad])
        go_ret
        exact ⟨fun h => absurd (hf.out.1.symm.trans h) (by decide), fun _ => ret_int (by rw [hf.out.2]), hbr.trans (hb1.mono hbr.size)⟩
    · have hf : Hid (exFits inn out l = true) := by
        have := hfit.out
        rw [List.take_of_length_le (by omega)] at this
        exact Lib.hid this
      clear hfit
      go_wp2
      go_ret
      exact ⟨fun _ => rfl, fun h => absurd (hf.out.symm.trans h) (by decide), hbr⟩

/-- What a check of examples comes to. -/
def Fitted (w : World) (inn out : Int) (l : List Ex) (e : Ending) (w' : World) : Prop := e = .returned (.tuple #[.int .i64 (exIdx inn out l), .bool (exFits inn out l)]) ∧ Below w.heap.size w w'

theorem ret_ib {a a' : Int} {b b' : Bool} (h : a = a') (h' : b = b') : Ending.returned (.tuple #[.int .i64 a, .bool b]) = .returned (.tuple #[.int .i64 a', .bool b']) := by rw [h, h']

set_option maxHeartbeats 400000 in
theorem dataCheck_any (inn out : Int) (A : Option Addr) (cap : Nat) (l : List Ex) (w : World) (hr : RdE w w.heap.size A l) (hm : l.length ≤ 9223372036854775807) :
    Calls Tryd.prog 23 #[.slice A l.length cap, .int .i64 inn, .int .i64 out] w (Fitted w inn out l) := by
  have hB : Below w.heap.size w ((w.alloc (.cells #[.int .i64 inn] 3)).alloc (.cells #[.int .i64 out] 3)) := ((Below.refl _ _).alloc (Nat.le_refl _) _).alloc (by simp) _
  have C := Lib.hid (findEx_any inn out A cap l w.heap.size (w.heap.size + 1) ((w.alloc (.cells #[.int .i64 inn] 3)).alloc (.cells #[.int .i64 out] 3)) ((hr.below hB).more hB.size) hm
    (blk_cell (blk_alloc (heap_alloc_new w _) _) 0) (blk_cell (by have := heap_alloc_new (w.alloc (.cells #[.int .i64 inn] 3)) (.cells #[.int .i64 out] 3); rw [World.size_alloc] at this; exact this) 0))
  cases hf : exFits inn out l
  · have HF := Lib.hid hf
    clear hf
    go_enter Tryd.func23, Tryd.ntmps23
    go_wp2_with fail
    refine C.out.mono ?_
    rintro e w1 ⟨_, he, hb1⟩
    obtain rfl := he HF.out
    go_wp2
    go_ret2
    exact ⟨ret_ib (by omega) (by rw [HF.out] <;> simp), hB.trans (hb1.mono hB.size)⟩
  · have HF := Lib.hid hf
    clear hf
    go_enter Tryd.func23, Tryd.ntmps23
    go_wp2_with fail
    refine C.out.mono ?_
    rintro e w1 ⟨he, _, hb1⟩
    obtain rfl := he HF.out
    go_wp2
    go_ret2
    exact ⟨ret_ib (by rw [fits_all HF.out]; simp) (by rw [HF.out] <;> simp), hB.trans (hb1.mono hB.size)⟩

set_option maxHeartbeats 400000 in
theorem refData_any (inn out : Int) (A : Option Addr) (cap : Nat) (l : List Ex) (w : World) (hr : RdE w w.heap.size A l) (hm : l.length ≤ 9223372036854775807) :
    Calls Tryd.prog 24 #[.slice A l.length cap, .int .i64 inn, .int .i64 out] w fun e w' => e = .returned (.tuple #[.int .i64 (exIdx inn out l), .bool (exFits inn out l)]) ∧ w = w' := by
  go_enter Tryd.func24, Tryd.ntmps24
  go_wp2
  go_loop [8] (fun i => ∃ k : Nat, k ≤ l.length ∧ i = .int .i64 k ∧ Hid (exFits inn out (l.take k) = true)) (fun i => l.length - (intOf i).toNat)
  case atStart => exact ⟨0, Nat.zero_le _, rfl, Lib.hid rfl⟩
  case round =>
    obtain ⟨k, hk, rfl, hfit⟩ := hrel
    by_cases hlt : k < l.length
    · obtain ⟨b, off, rfl, hb, hc⟩ := hr.at_ (by omega)
      obtain ⟨ex, hex⟩ := get_some l k hlt
      have c1 := (hc k ex hex).1
      have c2 := (hc k ex hex).2
      have HE := Lib.hid hex
      clear hc hex
      by_cases e1 : (ex.xs.length : Int) = inn
      · have k1 : ((ex.xs.length : Int) != inn) = false := by simpa using e1
        by_cases e2 : (ex.ys.length : Int) = out
        · have k2 : ((ex.ys.length : Int) != out) = false := by simpa using e2
          have hb := Lib.hid (fits_step HE.out hfit.out (bad_no e1 e2))
          clear e1 e2
          go_wp2
          go_round
          case rel => exact ⟨k + 1, by omega, by go_num, hb⟩
          case measure => simp [intOf]; omega
        · have k2 : ((ex.ys.length : Int) != out) = true := by simpa using e2
          have hb := Lib.hid (fits_idx HE.out hfit.out (bad_y (inn := inn) e2))
          clear e1 e2
          go_wp2
          go_ret2
          exact ⟨ret_ib (by rw [hb.out.2]) hb.out.1.symm, rfl⟩
      · have k1 : ((ex.xs.length : Int) != inn) = true := by simpa using e1
        have hb := Lib.hid (fits_idx HE.out hfit.out (bad_x (out := out) e1))
        clear e1
        go_wp2
        go_ret2
        exact ⟨ret_ib (by rw [hb.out.2]) hb.out.1.symm, rfl⟩
    · have hf : Hid (exFits inn out l = true) := by
        have := hfit.out
        rw [List.take_of_length_le (by omega)] at this
        exact Lib.hid this
      clear hfit
      go_wp2
      go_ret2
      exact ⟨ret_ib (by rw [fits_all hf.out]; rfl) hf.out.symm, rfl⟩

/-- Lengths of examples, each counted up to 1000. -/
def exSum : List Ex → Int
  | [] => 0
  | e :: l => min (e.xs.length : Int) 1000 + min (e.ys.length : Int) 1000 + exSum l
def exFew (l : List Ex) : Bool := decide (l.length ≤ 60) && decide (exSum (l.take 100) ≤ 600)

theorem exSum_snoc : ∀ (l : List Ex) (k : Nat) (e : Ex), l[k]? = some e → exSum (l.take (k + 1)) = exSum (l.take k) + min (e.xs.length : Int) 1000 + min (e.ys.length : Int) 1000
  | [], _, _, h => by simp at h
  | x :: l, 0, e, h => by
    simp at h; subst h
    simp [exSum]
  | x :: l, k + 1, e, h => by
    have ih := exSum_snoc l k e (by simpa using h)
    simp only [List.take_succ_cons, exSum, ih]
    omega
theorem exSum_bd : ∀ (l : List Ex), 0 ≤ exSum l ∧ exSum l ≤ 2000 * l.length
  | [] => by simp [exSum]
  | e :: l => by
    have ih := exSum_bd l
    simp only [exSum, List.length_cons]
    omega

set_option maxHeartbeats 400000 in
theorem dataFew_any (A : Option Addr) (cap : Nat) (l : List Ex) (w : World) (hr : RdE w w.heap.size A l) (hm : l.length ≤ 9223372036854775807) :
    Calls Tryd.prog 21 #[.slice A l.length cap] w fun e w' => e = .returned (.bool (exFew l)) ∧ ∃ n, w' = w.drewN n := by
  go_enter Tryd.func21, Tryd.ntmps21
  go_wp2
  go_loopw [3, 4] (fun n i wr => ∃ k : Nat, k ≤ l.length ∧ k ≤ 100 ∧ i = .int .i64 k ∧ n = .int .i64 (exSum (l.take k)) ∧ ∃ q, wr = w.drewN q) (fun _ i _ => 100 - (intOf i).toNat)
  case atStart => exact ⟨0, Nat.zero_le _, Nat.zero_le _, rfl, rfl, 0, rfl⟩
  case round =>
    obtain ⟨k, hk, hk2, rfl, rfl, q, rfl⟩ := hrel
    have bs := exSum_bd (l.take k)
    have bl : (l.take k).length ≤ 100 := by have := List.length_take_le k l; omega
    have bs2 : exSum (l.take k) ≤ 200000 := by omega
    have bs1 := bs.1
    clear bs bl
    by_cases hlt : k < l.length
    · by_cases h100 : k < 100
      · obtain ⟨b, off, rfl, hb, hc⟩ := hr.at_ (by omega)
        obtain ⟨ex, hex⟩ := get_some l k hlt
        have c1 := (hc k ex hex).1
        have c2 := (hc k ex hex).2
        have hs := Lib.hid (exSum_snoc l k ex hex)
        have hx := (hr.2 ex (List.mem_of_getElem? hex)).2.2
        clear hc hex
        go_wp2
        go_quiet (fail)
        go_wp2
        go_roundw
        case rel =>
          refine ⟨k + 1, by omega, by omega, by go_num, ?_, _, rfl⟩
          rw [hs.out]
          go_num
        case measure => simp [intOf]; omega
      · obtain rfl : k = 100 := by omega
        by_cases h1 : l.length ≤ 60
        · omega
        · go_wp2
          go_ret
          exact ⟨ret_bool (by simp [exFew, h1]), _, rfl⟩
    · have ht : Hid (l.take 100 = l.take k) := Lib.hid (by rw [List.take_of_length_le (by omega), List.take_of_length_le (by omega)])
      by_cases h1 : l.length ≤ 60
      · by_cases h2 : exSum (l.take k) ≤ 600
        · have hf : Hid (exFew l = true) := Lib.hid (by simp [exFew, h1, ht.out, h2])
          go_wp2
          go_ret
          exact ⟨ret_bool hf.out.symm, _, rfl⟩
        · have hf : Hid (exFew l = false) := Lib.hid (by simp only [exFew, h1, ht.out, h2]; decide)
          go_wp2
          go_ret
          exact ⟨ret_bool hf.out.symm, _, rfl⟩
      · have hf : Hid (exFew l = false) := Lib.hid (by simp [exFew, h1])
        go_wp2
        go_ret
        exact ⟨ret_bool hf.out.symm, _, rfl⟩

end Go.Proofs.YtajilipbnfpemaaDoor
