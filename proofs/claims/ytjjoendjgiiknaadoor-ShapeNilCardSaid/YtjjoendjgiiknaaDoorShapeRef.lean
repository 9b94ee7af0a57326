/- Walks: the reference's Count and Check of sizes, and the small tests of ranges. Conditions: none. -/
import Derived.Test.YtjjoendjgiiknaaDoorWords
import Derived.Test.YtjjoendjgiiknaaDoorShapePlain
namespace Go.Proofs.YtjjoendjgiiknaaDoor
open Go.RowKit

def betw (x lo hi : Int) : Bool := decide (lo ≤ x ∧ x ≤ hi)

theorem betw_sz (x : Int) : betw x 1 1048576 = okSz x := rfl


set_option maxHeartbeats 400000 in
theorem wrong_any (x : Int) (w : World) :
    Calls Tryd.prog 28 #[.int .i64 x] w fun e w' => e = .returned (.bool (!okSz x)) ∧ w = w' := by
  by_cases h1 : x < 1
  · go_enter Tryd.func28, Tryd.ntmps28
    go_wp2
    go_ret
    exact ⟨ret_bool (by simp [okSz]; omega), rfl⟩
  · by_cases h2 : 1048576 < x
    all_goals
      go_enter Tryd.func28, Tryd.ntmps28
      go_wp2
      go_ret
      exact ⟨ret_bool (by simp [okSz]; omega), rfl⟩

set_option maxHeartbeats 400000 in
theorem refCount_any (A : Option Addr) (cap : Nat) (zs : List Int) (w : World) (hr : RdI w w.heap.size A zs) (hl : zs.length ≤ 16) (hz : zs.all okSz = true) :
    Calls Tryd.prog 15 #[.slice A zs.length cap] w fun e w' => e = .returned (.int .i64 (cnt zs)) ∧ ∃ n, w' = w.drewN n := by
  have hall : ∀ z ∈ zs, okSz z = true := List.all_eq_true.1 hz
  have Hall := Lib.hid hall
  clear hall hz
  go_enter Tryd.func15, Tryd.ntmps15
  go_wp2
  go_loopw [3, 4] (fun n i wr => ∃ k : Nat, k ≤ zs.length ∧ i = .int .i64 k ∧ n = .int .i64 (cnt (zs.take (k + 1))) ∧ ∃ q, wr = w.drewN q) (fun _ i _ => zs.length - (intOf i).toNat)
  case atStart =>
    refine ⟨0, Nat.zero_le _, rfl, ?_, 0, rfl⟩
    match zs with
    | [] => rfl
    | [_] => rfl
    | _ :: _ :: _ => rfl
  case round =>
    obtain ⟨k, hk, rfl, rfl, q, rfl⟩ := hrel
    by_cases hlt : k + 1 < zs.length
    · obtain ⟨b, off, rfl, _, hc⟩ := hr.at_ (by omega)
      obtain ⟨x, hx⟩ := get_some zs k (by omega)
      obtain ⟨y, hy⟩ := get_some zs (k + 1) hlt
      have c1 : w.cell? ⟨b, off + k, none⟩ = some (.int .i64 x) := hc _ _ hx
      have c2 : w.cell? ⟨b, off + (k + 1), none⟩ = some (.int .i64 y) := hc _ _ hy
      have bx := okSz_iff.1 (Hall.out x (List.mem_of_getElem? hx))
      have byy := okSz_iff.1 (Hall.out y (List.mem_of_getElem? hy))
      have bm := mul_bd x y bx byy
      have bc := cnt_bd (zs.take (k + 1)) (fun z hz => Hall.out z (List.mem_of_mem_take hz))
      have bl : ((zs.take (k + 1)).length : Int) ≤ 16 := by have := List.length_take_le (k + 1) zs; omega
      have S := Lib.hid (cnt_snoc zs k x y hx hy)
      clear hx hy hc
      generalize hC : cnt (zs.take (k + 1)) = C at *
      have HC := Lib.hid hC
      clear hC
      have b0 : 0 ≤ C := by omega
      have b1 : C ≤ 17592202821632 := by omega
      clear bc bl
      go_wp2
      go_quiet (fail)
      go_wp2
      go_roundw
      case rel => exact ⟨k + 1, by omega, by go_num, by rw [S.out], _, rfl⟩
      case measure => simp [intOf]; omega
    · go_wp2
      go_ret
      exact ⟨ret_int (by rw [List.take_of_length_le (by omega)]), _, rfl⟩


theorem take_all (zs : List Int) (k : Nat) (z : Int) (h : zs[k]? = some z) (ha : (zs.take k).all okSz = true) (hz : okSz z = true) : (zs.take (k + 1)).all okSz = true := by
  rw [List.take_add_one, h, List.all_append, ha]
  simp [hz]

theorem not_all (zs : List Int) (k : Nat) (z : Int) (h : zs[k]? = some z) (hz : okSz z = false) : zs.all okSz = false := by
  rw [List.all_eq_false]
  exact ⟨z, List.mem_of_getElem? h, by simp [hz]⟩

set_option maxHeartbeats 400000 in
theorem refShape_any (A : Option Addr) (cap : Nat) (zs : List Int) (w : World) (hr : RdI w w.heap.size A zs) (hm : zs.length ≤ 9223372036854775807) :
    Calls Tryd.prog 10 #[.slice A zs.length cap] w fun e w' => e = .returned (.int .i64 (shCode zs)) ∧ ∃ n, w' = w.drewN n := by
  by_cases h2 : zs.length < 2
  · go_enter Tryd.func10, Tryd.ntmps10
    go_wp2
    go_ret
    exact ⟨ret_int (by simp [shCode, h2]), 0, rfl⟩
  by_cases h16 : 16 < zs.length
  · go_enter Tryd.func10, Tryd.ntmps10
    go_wp2
    go_ret
    exact ⟨ret_int (by simp [shCode, h16]), 0, rfl⟩
  have hcode : shCode zs = if zs.all okSz = false then 5 else if 1048576 < cnt zs then 4 else 0 := by
    unfold shCode; rw [if_neg (by omega)]
  have Hcode := Lib.hid hcode
  clear hcode
  obtain ⟨b, off, rfl, hb, hc⟩ := hr.at_ (by omega)
  have Hc := Lib.hid hc
  clear hc
  go_enter Tryd.func10, Tryd.ntmps10
  go_wp2
  go_loop [3] (fun i => ∃ k : Nat, k ≤ zs.length ∧ i = .int .i64 k ∧ Hid ((zs.take k).all okSz = true)) (fun i => zs.length - (intOf i).toNat)
  case atStart => exact ⟨0, Nat.zero_le _, rfl, Lib.hid rfl⟩
  case round =>
    obtain ⟨k, hk, rfl, hall⟩ := hrel
    by_cases hlt : k < zs.length
    · obtain ⟨z, hz⟩ := get_some zs k hlt
      have c1 : w.cell? ⟨b, off + k, none⟩ = some (.int .i64 z) := Hc.out _ _ hz
      have HZ := Lib.hid hz
      clear hz
      by_cases l1 : z < 1
      · go_wp2
        go_ret
        exact ⟨ret_int (by rw [Hcode.out, if_pos (not_all zs k z HZ.out (okSz_no.2 (.inl l1)))]), 0, rfl⟩
      by_cases l2 : 1048576 < z
      · go_wp2
        go_ret
        exact ⟨ret_int (by rw [Hcode.out, if_pos (not_all zs k z HZ.out (okSz_no.2 (.inr l2)))]), 0, rfl⟩
      · go_wp2
        go_round
        case rel => exact ⟨k + 1, by omega, by go_num, Lib.hid (take_all zs k z HZ.out hall.out (okSz_iff.2 (by omega)))⟩
        case measure => simp [intOf]; omega
    · have hall' : Hid (zs.all okSz = true) := by
        have := hall.out
        rw [List.take_of_length_le (by omega)] at this
        exact Lib.hid this
      clear hall
      by_cases h4 : 1048576 < cnt zs
      all_goals
        go_wp2_with (go_at_call 15; refine (refCount_any _ _ zs _ hr (by omega) hall'.out).mono ?_; rintro e w' ⟨rfl, n, rfl⟩)
        go_ret
        refine ⟨ret_int ?_, _, rfl⟩
        rw [Hcode.out, if_neg (by rw [hall'.out]; decide)]
        simp [h4]

end Go.Proofs.YtjjoendjgiiknaaDoor
