/- Walk: slices.Equal at ints. Conditions: none. -/
import Derived.Test.YtiokdfkddcokoaaGreatDoorWords
namespace Go.Proofs.YtiokdfkddcokoaaGreatDoor
open Go.RowKit

set_option maxHeartbeats 2000000 in
theorem equalInt_any (A C : Option Addr) (cap cap' : Nat) (xs us : List Int) (w : World) (hr : RdI w w.heap.size A xs) (hs : RdI w w.heap.size C us) (hx : xs.length ≤ 9223372036854775807) (hu : us.length ≤ 9223372036854775807) :
    Calls Tryz.prog 25 #[.slice A xs.length cap, .slice C us.length cap'] w fun e w' => e = .returned (.bool (decide (xs = us))) ∧ Below w.heap.size w w' := by
  have HR := Lib.hid hr
  have HS := Lib.hid hs
  have hxl : (xs.length : Int) ≤ 9223372036854775807 := by omega
  have hul : (us.length : Int) ≤ 9223372036854775807 := by omega
  clear hr hs hx hu
  by_cases hl : xs.length = us.length
  · have HL := Lib.hid hl
    have hne : ((xs.length : Int) != (us.length : Int)) = false := by simp [hl]
    clear hl
    go_enter Tryz.func25, Tryz.ntmps25
    go_wp2_with fail
    go_loopw [13] (fun i wr => ∃ k : Nat, k ≤ xs.length ∧ i = .int .i64 k ∧ Hid (xs.take k = us.take k) ∧ Hid (Below w.heap.size w wr)) (fun i _ => xs.length - (intOf i).toNat)
    case atStart => exact ⟨0, Nat.zero_le _, rfl, Lib.hid rfl, Lib.hid (Below.refl _ _)⟩
    case round =>
      obtain ⟨k, hk, rfl, HT, HBk⟩ := hrel
      by_cases h1 : k < xs.length
      · have h2 : k < us.length := by have := HL.out; omega
        obtain ⟨b, off, rfl, hb, hcz⟩ := HR.out.at_ (by omega)
        obtain ⟨b', off', rfl, hb', hcz'⟩ := HS.out.at_ (by omega)
        obtain ⟨x, hx⟩ := get_some xs k h1
        obtain ⟨u, hu⟩ := get_some us k h2
        have c1 : wr.cell? ⟨b, off + k, none⟩ = some (.int .i64 x) := (HBk.out.cell (p := ⟨b, off + k, none⟩) hb).trans (hcz k x hx)
        have c2 : wr.cell? ⟨b', off' + k, none⟩ = some (.int .i64 u) := (HBk.out.cell (p := ⟨b', off' + k, none⟩) hb').trans (hcz' k u hu)
        have tx : xs.take (k + 1) = xs.take k ++ [x] := by rw [List.take_add_one, hx]; rfl
        have tu : us.take (k + 1) = us.take k ++ [u] := by rw [List.take_add_one, hu]; rfl
        have h0 : (0 : Int) ≤ (k : Int) := by omega
        have h1' : (k : Int) < (xs.length : Int) := by omega
        have h2' : (k : Int) < (us.length : Int) := by omega
        by_cases he : x = u
        · have HT' := Lib.hid (show xs.take (k + 1) = us.take (k + 1) by rw [tx, tu, HT.out, he])
          have hq : (x != u) = false := by simp [he]
          clear hcz hcz' hx hu tx tu he
          go_wp2_with fail
          go_quiet (fail)
          go_wp2_with fail
          go_roundw
          case rel => exact ⟨k + 1, by omega, by go_num, HT', Lib.hid (below_drewN HBk.out _)⟩
          case measure => simp [intOf]; omega
        · have HN := Lib.hid (show decide (xs = us) = false from decide_eq_false fun e => he (by rw [e, hu] at hx; injection hx with hx; exact hx.symm))
          have hq : (x != u) = true := by simp [he]
          clear hcz hcz' hx hu tx tu he
          go_wp2_with fail
          go_quiet (fail)
          go_wp2_with fail
          go_ret
          exact ⟨ret_bool HN.out.symm, below_drewN HBk.out _⟩
      · have HE := Lib.hid (show decide (xs = us) = true by
          have := HT.out
          have hl := HL.out
          rw [List.take_of_length_le (by omega), List.take_of_length_le (by omega)] at this
          exact decide_eq_true this)
        go_wp2_with fail
        go_ret
        exact ⟨ret_bool HE.out.symm, HBk.out⟩
  · have HN := Lib.hid (show decide (xs = us) = false from decide_eq_false fun e => hl (by rw [e]))
    have hne : ((xs.length : Int) != (us.length : Int)) = true := by simp; omega
    go_enter Tryz.func25, Tryz.ntmps25
    go_wp2_with fail
    go_ret
    exact ⟨ret_bool HN.out.symm, Below.refl _ _⟩

end Go.Proofs.YtiokdfkddcokoaaGreatDoor
