/- Walks: the reference's Few of examples. Conditions: none. -/
import Derived.Test.YtnifbipbpengeaaDoorEx
namespace Go.Proofs.YtnifbipbpengeaaDoor
open Go.RowKit

/-- Lengths of examples, each counted up to 1000. -/
def exSum : List Ex → Int
  | [] => 0
  | e :: l => min (e.xs.length : Int) 1000 + min (e.ys.length : Int) 1000 + exSum l
def exFew (l : List Ex) : Bool := decide (l.length ≤ 60) && decide (exSum (l.take 100) ≤ 600)

theorem exSum_snoc : ∀ (l : List Ex) (k : Nat) (e : Ex), l[k]? = some e → exSum (l.take (k + 1)) = exSum (l.take k) + min (e.xs.length : Int) 1000 + min (e.ys.length : Int) 1000
  | [], _, _, h => by simp at h
  | x :: l, 0, e, h => by
    simp at h; subst h
    simp [exSum]
  | x :: l, k + 1, e, h => by
    have ih := exSum_snoc l k e (by simpa using h)
    simp only [List.take_succ_cons, exSum, ih]
    omega
theorem exSum_bd : ∀ (l : List Ex), 0 ≤ exSum l ∧ exSum l ≤ 2000 * l.length
  | [] => by simp [exSum]
  | e :: l => by
    have ih := exSum_bd l
    simp only [exSum, List.length_cons]
    omega

set_option maxHeartbeats 400000 in
theorem dataFew_any (A : Option Addr) (cap : Nat) (l : List Ex) (w : World) (hr : RdE w w.heap.size A l) (hm : l.length ≤ 9223372036854775807) :
    Calls Tryd.prog 4 #[.slice A l.length cap] w fun e w' => e = .returned (.bool (exFew l)) ∧ ∃ n, w' = w.drewN n := by
  go_enter Tryd.func4, Tryd.ntmps4
  go_wp2
  go_loopw [3, 4] (fun n i wr => ∃ k : Nat, k ≤ l.length ∧ k ≤ 100 ∧ i = .int .i64 k ∧ n = .int .i64 (exSum (l.take k)) ∧ ∃ q, wr = w.drewN q) (fun _ i _ => 100 - (intOf i).toNat)
  case atStart => exact ⟨0, Nat.zero_le _, Nat.zero_le _, rfl, rfl, 0, rfl⟩
  case round =>
    obtain ⟨k, hk, hk2, rfl, rfl, q, rfl⟩ := hrel
    have bs := exSum_bd (l.take k)
    have bl : (l.take k).length ≤ 100 := by have := List.length_take_le k l; omega
    have bs2 : exSum (l.take k) ≤ 200000 := by omega
    have bs1 := bs.1
    clear bs bl
    by_cases hlt : k < l.length
    · by_cases h100 : k < 100
      · obtain ⟨b, off, rfl, hb, hc⟩ := hr.at_ (by omega)
        obtain ⟨ex, hex⟩ := get_some l k hlt
        have c1 := (hc k ex hex).1
        have c2 := (hc k ex hex).2
        have hs := Lib.hid (exSum_snoc l k ex hex)
        have hx := (hr.2 ex (List.mem_of_getElem? hex)).2.2
        clear hc hex
        go_wp2
        go_quiet (fail)
        go_wp2
        go_roundw
        case rel =>
          refine ⟨k + 1, by omega, by omega, by go_num, ?_, _, rfl⟩
          rw [hs.out]
          go_num
        case measure => simp [intOf]; omega
      · obtain rfl : k = 100 := by omega
        by_cases h1 : l.length ≤ 60
        · omega
        · go_wp2
          go_ret
          exact ⟨ret_bool (by simp [exFew, h1]), _, rfl⟩
    · have ht : Hid (l.take 100 = l.take k) := Lib.hid (by rw [List.take_of_length_le (by omega), List.take_of_length_le (by omega)])
      by_cases h1 : l.length ≤ 60
      · by_cases h2 : exSum (l.take k) ≤ 600
        · have hf : Hid (exFew l = true) := Lib.hid (by simp [exFew, h1, ht.out, h2])
          go_wp2
          go_ret
          exact ⟨ret_bool hf.out.symm, _, rfl⟩
        · have hf : Hid (exFew l = false) := Lib.hid (by simp only [exFew, h1, ht.out, h2]; decide)
          go_wp2
          go_ret
          exact ⟨ret_bool hf.out.symm, _, rfl⟩
      · have hf : Hid (exFew l = false) := Lib.hid (by simp [exFew, h1])
        go_wp2
        go_ret
        exact ⟨ret_bool hf.out.symm, _, rfl⟩

theorem exSum_mem : ∀ {l : List Ex} {e : Ex}, e ∈ l → min (e.xs.length : Int) 1000 + min (e.ys.length : Int) 1000 ≤ exSum l
  | [], _, h => by cases h
  | x :: l, e, h => by
    simp only [exSum]
    rcases List.mem_cons.1 h with rfl | h
    · have := (exSum_bd l).1
      omega
    · have := exSum_mem h
      omega
theorem exFew_mem {l : List Ex} (h : exFew l = true) : l.length ≤ 60 ∧ ∀ e ∈ l, e.xs.length ≤ 600 ∧ e.ys.length ≤ 600 := by
  simp only [exFew, Bool.and_eq_true, decide_eq_true_eq] at h
  refine ⟨h.1, fun e he => ?_⟩
  rw [List.take_of_length_le (by omega)] at h
  have := exSum_mem he
  omega

end Go.Proofs.YtnifbipbpengeaaDoor
