/- Walks: the reference's numbers: value, digits, Number. Conditions: none. -/
import Derived.Test.YtiokdfkddcokoaaGreatDoorRefDec
import Derived.Test.YtiokdfkddcokoaaGreatDoorDeciInj
namespace Go.Proofs.YtiokdfkddcokoaaGreatDoor
open Go.RowKit

/-- What 'value' returns, from a number on. -/
def valF : Nat → List UInt8 → Nat × Bool
  | n, [] => (n, decide (n ≤ 9223372036854775808))
  | n, c :: l => if 1000000000000000000 < n then (0, false) else valF (10 * n + (c.toNat + 208) % 256) l

def digitB (c : UInt8) : Bool := decide (48 ≤ c.toNat ∧ c.toNat ≤ 57)
def digsB (l : List UInt8) : Bool := l.all digitB

theorem drop_at (s : ByteArray) (k : Nat) (h : k < s.size) : s.data.toList.drop k = s[k] :: s.data.toList.drop (k + 1) := by
  rw [List.drop_eq_getElem_cons (by simpa using h)]; rfl
theorem drop_end (s : ByteArray) (k : Nat) (h : ¬ k < s.size) : s.data.toList.drop k = [] := List.drop_of_length_le (by rw [Array.length_toList]; exact Nat.le_of_not_lt h)

/-- The pair that a function hands back, as values. -/
def NatBool (p : Nat × Bool) (w : World) (e : Ending) (w' : World) : Prop := e = .returned (.tuple #[.int .u64 p.1, .bool p.2]) ∧ w = w'

set_option maxHeartbeats 1000000 in
theorem value_any (s : ByteArray) (w : World) (hs : s.size ≤ 1048576) : Calls Tryz.prog 39 #[.string s] w (NatBool (valF 0 s.data.toList) w) := by
  go_enter Tryz.func39, Tryz.ntmps39
  go_wp2_with fail
  go_loop [4, 5] (fun n i => ∃ k m : Nat, k ≤ s.size ∧ i = .int .i64 k ∧ n = .int .u64 m ∧ m ≤ 10000000000000001000 ∧ valF m (s.data.toList.drop k) = valF 0 s.data.toList) (fun _ i => s.size - (intOf i).toNat)
  case atStart => exact ⟨0, 0, Nat.zero_le _, rfl, rfl, by omega, rfl⟩
  case round =>
    obtain ⟨k, m, hk, rfl, rfl, hm, hv⟩ := hrel
    by_cases hlt : k < s.size
    · have hd := drop_at s k hlt
      have hc := s[k].toNat_lt
      rw [hd, valF] at hv
      by_cases hbig : 1000000000000000000 < m
      · rw [if_pos hbig] at hv
        have hb : (1000000000000000000 : Int) < (m : Int) := by omega
        have HV := Lib.hid hv
        clear hv hd hc hbig hm
        go_wp2_with fail
        go_ret2
        exact ⟨by rw [← HV.out]; rfl, rfl⟩
      · rw [if_neg hbig] at hv
        have hb : ¬ (1000000000000000000 : Int) < (m : Int) := by omega
        obtain ⟨v, hve⟩ : ∃ v, (s[k].toNat + 208) % 256 = v := ⟨_, rfl⟩
        have hw1 : IntKind.u8.wrap ((s[k].toNat : Int) - 48) = (v : Int) := by rw [IntKind.wrap_u8']; omega
        have hw2 : IntKind.u64.wrap (v : Int) = v := by rw [IntKind.wrap_u64]; omega
        obtain ⟨t, ht⟩ : ∃ t, 10 * m = t := ⟨_, rfl⟩
        have hw3 : IntKind.u64.wrap (10 * (m : Int)) = (t : Int) := by rw [IntKind.wrap_u64]; omega
        obtain ⟨u, hu⟩ : ∃ u, t + v = u := ⟨_, rfl⟩
        have hw4 : IntKind.u64.wrap ((t : Int) + (v : Int)) = (u : Int) := by rw [IntKind.wrap_u64]; omega
        rw [hve, ht, hu] at hv
        have HV := Lib.hid hv
        have HU := Lib.hid (show u ≤ 10000000000000001000 by omega)
        clear hv hd hc hbig hm hve ht hu
        go_wp2_with fail
        go_round
        case rel => exact ⟨k + 1, u, by omega, by go_num, rfl, HU.out, HV.out⟩
        case measure => simp [intOf]; omega
    · rw [drop_end s k hlt, valF] at hv
      have HV := Lib.hid hv
      have hm2 : (0 : Int) ≤ m := by omega
      clear hv hm
      go_wp2_with fail
      go_ret2
      refine ⟨?_, rfl⟩
      have he : decide ((m : Int) ≤ 9223372036854775808) = decide (m ≤ 9223372036854775808) := decide_eq_decide.2 (by omega)
      rw [← HV.out, he]
      rfl

theorem all_drop (l : List UInt8) (k : Nat) (c : UInt8) (h : l.drop k = c :: l.drop (k + 1)) : digsB (l.drop k) = (digitB c && digsB (l.drop (k + 1))) := by
  rw [h]; rfl

/-- What 'digits' returns. -/
def digsOk (l : List UInt8) : Bool := digsB l && decide (0 < l.length)

set_option maxHeartbeats 1000000 in
theorem digits_any (s : ByteArray) (w : World) (hs : s.size ≤ 1048576) : Calls Tryz.prog 40 #[.string s] w fun e w' => e = .returned (.bool (digsOk s.data.toList)) ∧ w = w' := by
  have hlen : s.data.toList.length = s.size := Array.length_toList
  go_enter Tryz.func40, Tryz.ntmps40
  go_wp2_with fail
  go_loop [3] (fun i => ∃ k : Nat, k ≤ s.size ∧ i = .int .i64 k ∧ digsB (s.data.toList.drop k) = digsB s.data.toList) (fun i => s.size - (intOf i).toNat)
  case atStart => exact ⟨0, Nat.zero_le _, rfl, rfl⟩
  case round =>
    obtain ⟨k, hk, rfl, hv⟩ := hrel
    by_cases hlt : k < s.size
    · have hd := all_drop _ _ _ (drop_at s k hlt)
      rw [hv] at hd
      have hc := s[k].toNat_lt
      by_cases hdig : 48 ≤ s[k].toNat ∧ s[k].toNat ≤ 57
      · have h1 : ¬ (s[k].toNat : Int) < 48 := by omega
        have h2 : ¬ (57 : Int) < (s[k].toNat : Int) := by omega
        have HD := Lib.hid (show digsB (s.data.toList.drop (k + 1)) = digsB s.data.toList by rw [hd]; simp [digitB, hdig])
        clear hd hv hc hlen hdig
        go_wp2_with fail
        go_round
        case rel => exact ⟨k + 1, by omega, by go_num, HD.out⟩
        case measure => simp [intOf]; omega
      · have HD := Lib.hid (show digsOk s.data.toList = false by unfold digsOk; rw [hd]; simp [digitB, hdig])
        clear hd hv hlen
        by_cases h1 : s[k].toNat < 48
        · have h1 : (s[k].toNat : Int) < 48 := by omega
          go_wp2_with fail
          go_ret
          exact ⟨by rw [HD.out]; rfl, rfl⟩
        · have h1 : ¬ (s[k].toNat : Int) < 48 := by omega
          have h2 : (57 : Int) < (s[k].toNat : Int) := by omega
          go_wp2_with fail
          go_ret
          exact ⟨by rw [HD.out]; rfl, rfl⟩
    · rw [drop_end s k hlt] at hv
      have hv2 : digsB s.data.toList = true := hv.symm
      have HD := Lib.hid (show digsOk s.data.toList = decide (0 < s.size) by unfold digsOk; rw [hv2, hlen]; simp)
      clear hv hv2 hlen
      go_wp2_with fail
      go_ret
      exact ⟨by rw [HD.out]; rfl, rfl⟩

end Go.Proofs.YtiokdfkddcokoaaGreatDoor
