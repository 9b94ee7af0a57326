/- Walks: the hashes of both; plain law: a changed element changes the hash. Conditions: none. -/
import Derived.Test.YtoafihjgpbcgbaaGreatMarkFew
namespace Go.Proofs.YtoafihjgpbcgbaaGreat
open Go.RowKit

/-- The hash, not reduced. -/
def hz (h : Int) : List Int → Int
  | [] => h
  | x :: l => hz ((h + x) * 1099511628211) l
theorem hz_snoc : ∀ (l : List Int) (h : Int) (k : Nat) (x : Int), l[k]? = some x → hz h (l.take (k + 1)) = (hz h (l.take k) + x) * 1099511628211
  | [], _, _, _, e => by simp at e
  | y :: l, h, 0, x, e => by
    simp at e; subst e
    simp [hz]
  | y :: l, h, k + 1, x, e => by
    have ih := hz_snoc l ((h + y) * 1099511628211) k x (by simpa using e)
    simpa [hz] using ih
theorem hz_lin : ∀ (l : List Int) (h : Int), hz h l = h * 1099511628211 ^ l.length + hz 0 l
  | [], h => by simp [hz]
  | x :: l, h => by
    have h1 := hz_lin l ((h + x) * 1099511628211)
    have h2 := hz_lin l ((0 + x) * 1099511628211)
    simp only [hz, List.length_cons]
    rw [h1, h2, Int.pow_succ]
    simp only [Int.add_mul, Int.zero_add]
    rw [Int.mul_comm (1099511628211 ^ l.length) 1099511628211, ← Int.mul_assoc]
    omega
theorem hz_drop (l : List Int) (k : Nat) (x : Int) (e : l[k]? = some x) : hz 0 (l.drop k) = hz 0 (l.drop (k + 1)) + x * 1099511628211 ^ (l.length - k) := by
  have hk : k < l.length := (List.getElem?_eq_some_iff.1 e).1
  rw [List.drop_eq_getElem_cons hk]
  have e2 : l[k] = x := by
    rw [List.getElem?_eq_getElem hk] at e
    injection e
  rw [e2]
  simp only [hz]
  rw [hz_lin, List.length_drop, show l.length - k = (l.length - (k + 1)) + 1 by omega, Int.pow_succ]
  rw [Int.mul_comm (1099511628211 ^ _) 1099511628211, ← Int.mul_assoc, Int.zero_add]
  omega

theorem hz_set : ∀ (l : List Int) (h : Int) (k : Nat) (x y : Int), l[k]? = some x → hz h (l.set k y) - hz h l = (y - x) * 1099511628211 ^ (l.length - k)
  | [], _, _, _, _, e => by simp at e
  | z :: l, h, 0, x, y, e => by
    simp at e; subst e
    simp only [List.set_cons_zero, hz, List.length_cons, Nat.sub_zero]
    rw [hz_lin l ((h + y) * _), hz_lin l ((h + z) * _), Int.pow_succ, Int.mul_comm (1099511628211 ^ _) 1099511628211, ← Int.mul_assoc]
    have : (y - z) * 1099511628211 * 1099511628211 ^ l.length = (h + y) * 1099511628211 * 1099511628211 ^ l.length - (h + z) * 1099511628211 * 1099511628211 ^ l.length := by
      rw [← Int.sub_mul, ← Int.sub_mul]
      congr 2
      omega
    omega
  | z :: l, h, k + 1, x, y, e => by
    simp only [List.set_cons_succ, hz, List.length_cons]
    rw [hz_set l _ k x y (by simpa using e), show l.length + 1 - (k + 1) = l.length - k by omega]

theorem pow_odd : ∀ k : Nat, (1099511628211 ^ k : Int) % 2 = 1
  | 0 => by simp
  | k + 1 => by
    rw [Int.pow_succ, Int.mul_emod, pow_odd k]
    rfl

theorem hz_differ {l : List Int} {k : Nat} {x y c : Int} (e : l[k]? = some x) (hy : (y - (x + c)) % 18446744073709551616 = 0) (h0 : c ≠ 0) (h1 : -9223372036854775808 ≤ c ∧ c ≤ 9223372036854775807) :
    hz 1 (l.set k y) % 18446744073709551616 ≠ hz 1 l % 18446744073709551616 := by
  intro h
  have h2 := hz_set l 1 k x y e
  have h3 : ((18446744073709551616 : Nat) : Int) ∣ (y - x) * 1099511628211 ^ (l.length - k) := by
    rw [← h2]
    show (18446744073709551616 : Int) ∣ _
    omega
  have hco : Nat.Coprime 18446744073709551616 (1099511628211 ^ (l.length - k)) := by
    rw [show 18446744073709551616 = 2 ^ 64 by rfl]
    exact Nat.Coprime.pow 64 (l.length - k) (by decide)
  have h4 := Int.natAbs_dvd_natAbs.2 h3
  rw [Int.natAbs_mul, Int.natAbs_pow] at h4
  have h5 := hco.dvd_of_dvd_mul_right h4
  have h6 : (18446744073709551616 : Int) ∣ (y - x) := Int.natAbs_dvd_natAbs.1 h5
  omega

theorem wrapU (n : Int) : IntKind.u64.wrap n = n % 18446744073709551616 := by
  simp [IntKind.wrap, IntKind.bits, IntKind.signed]

set_option maxHeartbeats 400000 in
theorem hash_any (A : Option Addr) (cap : Nat) (zs : List Int) (w : World) (hr : RdI w w.heap.size A zs) (hl : zs.length ≤ 1099511627776) :
    Calls Tryz.prog 10 #[.slice A zs.length cap] w fun e w' => e = .returned (.int .u64 (hz 1 zs % 18446744073709551616)) ∧ w = w' := by
  go_enter Tryz.func10, Tryz.ntmps10
  go_wp2
  go_loop [3, 8] (fun h i => ∃ (k : Nat) (u : Int), k ≤ zs.length ∧ i = .int .i64 k ∧ h = .int .u64 u ∧ Hid (u = hz 1 (zs.take k) % 18446744073709551616)) (fun _ i => zs.length - (intOf i).toNat)
  case atStart => exact ⟨0, 1, Nat.zero_le _, rfl, rfl, Lib.hid (by simp [hz])⟩
  case round =>
    obtain ⟨k, u, hk, rfl, rfl, HU⟩ := hrel
    by_cases hlt : k < zs.length
    · obtain ⟨bb, off, rfl, hbl, hc⟩ := hr.at_ (by omega)
      obtain ⟨x, hx⟩ := get_some zs k hlt
      have c1 : w.cell? ⟨bb, off + k, none⟩ = some (.int .i64 x) := hc k x hx
      have hs := Lib.hid (hz_snoc zs 1 k x hx)
      clear hc hx
      go_wp2
      go_round
      case rel =>
        refine ⟨k + 1, _, by omega, by go_num, rfl, Lib.hid ?_⟩
        rw [hs.out, HU.out]
        simp only [wrapU]
        omega
      case measure => simp [intOf]; omega
    · have ht : Hid (zs.take k = zs) := Lib.hid (List.take_of_length_le (by omega))
      go_wp2
      go_ret
      have hh := HU.out
      rw [ht.out] at hh
      subst hh
      exact ⟨rfl, rfl⟩

theorem sum_step (S x q : Int) : (S % 18446744073709551616 + x % 18446744073709551616 * (q % 18446744073709551616 * 1099511628211 % 18446744073709551616) % 18446744073709551616) % 18446744073709551616 = (S + x * (q * 1099511628211)) % 18446744073709551616 := by
  have h1 : q % 18446744073709551616 * 1099511628211 % 18446744073709551616 = q * 1099511628211 % 18446744073709551616 := by omega
  have h2 : x % 18446744073709551616 * (q * 1099511628211 % 18446744073709551616) % 18446744073709551616 = x * (q * 1099511628211) % 18446744073709551616 := (Int.mul_emod x (q * 1099511628211) 18446744073709551616).symm
  rw [h1, h2]
  omega

set_option maxHeartbeats 400000 in
theorem refHash_any (A : Option Addr) (cap : Nat) (zs : List Int) (w : World) (hr : RdI w w.heap.size A zs) (hl : zs.length ≤ 1099511627776) :
    Calls Tryz.prog 11 #[.slice A zs.length cap] w fun e w' => e = .returned (.int .u64 (hz 1 zs % 18446744073709551616)) ∧ w = w' := by
  go_enter Tryz.func11, Tryz.ntmps11
  go_wp2
  go_loop [3, 4, 5] (fun p s i => ∃ (j : Nat) (u v : Int), j ≤ zs.length ∧ i = .int .i64 ((j : Int) - 1) ∧ p = .int .u64 u ∧ s = .int .u64 v ∧ Hid (u = 1099511628211 ^ (zs.length - j) % 18446744073709551616) ∧ Hid (v = hz 0 (zs.drop j) % 18446744073709551616)) (fun _ _ i => (intOf i + 1).toNat)
  case atStart => exact ⟨zs.length, 1, 0, Nat.le_refl _, rfl, rfl, rfl, Lib.hid (by simp), Lib.hid (by simp [hz])⟩
  case round =>
    obtain ⟨j, u, v, hj, rfl, rfl, rfl, HU, HV⟩ := hrel
    rcases j with _ | k
    · go_wp2
      go_ret
      have h1 := HU.out
      have h2 := HV.out
      have h3 := hz_lin zs 1
      simp only [List.drop_zero, Nat.sub_zero] at h1 h2
      refine ⟨?_, rfl⟩
      have e : IntKind.u64.wrap (v + u) = hz 1 zs % 18446744073709551616 := by
        rw [wrapU, h1, h2, h3]
        omega
      rw [← e]
      rfl
    · have hlt : k < zs.length := by omega
      obtain ⟨bb, off, rfl, hbl, hc⟩ := hr.at_ (by omega)
      obtain ⟨x, hx⟩ := get_some zs k hlt
      have c1 : w.cell? ⟨bb, off + k, none⟩ = some (.int .i64 x) := hc k x hx
      have hs := Lib.hid (hz_drop zs k x hx)
      clear hc hx
      rw [show ((k + 1 : Nat) : Int) - 1 = (k : Int) by omega]
      go_wp2
      go_round
      case rel =>
        refine ⟨k, _, _, by omega, by go_num, rfl, rfl, Lib.hid ?_, Lib.hid ?_⟩
        · rw [HU.out, wrapU, show zs.length - k = (zs.length - (k + 1)) + 1 by omega, Int.pow_succ]
          omega
        · rw [hs.out, HU.out, HV.out]
          simp only [wrapU]
          rw [sum_step, show zs.length - k = (zs.length - (k + 1)) + 1 by omega, Int.pow_succ]
      case measure => simp [intOf]

end Go.Proofs.YtoafihjgpbcgbaaGreat
