/- Plain Lean: the decimal digits of a fraction with q bits. Conditions: none. -/
import Derived.Test.YtnifbipbpengeaaDoorWords
import Derived.Laws.BitsAllLaws
import Derived.Laws.BitsLemmas
import Derived.Lib.ItoaMem
namespace Go.Proofs.YtnifbipbpengeaaDoor
open Go.RowKit

/-- 2 to the q-th, as a word of ours. -/
def p2 (q : Nat) : Nat := 2 ^ q
theorem p2_pos (q : Nat) : 0 < p2 q := Nat.two_pow_pos q
theorem p2_le {q : Nat} (h : q ≤ 62) : p2 q ≤ 4611686018427387904 := by
  have := Nat.pow_le_pow_right (n := 2) (by decide) h
  unfold p2; omega
theorem p2_succ (q : Nat) : p2 (q + 1) = 2 * p2 q := by unfold p2; rw [Nat.pow_succ]; omega
theorem p2_int (q : Nat) : (2 : Int) ^ q = (p2 q : Int) := by unfold p2; rw [Int.natCast_pow]; rfl
theorem p2_mul (a b : Nat) : p2 a * p2 b = p2 (a + b) := by unfold p2; rw [Nat.pow_add]

theorem wrap_p2 {q : Nat} (h : q ≤ 62) : IntKind.u64.wrap ((2 : Int) ^ q) = (p2 q : Int) := by
  have := p2_le h
  rw [p2_int, IntKind.wrap_u64]; omega
theorem wrap_mask {q : Nat} (h : q ≤ 62) : IntKind.u64.wrap ((p2 q : Int) - 1) = ((p2 q - 1 : Nat) : Int) := by
  have := p2_le h
  have := p2_pos q
  rw [IntKind.wrap_u64]; omega
theorem and_mask {q : Nat} (h : q ≤ 62) (n : Nat) (hn : n < 18446744073709551616) : bits .and .u64 (n : Int) ((p2 q - 1 : Nat) : Int) = ((n % p2 q : Nat) : Int) := by
  have := p2_le h
  rw [u64_and_nat n (p2 q - 1) hn (by omega)]
  unfold p2
  rw [Nat.and_two_pow_sub_one_eq_mod]
theorem shr_nat (q n : Nat) : (n : Int) / 2 ^ q = ((n / p2 q : Nat) : Int) := by
  rw [p2_int]; rfl
theorem min_q {q : Nat} (h : q ≤ 62) : min q 64 = q := by omega

/-- Half of a number with an integer digit b and the fraction's digits. -/
def halfL : Nat → List Nat → List Nat
  | b, [] => if b = 0 then [] else [5]
  | b, d :: L => (10 * b + d) / 2 :: halfL ((10 * b + d) % 2) L

/-- The digits of a fraction of q bits, down to the last one that is not 0. -/
def cd : Nat → Nat → List Nat
  | 0, _ => []
  | q + 1, r => halfL (r / p2 q) (cd q (r % p2 q))

theorem cd_nil : ∀ q, cd q 0 = []
  | 0 => rfl
  | q + 1 => by simp [cd, cd_nil q, halfL]

theorem cd_step : ∀ (q r : Nat), r < p2 q → r ≠ 0 → cd q r = 10 * r / p2 q :: cd q (10 * r % p2 q)
  | 0, r, h, h0 => by simp [p2] at h; omega
  | q + 1, r, h, h0 => by
    have hp := p2_pos q
    rw [p2_succ] at h ⊢
    obtain ⟨b, s, hb, hs, rfl⟩ : ∃ b s, b ≤ 1 ∧ s < p2 q ∧ r = b * p2 q + s := by
      refine ⟨r / p2 q, r % p2 q, ?_, Nat.mod_lt _ hp, (Nat.div_add_mod' r (p2 q)).symm⟩
      exact Nat.lt_succ_iff.1 ((Nat.div_lt_iff_lt_mul hp).2 (by omega))
    have e1 : (b * p2 q + s) / p2 q = b := by rw [Nat.add_comm, Nat.add_mul_div_right _ _ hp, Nat.div_eq_of_lt hs, Nat.zero_add]
    have e2 : (b * p2 q + s) % p2 q = s := by rw [Nat.add_comm, Nat.add_mul_mod_self_right, Nat.mod_eq_of_lt hs]
    simp only [cd, e1, e2]
    by_cases hs0 : s = 0
    · subst hs0
      have hb1 : b = 1 := by
        rcases Nat.eq_zero_or_pos b with h0' | h0'
        · subst h0'; simp at h0
        · omega
      subst hb1
      have e3 : 10 * (1 * p2 q + 0) / (2 * p2 q) = 5 := by rw [show 10 * (1 * p2 q + 0) = 5 * (2 * p2 q) by omega, Nat.mul_div_cancel _ (by omega)]
      have e4 : 10 * (1 * p2 q + 0) % (2 * p2 q) = 0 := by rw [show 10 * (1 * p2 q + 0) = 5 * (2 * p2 q) by omega, Nat.mul_mod_left]
      rw [e3, e4, cd_nil]
      simp [halfL, cd_nil]
    · rw [cd_step q s hs hs0]
      have hd := Nat.div_add_mod (10 * s) (p2 q)
      have hm := Nat.mod_lt (10 * s) hp
      generalize 10 * s / p2 q = d at hd
      generalize 10 * s % p2 q = m at hd hm
      have e5 : 10 * (b * p2 q + s) = (10 * b + d) * p2 q + m := by
        rw [Nat.mul_add, Nat.add_mul, ← hd, Nat.mul_assoc, Nat.mul_comm (p2 q) d, Nat.add_assoc]
      have hdm := Nat.div_add_mod (10 * b + d) 2
      have hlt := Nat.mod_lt (10 * b + d) (show 0 < 2 by decide)
      simp only [halfL]
      rw [e5]
      generalize (10 * b + d) / 2 = k at hdm
      generalize (10 * b + d) % 2 = c at hdm hlt
      have e6 : (10 * b + d) * p2 q + m = (c * p2 q + m) + k * (2 * p2 q) := by
        rw [← hdm, Nat.add_mul, Nat.mul_comm 2 k, Nat.mul_assoc]; omega
      have e7 : c * p2 q + m < 2 * p2 q := by
        have : c * p2 q ≤ 1 * p2 q := Nat.mul_le_mul_right _ (by omega)
        omega
      rw [e6, Nat.add_mul_div_right _ _ (by omega), Nat.div_eq_of_lt e7, Nat.zero_add, Nat.add_mul_mod_self_right, Nat.mod_eq_of_lt e7]
      have e8 : (c * p2 q + m) / p2 q = c := by rw [Nat.add_comm, Nat.add_mul_div_right _ _ hp, Nat.div_eq_of_lt hm, Nat.zero_add]
      have e9 : (c * p2 q + m) % p2 q = m := by rw [Nat.add_comm, Nat.add_mul_mod_self_right, Nat.mod_eq_of_lt hm]
      rw [e8, e9]

theorem halfL_length : ∀ (L : List Nat) (b : Nat), (halfL b L).length ≤ L.length + 1
  | [], b => by unfold halfL; split <;> simp
  | d :: L, b => by simp only [halfL, List.length_cons]; have := halfL_length L ((10 * b + d) % 2); omega
theorem cd_length : ∀ q r, (cd q r).length ≤ q
  | 0, _ => by simp [cd]
  | q + 1, r => by simp only [cd]; have := halfL_length (cd q (r % p2 q)) (r / p2 q); have := cd_length q (r % p2 q); omega

theorem digit_le {q r : Nat} (h : r < p2 q) : 10 * r / p2 q ≤ 9 := by
  have hp := p2_pos q
  have : 10 * r / p2 q < 10 := (Nat.div_lt_iff_lt_mul hp).2 (by omega)
  omega

theorem halfL_digits : ∀ (L : List Nat) (b : Nat), b ≤ 1 → (∀ d ∈ L, d ≤ 9) → ∀ d ∈ halfL b L, d ≤ 9
  | [], b, _, _, d, hd => by
    unfold halfL at hd
    split at hd <;> simp at hd
    omega
  | e :: L, b, hb, hL, d, hd => by
    simp only [halfL, List.mem_cons] at hd
    have he := hL e (by simp)
    rcases hd with rfl | hd
    · omega
    · exact halfL_digits L _ (by omega) (fun x hx => hL x (by simp [hx])) d hd
theorem cd_digits : ∀ (q r : Nat), r < p2 q → ∀ d ∈ cd q r, d ≤ 9
  | 0, _, _, d, hd => by simp [cd] at hd
  | q + 1, r, h, d, hd => by
    have hp := p2_pos q
    rw [p2_succ] at h
    refine halfL_digits _ _ ?_ (cd_digits q _ (Nat.mod_lt _ hp)) d hd
    exact Nat.lt_succ_iff.1 ((Nat.div_lt_iff_lt_mul hp).2 (by omega))

/-- The text of a fixed-point number with q fraction bits. -/
def fracText (q r : Nat) : List UInt8 := if r = 0 then [] else 46 :: (cd q r).map (fun d => UInt8.ofNat (48 + d))
def decText (x : Int) (q : Nat) : List UInt8 := (if x < 0 then [45] else []) ++ Lib.decDigits (x.natAbs / p2 q) ++ fracText q (x.natAbs % p2 q)

end Go.Proofs.YtnifbipbpengeaaDoor
