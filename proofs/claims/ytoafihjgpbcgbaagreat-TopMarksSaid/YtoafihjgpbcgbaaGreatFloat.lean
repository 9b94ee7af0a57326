/- Plain Lean: whole numbers of fewer than 54 binary digits as floats of 64 bits: sums and products of them are exact. Conditions: none. -/
import Derived.Laws.ComplexArith
namespace Go.Proofs.YtoafihjgpbcgbaaGreat
open Ieee

abbrev F := Ieee.double

theorem cut_exact (neg : Bool) (n d : Nat) (h0 : 0 < n) : Toward.even.cut neg (n * 2 ^ d) d = n := by
  unfold Toward.cut
  have hl : d ≤ (n * 2 ^ d).log2 + 2 := by
    have h1 : 2 ^ d ≤ n * 2 ^ d := Nat.le_mul_of_pos_left _ h0
    have := (Nat.le_log2 (Nat.mul_ne_zero (by omega) (Nat.pos_iff_ne_zero.1 (Nat.two_pow_pos d)))).2 h1
    omega
  have hg : 1 <<< min d ((n * 2 ^ d).log2 + 2) = 2 ^ d := by rw [Nat.min_eq_left hl, Nat.one_shiftLeft]
  dsimp only
  rw [hg, Nat.mul_div_cancel _ (Nat.two_pow_pos d), Nat.mul_mod_left]
  have hp : 0 < 2 ^ d := Nat.two_pow_pos d
  have h2 : ((2 ^ d : Nat) == 0) = false := by simp
  simp

/-- The rung of a whole number. -/
def rungOf (N : Nat) : Nat := (N.log2 + 1022) * 2 ^ 52 + N * 2 ^ (52 - N.log2)

theorem log2_le {N : Nat} (h0 : 0 < N) (h : N < 2 ^ 53) : N.log2 ≤ 52 := by
  have := (Nat.log2_lt (by omega : N ≠ 0)).2 h
  omega

theorem kept_bd {N : Nat} (h0 : 0 < N) (h : N < 2 ^ 53) : 2 ^ 52 ≤ N * 2 ^ (52 - N.log2) ∧ N * 2 ^ (52 - N.log2) < 2 ^ 53 := by
  have hL := log2_le h0 h
  have h1 : 2 ^ N.log2 ≤ N := Nat.log2_self_le (by omega)
  have h2 : N < 2 ^ (N.log2 + 1) := Nat.lt_log2_self
  have e1 : 2 ^ N.log2 * 2 ^ (52 - N.log2) = 2 ^ 52 := by rw [← Nat.pow_add]; congr 1; omega
  have e2 : 2 ^ (N.log2 + 1) * 2 ^ (52 - N.log2) = 2 ^ 53 := by rw [← Nat.pow_add]; congr 1; omega
  refine ⟨?_, ?_⟩
  · rw [← e1]; exact Nat.mul_le_mul_right _ h1
  · rw [← e2]; exact Nat.mul_lt_mul_of_pos_right h2 (Nat.two_pow_pos _)

/-- Writing 'N * 2^k' at the place -k is writing N. -/
theorem nearest_of (neg : Bool) (N k : Nat) (h0 : 0 < N) (h : N < 2 ^ 53) : F.nearest neg (N * 2 ^ k) (-(k : Int)) = F.word neg (rungOf N) := by
  have hL := log2_le h0 h
  have hN : N * 2 ^ k ≠ 0 := Nat.mul_ne_zero (by omega) (Nat.pos_iff_ne_zero.1 (Nat.two_pow_pos k))
  have hlog : (N * 2 ^ k).log2 = N.log2 + k := by
    rw [Nat.log2_eq_iff hN]
    have h1 : 2 ^ N.log2 ≤ N := Nat.log2_self_le (by omega)
    have h2 : N < 2 ^ (N.log2 + 1) := Nat.lt_log2_self
    refine ⟨?_, ?_⟩
    · rw [Nat.pow_add]; exact Nat.mul_le_mul_right _ h1
    · rw [show N.log2 + k + 1 = N.log2 + 1 + k by omega, Nat.pow_add]; exact Nat.mul_lt_mul_of_pos_right h2 (Nat.two_pow_pos k)
  unfold Format.nearest
  rw [if_neg hN, hlog]
  have hle : F.leastPlace = -1074 := by decide
  have hfr : (F.fractionBits : Int) = 52 := rfl
  have hlast : max (-(k : Int) + ((N.log2 + k : Nat) : Int) - (F.fractionBits : Int)) F.leastPlace = (N.log2 : Int) - 52 := by rw [hle, hfr]; omega
  dsimp only
  rw [hlast, hle]
  have hkb := kept_bd h0 h
  have hkept : Toward.even.cut neg ((N * 2 ^ k) <<< (-(k : Int) - ((N.log2 : Int) - 52)).toNat) (((N.log2 : Int) - 52) - -(k : Int)).toNat = N * 2 ^ (52 - N.log2) := by
    rcases Nat.lt_or_ge k (52 - N.log2) with hk | hk
    · have e1 : (-(k : Int) - ((N.log2 : Int) - 52)).toNat = 52 - N.log2 - k := by omega
      have e2 : (((N.log2 : Int) - 52) - -(k : Int)).toNat = 0 := by omega
      rw [e1, e2, Nat.shiftLeft_eq, Nat.mul_assoc, ← Nat.pow_add, show k + (52 - N.log2 - k) = 52 - N.log2 by omega]
      have := cut_exact neg (N * 2 ^ (52 - N.log2)) 0 (by omega)
      simpa using this
    · have e1 : (-(k : Int) - ((N.log2 : Int) - 52)).toNat = 0 := by omega
      have e2 : (((N.log2 : Int) - 52) - -(k : Int)).toNat = k - (52 - N.log2) := by omega
      rw [e1, e2, Nat.shiftLeft_zero]
      have e3 : N * 2 ^ k = N * 2 ^ (52 - N.log2) * 2 ^ (k - (52 - N.log2)) := by rw [Nat.mul_assoc, ← Nat.pow_add]; congr 2; omega
      rw [e3]
      exact cut_exact neg _ _ (by omega)
  rw [hkept]
  have e4 : (((N.log2 : Int) - 52) - (-1074)).toNat = N.log2 + 1022 := by omega
  rw [e4]
  have hb : F.binade = 2 ^ 52 := rfl
  have hi : F.infRung = 2047 * 2 ^ 52 := by decide
  rw [hb, hi]
  unfold rungOf
  rw [Nat.min_eq_left (by omega)]

theorem read_word (neg : Bool) (N : Nat) (h0 : 0 < N) (h : N < 2 ^ 53) : F.read (F.word neg (rungOf N)) = .number neg (N * 2 ^ (52 - N.log2)) (-((52 - N.log2 : Nat) : Int)) := by
  have hL := log2_le h0 h
  have hkb := kept_bd h0 h
  have hs : F.signWeight = 2 ^ 63 := by decide
  have hb : F.binade = 2 ^ 52 := rfl
  have hi : F.infRung = 2047 * 2 ^ 52 := by decide
  have hle : F.leastPlace = -1074 := by decide
  have hr : rungOf N < 2 ^ 63 := by unfold rungOf; omega
  have hmod : F.word neg (rungOf N) % 2 ^ 63 = rungOf N := by
    unfold Format.word
    rw [hs]
    cases neg
    · exact Nat.mod_eq_of_lt hr
    · simp only [if_true]; rw [Nat.add_mod_left]; exact Nat.mod_eq_of_lt hr
  have hdiv : (F.word neg (rungOf N) / 2 ^ 63 % 2 == 1) = neg := by
    unfold Format.word
    rw [hs]
    cases neg
    · simp [Nat.div_eq_of_lt hr]
    · simp only [if_true]; rw [Nat.add_div_left _ (Nat.two_pow_pos _), Nat.div_eq_of_lt hr]; rfl
  unfold Format.read
  rw [hs, hmod, hdiv, hb, hi, hle]
  dsimp only
  have e1 : rungOf N = N * 2 ^ (52 - N.log2) - 2 ^ 52 + (N.log2 + 1023) * 2 ^ 52 := by unfold rungOf; omega
  have e2 : rungOf N % 2 ^ 52 = N * 2 ^ (52 - N.log2) - 2 ^ 52 := by rw [e1, Nat.add_mul_mod_self_right]; exact Nat.mod_eq_of_lt (by omega)
  have e3 : rungOf N / 2 ^ 52 = N.log2 + 1023 := by rw [e1, Nat.add_mul_div_right _ _ (Nat.two_pow_pos _), Nat.div_eq_of_lt (by omega)]; omega
  rw [if_neg (by unfold rungOf; omega), if_pos (by unfold rungOf; omega), e2, e3]
  have e4 : 2 ^ 52 + (N * 2 ^ (52 - N.log2) - 2 ^ 52) = N * 2 ^ (52 - N.log2) := by omega
  have e5 : (-1074 : Int) + ((N.log2 + 1023 - 1 : Nat) : Int) = -((52 - N.log2 : Nat) : Int) := by omega
  rw [e4, e5]

/-- These bits stand for this whole number (zero has two words). -/
def IsF (b : Nat) (n : Int) : Prop := n.natAbs < 2 ^ 53 ∧ ((n ≠ 0 ∧ b = F.word (decide (n < 0)) (rungOf n.natAbs)) ∨ (n = 0 ∧ ∃ s, b = F.word s 0))

theorem IsF.zero (s : Bool) : IsF (F.word s 0) 0 := ⟨by decide, .inr ⟨rfl, s, rfl⟩⟩

theorem read_zero (s : Bool) : F.read (F.word s 0) = .number s 0 (-1074) := by cases s <;> decide

/-- This datum is this whole number, written with some zeros behind. -/
def Rep (d : Datum) (n : Int) : Prop := ∃ (s : Bool) (k : Nat), d = .number s (n.natAbs * 2 ^ k) (-(k : Int)) ∧ (n ≠ 0 → s = decide (n < 0))

theorem IsF.rep {b : Nat} {n : Int} (h : IsF b n) : Rep (F.read b) n := by
  obtain ⟨hn, ⟨h0, rfl⟩ | ⟨rfl, s, rfl⟩⟩ := h
  · exact ⟨_, _, read_word _ _ (by omega) hn, fun _ => rfl⟩
  · obtain ⟨k, hk⟩ : ∃ k : Nat, -(k : Int) = -1074 := ⟨1074, rfl⟩
    refine ⟨s, k, ?_, fun h => absurd rfl h⟩
    rw [read_zero, Int.natAbs_zero, Nat.zero_mul, hk]

theorem Rep.write {d : Datum} {n : Int} (h : Rep d n) (hn : n.natAbs < 2 ^ 53) : IsF (F.write d) n := by
  obtain ⟨s, k, rfl, hs⟩ := h
  refine ⟨hn, ?_⟩
  by_cases h0 : n = 0
  · subst h0
    exact .inr ⟨rfl, s, by simp [Format.write, Format.nearest]⟩
  · left
    refine ⟨h0, ?_⟩
    rw [← hs h0]
    exact nearest_of s n.natAbs k (by omega) hn

theorem IsF.ofInt (n : Int) (hn : n.natAbs < 2 ^ 53) : IsF (Go.floatOfInt .f64 n) n := by
  have h : Rep (.number (decide (n < 0)) n.natAbs 0) n := ⟨_, 0, by simp, fun _ => rfl⟩
  exact h.write hn

theorem Rep.opposite {d : Datum} {n : Int} (h : Rep d n) : Rep d.opposite (-n) := by
  obtain ⟨s, k, rfl, hs⟩ := h
  refine ⟨!s, k, by simp [Datum.opposite], fun h0 => ?_⟩
  rw [hs (by omega)]
  rw [Bool.eq_iff_iff]
  simp
  omega

theorem signed_val {s : Bool} {n : Int} {k u : Nat} (hs : n ≠ 0 → s = decide (n < 0)) : signed s (n.natAbs * 2 ^ k) u = n * 2 ^ (k + u) := by
  unfold signed
  rw [Nat.shiftLeft_eq, Nat.mul_assoc, ← Nat.pow_add]
  have e : ((n.natAbs * 2 ^ (k + u) : Nat) : Int) = (n.natAbs : Int) * 2 ^ (k + u) := by
    rw [Int.natCast_mul, Int.natCast_pow]; rfl
  rw [e]
  by_cases h0 : n = 0
  · subst h0; simp
  · rw [hs h0]
    by_cases hn : n < 0
    · rw [if_pos (by simpa using hn), ← Int.neg_mul]
      congr 1
      omega
    · rw [if_neg (by simpa using hn)]
      congr 1
      omega

theorem pow_pos_int (k : Nat) : (0 : Int) < 2 ^ k := by
  have : 0 < 2 ^ k := Nat.two_pow_pos k
  have e : ((2 ^ k : Nat) : Int) = 2 ^ k := by rw [Int.natCast_pow]; rfl
  omega

theorem Rep.of_scaled {n : Int} {s : Bool} {K : Nat} (h : n ≠ 0 → s = decide (n * 2 ^ K < 0)) : Rep (.number s (n * 2 ^ K).natAbs (-(K : Int))) n := by
  have hp := pow_pos_int K
  refine ⟨s, K, ?_, fun h0 => ?_⟩
  · have e : ((2 ^ K : Nat) : Int) = 2 ^ K := by rw [Int.natCast_pow]; rfl
    rw [Int.natAbs_mul, ← e, Int.natAbs_natCast]
  · rw [h h0, Bool.eq_iff_iff]
    simp only [decide_eq_true_eq]
    constructor
    · intro hn
      rcases Int.lt_or_le n 0 with h1 | h1
      · exact h1
      · have := Int.mul_nonneg h1 (Int.le_of_lt hp); omega
    · intro hn
      exact Int.mul_neg_of_neg_of_pos hn hp

theorem Rep.sum {d e : Datum} {x y : Int} (hd : Rep d x) (he : Rep e y) : ∃ r, d.sum e = some r ∧ Rep r (x + y) := by
  obtain ⟨s, k, rfl, hs⟩ := hd
  obtain ⟨t, j, rfl, ht⟩ := he
  have hb : min (-(k : Int)) (-(j : Int)) = -((max k j : Nat) : Int) := by omega
  have e1 : (-(k : Int) - -((max k j : Nat) : Int)).toNat = max k j - k := by omega
  have e2 : (-(j : Int) - -((max k j : Nat) : Int)).toNat = max k j - j := by omega
  have t1 : signed s (x.natAbs * 2 ^ k) (max k j - k) = x * 2 ^ max k j := by rw [signed_val hs, show k + (max k j - k) = max k j by omega]
  have t2 : signed t (y.natAbs * 2 ^ j) (max k j - j) = y * 2 ^ max k j := by rw [signed_val ht, show j + (max k j - j) = max k j by omega]
  refine ⟨_, rfl, ?_⟩
  rw [hb, e1, e2, t1, t2, ← Int.add_mul]
  refine Rep.of_scaled fun h0 => ?_
  have hp := pow_pos_int (max k j)
  rw [if_neg (Int.mul_ne_zero h0 (by omega))]

theorem Rep.product {d e : Datum} {x y : Int} (hd : Rep d x) (he : Rep e y) : ∃ r, d.product e = some r ∧ Rep r (x * y) := by
  obtain ⟨s, k, rfl, hs⟩ := hd
  obtain ⟨t, j, rfl, ht⟩ := he
  refine ⟨_, rfl, s ^^ t, k + j, ?_, fun h0 => ?_⟩
  · congr 1
    · rw [Int.natAbs_mul, Nat.pow_add, Nat.mul_mul_mul_comm]
    · omega
  · have hx : x ≠ 0 := fun e => h0 (by rw [e, Int.zero_mul])
    have hy : y ≠ 0 := fun e => h0 (by rw [e, Int.mul_zero])
    rw [hs hx, ht hy, Bool.eq_iff_iff]
    rcases Int.lt_or_gt_of_ne hx with hx | hx <;> rcases Int.lt_or_gt_of_ne hy with hy | hy
    · have := Int.mul_pos_of_neg_of_neg hx hy
      simp; omega
    · have := Int.mul_neg_of_neg_of_pos hx hy
      simp; omega
    · have := Int.mul_neg_of_pos_of_neg hx hy
      simp; omega
    · have := Int.mul_pos hx hy
      simp; omega

theorem IsF.add {a b : Nat} {x y : Int} (ha : IsF a x) (hb : IsF b y) (h : (x + y).natAbs < 2 ^ 53) : ∃ r, F.add a b = some r ∧ IsF r (x + y) := by
  obtain ⟨d, hd, hr⟩ := ha.rep.sum hb.rep
  exact ⟨_, by unfold Format.add; rw [hd]; rfl, hr.write h⟩
theorem IsF.sub {a b : Nat} {x y : Int} (ha : IsF a x) (hb : IsF b y) (h : (x - y).natAbs < 2 ^ 53) : ∃ r, F.sub a b = some r ∧ IsF r (x - y) := by
  obtain ⟨d, hd, hr⟩ := ha.rep.sum hb.rep.opposite
  exact ⟨_, by unfold Format.sub; rw [hd]; rfl, hr.write h⟩
theorem IsF.mul {a b : Nat} {x y : Int} (ha : IsF a x) (hb : IsF b y) (h : (x * y).natAbs < 2 ^ 53) : ∃ r, F.mul a b = some r ∧ IsF r (x * y) := by
  obtain ⟨d, hd, hr⟩ := ha.rep.product hb.rep
  exact ⟨_, by unfold Format.mul; rw [hd]; rfl, hr.write h⟩

theorem Rep.order {d e : Datum} {x y : Int} (hd : Rep d x) (he : Rep e y) : d.order e = some (compare x y) := by
  obtain ⟨s, k, rfl, hs⟩ := hd
  obtain ⟨t, j, rfl, ht⟩ := he
  have hb : min (-(k : Int)) (-(j : Int)) = -((max k j : Nat) : Int) := by omega
  have e1 : (-(k : Int) - -((max k j : Nat) : Int)).toNat = max k j - k := by omega
  have e2 : (-(j : Int) - -((max k j : Nat) : Int)).toNat = max k j - j := by omega
  have t1 : signed s (x.natAbs * 2 ^ k) (max k j - k) = x * 2 ^ max k j := by rw [signed_val hs, show k + (max k j - k) = max k j by omega]
  have t2 : signed t (y.natAbs * 2 ^ j) (max k j - j) = y * 2 ^ max k j := by rw [signed_val ht, show j + (max k j - j) = max k j by omega]
  show some (compare (signed s _ _) (signed t _ _)) = _
  rw [hb, e1, e2, t1, t2]
  have hp := pow_pos_int (max k j)
  congr 1
  rcases Int.lt_trichotomy x y with h | h | h
  · rw [Int.compare_eq_lt.2 h, Int.compare_eq_lt.2 (Int.mul_lt_mul_of_pos_right h hp)]
  · subst h; simp
  · rw [Int.compare_eq_gt.2 h, Int.compare_eq_gt.2 (Int.mul_lt_mul_of_pos_right h hp)]

theorem Rep.toInt {d : Datum} {n : Int} (h : Rep d n) : d.toInt .zero = some n := by
  obtain ⟨s, k, rfl, hs⟩ := h
  have e1 : (-(k : Int)).toNat = 0 := by omega
  have e2 : (- -(k : Int)).toNat = k := by omega
  unfold Datum.toInt Datum.integral
  dsimp only
  rw [e1, e2, Nat.shiftLeft_zero]
  have hc : Toward.zero.cut s (n.natAbs * 2 ^ k) k = n.natAbs := by
    by_cases h0 : n.natAbs = 0
    · rw [h0, Nat.zero_mul]; simp [Toward.cut]
    · have hl : k ≤ (n.natAbs * 2 ^ k).log2 + 2 := by
        have h1 : 2 ^ k ≤ n.natAbs * 2 ^ k := Nat.le_mul_of_pos_left _ (by omega)
        have := (Nat.le_log2 (Nat.mul_ne_zero h0 (Nat.pos_iff_ne_zero.1 (Nat.two_pow_pos k)))).2 h1
        omega
      unfold Toward.cut
      dsimp only
      rw [Nat.min_eq_left hl, Nat.one_shiftLeft, Nat.mul_div_cancel _ (Nat.two_pow_pos k)]
      simp
  rw [hc]
  have := signed_val (k := 0) (u := 0) hs
  simpa using this

end Go.Proofs.YtoafihjgpbcgbaaGreat
