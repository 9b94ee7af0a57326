/- Plain Lean: how many epochs a run begins. Conditions: none. -/
import Derived.Test.YtiokdfkddcokoaaConfPlain
namespace Go.Proofs.Ytiokdfkddcokoaa

/-- Epochs of a run. -/
def epo (k st ba n : Int) : Int := if k ≠ 0 ∨ n < ba ∨ 1048576 < n then 0 else (st + n / ba - 1) / (n / ba)

theorem epo_no {k st ba n : Int} (h : k ≠ 0 ∨ n < ba ∨ 1048576 < n) : epo k st ba n = 0 := if_pos h
theorem epo_yes {k st ba n : Int} (h : ¬ (k ≠ 0 ∨ n < ba ∨ 1048576 < n)) : epo k st ba n = (st + n / ba - 1) / (n / ba) := if_neg h

/-- Counting steps one by one comes to the quotient. -/
theorem ceil_of {s d e : Int} (hd : 1 ≤ d) (h1 : s ≤ e * d) (h2 : e = 0 ∨ (e - 1) * d < s) (hs : 0 ≤ s) : (s + d - 1) / d = e := by
  have hd0 : (0 : Int) < d := by omega
  rcases h2 with rfl | h2
  · have : s = 0 := by rw [Int.zero_mul] at h1; omega
    subst this
    rw [Int.ediv_eq_zero_of_lt (by omega) (by omega)]
  · have e1 : (e - 1) * d = e * d - d := by rw [Int.sub_mul, Int.one_mul]
    have e2 : (e + 1) * d = e * d + d := by rw [Int.add_mul, Int.one_mul]
    have a : e ≤ (s + d - 1) / d := (Int.le_ediv_iff_mul_le hd0).2 (by omega)
    have b : (s + d - 1) / d < e + 1 := (Int.ediv_lt_iff_lt_mul hd0).2 (by omega)
    omega

theorem quo_bd {n ba : Int} (h1 : 1 ≤ ba) (h2 : ba ≤ n) (h3 : n ≤ 1048576) : 1 ≤ n / ba ∧ n / ba ≤ 1048576 := by
  have a : 1 ≤ n / ba := (Int.le_ediv_iff_mul_le (by omega)).2 (by omega)
  have b := Int.ediv_le_self (a := n) ba (by omega)
  omega

theorem epo_bd {k st ba n : Int} (h1 : k = 0 → 1 ≤ ba) (hs : 0 ≤ st) (hs' : st ≤ 1048576) : 0 ≤ epo k st ba n ∧ epo k st ba n ≤ 2097152 := by
  by_cases h : k ≠ 0 ∨ n < ba ∨ 1048576 < n
  · rw [epo_no h]; omega
  · rw [epo_yes h]
    have hq := quo_bd (h1 (by omega)) (by omega : ba ≤ n) (by omega)
    have a : 0 ≤ (st + n / ba - 1) / (n / ba) := Int.ediv_nonneg (by omega) (by omega)
    have b := Int.ediv_le_self (a := st + n / ba - 1) (n / ba) (by omega)
    omega

/-- A configuration without an error has steps and a batch in range. -/
theorem conf_zero {zs : List Int} {c : Cf} (h : confCode zs c = 0) : (0 ≤ c.st ∧ c.st ≤ 1048576) ∧ 1 ≤ c.ba ∧ c.ba ≤ 1048576 ∧ shCode zs = 0 := by
  unfold confCode at h
  split at h
  · cases h
  split at h
  · cases h
  split at h
  · omega
  split at h
  · cases h
  split at h
  · cases h
  rename_i h1 h2 h3 h4 h5
  have hn : numsOk c = true := by simpa using h4
  simp only [numsOk, Bool.and_eq_true, Bool.or_eq_true, decide_eq_true_eq] at hn
  have hst := hn.2
  have : c.st = 0 ∨ (1 ≤ c.st ∧ c.st ≤ 1048576) := by
    rcases hst with e | e
    · exact .inl e
    · exact .inr (okSz_iff.1 e)
  have h3' : shCode zs = 0 := by
    by_cases e : shCode zs = 0
    · exact e
    · exact absurd e h3
  exact ⟨by omega, by omega, by omega, h3'⟩

end Go.Proofs.Ytiokdfkddcokoaa
