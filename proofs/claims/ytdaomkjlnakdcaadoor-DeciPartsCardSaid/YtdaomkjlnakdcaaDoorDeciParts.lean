/- Walks: Whole and Part of the program and of the reference; DeciParts. Conditions: the table of powers of ten reads as listed. -/
import Derived.Test.YtdaomkjlnakdcaaDoorDeciApart
namespace Go.Proofs.YtdaomkjlnakdcaaDoor
open Go.RowKit

theorem whole_no (x q : Int) (hq : ¬ (0 ≤ q ∧ q ≤ 62)) (w : World) : Calls Tryd.prog 28 #[.int .i64 x, .int .i64 q] w fun e w' => e = .returned (.int .i64 0) ∧ w = w' := by
  have C := right_any q w
  rw [decide_eq_false hq] at C
  have H := Lib.hid C
  clear C hq
  go_enter Tryd.func28, Tryd.ntmps28
  go_wp2_with fail
  (with_reducible refine H.out.mono ?_)
  rintro e w1 ⟨rfl, rfl⟩
  go_wp2
  go_ret
  exact ⟨rfl, rfl⟩
theorem part_no (x q : Int) (hq : ¬ (0 ≤ q ∧ q ≤ 62)) (w : World) : Calls Tryd.prog 29 #[.int .i64 x, .int .i64 q] w fun e w' => e = .returned (.int .u64 0) ∧ w = w' := by
  have C := right_any q w
  rw [decide_eq_false hq] at C
  have H := Lib.hid C
  clear C hq
  go_enter Tryd.func29, Tryd.ntmps29
  go_wp2_with fail
  (with_reducible refine H.out.mono ?_)
  rintro e w1 ⟨rfl, rfl⟩
  go_wp2
  go_ret
  exact ⟨rfl, rfl⟩
theorem refWhole_no (x q : Int) (hq : ¬ (0 ≤ q ∧ q ≤ 62)) (w : World) : Calls Tryd.prog 30 #[.int .i64 x, .int .i64 q] w fun e w' => e = .returned (.int .i64 0) ∧ w = w' := by
  have h : q < 0 ∨ (0 ≤ q ∧ 62 < q) := by omega
  clear hq
  rcases h with h | ⟨h1, h2⟩
  all_goals
    go_enter Tryd.func30, Tryd.ntmps30
    go_wp2
    go_ret
    exact ⟨rfl, rfl⟩
theorem refPart_no (x q : Int) (hq : ¬ (0 ≤ q ∧ q ≤ 62)) (w : World) : Calls Tryd.prog 31 #[.int .i64 x, .int .i64 q] w fun e w' => e = .returned (.int .u64 0) ∧ w = w' := by
  have h : q < 0 ∨ (0 ≤ q ∧ 62 < q) := by omega
  clear hq
  rcases h with h | ⟨h1, h2⟩
  all_goals
    go_enter Tryd.func31, Tryd.ntmps31
    go_wp2
    go_ret
    exact ⟨rfl, rfl⟩

theorem int_pow (q : Nat) (x : Int) : x / 2 ^ q = x / (p2 q : Int) := by rw [p2_int]

theorem whole_yes (x : Int) (q : Nat) (hq : q ≤ 62) (w : World) : Calls Tryd.prog 28 #[.int .i64 x, .int .i64 q] w fun e w' => e = .returned (.int .i64 (x / p2 q)) ∧ w = w' := by
  have C := right_any q w
  rw [decide_eq_true (by omega)] at C
  have H := Lib.hid C
  have e1 := int_pow q x
  obtain ⟨h1, h2⟩ : 0 ≤ (q : Int) ∧ (q : Int) ≤ 64 := by omega
  generalize x / (p2 q : Int) = k at e1
  clear C hq
  go_enter Tryd.func28, Tryd.ntmps28
  go_wp2_with fail
  (with_reducible refine H.out.mono ?_)
  rintro e w1 ⟨rfl, rfl⟩
  go_wp2
  go_ret
  exact ⟨rfl, rfl⟩

theorem refWhole_yes (x : Int) (q : Nat) (hq : q ≤ 62) (w : World) : Calls Tryd.prog 30 #[.int .i64 x, .int .i64 q] w fun e w' => e = .returned (.int .i64 (x / p2 q)) ∧ w = w' := by
  have e1 := int_pow q x
  obtain ⟨h1, h2⟩ : 0 ≤ (q : Int) ∧ (q : Int) ≤ 62 := by omega
  have hw : IntKind.u64.wrap (q : Int) = q := by rw [IntKind.wrap_u64]; omega
  generalize x / (p2 q : Int) = k at e1
  clear hq
  go_enter Tryd.func30, Tryd.ntmps30
  go_wp2
  go_ret
  exact ⟨rfl, rfl⟩

theorem mod_nat (x : Int) (q : Nat) : ∃ r : Nat, x % (p2 q : Int) = r ∧ r < p2 q := by
  have hp := p2_pos q
  have h1 := Int.emod_nonneg x (b := (p2 q : Int)) (by omega)
  have h2 := Int.emod_lt_of_pos x (b := (p2 q : Int)) (by omega)
  exact ⟨(x % (p2 q : Int)).toNat, by omega, by omega⟩

theorem wrap_mod (x : Int) (q : Nat) (hq : q ≤ 62) : ∃ n r : Nat, IntKind.u64.wrap x = n ∧ n < 18446744073709551616 ∧ n % p2 q = r ∧ x % (p2 q : Int) = r := by
  have hw : IntKind.u64.wrap x = x % 18446744073709551616 := IntKind.wrap_u64 x
  obtain ⟨n, hn, hn2⟩ : ∃ n : Nat, x % 18446744073709551616 = n ∧ n < 18446744073709551616 := ⟨(x % 18446744073709551616).toNat, by omega, by omega⟩
  refine ⟨n, n % p2 q, hw.trans hn, hn2, rfl, ?_⟩
  have hd : ((p2 q : Nat) : Int) ∣ 18446744073709551616 := by
    refine ⟨(p2 (64 - q) : Int), ?_⟩
    have := p2_mul q (64 - q)
    rw [show q + (64 - q) = 64 by omega, show p2 64 = 18446744073709551616 by decide] at this
    omega
  have := Int.emod_emod_of_dvd x hd
  rw [← this, hn]
  omega

theorem part_yes (x : Int) (q r : Nat) (hq : q ≤ 62) (hr : x % (p2 q : Int) = r) (w : World) : Calls Tryd.prog 29 #[.int .i64 x, .int .i64 q] w fun e w' => e = .returned (.int .u64 r) ∧ w = w' := by
  have C := right_any q w
  rw [decide_eq_true (by omega)] at C
  have H := Lib.hid C
  obtain ⟨n, r', h3, h4, h5, h6⟩ := wrap_mod x q hq
  obtain rfl : r' = r := by omega
  have e2 := wrap_p2 hq
  have e3 := wrap_mask hq
  have e4 := and_mask hq n h4
  rw [h5] at e4
  generalize p2 q - 1 = msk at e3 e4
  obtain ⟨h1, h2⟩ : 0 ≤ (q : Int) ∧ (q : Int) ≤ 64 := by omega
  clear C hq h4 h5 h6 hr
  go_enter Tryd.func29, Tryd.ntmps29
  go_wp2_with fail
  (with_reducible refine H.out.mono ?_)
  rintro e w1 ⟨rfl, rfl⟩
  go_wp2
  go_ret
  exact ⟨rfl, rfl⟩

theorem shr_shl (x : Int) (q r : Nat) (hx : -9223372036854775808 ≤ x ∧ x ≤ 9223372036854775807) (hq : q ≤ 62) (hr : x % (p2 q : Int) = r) :
    ∃ k y : Int, x / 2 ^ q = k ∧ wrap64 (k * 2 ^ q) = y ∧ wrap64 (x - y) = r ∧ x / (p2 q : Int) = k ∧ y + r = x := by
  have hp := p2_pos q
  have hp2 := p2_le hq
  have hd := Int.mul_ediv_add_emod x (p2 q : Int)
  rw [hr] at hd
  have hrl : (r : Int) < p2 q := by rw [← hr]; exact Int.emod_lt_of_pos _ (by omega)
  have hlow : -9223372036854775808 ≤ (p2 q : Int) * (x / (p2 q : Int)) := by
    have h1 : (-(p2 (63 - q) : Int)) ≤ x / (p2 q : Int) := by
      have := p2_mul (63 - q) q
      rw [show 63 - q + q = 63 by omega, show p2 63 = 9223372036854775808 by decide] at this
      refine (Int.le_ediv_iff_mul_le (by omega)).2 ?_
      rw [Int.neg_mul, ← Int.natCast_mul, this]
      omega
    have h2 := Int.mul_le_mul_of_nonneg_left h1 (show (0 : Int) ≤ p2 q by omega)
    have := p2_mul q (63 - q)
    rw [show q + (63 - q) = 63 by omega, show p2 63 = 9223372036854775808 by decide] at this
    rw [Int.mul_neg, ← Int.natCast_mul, this] at h2
    omega
  refine ⟨x / (p2 q : Int), (p2 q : Int) * (x / (p2 q : Int)), int_pow q x, ?_, ?_, rfl, hd⟩
  · rw [p2_int, Int.mul_comm]; exact IntWalk.wrap64_in _ (by omega)
  · exact (IntWalk.wrap64_in _ (by omega)).trans (by omega)

theorem refPart_yes (x : Int) (q r : Nat) (hx : -9223372036854775808 ≤ x ∧ x ≤ 9223372036854775807) (hq : q ≤ 62) (hr : x % (p2 q : Int) = r) (w : World) : Calls Tryd.prog 31 #[.int .i64 x, .int .i64 q] w fun e w' => e = .returned (.int .u64 r) ∧ w = w' := by
  obtain ⟨k, y, e1, e2, e3, _, _⟩ := shr_shl x q r hx hq hr
  have hp2 := p2_le hq
  have hrl : (r : Int) < p2 q := by rw [← hr]; exact Int.emod_lt_of_pos _ (by have := p2_pos q; omega)
  have e4 : IntKind.u64.wrap (r : Int) = r := by rw [IntKind.wrap_u64]; omega
  obtain ⟨h1, h2⟩ : 0 ≤ (q : Int) ∧ (q : Int) ≤ 62 := by omega
  have hw : IntKind.u64.wrap (q : Int) = q := by rw [IntKind.wrap_u64]; omega
  clear hq hp2 hrl hr hx
  go_enter Tryd.func31, Tryd.ntmps31
  go_wp2
  go_ret
  exact ⟨rfl, rfl⟩

set_option maxHeartbeats 400000 in
theorem deciParts_any (x q : Int) (w : World) (hp : Pow w.heap.size w) (hx : -9223372036854775808 ≤ x ∧ x ≤ 9223372036854775807) :
    Calls Tryd.prog 8 #[.int .i64 x, .int .i64 q] w fun e w' => e = .returned (.bool true) ∧ Below w.heap.size w w' := by
  have C1 := Lib.hid (alive02_any _ w hp (Nat.le_refl _))
  clear hp
  by_cases hq : 0 ≤ q ∧ q ≤ 62
  · obtain ⟨n, rfl⟩ : ∃ n : Nat, q = (n : Int) := ⟨q.toNat, by omega⟩
    have hn : n ≤ 62 := by omega
    obtain ⟨r, hr, hrl⟩ := mod_nat x n
    obtain ⟨k, y, e1, e2, e3, e4, e5⟩ := shr_shl x n r hx hn hr
    have hp2 := p2_le hn
    have A1 := fun W => whole_yes x n hn W
    have A2 := fun W => part_yes x n r hn hr W
    have A3 := fun W => refWhole_yes x n hn W
    have A4 := fun W => refPart_yes x n r hx hn hr W
    rw [e4] at A1 A3
    have H1 := Lib.hid A1
    have H2 := Lib.hid A2
    have H3 := Lib.hid A3
    have H4 := Lib.hid A4
    have w1 := wrap_p2 hn
    have w2 : IntKind.i64.wrap (r : Int) = r := IntWalk.i64_in _ (by omega)
    have w3 : wrap64 (y + r) = x := (IntWalk.wrap64_in _ (by omega)).trans e5
    have w4 : (r : Int) < p2 n := by omega
    obtain ⟨h1, h2⟩ : 0 ≤ (n : Int) ∧ (n : Int) ≤ 62 := by omega
    clear A1 A2 A3 A4 hq hx hn hr hrl hp2 e1 e3 e4 e5
    generalize p2 n = P at w1 w4
    go_enter Tryd.func8, Tryd.ntmps8
    go_wp2_with (first
      | (go_at_call 28; (with_reducible refine (H1.out _).mono ?_); rintro e w1 ⟨rfl, rfl⟩)
      | (go_at_call 29; (with_reducible refine (H2.out _).mono ?_); rintro e w1 ⟨rfl, rfl⟩)
      | (go_at_call 30; (with_reducible refine (H3.out _).mono ?_); rintro e w1 ⟨rfl, rfl⟩)
      | (go_at_call 31; (with_reducible refine (H4.out _).mono ?_); rintro e w1 ⟨rfl, rfl⟩)
      | (go_at_call 26; (with_reducible refine C1.out.mono ?_); rintro e w1 ⟨rfl, hb⟩; have HB := Lib.hid hb; clear hb))
    go_ret
    exact ⟨rfl, HB.out⟩
  · have H1 := Lib.hid (fun W => whole_no x q hq W)
    have H2 := Lib.hid (fun W => part_no x q hq W)
    have H3 := Lib.hid (fun W => refWhole_no x q hq W)
    have H4 := Lib.hid (fun W => refPart_no x q hq W)
    have h : q < 0 ∨ (0 ≤ q ∧ 62 < q) := by omega
    clear hq hx
    rcases h with h | ⟨h1, h2⟩
    all_goals
      go_enter Tryd.func8, Tryd.ntmps8
      go_wp2_with (first
        | (go_at_call 28; (with_reducible refine (H1.out _).mono ?_); rintro e w1 ⟨rfl, rfl⟩)
        | (go_at_call 29; (with_reducible refine (H2.out _).mono ?_); rintro e w1 ⟨rfl, rfl⟩)
        | (go_at_call 30; (with_reducible refine (H3.out _).mono ?_); rintro e w1 ⟨rfl, rfl⟩)
        | (go_at_call 31; (with_reducible refine (H4.out _).mono ?_); rintro e w1 ⟨rfl, rfl⟩)
        | (go_at_call 26; (with_reducible refine C1.out.mono ?_); rintro e w1 ⟨rfl, hb⟩; have HB := Lib.hid hb; clear hb))
      go_ret
      exact ⟨rfl, HB.out⟩

end Go.Proofs.YtdaomkjlnakdcaaDoor
