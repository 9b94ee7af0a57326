/- Plain Lean: a number's text leads back to it. Conditions: none. -/
import Derived.Test.YtnifbipbpengeaaDoorDeciPlain
namespace Go.Proofs.YtnifbipbpengeaaDoor

/-- Twice a row of digits: what comes out in front, and the digits. -/
def dblL : List Nat → Nat × List Nat
  | [] => (0, [])
  | d :: L => ((2 * d + (dblL L).1) / 10, (2 * d + (dblL L).1) % 10 :: (dblL L).2)

/-- The first q bits of a fraction that is given by its digits. -/
def bitsL : Nat → List Nat → Nat
  | 0, _ => 0
  | q + 1, L => (dblL L).1 * p2 q + bitsL q (dblL L).2

theorem dbl_zero : ∀ L : List Nat, dblL (L ++ [0]) = ((dblL L).1, (dblL L).2 ++ [0])
  | [] => rfl
  | d :: L => by
    have ih := dbl_zero L
    simp only [List.cons_append, dblL, ih]
theorem bits_zero : ∀ (q : Nat) (L : List Nat), bitsL q (L ++ [0]) = bitsL q L
  | 0, _ => rfl
  | q + 1, L => by
    simp only [bitsL, dbl_zero]
    rw [bits_zero q]
theorem dbl_half : ∀ (L : List Nat) (b : Nat), b ≤ 1 → (∀ d ∈ L, d ≤ 9) → dblL (halfL b L) = (b, L) ∨ dblL (halfL b L) = (b, L ++ [0])
  | [], b, hb, _ => by
    by_cases h : b = 0
    · subst h; left; rfl
    · right
      have : b = 1 := by omega
      subst this
      rfl
  | d :: L, b, hb, hd => by
    have h9 := hd d (by simp)
    have ih := dbl_half L ((10 * b + d) % 2) (by omega) (fun x hx => hd x (by simp [hx]))
    simp only [halfL, dblL]
    rcases ih with ih | ih
    · left
      rw [ih]
      dsimp only
      rw [show 2 * ((10 * b + d) / 2) + (10 * b + d) % 2 = 10 * b + d by omega]
      rw [show (10 * b + d) / 10 = b by omega, show (10 * b + d) % 10 = d by omega]
    · right
      rw [ih]
      dsimp only
      rw [show 2 * ((10 * b + d) / 2) + (10 * b + d) % 2 = 10 * b + d by omega]
      rw [show (10 * b + d) / 10 = b by omega, show (10 * b + d) % 10 = d by omega]
      rfl
/-- The digits of a fraction lead back to it. -/
theorem bits_cd : ∀ (q r : Nat), r < p2 q → bitsL q (cd q r) = r
  | 0, r, h => by simp [p2] at h; simp [bitsL, h]
  | q + 1, r, h => by
    have hp := p2_pos q
    rw [p2_succ] at h
    have hb : r / p2 q ≤ 1 := Nat.lt_succ_iff.1 ((Nat.div_lt_iff_lt_mul hp).2 (by omega))
    have hm := Nat.mod_lt r hp
    have ih := bits_cd q (r % p2 q) hm
    have hr := Nat.div_add_mod' r (p2 q)
    simp only [cd, bitsL]
    rcases dbl_half (cd q (r % p2 q)) (r / p2 q) hb (cd_digits q _ hm) with h1 | h1
    · rw [h1]; dsimp only; rw [ih]; exact hr
    · rw [h1]; dsimp only; rw [bits_zero, ih]; exact hr

/-- The number that some digits are. -/
def decVal (l : List UInt8) : Nat := l.foldl (fun n c => 10 * n + (c.toNat - 48)) 0
theorem decVal_snoc (l : List UInt8) (c : UInt8) : decVal (l ++ [c]) = 10 * decVal l + (c.toNat - 48) := by simp [decVal]
theorem digit_byte {d : Nat} (h : d < 10) : (UInt8.ofNat (48 + d)).toNat = 48 + d := by
  simp only [UInt8.toNat_ofNat']; omega
theorem decVal_digits (u : Nat) : decVal (Lib.decDigits u) = u := by
  induction u using Nat.strongRecOn with
  | ind u ih =>
    rw [Lib.decDigits]
    split
    · rename_i h
      rw [show [UInt8.ofNat (48 + u)] = [] ++ [UInt8.ofNat (48 + u)] from rfl, decVal_snoc, digit_byte h]
      simp [decVal]
    · rename_i h
      rw [decVal_snoc, ih (u / 10) (by omega), digit_byte (Nat.mod_lt _ (by decide))]
      omega
theorem dec_all (u : Nat) : ∀ c ∈ Lib.decDigits u, 48 ≤ c.toNat ∧ c.toNat ≤ 57 := by
  induction u using Nat.strongRecOn with
  | ind u ih =>
    rw [Lib.decDigits]
    split
    · rename_i h
      intro c hc
      rw [List.mem_singleton] at hc
      subst hc
      rw [digit_byte h]
      omega
    · rename_i h
      intro c hc
      rcases List.mem_append.1 hc with hc | hc
      · exact ih (u / 10) (by omega) c hc
      · rw [List.mem_singleton] at hc
        subst hc
        have := Nat.mod_lt u (show 0 < 10 by decide)
        rw [digit_byte this]
        omega
theorem dec_ne (u : Nat) : Lib.decDigits u ≠ [] := by
  rw [Lib.decDigits]
  split <;> simp

/-- Two rows of digits, each with nothing behind or something that begins with no digit. -/
theorem digits_split : ∀ (l m : List UInt8) (F G : List UInt8), (∀ c ∈ l, 48 ≤ c.toNat ∧ c.toNat ≤ 57) → (∀ c ∈ m, 48 ≤ c.toNat ∧ c.toNat ≤ 57) → (∀ c, F.head? = some c → c.toNat < 48) → (∀ c, G.head? = some c → c.toNat < 48) → l ++ F = m ++ G → l = m ∧ F = G
  | [], [], _, _, _, _, _, _, h => ⟨rfl, h⟩
  | [], c :: m, F, G, _, hm, hF, _, h => by
    simp at h
    have h1 := hF c (by rw [h]; rfl)
    have h2 := hm c (by simp)
    omega
  | c :: l, [], F, G, hl, _, _, hG, h => by
    simp at h
    have h1 := hG c (by rw [← h]; rfl)
    have h2 := hl c (by simp)
    omega
  | c :: l, d :: m, F, G, hl, hm, hF, hG, h => by
    simp at h
    obtain ⟨rfl, h⟩ := h
    obtain ⟨rfl, e⟩ := digits_split l m F G (fun x hx => hl x (by simp [hx])) (fun x hx => hm x (by simp [hx])) hF hG h
    exact ⟨rfl, e⟩

theorem digs_inj {q r s : Nat} (hr : r < p2 q) (hs : s < p2 q) (h : (cd q r).map (fun d => UInt8.ofNat (48 + d)) = (cd q s).map (fun d => UInt8.ofNat (48 + d))) : r = s := by
  have key : ∀ (L M : List Nat), (∀ d ∈ L, d ≤ 9) → (∀ d ∈ M, d ≤ 9) → L.map (fun d => UInt8.ofNat (48 + d)) = M.map (fun d => UInt8.ofNat (48 + d)) → L = M := by
    intro L
    induction L with
    | nil => intro M _ _ h; cases M with
      | nil => rfl
      | cons _ _ => simp at h
    | cons d L ih => intro M hL hM h; cases M with
      | nil => simp at h
      | cons e M =>
        simp only [List.map_cons, List.cons.injEq] at h
        have h1 := congrArg UInt8.toNat h.1
        rw [digit_byte (by have := hL d (by simp); omega), digit_byte (by have := hM e (by simp); omega)] at h1
        rw [ih M (fun x hx => hL x (by simp [hx])) (fun x hx => hM x (by simp [hx])) h.2]
        congr 1
        omega
  have := key _ _ (cd_digits q r hr) (cd_digits q s hs) h
  rw [← bits_cd q r hr, ← bits_cd q s hs, this]

theorem frac_head (q r : Nat) : ∀ c, (fracText q r).head? = some c → c.toNat < 48 := fun c h => by
  unfold fracText at h
  split at h
  · simp at h
  · simp at h; subst h; decide

/-- Different numbers have different texts. -/
theorem decText_inj {x y : Int} {q : Nat} (h : decText x q = decText y q) : x = y := by
  have hp := p2_pos q
  unfold decText at h
  have hx : ∀ z : Int, ∃ c l, Lib.decDigits (z.natAbs / p2 q) ++ fracText q (z.natAbs % p2 q) = c :: l ∧ 48 ≤ c.toNat := fun z => by
    have h1 := dec_ne (z.natAbs / p2 q)
    have h2 := dec_all (z.natAbs / p2 q)
    cases hd : Lib.decDigits (z.natAbs / p2 q) with
    | nil => exact absurd hd h1
    | cons c l => exact ⟨c, l ++ fracText q (z.natAbs % p2 q), by simp, (h2 c (by rw [hd]; simp)).1⟩
  have key : Lib.decDigits (x.natAbs / p2 q) ++ fracText q (x.natAbs % p2 q) = Lib.decDigits (y.natAbs / p2 q) ++ fracText q (y.natAbs % p2 q) → x.natAbs = y.natAbs := fun h => by
    obtain ⟨h1, h2⟩ := digits_split _ _ _ _ (dec_all _) (dec_all _) (frac_head _ _) (frac_head _ _) h
    have h3 := congrArg decVal h1
    rw [decVal_digits, decVal_digits] at h3
    have h4 : x.natAbs % p2 q = y.natAbs % p2 q := by
      unfold fracText at h2
      by_cases hx0 : x.natAbs % p2 q = 0 <;> by_cases hy0 : y.natAbs % p2 q = 0
      · omega
      · simp [hx0, hy0] at h2
      · simp [hx0, hy0] at h2
      · simp only [hx0, hy0, if_false, List.cons.injEq, true_and] at h2
        exact digs_inj (Nat.mod_lt _ hp) (Nat.mod_lt _ hp) h2
    rw [← Nat.div_add_mod x.natAbs (p2 q), ← Nat.div_add_mod y.natAbs (p2 q), h3, h4]
  obtain ⟨c, l, e1, hc⟩ := hx x
  obtain ⟨d, m, e2, hd⟩ := hx y
  by_cases h1 : x < 0 <;> by_cases h2 : y < 0
  · simp only [h1, h2, if_true, List.cons_append, List.nil_append, List.cons.injEq, true_and] at h
    have := key h
    omega
  · simp only [h1, h2, if_true, if_false, List.cons_append, List.nil_append] at h
    rw [e2] at h
    simp only [List.cons.injEq] at h
    rw [← h.1] at hd
    exact absurd hd (by decide)
  · simp only [h1, h2, if_true, if_false, List.cons_append, List.nil_append] at h
    rw [e1] at h
    simp only [List.cons.injEq] at h
    rw [h.1] at hc
    exact absurd hc (by decide)
  · simp only [h1, h2, if_false, List.nil_append] at h
    have := key h
    omega

end Go.Proofs.YtnifbipbpengeaaDoor
