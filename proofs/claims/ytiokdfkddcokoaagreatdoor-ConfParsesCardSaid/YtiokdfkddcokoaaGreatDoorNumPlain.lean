/- Plain Lean: the integer that a text is. Conditions: none. -/
import Derived.Test.YtiokdfkddcokoaaGreatDoorRefNum
import Derived.Lib.ParseIntB
namespace Go.Proofs.YtiokdfkddcokoaaGreatDoor

def In64 (x : Int) : Prop := -9223372036854775808 ≤ x ∧ x ≤ 9223372036854775807

open Classical in
/-- The integer with a decimal form, or none. -/
noncomputable def numS (l : List UInt8) : Int × Bool := if h : ∃ x, In64 x ∧ l = Lib.itoa x then (h.choose, true) else (0, false)

theorem itoa_parts (x : Int) : Lib.itoa x = (if x < 0 then [45] else []) ++ Lib.decDigits x.natAbs := by
  unfold Lib.itoa
  split
  · rfl
  · rw [List.nil_append]; congr 1; omega

theorem dec_cons (u : Nat) : ∃ c l, Lib.decDigits u = c :: l ∧ 48 ≤ c.toNat ∧ c.toNat ≤ 57 := by
  have h1 := dec_ne u
  have h2 := dec_all u
  cases hd : Lib.decDigits u with
  | nil => exact absurd hd h1
  | cons c l => exact ⟨c, l, rfl, h2 c (by rw [hd]; simp)⟩

theorem itoa_inj {x y : Int} (h : Lib.itoa x = Lib.itoa y) : x = y := by
  rw [itoa_parts, itoa_parts] at h
  obtain ⟨c, l, e1, hc⟩ := dec_cons x.natAbs
  obtain ⟨d, m, e2, hd⟩ := dec_cons y.natAbs
  have key : Lib.decDigits x.natAbs = Lib.decDigits y.natAbs → x.natAbs = y.natAbs := fun e => by
    have := congrArg decVal e
    rwa [decVal_digits, decVal_digits] at this
  by_cases h1 : x < 0 <;> by_cases h2 : y < 0
  · simp only [h1, h2, if_true, List.cons_append, List.nil_append, List.cons.injEq, true_and] at h
    have := key h
    omega
  · simp only [h1, h2, if_true, if_false, List.cons_append, List.nil_append] at h
    rw [e2] at h
    simp only [List.cons.injEq] at h
    rw [← h.1] at hd
    exact absurd hd.1 (by decide)
  · simp only [h1, h2, if_true, if_false, List.cons_append, List.nil_append] at h
    rw [e1] at h
    simp only [List.cons.injEq] at h
    rw [h.1] at hc
    exact absurd hc.1 (by decide)
  · simp only [h1, h2, if_false, List.nil_append] at h
    have := key h
    omega

theorem numS_yes {l : List UInt8} {x : Int} (hx : In64 x) (h : l = Lib.itoa x) : numS l = (x, true) := by
  have hex : ∃ x, In64 x ∧ l = Lib.itoa x := ⟨x, hx, h⟩
  unfold numS
  rw [dif_pos hex]
  have := itoa_inj (hex.choose_spec.2.symm.trans h)
  rw [this]
theorem numS_no {l : List UInt8} (h : ∀ x, In64 x → l ≠ Lib.itoa x) : numS l = (0, false) := by
  unfold numS
  rw [dif_neg]
  rintro ⟨x, hx, e⟩
  exact h x hx e
theorem numS_in (l : List UInt8) : In64 (numS l).1 ∧ ((numS l).2 = true → l = Lib.itoa (numS l).1) ∧ ((numS l).2 = false → (numS l).1 = 0) := by
  by_cases h : ∃ x, In64 x ∧ l = Lib.itoa x
  · obtain ⟨x, hx, e⟩ := h
    rw [numS_yes hx e]
    exact ⟨hx, fun _ => e, (fun h => Bool.noConfusion h)⟩
  · rw [numS_no (fun x hx e => h ⟨x, hx, e⟩)]
    exact ⟨(by unfold In64; omega), (fun h => Bool.noConfusion h), fun _ => rfl⟩

theorem fold_ge : ∀ (l : List UInt8) (m : Nat), m ≤ l.foldl (fun n c => 10 * n + (c.toNat - 48)) m
  | [], m => Nat.le_refl _
  | c :: l, m => by
    have := fold_ge l (10 * m + (c.toNat - 48))
    simp only [List.foldl_cons]
    omega
theorem valF_fold : ∀ (l : List UInt8) (m : Nat), (∀ c ∈ l, 48 ≤ c.toNat ∧ c.toNat ≤ 57) → l.foldl (fun n c => 10 * n + (c.toNat - 48)) m ≤ 9223372036854775808 → valF m l = (l.foldl (fun n c => 10 * n + (c.toNat - 48)) m, true)
  | [], m, _, h => by
    simp only [List.foldl_nil] at h ⊢
    simp only [valF, decide_eq_true h]
  | c :: l, m, hd, h => by
    have hc := hd c (by simp)
    have hg := fold_ge l (10 * m + (c.toNat - 48))
    simp only [List.foldl_cons] at h ⊢
    simp only [valF]
    rw [if_neg (by omega), show (c.toNat + 208) % 256 = c.toNat - 48 by omega]
    exact valF_fold l _ (fun x hx => hd x (by simp [hx])) h
theorem valF_digits {u : Nat} (h : u ≤ 9223372036854775808) : valF 0 (Lib.decDigits u) = (u, true) := by
  have := valF_fold (Lib.decDigits u) 0 (dec_all u) (by have := decVal_digits u; unfold decVal at this; omega)
  rw [this]
  have := decVal_digits u
  unfold decVal at this
  rw [this]

theorem digs_dec (u : Nat) : digsOk (Lib.decDigits u) = true := by
  unfold digsOk digsB
  have h := dec_all u
  have hn := dec_ne u
  rw [List.all_eq_true.2 (fun c hc => by simpa [digitB] using h c hc)]
  cases hd : Lib.decDigits u with
  | nil => exact absurd hd hn
  | cons c l => simp
theorem dec_len19 {u : Nat} (h : u ≤ 9223372036854775808) : (Lib.decDigits u).length ≤ 19 := by
  rw [Lib.decDigits_length]
  by_cases h1 : u < 10
  · rw [Lib.nDigits_small h1]; omega
  · have hp := Lib.nDigits_pos u
    rcases Nat.lt_or_ge 19 (Lib.nDigits u) with hlt | hge
    · exfalso
      have key : ∀ k u, k < Lib.nDigits u → 0 < k → 10 ^ k ≤ u := by
        intro k
        induction k with
        | zero => intro u _ h; omega
        | succ k ih =>
          intro u hk _
          by_cases hu : u < 10
          · rw [Lib.nDigits_small hu] at hk; omega
          · rw [Lib.nDigits_big hu] at hk
            by_cases hk0 : k = 0
            · subst hk0; simp; omega
            · have := ih (u / 10) (by omega) (by omega)
              rw [Nat.pow_succ]
              omega
      have := key 19 u hlt (by omega)
      have e : (10 : Nat) ^ 19 = 10000000000000000000 := by decide
      omega
    · exact hge

theorem valF_le : ∀ (l : List UInt8) (m : Nat), (valF m l).2 = true → (valF m l).1 ≤ 9223372036854775808
  | [], m, h => by simpa [valF] using h
  | c :: l, m, h => by
    simp only [valF] at h ⊢
    split at h
    · cases h
    · rename_i hb
      rw [if_neg hb]
      exact valF_le l _ h

/-- The text behind the sign, if it is a number's. -/
theorem tail_of {neg : Bool} {d l : List UInt8} {x : Int} (hl : l = (if neg then [45] else []) ++ d) (hh : neg = false → l.head? ≠ some 45) (h : l = Lib.itoa x) : d = Lib.decDigits x.natAbs ∧ (neg = true ↔ x < 0) := by
  rw [itoa_parts] at h
  obtain ⟨c, m, e, hc⟩ := dec_cons x.natAbs
  cases neg
  · have h' := hh rfl
    by_cases hx : x < 0
    · rw [h] at h'
      simp [hx] at h'
    · rw [hl] at h
      simp [hx] at h
      exact ⟨h, by simp; omega⟩
  · by_cases hx : x < 0
    · rw [hl] at h
      simp [hx] at h
      exact ⟨h, by simp [hx]⟩
    · rw [hl] at h
      simp [hx] at h
      rw [e] at h
      simp only [List.cons.injEq] at h
      rw [← h.1] at hc
      exact absurd hc.1 (by decide)

theorem num_bad {neg : Bool} {d l : List UInt8} (hl : l = (if neg then [45] else []) ++ d) (hh : neg = false → l.head? ≠ some 45) (h : ¬ (digsOk d = true ∧ (valF 0 d).2 = true ∧ d.length ≤ 19)) : numS l = (0, false) :=
  numS_no fun x hx e => by
    obtain ⟨h1, _⟩ := tail_of hl hh e
    have hu : x.natAbs ≤ 9223372036854775808 := by unfold In64 at hx; omega
    rw [h1, valF_digits hu] at h
    exact h ⟨digs_dec _, rfl, dec_len19 hu⟩

/-- The number that the digits and the sign are, as the reference reckons it. -/
def numX (neg : Bool) (d : List UInt8) : Int := if neg then -((valF 0 d).1 : Int) else RowKit.wrap64 ((valF 0 d).1 : Int)

theorem numX_in {neg : Bool} {d : List UInt8} (h : (valF 0 d).2 = true) : In64 (numX neg d) := by
  have := valF_le d 0 h
  unfold numX In64 RowKit.wrap64
  split <;> omega

theorem num_same {neg : Bool} {d l : List UInt8} (h : (valF 0 d).2 = true) (e : l = Lib.itoa (numX neg d)) : numS l = (numX neg d, true) := numS_yes (numX_in h) e
theorem num_other {neg : Bool} {d l : List UInt8} (hl : l = (if neg then [45] else []) ++ d) (hh : neg = false → l.head? ≠ some 45) (e : l ≠ Lib.itoa (numX neg d)) : numS l = (0, false) :=
  numS_no fun x hx ex => by
    obtain ⟨h1, h2⟩ := tail_of hl hh ex
    have hu : x.natAbs ≤ 9223372036854775808 := by unfold In64 at hx; omega
    have hn : numX neg d = x := by
      unfold numX
      rw [h1, valF_digits hu]
      unfold In64 at hx
      cases neg
      · have : ¬ x < 0 := fun h => by have := h2.2 h; cases this
        simp only [RowKit.wrap64, Bool.false_eq_true, if_false]
        omega
      · have : x < 0 := h2.1 rfl
        simp only [if_true]
        omega
    exact e (by rw [hn]; exact ex)

end Go.Proofs.YtiokdfkddcokoaaGreatDoor
