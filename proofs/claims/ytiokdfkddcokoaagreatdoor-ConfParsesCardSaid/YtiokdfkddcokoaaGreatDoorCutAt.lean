/- Plain Lean: a text cut at each instance of one byte, and put together again. Conditions: none. -/
import Derived.Lib.SplitLaws
import Derived.Lib.IndexLaws
import Derived.Lib.Join
namespace Go.Proofs.YtiokdfkddcokoaaGreatDoor

def cutAt (c : UInt8) : List UInt8 → List (List UInt8)
  | [] => [[]]
  | b :: l => if b = c then [] :: cutAt c l else match cutAt c l with
    | [] => [[b]]
    | x :: r => (b :: x) :: r

theorem cutAt_none {c : UInt8} : ∀ {s : List UInt8}, (∀ b ∈ s, b ≠ c) → cutAt c s = [s]
  | [], _ => rfl
  | b :: l, h => by
    have ih := cutAt_none (c := c) (s := l) (fun d hd => h d (by simp [hd]))
    simp only [cutAt, if_neg (h b (by simp)), ih]
theorem cutAt_app {c : UInt8} {r : List UInt8} : ∀ {x : List UInt8}, (∀ b ∈ x, b ≠ c) → cutAt c (x ++ c :: r) = x :: cutAt c r
  | [], _ => by simp [cutAt]
  | b :: l, h => by
    have ih := cutAt_app (c := c) (r := r) (x := l) (fun d hd => h d (by simp [hd]))
    simp only [List.cons_append, cutAt, if_neg (h b (by simp)), ih]

theorem first_at (c : UInt8) : ∀ s : List UInt8, (∀ b ∈ s, b ≠ c) ∨ ∃ x r, s = x ++ c :: r ∧ ∀ b ∈ x, b ≠ c
  | [] => .inl (by simp)
  | b :: l => by
    by_cases h : b = c
    · exact .inr ⟨[], l, by rw [h]; rfl, by simp⟩
    · rcases first_at c l with h1 | ⟨x, r, rfl, hx⟩
      · refine .inl fun d hd => ?_
        rcases List.mem_cons.1 hd with rfl | hd
        · exact h
        · exact h1 d hd
      · refine .inr ⟨b :: x, r, rfl, fun d hd => ?_⟩
        rcases List.mem_cons.1 hd with rfl | hd
        · exact h
        · exact hx d hd

theorem cutAt_join (c : UInt8) : ∀ (x : List UInt8) (r : List (List UInt8)), (∀ y ∈ x :: r, ∀ b ∈ y, b ≠ c) → cutAt c (Lib.join (x :: r) [c]) = x :: r
  | x, [], h => by rw [Lib.join_one]; exact cutAt_none (h x (by simp))
  | x, y :: r, h => by
    have ih := cutAt_join c y r (fun z hz => h z (by simp at hz ⊢; exact .inr hz))
    have e : Lib.join (x :: y :: r) [c] = x ++ c :: Lib.join (y :: r) [c] := by
      rw [Lib.join_cons, Lib.join_cons]
      simp [Lib.joinTail]
    rw [e, cutAt_app (h x (by simp)), ih]

theorem cutAt_ne (c : UInt8) (s : List UInt8) : cutAt c s ≠ [] := by
  rcases first_at c s with h | ⟨x, r, rfl, h⟩
  · rw [cutAt_none h]; simp
  · rw [cutAt_app h]; simp

theorem join_cutAt (c : UInt8) (s : List UInt8) : Lib.join (cutAt c s) [c] = s := by
  suffices ∀ k (s : List UInt8), s.length ≤ k → Lib.join (cutAt c s) [c] = s from this s.length s (Nat.le_refl _)
  intro k
  induction k with
  | zero =>
    intro s hs
    have : s = [] := List.eq_nil_of_length_eq_zero (by omega)
    subst this
    rfl
  | succ k ih =>
    intro s hs
    rcases first_at c s with h | ⟨x, r, rfl, h⟩
    · rw [cutAt_none h, Lib.join_one]
    · have hr := ih r (by simp at hs; omega)
      rw [cutAt_app h]
      cases hc : cutAt c r with
      | nil => exact absurd hc (cutAt_ne c r)
      | cons y t =>
        rw [hc] at hr
        rw [Lib.join_cons] at hr ⊢
        simp only [Lib.joinTail, List.map_cons, List.flatten_cons] at hr ⊢
        rw [List.append_assoc, hr]
        simp

theorem free_cutAt (c : UInt8) (s : List UInt8) : ∀ y ∈ cutAt c s, ∀ b ∈ y, b ≠ c := by
  suffices ∀ k (s : List UInt8), s.length ≤ k → ∀ y ∈ cutAt c s, ∀ b ∈ y, b ≠ c from this s.length s (Nat.le_refl _)
  intro k
  induction k with
  | zero =>
    intro s hs
    have : s = [] := List.eq_nil_of_length_eq_zero (by omega)
    subst this
    intro y hy
    simp [cutAt] at hy
    subst hy
    simp
  | succ k ih =>
    intro s hs
    rcases first_at c s with h | ⟨x, r, rfl, h⟩
    · rw [cutAt_none h]
      intro y hy
      simp at hy
      subst hy
      exact h
    · rw [cutAt_app h]
      intro y hy
      rcases List.mem_cons.1 hy with rfl | hy
      · exact h
      · exact ih r (by simp at hs; omega) y hy

theorem len_cutAt (c : UInt8) (s : List UInt8) : ∀ y ∈ cutAt c s, y.length ≤ s.length := by
  suffices ∀ k (s : List UInt8), s.length ≤ k → ∀ y ∈ cutAt c s, y.length ≤ s.length from this s.length s (Nat.le_refl _)
  intro k
  induction k with
  | zero =>
    intro s hs
    have : s = [] := List.eq_nil_of_length_eq_zero (by omega)
    subst this
    intro y hy
    simp [cutAt] at hy
    subst hy
    simp
  | succ k ih =>
    intro s hs
    rcases first_at c s with h | ⟨x, r, rfl, h⟩
    · rw [cutAt_none h]
      intro y hy
      simp at hy
      subst hy
      exact Nat.le_refl _
    · rw [cutAt_app h]
      intro y hy
      rcases List.mem_cons.1 hy with rfl | hy
      · simp
      · have := ih r (by simp at hs; omega) y hy
        simp
        omega

theorem idx_none {c : UInt8} {s : List UInt8} (h : ∀ b ∈ s, b ≠ c) : Lib.index s [c] = -1 := by
  rcases Lib.index_spec s [c] with ⟨h1, _⟩ | ⟨i, _, hi, ho, _⟩
  · exact h1
  · exfalso
    simp only [Lib.occAt] at ho
    cases hd : s.drop i with
    | nil => simp [hd] at ho
    | cons b l =>
      simp [hd] at ho
      exact h b (List.mem_of_mem_drop (by rw [hd]; simp)) ho.symm

theorem idx_app {c : UInt8} {x r : List UInt8} (h : ∀ b ∈ x, b ≠ c) : Lib.index (x ++ c :: r) [c] = x.length := by
  refine Lib.index_hit ?_ (by simp) (by simp [Lib.occAt])
  intro j hj
  simp only [Lib.occAt]
  rw [List.drop_append_of_le_length (by omega)]
  cases hd : x.drop j with
  | nil => have := congrArg List.length hd; simp at this; omega
  | cons b l =>
    have hb : (c == b) = false := beq_eq_false_iff_ne.2 (Ne.symm (h b (List.mem_of_mem_drop (by rw [hd]; simp))))
    simp [List.isPrefixOf, hb]

theorem split_cutAt (c : UInt8) (s : List UInt8) : Lib.split s [c] = cutAt c s := by
  suffices ∀ k (s : List UInt8), s.length ≤ k → Lib.split s [c] = cutAt c s from this s.length s (Nat.le_refl _)
  intro k
  induction k with
  | zero =>
    intro s hs
    have : s = [] := List.eq_nil_of_length_eq_zero (by omega)
    subst this
    have hi := idx_none (c := c) (s := []) (by simp)
    unfold Lib.split
    rw [Lib.count_miss hi]
    rfl
  | succ k ih =>
    intro s hs
    rcases first_at c s with h | ⟨x, r, rfl, h⟩
    · unfold Lib.split
      rw [Lib.count_miss (idx_none h), cutAt_none h]
      rfl
    · have hr := ih r (by simp at hs; omega)
      have hi := idx_app (r := r) h
      unfold Lib.split at hr ⊢
      have hd : (x ++ c :: r).drop (x.length + 1) = r := by
        rw [show x ++ c :: r = (x ++ [c]) ++ r by simp, List.drop_left' (by simp)]
      have hco := Lib.count_hit (by simp) hi
      rw [List.length_singleton, hd] at hco
      have hne : ¬ ((x.length : Int) == -1) = true := by
        intro e
        have := beq_iff_eq.1 e
        omega
      rw [hco, Nat.add_comm, Lib.splitK, hi, if_neg hne, cutAt_app h]
      simp only [Int.toNat_natCast, List.length_singleton, Nat.add_zero, hd, List.take_left, hr]

end Go.Proofs.YtiokdfkddcokoaaGreatDoor
