/- A test that two abstract values are one. Conditions: none. -/
import Derived.Test.YtoafihjgpbcgbaaGreatSiStep
namespace Go.Proofs.YtoafihjgpbcgbaaGreat.Si
noncomputable section

mutual
def beqA : AV → AV → Bool
  | .bool a, .bool b => a == b
  | .int k a, .int l b => (k == l) && (a == b)
  | .pnil, .pnil => true
  | .ptr i o, .ptr j p => Nat.beq i j && Nat.beq o p
  | .snil, .snil => true
  | .sl i o l c x e, .sl i' o' l' c' x' e' => Nat.beq i i' && Nat.beq o o' && Nat.beq l l' && Nat.beq c c' && (x == x') && Nat.beq e e'
  | .fnil, .fnil => true
  | .fn (.func f) a b, .fn (.func g) c d => Nat.beq f g && beqL a c && beqL b d
  | .yld i, .yld j => Nat.beq i j
  | .inil, .inil => true
  | .ifc t v, .ifc u w => Nat.beq t u && beqA v w
  | .agg l, .agg m => beqL l m
  | .tup l, .tup m => beqL l m
  | _, _ => false
def beqL : List AV → List AV → Bool
  | [], [] => true
  | a :: r, b :: s => beqA a b && beqL r s
  | _, _ => false
end

mutual
theorem beqA_eq : ∀ (a b : AV), beqA a b = true → a = b := by
  intro a b h
  unfold beqA at h
  split at h
  all_goals try (simp only [Bool.and_eq_true, beq_iff_eq] at h)
  all_goals try (cases h; done)
  all_goals first
    | rfl
    | (rw [h])
    | (obtain ⟨h1, h2⟩ := h; rw [h1, h2])
    | (obtain ⟨h1, h2⟩ := h; rw [Nat.eq_of_beq_eq_true h1, Nat.eq_of_beq_eq_true h2])
    | (obtain ⟨⟨⟨⟨⟨h1, h2⟩, h3⟩, h4⟩, h5⟩, h6⟩ := h; rw [Nat.eq_of_beq_eq_true h1, Nat.eq_of_beq_eq_true h2, Nat.eq_of_beq_eq_true h3, Nat.eq_of_beq_eq_true h4, h5, Nat.eq_of_beq_eq_true h6])
    | (obtain ⟨⟨h1, h2⟩, h3⟩ := h; rw [Nat.eq_of_beq_eq_true h1, beqL_eq _ _ h2, beqL_eq _ _ h3])
    | (rw [Nat.eq_of_beq_eq_true h])
    | (obtain ⟨h1, h2⟩ := h; rw [Nat.eq_of_beq_eq_true h1, beqA_eq _ _ h2])
    | (rw [beqL_eq _ _ h])
theorem beqL_eq : ∀ (l m : List AV), beqL l m = true → l = m
  | [], [], _ => rfl
  | [], _ :: _, h => by simp [beqL] at h
  | _ :: _, [], h => by simp [beqL] at h
  | a :: r, b :: s, h => by
    simp only [beqL, Bool.and_eq_true] at h
    rw [beqA_eq a b h.1, beqL_eq r s h.2]
end

end
end Go.Proofs.YtoafihjgpbcgbaaGreat.Si
