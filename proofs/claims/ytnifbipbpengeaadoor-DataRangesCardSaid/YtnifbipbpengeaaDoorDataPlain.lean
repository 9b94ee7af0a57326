/- Plain Lean: examples and their texts, in short. Conditions: none. -/
import Derived.Test.YtnifbipbpengeaaDoorDeciInj
import Derived.Lib.Join
namespace Go.Proofs.YtnifbipbpengeaaDoor

def In64 (x : Int) : Prop := -9223372036854775808 ≤ x ∧ x ≤ 9223372036854775807

/-- The texts of numbers. -/
def txtL (v : List Int) (q : Nat) : List (List UInt8) := v.map fun x => decText x q
def rowText (v : List Int) (q : Nat) : List UInt8 := Lib.join (txtL v q) [32]
def exText (xs ys : List Int) (q : Nat) : List UInt8 := rowText xs q ++ [32, 62, 32] ++ rowText ys q

def numC (c : UInt8) : Prop := c = 45 ∨ c = 46 ∨ (48 ≤ c.toNat ∧ c.toNat ≤ 57)
theorem numC_32 {c : UInt8} (h : numC c) : c ≠ 32 := by rintro rfl; rcases h with h | h | h <;> simp at h
theorem numC_62 {c : UInt8} (h : numC c) : c ≠ 62 := by rintro rfl; rcases h with h | h | h <;> simp at h

theorem decText_chars (x : Int) (q : Nat) : ∀ c ∈ decText x q, numC c := by
  intro c hc
  unfold decText at hc
  simp only [List.mem_append] at hc
  rcases hc with (h | h) | h
  · split at h
    · simp at h; exact .inl h
    · cases h
  · exact .inr (.inr (dec_all _ c h))
  · unfold fracText at h
    split at h
    · cases h
    · rcases List.mem_cons.1 h with rfl | h
      · exact .inr (.inl rfl)
      · obtain ⟨d, hd, rfl⟩ := List.mem_map.1 h
        have h9 := cd_digits q _ (Nat.mod_lt _ (p2_pos q)) d hd
        right; right
        simp
        omega

theorem decText_ne (x : Int) (q : Nat) : decText x q ≠ [] := by
  unfold decText
  have := dec_ne (x.natAbs / p2 q)
  intro h
  rw [List.append_assoc] at h
  have h2 := (List.append_eq_nil_iff.1 h).2
  exact this (List.append_eq_nil_iff.1 h2).1

end Go.Proofs.YtnifbipbpengeaaDoor
