/- Texts of numbers: they tell the numbers. Conditions: none. -/
import Derived.Test.YtjjoendjgiiknaaDoorRefDec
import Derived.Test.YtjjoendjgiiknaaDoorDeciInj
import Derived.Test.YtjjoendjgiiknaaDoorPow
namespace Go.Proofs.YtjjoendjgiiknaaDoor
open Go.RowKit

def In64 (x : Int) : Prop := -9223372036854775808 ≤ x ∧ x ≤ 9223372036854775807

theorem itoa_parts (x : Int) : Lib.itoa x = (if x < 0 then [45] else []) ++ Lib.decDigits x.natAbs := by
  unfold Lib.itoa
  split
  · rfl
  · rw [List.nil_append]; congr 1; omega

theorem dec_cons (u : Nat) : ∃ c l, Lib.decDigits u = c :: l ∧ 48 ≤ c.toNat ∧ c.toNat ≤ 57 := by
  have h1 := dec_ne u
  have h2 := dec_all u
  cases hd : Lib.decDigits u with
  | nil => exact absurd hd h1
  | cons c l => exact ⟨c, l, rfl, h2 c (by rw [hd]; simp)⟩

theorem itoa_pos {x : Int} (h : 0 ≤ x) : Lib.itoa x = Lib.decDigits x.toNat := by
  rw [itoa_parts, if_neg (by omega), List.nil_append]
  congr 1
  omega
theorem itoa_inj {x y : Int} (hx : 0 ≤ x) (hy : 0 ≤ y) (h : Lib.itoa x = Lib.itoa y) : x = y := by
  rw [itoa_pos hx, itoa_pos hy] at h
  have := congrArg decVal h
  rw [decVal_digits, decVal_digits] at this
  omega
theorem itoa_free (x : Int) : ∀ b ∈ Lib.itoa x, b ≠ 46 := by
  intro b hb
  rw [itoa_parts] at hb
  rcases List.mem_append.1 hb with h | h
  · split at h
    · simp at h; subst h; decide
    · cases h
  · have := dec_all x.natAbs b h
    intro e
    subst e
    simp at this
theorem itoa_len {x : Int} (h : In64 x) : (Lib.itoa x).length ≤ 21 := by
  rw [itoa_parts, List.length_append]
  have := dec_len x.natAbs (by unfold In64 at h; omega)
  split <;> simp <;> omega

theorem itoa_any (x : Int) (hx : In64 x) (B : Nat) (w : World) (hp : Pow B w) : Calls Tryd.prog 38 #[.int .i64 x] w fun e w' => e = .returned (.string ⟨(Lib.itoa x).toArray⟩) ∧ Below w.heap.size w w' :=
  (Tryd.strconv_Itoa x hx.1 hx.2 w hp.here).mono fun _ _ ⟨he, _, _, hw⟩ => ⟨he, hw ▸ Lib.below_grow _ _ (Nat.le_refl _) _ _⟩

end Go.Proofs.YtjjoendjgiiknaaDoor
