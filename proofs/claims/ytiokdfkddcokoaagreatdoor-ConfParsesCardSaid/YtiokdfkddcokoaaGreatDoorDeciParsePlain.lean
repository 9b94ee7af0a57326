/- Plain Lean: the fixed-point number that a text is. Conditions: none. -/
import Derived.Test.YtiokdfkddcokoaaGreatDoorNumPlain
import Derived.Test.YtiokdfkddcokoaaGreatDoorDeciFrac
import Derived.Test.YtiokdfkddcokoaaGreatDoorParse
import Derived.Test.YtiokdfkddcokoaaGreatDoorDeciText
import Derived.Lib.CutLaws
import Derived.Lib.Strings
namespace Go.Proofs.YtiokdfkddcokoaaGreatDoor
open Go.RowKit

open Classical in
/-- The fixed-point number with a text, or none. -/
noncomputable def parseS (l : List UInt8) (q : Int) : Int × Bool := if h : (0 ≤ q ∧ q ≤ 62) ∧ ∃ x, In64 x ∧ l = decText x q.toNat then (h.2.choose, true) else (0, false)

theorem parseS_yes {l : List UInt8} {q : Nat} {x : Int} (hq : q ≤ 62) (hx : In64 x) (h : l = decText x q) : parseS l q = (x, true) := by
  have hex : (0 ≤ (q : Int) ∧ (q : Int) ≤ 62) ∧ ∃ x, In64 x ∧ l = decText x (q : Int).toNat := ⟨by omega, x, hx, h⟩
  unfold parseS
  rw [dif_pos hex]
  have := decText_inj (hex.2.choose_spec.2.symm.trans h)
  rw [this]
theorem parseS_no {l : List UInt8} {q : Nat} (h : ∀ x, In64 x → l ≠ decText x q) : parseS l q = (0, false) := by
  unfold parseS
  rw [dif_neg]
  rintro ⟨_, x, hx, e⟩
  exact h x hx e
theorem parseS_out {l : List UInt8} {q : Int} (h : ¬ (0 ≤ q ∧ q ≤ 62)) : parseS l q = (0, false) := by
  unfold parseS
  rw [dif_neg (fun hh => h hh.1)]

theorem index_dot : ∀ (D F : List UInt8), (∀ c ∈ D, 48 ≤ c.toNat) → Lib.index (D ++ 46 :: F) [46] = D.length
  | [], F, _ => by simp [Lib.index]
  | c :: D, F, h => by
    have hc := h c (by simp)
    have hne : ¬ c = 46 := fun e => by rw [e] at hc; exact absurd hc (by decide)
    have ih := index_dot D F (fun x hx => h x (by simp [hx]))
    simp only [List.cons_append, Lib.index]
    rw [if_neg (by simp [List.isPrefixOf, Ne.symm hne]), ih, if_neg (by simp)]
    simp
theorem index_none : ∀ (D : List UInt8), (∀ c ∈ D, 48 ≤ c.toNat) → Lib.index D [46] = -1
  | [], _ => by simp [Lib.index]
  | c :: D, h => by
    have hc := h c (by simp)
    have hne : ¬ c = 46 := fun e => by rw [e] at hc; exact absurd hc (by decide)
    have ih := index_none D (fun x hx => h x (by simp [hx]))
    simp only [Lib.index]
    rw [if_neg (by simp [List.isPrefixOf, Ne.symm hne]), ih]
    simp
theorem cut_frac (u q r : Nat) : ∃ b, Lib.cut (Lib.decDigits u ++ fracText q r) [46] = (Lib.decDigits u, digs (cd q r), b) := by
  have hd : ∀ c ∈ Lib.decDigits u, 48 ≤ c.toNat := fun c hc => (dec_all u c hc).1
  unfold fracText
  by_cases h : r = 0
  · subst h
    refine ⟨false, ?_⟩
    rw [if_pos rfl, List.append_nil, cd_nil]
    unfold Lib.cut
    rw [index_none _ hd, if_neg (by omega)]
    rfl
  · refine ⟨true, ?_⟩
    rw [if_neg h]
    unfold Lib.cut
    rw [index_dot _ _ hd, if_pos (by omega)]
    simp [digs]

/-- The parts of a number's text. -/
theorem parts_of {l : List UInt8} {y : Int} {q : Nat} (h : l = decText y q) :
    Lib.hasPrefix l [45] = decide (y < 0) ∧ ∃ b, Lib.cut (Lib.trimPrefix l [45]) [46] = (Lib.decDigits (y.natAbs / p2 q), digs (cd q (y.natAbs % p2 q)), b) := by
  obtain ⟨c, m, e, hc⟩ := dec_cons (y.natAbs / p2 q)
  obtain ⟨b, hb⟩ := cut_frac (y.natAbs / p2 q) q (y.natAbs % p2 q)
  subst h
  unfold decText
  by_cases hy : y < 0
  · have hp : Lib.hasPrefix ((if y < 0 then [45] else []) ++ Lib.decDigits (y.natAbs / p2 q) ++ fracText q (y.natAbs % p2 q)) [45] = true := by
      rw [if_pos hy]; simp [Lib.hasPrefix, List.isPrefixOf]
    refine ⟨by rw [hp]; simp [hy], b, ?_⟩
    unfold Lib.trimPrefix
    rw [hp, if_pos hy]
    simpa using hb
  · have hp : Lib.hasPrefix ((if y < 0 then [45] else []) ++ Lib.decDigits (y.natAbs / p2 q) ++ fracText q (y.natAbs % p2 q)) [45] = false := by
      rw [if_neg hy, e]
      have : ¬ (45 : UInt8) = c := fun h => by rw [← h] at hc; exact absurd hc.1 (by decide)
      simp [Lib.hasPrefix, List.isPrefixOf, this]
    refine ⟨by rw [hp]; simp [hy], b, ?_⟩
    unfold Lib.trimPrefix
    rw [hp, if_neg hy]
    simpa using hb

theorem digs_good (L : List Nat) (h : ∀ d ∈ L, d ≤ 9) : digsB (digs L) = true ∧ (digs L).map (fun c => c.toNat - 48) = L := by
  constructor
  · unfold digsB digs
    rw [List.all_eq_true]
    intro c hc
    obtain ⟨d, hd, rfl⟩ := List.mem_map.1 hc
    have := digit_byte (d := d) (by have := h d hd; omega)
    simp only [digitB]
    rw [this]
    have := h d hd
    simp
    omega
  · unfold digs
    rw [List.map_map]
    conv => rhs; rw [← List.map_id L]
    refine List.map_congr_left fun d hd => ?_
    have := digit_byte (d := d) (by have := h d hd; omega)
    simp only [Function.comp, this, id]
    omega
theorem frac_good {q r : Nat} (h : r < p2 q) : fracS q (digs (cd q r)) = (r, true) := by
  have h9 := digs_good _ (cd_digits q r h)
  unfold fracS
  rw [h9.1, h9.2, if_pos rfl, bits_cd q r h]

/-- The words that Parse reckons with. -/
def pushed (u q f : Nat) : Int := IntKind.i64.wrap (bits .or .u64 (IntKind.u64.wrap ((u : Int) * 2 ^ q)) (f : Int))
def signed' (neg : Bool) (z : Int) : Int := if neg then wrap64 (-z) else z

theorem wrap64_in64 (z : Int) : In64 (wrap64 z) := by unfold wrap64 In64; omega
theorem i64_in64 (z : Int) : In64 (IntKind.i64.wrap z) := by rw [IntKind.wrap_i64]; unfold In64; omega
theorem signed_in (neg : Bool) (u q f : Nat) : In64 (signed' neg (pushed u q f)) := by
  unfold signed' pushed
  split
  · exact wrap64_in64 _
  · exact i64_in64 _

theorem push_word {y : Int} {q : Nat} (hy : In64 y) (hq : q ≤ 62) : signed' (decide (y < 0)) (pushed (y.natAbs / p2 q) q (y.natAbs % p2 q)) = y := by
  have hp := p2_pos q
  have hp2 := p2_le hq
  have hdm := Nat.div_add_mod' y.natAbs (p2 q)
  have hm := Nat.mod_lt y.natAbs hp
  unfold In64 at hy
  have hor : bits .or .u64 (IntKind.u64.wrap (((y.natAbs / p2 q : Nat) : Int) * 2 ^ q)) ((y.natAbs % p2 q : Nat) : Int) = (y.natAbs : Int) := by
    have e1 := Nat.two_pow_add_eq_or_of_lt (i := q) (b := y.natAbs % p2 q) hm (y.natAbs / p2 q)
    rw [show 2 ^ q = p2 q from rfl, Nat.mul_comm] at e1
    generalize y.natAbs / p2 q = u at hdm e1 ⊢
    generalize y.natAbs % p2 q = r at hdm e1 hm ⊢
    have e2 : ((u : Int) * 2 ^ q) = ((u * p2 q : Nat) : Int) := by rw [p2_int, Int.natCast_mul]
    rw [e2]
    generalize u * p2 q = a at hdm e1 ⊢
    have hw : IntKind.u64.wrap (a : Int) = a := by rw [IntKind.wrap_u64]; omega
    rw [hw, u64_or_nat a r (by omega) (by omega), ← e1, hdm]
  unfold pushed
  rw [hor, IntKind.wrap_i64]
  unfold signed' wrap64
  by_cases h : y < 0
  · rw [decide_eq_true h, if_pos rfl]; omega
  · rw [decide_eq_false h, if_neg (fun h => Bool.noConfusion h)]; omega

end Go.Proofs.YtiokdfkddcokoaaGreatDoor
