/- Plain Lean: the places of the parameters of a network, and their names. Conditions: none. -/
import Derived.Test.YtjjoendjgiiknaaDoorShapePlain
import Derived.Test.YtjjoendjgiiknaaDoorDeciInj
import Derived.Test.YtjjoendjgiiknaaDoorCutAt
import Derived.Lib.Join
namespace Go.Proofs.YtjjoendjgiiknaaDoor

structure Pl where
  k : Int
  r : Int
  c : Int

/-- The sizes are right and few. -/
def ShOk (zs : List Int) : Prop := 2 ≤ zs.length ∧ zs.length ≤ 16 ∧ (∀ z ∈ zs, 1 ≤ z ∧ z ≤ 1048576) ∧ cnt zs ≤ 1048576

theorem shOk_of {zs : List Int} (h : shCode zs = 0) : ShOk zs := by
  unfold shCode at h
  split at h
  · simp at h
  · rename_i h1
    split at h
    · simp at h
    · rename_i h2
      split at h
      · simp at h
      · rename_i h3
        refine ⟨by omega, by omega, fun z hz => ?_, by omega⟩
        have := List.all_eq_true.1 (by simpa using h2) z hz
        exact okSz_iff.1 this

theorem zAt_of {zs : List Int} {k : Nat} {a : Int} (h : zs[k]? = some a) : zAt zs k = a := by simp [zAt, List.getD, h]
theorem zAt_get {zs : List Int} {k : Nat} (h : k < zs.length) : zs[k]? = some (zAt zs k) := by simp [zAt, List.getD, h]
theorem zAt_ok {zs : List Int} (h : ShOk zs) {k : Nat} (hk : k < zs.length) : 1 ≤ zAt zs k ∧ zAt zs k ≤ 1048576 := h.2.2.1 _ (List.mem_of_getElem? (zAt_get hk))

theorem lo_zero (zs : List Int) : lo zs 0 = 0 := by
  unfold lo
  match zs with
  | [] => rfl
  | [_] => rfl
  | _ :: _ :: _ => rfl
theorem lo_next {zs : List Int} {k : Nat} (hk : k + 1 < zs.length) : lo zs (k + 1) = mid zs k + zAt zs (k + 1) := by
  rw [lo_succ zs k _ _ (zAt_get (by omega)) (zAt_get hk)]
  unfold mid
  omega
theorem lo_last {zs : List Int} (h : 1 ≤ zs.length) : lo zs (zs.length - 1) = cnt zs := by
  unfold lo
  rw [List.take_of_length_le (by omega)]
theorem mid_ge {zs : List Int} (h : ShOk zs) {k : Nat} (hk : k + 1 < zs.length) : lo zs k < mid zs k ∧ mid zs k < lo zs (k + 1) := by
  have h1 := zAt_ok h (k := k) (by omega)
  have h2 := zAt_ok h hk
  have hp : 0 < zAt zs (k + 1) * zAt zs k := Int.mul_pos (by omega) (by omega)
  rw [lo_next hk]
  unfold mid
  omega
theorem lo_mono {zs : List Int} (h : ShOk zs) : ∀ (d j : Nat), j + d < zs.length → lo zs j ≤ lo zs (j + d)
  | 0, j, _ => by simp
  | d + 1, j, hd => by
    have ih := lo_mono h d j (by omega)
    have := mid_ge h (k := j + d) (by omega)
    rw [show j + (d + 1) = j + d + 1 by omega]
    omega
theorem lo_le {zs : List Int} (h : ShOk zs) {j k : Nat} (hjk : j ≤ k) (hk : k < zs.length) : lo zs j ≤ lo zs k := by
  have := lo_mono h (k - j) j (by omega)
  rwa [show j + (k - j) = k by omega] at this
theorem lo_nonneg {zs : List Int} (h : ShOk zs) {k : Nat} (hk : k < zs.length) : 0 ≤ lo zs k := by
  have := lo_le h (Nat.zero_le k) hk
  rw [lo_zero] at this
  exact this
theorem lo_cnt {zs : List Int} (h : ShOk zs) {k : Nat} (hk : k < zs.length) : lo zs k ≤ cnt zs := by
  rw [← lo_last (by omega)]
  exact lo_le h (by omega) (by omega)

/-- Index i lies in link k. -/
def AtL (zs : List Int) (i : Int) (k : Nat) : Prop := k + 1 < zs.length ∧ lo zs k ≤ i ∧ i < lo zs (k + 1)

theorem at_ex {zs : List Int} {i : Int} (h0 : 0 ≤ i) : ∀ n : Nat, n < zs.length → i < lo zs n → ∃ k, AtL zs i k
  | 0, _, hi => by rw [lo_zero] at hi; omega
  | n + 1, hn, hi => by
    by_cases hl : i < lo zs n
    · exact at_ex h0 n (by omega) hl
    · exact ⟨n, hn, by omega, hi⟩
theorem at_of {zs : List Int} (h : ShOk zs) {i : Int} (h0 : 0 ≤ i) (hi : i < cnt zs) : ∃ k, AtL zs i k := by
  have h2 := h.1
  refine at_ex h0 (zs.length - 1) (by omega) ?_
  rw [lo_last (by omega)]
  exact hi
theorem at_same {zs : List Int} (h : ShOk zs) {i : Int} {j k : Nat} (hj : AtL zs i j) (hk : AtL zs i k) : j = k := by
  rcases Nat.lt_trichotomy j k with hlt | he | hlt
  · have := lo_le h (show j + 1 ≤ k by omega) (by have := hk.1; omega)
    have h1 := hj.2.2; have h2 := hk.2.1
    omega
  · exact he
  · have := lo_le h (show k + 1 ≤ j by omega) (by have := hj.1; omega)
    have h1 := hk.2.2; have h2 := hj.2.1
    omega

/-- What lies at index i of link k. -/
def plAt (zs : List Int) (i : Int) (k : Nat) : Pl :=
  if i < mid zs k then ⟨k, (i - lo zs k) / zAt zs k, (i - lo zs k) % zAt zs k⟩ else ⟨k, i - mid zs k, -1⟩
/-- The place of an index is p; none. -/
def PlaceIs (zs : List Int) (i : Int) (p : Pl) : Prop := ∃ k, AtL zs i k ∧ p = plAt zs i k

theorem place_same {zs : List Int} (h : ShOk zs) {i : Int} {p q : Pl} (hp : PlaceIs zs i p) (hq : PlaceIs zs i q) : p = q := by
  obtain ⟨j, hj, rfl⟩ := hp
  obtain ⟨k, hk, rfl⟩ := hq
  rw [at_same h hj hk]
theorem place_in {zs : List Int} (h : ShOk zs) {i : Int} {p : Pl} (hp : PlaceIs zs i p) : 0 ≤ i ∧ i < cnt zs := by
  obtain ⟨k, hk, _⟩ := hp
  have h1 := lo_nonneg h (k := k) (by have := hk.1; omega)
  have h2 := lo_cnt h hk.1
  have h3 := hk.2.1; have h4 := hk.2.2
  omega

def idxOf (zs : List Int) (p : Pl) : Int := if p.c < 0 then mid zs p.k.toNat + p.r else lo zs p.k.toNat + p.r * zAt zs p.k.toNat + p.c

theorem idx_place {zs : List Int} (h : ShOk zs) {i : Int} {p : Pl} (hp : PlaceIs zs i p) : idxOf zs p = i ∧ 0 ≤ p.k ∧ p.k.toNat + 1 < zs.length ∧ 0 ≤ p.r ∧ p.r ≤ 1048576 ∧ -1 ≤ p.c ∧ p.c ≤ 1048576 := by
  have hin := place_in h hp
  have hc := h.2.2.2
  obtain ⟨k, hk, rfl⟩ := hp
  have ha := zAt_ok h (k := k) (by have := hk.1; omega)
  have hl0 := lo_nonneg h (k := k) (by have := hk.1; omega)
  have hm := (mid_ge h hk.1).1
  unfold plAt
  split
  · rename_i hi
    have h1 := Int.emod_nonneg (i - lo zs k) (show zAt zs k ≠ 0 by omega)
    have h2 := Int.emod_lt_of_pos (i - lo zs k) (show 0 < zAt zs k by omega)
    have h3 : 0 ≤ (i - lo zs k) / zAt zs k := Int.ediv_nonneg (by have := hk.2.1; omega) (by omega)
    have h4 : (i - lo zs k) / zAt zs k ≤ i - lo zs k := Int.ediv_le_self _ (by have := hk.2.1; omega)
    have h5 := Int.emod_add_mul_ediv (i - lo zs k) (zAt zs k)
    have h6 : (i - lo zs k) / zAt zs k * zAt zs k = zAt zs k * ((i - lo zs k) / zAt zs k) := Int.mul_comm _ _
    refine ⟨?_, by simp, by simpa using hk.1, h3, by dsimp only; omega, by dsimp only; omega, by dsimp only; omega⟩
    unfold idxOf
    dsimp only
    rw [if_neg (by omega), Int.toNat_natCast]
    omega
  · rename_i hi
    refine ⟨?_, by simp, by simpa using hk.1, by dsimp only; omega, by dsimp only; omega, by simp, by simp⟩
    unfold idxOf
    dsimp only
    rw [if_pos (by omega), Int.toNat_natCast]
    omega

/-! The list of all places. -/
def blockP (k a b : Nat) : List Pl := ((List.range b).flatMap fun (r : Nat) => (List.range a).map fun (c : Nat) => (⟨(k : Int), (r : Int), (c : Int)⟩ : Pl)) ++ (List.range b).map fun (r : Nat) => (⟨(k : Int), (r : Int), -1⟩ : Pl)
def plcs (zs : List Int) : Nat → List Pl
  | 0 => []
  | m + 1 => plcs zs m ++ blockP m (zAt zs m).toNat (zAt zs (m + 1)).toNat

theorem grid_len {α : Type} (f : Nat → Nat → α) (a : Nat) : ∀ b : Nat, ((List.range b).flatMap fun r => (List.range a).map (f r)).length = b * a
  | 0 => by simp
  | b + 1 => by
    rw [List.range_succ, List.flatMap_append, List.length_append, grid_len f a b]
    simp [Nat.succ_mul]
theorem grid_at {α : Type} (f : Nat → Nat → α) (a : Nat) (ha : 0 < a) : ∀ (b j : Nat), j < b * a → ((List.range b).flatMap fun r => (List.range a).map (f r))[j]? = some (f (j / a) (j % a))
  | 0, j, h => by simp at h
  | b + 1, j, h => by
    rw [List.range_succ, List.flatMap_append]
    rcases Nat.lt_or_ge j (b * a) with hj | hj
    · rw [List.getElem?_append_left (by rw [grid_len]; exact hj)]
      exact grid_at f a ha b j hj
    · have hs : (b + 1) * a = b * a + a := Nat.succ_mul b a
      rw [List.getElem?_append_right (by rw [grid_len]; exact hj), grid_len]
      have h1 : j / a = b := by
        rw [Nat.div_eq_iff ha]
        rw [Nat.mul_comm]
        constructor
        · rw [Nat.mul_comm]; omega
        · rw [Nat.mul_comm]; omega
      have h2 : j % a = j - b * a := by
        have := Nat.mod_add_div j a
        rw [h1, Nat.mul_comm] at this
        omega
      rw [h1, h2]
      have h3 : j - b * a < a := by omega
      simp [h3]
theorem block_len (k a b : Nat) : (blockP k a b).length = b * a + b := by
  unfold blockP
  rw [List.length_append, grid_len]
  simp
theorem block_at (k a b j : Nat) (ha : 0 < a) (hj : j < b * a + b) : (blockP k a b)[j]? = some (if j < b * a then ⟨k, ((j / a : Nat) : Int), ((j % a : Nat) : Int)⟩ else ⟨k, ((j - b * a : Nat) : Int), -1⟩) := by
  unfold blockP
  split
  · rename_i h
    rw [List.getElem?_append_left (by rw [grid_len]; exact h), grid_at (fun (r c : Nat) => (⟨(k : Int), (r : Int), (c : Int)⟩ : Pl)) a ha b j h]
  · rename_i h
    rw [List.getElem?_append_right (by rw [grid_len]; omega), grid_len]
    have : j - b * a < b := by omega
    simp [this]

theorem nat_of {z : Int} (h : 0 ≤ z) : ((z.toNat : Nat) : Int) = z := by omega

theorem plcs_len {zs : List Int} (h : ShOk zs) : ∀ m : Nat, m < zs.length → (((plcs zs m).length : Nat) : Int) = lo zs m
  | 0, _ => by rw [lo_zero]; rfl
  | m + 1, hm => by
    have ih := plcs_len h m (by omega)
    have h1 := zAt_ok h (k := m) (by omega)
    have h2 := zAt_ok h hm
    rw [lo_next hm]
    simp only [plcs, List.length_append, block_len]
    unfold mid
    have : (((zAt zs (m + 1)).toNat * (zAt zs m).toNat : Nat) : Int) = zAt zs (m + 1) * zAt zs m := by
      rw [Int.natCast_mul, nat_of (by omega), nat_of (by omega)]
    omega

theorem plcs_at {zs : List Int} (h : ShOk zs) : ∀ (m : Nat), m < zs.length → ∀ (i : Nat), (i : Int) < lo zs m → ∃ p, (plcs zs m)[i]? = some p ∧ PlaceIs zs i p
  | 0, _, i, hi => by rw [lo_zero] at hi; omega
  | m + 1, hm, i, hi => by
    have hl := plcs_len h m (by omega)
    by_cases hlt : (i : Int) < lo zs m
    · obtain ⟨p, hp, hq⟩ := plcs_at h m (by omega) i hlt
      exact ⟨p, by simp only [plcs]; rw [List.getElem?_append_left (by omega)]; exact hp, hq⟩
    · have h1 := zAt_ok h (k := m) (by omega)
      have h2 := zAt_ok h hm
      have hn := lo_next hm
      have hmul : (((zAt zs (m + 1)).toNat * (zAt zs m).toNat : Nat) : Int) = zAt zs (m + 1) * zAt zs m := by
        rw [Int.natCast_mul, nat_of (by omega), nat_of (by omega)]
      have hmid : mid zs m = lo zs m + zAt zs (m + 1) * zAt zs m := rfl
      refine ⟨plAt zs i m, ?_, m, ⟨hm, by omega, hi⟩, rfl⟩
      simp only [plcs]
      rw [List.getElem?_append_right (by omega), block_at _ _ _ _ (by omega) (by omega)]
      congr 1
      unfold plAt
      by_cases hc : (i : Int) < mid zs m
      · rw [if_pos hc, if_pos (by omega)]
        have e : (i : Int) - lo zs m = ((i - (plcs zs m).length : Nat) : Int) := by omega
        rw [e]
        congr 1
        · rw [Int.natCast_ediv, nat_of (by omega)]
        · rw [Int.natCast_emod, nat_of (by omega)]
      · rw [if_neg hc, if_neg (by omega)]
        congr 1
        omega

/-- All places, in order. -/
def places (zs : List Int) : List Pl := plcs zs (zs.length - 1)
theorem places_len {zs : List Int} (h : ShOk zs) : (((places zs).length : Nat) : Int) = cnt zs := by
  have h2 := h.1
  unfold places
  rw [plcs_len h _ (by omega), lo_last (by omega)]
theorem places_at {zs : List Int} (h : ShOk zs) {i : Nat} (hi : i < (places zs).length) : ∃ p, (places zs)[i]? = some p ∧ PlaceIs zs i p := by
  have h2 := h.1
  have hl := places_len h
  refine plcs_at h (zs.length - 1) (by omega) i ?_
  rw [lo_last (by omega)]
  omega
theorem places_get {zs : List Int} (h : ShOk zs) {i : Nat} {p : Pl} (hp : (places zs)[i]? = some p) : PlaceIs zs i p := by
  obtain ⟨q, hq, hi⟩ := places_at h (List.getElem?_eq_some_iff.1 hp).1
  rw [hp] at hq
  injection hq with hq
  rw [hq]
  exact hi

end Go.Proofs.YtjjoendjgiiknaaDoor
