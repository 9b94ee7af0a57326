/- Plain Lean: the numbers that words are; an example's text is taken apart. Conditions: none. -/
import Derived.Test.YtajilipbnfpemaaDoorDataPlain
namespace Go.Proofs.YtajilipbnfpemaaDoor

/-- The numbers of words, or none. -/
noncomputable def numsS (q : Int) : List (List UInt8) → Option (List Int)
  | [] => some []
  | w :: ws => if (parseS w q).2 = true then (numsS q ws).map ((parseS w q).1 :: ·) else none

theorem numsS_snoc (q : Int) (w : List UInt8) : ∀ l : List (List UInt8), numsS q (l ++ [w]) = match numsS q l with
    | some zs => if (parseS w q).2 = true then some (zs ++ [(parseS w q).1]) else none
    | none => none
  | [] => by
    simp only [List.nil_append, numsS]
    split <;> rfl
  | y :: l => by
    have ih := numsS_snoc q w l
    simp only [List.cons_append, numsS, ih]
    by_cases h : (parseS y q).2 = true
    · rw [if_pos h, if_pos h]
      cases numsS q l with
      | none => rfl
      | some zs =>
        by_cases hw : (parseS w q).2 = true
        · simp [hw]
        · simp [hw]
    · rw [if_neg h, if_neg h]

theorem numsS_fail (q : Int) (w : List UInt8) (hw : (parseS w q).2 = false) : ∀ (l m : List (List UInt8)), numsS q (l ++ w :: m) = none
  | [], m => by simp [numsS, hw]
  | y :: l, m => by
    simp only [List.cons_append, numsS, numsS_fail q w hw l m]
    split <;> rfl

theorem parseS_cases {l : List UInt8} {q : Nat} (hq : q ≤ 62) : ((parseS l q).2 = true ∧ In64 (parseS l q).1 ∧ l = decText (parseS l q).1 q) ∨ ((parseS l q).2 = false ∧ ∀ x, In64 x → l ≠ decText x q) := by
  by_cases h : ∃ x, In64 x ∧ l = decText x q
  · obtain ⟨x, hx, e⟩ := h
    have := parseS_yes hq hx e
    rw [this]
    exact .inl ⟨rfl, hx, e⟩
  · have h' : ∀ x, In64 x → l ≠ decText x q := fun x hx e => h ⟨x, hx, e⟩
    rw [parseS_no h']
    exact .inr ⟨rfl, h'⟩

theorem numsS_text {q : Nat} (hq : q ≤ 62) : ∀ {W : List (List UInt8)} {zs : List Int}, numsS q W = some zs → W = txtL zs q ∧ ∀ z ∈ zs, In64 z
  | [], zs, h => by
    simp [numsS] at h
    subst h
    exact ⟨rfl, by simp⟩
  | w :: W, zs, h => by
    simp only [numsS] at h
    rcases parseS_cases (l := w) hq with ⟨h1, h2, h3⟩ | ⟨h1, _⟩
    · rw [if_pos h1] at h
      cases hn : numsS q W with
      | none => rw [hn] at h; simp at h
      | some ys =>
        rw [hn] at h
        simp at h
        obtain ⟨e1, e2⟩ := numsS_text hq hn
        subst h
        refine ⟨by rw [e1]; simp only [txtL, List.map_cons]; rw [← h3], fun z hz => ?_⟩
        rcases List.mem_cons.1 hz with rfl | hz
        · exact h2
        · exact e2 z hz
    · rw [h1] at h
      simp at h

theorem numsS_of {q : Nat} (hq : q ≤ 62) : ∀ {zs : List Int}, (∀ z ∈ zs, In64 z) → numsS q (txtL zs q) = some zs
  | [], _ => rfl
  | z :: zs, h => by
    have ih := numsS_of hq (zs := zs) (fun y hy => h y (by simp [hy]))
    have hp := parseS_yes (l := decText z q) hq (h z (by simp)) rfl
    unfold txtL at ih ⊢
    simp only [List.map_cons, numsS]
    rw [hp, ih]
    rfl

theorem numsS_out {q : Int} (hq : ¬ (0 ≤ q ∧ q ≤ 62)) {W : List (List UInt8)} (h : W ≠ []) : numsS q W = none := by
  cases W with
  | nil => exact absurd rfl h
  | cons w W => simp [numsS, parseS_out hq]

theorem cut_found {s : List UInt8} (h : (Lib.cut s [32, 62, 32]).2.2 = true) : s = (Lib.cut s [32, 62, 32]).1 ++ [32, 62, 32] ++ (Lib.cut s [32, 62, 32]).2.1 := by
  unfold Lib.cut at h ⊢
  split at h
  · rename_i h0
    rw [if_pos h0]
    rcases Lib.index_spec s [32, 62, 32] with ⟨h1, _⟩ | ⟨i, hi, hle, ho, _⟩
    · omega
    · dsimp only
      rw [hi]
      simp only [Int.toNat_natCast]
      unfold Lib.occAt at ho
      have hp : ([32, 62, 32] : List UInt8) <+: s.drop i := List.isPrefixOf_iff_prefix.1 ho
      obtain ⟨t, ht⟩ := hp
      have hd : s.drop (i + ([32, 62, 32] : List UInt8).length) = t := by
        rw [← List.drop_drop, ← ht]
        simp
      rw [hd, List.append_assoc, ht, List.take_append_drop]
  · cases h

/-- What data.Parse makes of a text. -/
theorem exS_parts (s : List UInt8) (q : Int) : exS s q = if (Lib.cut s [32, 62, 32]).2.2 = true then
    match numsS q (cutAt 32 (Lib.cut s [32, 62, 32]).1), numsS q (cutAt 32 (Lib.cut s [32, 62, 32]).2.1) with
    | some xs, some ys => ((xs, ys), true)
    | _, _ => (([], []), false)
    else (([], []), false) := by
  by_cases hq : 0 ≤ q ∧ q ≤ 62
  · obtain ⟨n, rfl⟩ := Int.eq_ofNat_of_zero_le hq.1
    have hn : n ≤ 62 := by omega
    have hno : ∀ xs ys, exOk xs ys → s = exText xs ys n → (Lib.cut s [32, 62, 32]).2.2 = true ∧ numsS n (cutAt 32 (Lib.cut s [32, 62, 32]).1) = some xs ∧ numsS n (cutAt 32 (Lib.cut s [32, 62, 32]).2.1) = some ys := fun xs ys hok e => by
      have hc := cut_hit (x := rowText xs n) (y := rowText ys n) (row_no62 xs n)
      have e' : s = rowText xs n ++ [32, 62, 32] ++ rowText ys n := e
      rw [e', hc]
      dsimp only
      rw [cutAt_row n hok.1, cutAt_row n hok.2.1, numsS_of hn hok.2.2.1, numsS_of hn hok.2.2.2]
      exact ⟨rfl, rfl, rfl⟩
    split
    · rename_i hf
      cases h1 : numsS n (cutAt 32 (Lib.cut s [32, 62, 32]).1) with
      | none => exact exS_no fun xs ys hok e => by have := (hno xs ys hok e).2.1; rw [h1] at this; cases this
      | some xs =>
        cases h2 : numsS n (cutAt 32 (Lib.cut s [32, 62, 32]).2.1) with
        | none => exact exS_no fun xs ys hok e => by have := (hno xs ys hok e).2.2; rw [h2] at this; cases this
        | some ys =>
          dsimp only
          obtain ⟨e1, g1⟩ := numsS_text hn h1
          obtain ⟨e2, g2⟩ := numsS_text hn h2
          have n1 : xs ≠ [] := fun e => by rw [e] at e1; exact cutAt_ne 32 _ e1
          have n2 : ys ≠ [] := fun e => by rw [e] at e2; exact cutAt_ne 32 _ e2
          refine exS_yes hn ⟨n1, n2, g1, g2⟩ ?_
          have j1 := join_cutAt 32 (Lib.cut s [32, 62, 32]).1
          have j2 := join_cutAt 32 (Lib.cut s [32, 62, 32]).2.1
          rw [e1] at j1
          rw [e2] at j2
          have hs := cut_found hf
          rw [← j1, ← j2] at hs
          exact hs
    · rename_i hf
      exact exS_no fun xs ys hok e => hf (hno xs ys hok e).1
  · rw [exS_out hq, numsS_out hq (cutAt_ne 32 _)]
    split <;> rfl

end Go.Proofs.YtajilipbnfpemaaDoor
