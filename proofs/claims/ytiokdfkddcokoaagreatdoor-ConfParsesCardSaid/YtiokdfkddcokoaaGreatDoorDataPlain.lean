/- Plain Lean: examples and their texts. Conditions: none. -/
import Derived.Test.YtiokdfkddcokoaaGreatDoorCutAt
import Derived.Test.YtiokdfkddcokoaaGreatDoorDeciParsePlain
namespace Go.Proofs.YtiokdfkddcokoaaGreatDoor

/-- The texts of numbers. -/
def txtL (v : List Int) (q : Nat) : List (List UInt8) := v.map fun x => decText x q
def rowText (v : List Int) (q : Nat) : List UInt8 := Lib.join (txtL v q) [32]
def exText (xs ys : List Int) (q : Nat) : List UInt8 := rowText xs q ++ [32, 62, 32] ++ rowText ys q

def numC (c : UInt8) : Prop := c = 45 ∨ c = 46 ∨ (48 ≤ c.toNat ∧ c.toNat ≤ 57)
theorem numC_32 {c : UInt8} (h : numC c) : c ≠ 32 := by rintro rfl; rcases h with h | h | h <;> simp at h
theorem numC_62 {c : UInt8} (h : numC c) : c ≠ 62 := by rintro rfl; rcases h with h | h | h <;> simp at h

theorem decText_chars (x : Int) (q : Nat) : ∀ c ∈ decText x q, numC c := by
  intro c hc
  unfold decText at hc
  simp only [List.mem_append] at hc
  rcases hc with (h | h) | h
  · split at h
    · simp at h; exact .inl h
    · cases h
  · exact .inr (.inr (dec_all _ c h))
  · unfold fracText at h
    split at h
    · cases h
    · rcases List.mem_cons.1 h with rfl | h
      · exact .inr (.inl rfl)
      · obtain ⟨d, hd, rfl⟩ := List.mem_map.1 h
        have h9 := cd_digits q _ (Nat.mod_lt _ (p2_pos q)) d hd
        right; right
        simp
        omega

theorem decText_ne (x : Int) (q : Nat) : decText x q ≠ [] := by
  unfold decText
  have := dec_ne (x.natAbs / p2 q)
  intro h
  rw [List.append_assoc] at h
  have h2 := (List.append_eq_nil_iff.1 h).2
  exact this (List.append_eq_nil_iff.1 h2).1

theorem txt_free (v : List Int) (q : Nat) : ∀ y ∈ txtL v q, ∀ b ∈ y, b ≠ 32 := by
  intro y hy b hb
  obtain ⟨x, _, rfl⟩ := List.mem_map.1 hy
  exact numC_32 (decText_chars x q b hb)

theorem join_mem {c : UInt8} : ∀ (l : List (List UInt8)) (b : UInt8), b ∈ Lib.join l [c] → b = c ∨ ∃ y ∈ l, b ∈ y
  | [], b, h => by rw [Lib.join_nil] at h; cases h
  | [x], b, h => by rw [Lib.join_one] at h; exact .inr ⟨x, by simp, h⟩
  | x :: y :: r, b, h => by
    have ih := join_mem (c := c) (y :: r) b
    have e : Lib.join (x :: y :: r) [c] = x ++ c :: Lib.join (y :: r) [c] := by
      rw [Lib.join_cons, Lib.join_cons]
      simp [Lib.joinTail]
    rw [e] at h
    rcases List.mem_append.1 h with h | h
    · exact .inr ⟨x, by simp, h⟩
    · rcases List.mem_cons.1 h with h | h
      · exact .inl h
      · rcases ih h with h | ⟨z, hz, hb⟩
        · exact .inl h
        · exact .inr ⟨z, by simp at hz ⊢; exact .inr hz, hb⟩

theorem row_no62 (v : List Int) (q : Nat) : ∀ b ∈ rowText v q, b ≠ 62 := by
  intro b hb
  rcases join_mem _ _ hb with rfl | ⟨y, hy, hb⟩
  · decide
  · obtain ⟨x, _, rfl⟩ := List.mem_map.1 hy
    exact numC_62 (decText_chars x q b hb)

theorem cutAt_row {v : List Int} (q : Nat) (h : v ≠ []) : cutAt 32 (rowText v q) = txtL v q := by
  cases v with
  | nil => exact absurd rfl h
  | cons x r => exact cutAt_join 32 _ _ (txt_free (x :: r) q)

theorem join_app (c : UInt8) : ∀ (l m : List (List UInt8)), l ≠ [] → m ≠ [] → Lib.join (l ++ m) [c] = Lib.join l [c] ++ c :: Lib.join m [c]
  | [], _, h, _ => absurd rfl h
  | [x], y :: m, _, _ => by
    rw [List.singleton_append, Lib.join_one, Lib.join_cons, Lib.join_cons]
    simp [Lib.joinTail]
  | [_], [], _, h => absurd rfl h
  | x :: y :: r, m, _, hm => by
    have ih := join_app c (y :: r) m (by simp) hm
    have e : ∀ s : List (List UInt8), Lib.join (x :: (y :: s)) [c] = x ++ c :: Lib.join (y :: s) [c] := fun s => by
      rw [Lib.join_cons, Lib.join_cons]
      simp [Lib.joinTail]
    rw [List.cons_append, List.cons_append, e, e, ← List.cons_append, ih]
    simp

/-- The words of an example's text. -/
theorem cutAt_ex {xs ys : List Int} (q : Nat) (hx : xs ≠ []) (hy : ys ≠ []) : cutAt 32 (exText xs ys q) = txtL xs q ++ [62] :: txtL ys q := by
  have hx' : txtL xs q ≠ [] := by simpa [txtL] using hx
  have hy' : txtL ys q ≠ [] := by simpa [txtL] using hy
  have e : exText xs ys q = Lib.join (txtL xs q ++ [62] :: txtL ys q) [32] := by
    rw [join_app 32 _ _ hx' (by simp)]
    have := join_app 32 [[62]] (txtL ys q) (by simp) hy'
    rw [List.singleton_append, Lib.join_one] at this
    rw [this]
    unfold exText rowText
    simp
  rw [e]
  cases hl : txtL xs q with
  | nil => exact absurd hl hx'
  | cons a r =>
    rw [List.cons_append]
    refine cutAt_join 32 _ _ ?_
    intro y hyy b hb
    rw [← List.cons_append, ← hl] at hyy
    rcases List.mem_append.1 hyy with h | h
    · exact txt_free xs q y h b hb
    · rcases List.mem_cons.1 h with rfl | h
      · simp at hb; subst hb; decide
      · exact txt_free ys q y h b hb

theorem cut_hit {x y : List UInt8} (h : ∀ b ∈ x, b ≠ 62) : Lib.cut (x ++ [32, 62, 32] ++ y) [32, 62, 32] = (x, y, true) := by
  have hi : Lib.index (x ++ [32, 62, 32] ++ y) [32, 62, 32] = x.length := by
    refine Lib.index_hit ?_ (by simp) (by simp [Lib.occAt])
    intro j hj
    rw [List.append_assoc]
    simp only [Lib.occAt]
    rw [List.drop_append_of_le_length (by omega)]
    cases hd : x.drop j with
    | nil => have := congrArg List.length hd; simp at this; omega
    | cons b l =>
      cases l with
      | nil => simp [List.isPrefixOf]
      | cons d m =>
        have hb : ((62 : UInt8) == d) = false := beq_eq_false_iff_ne.2 (Ne.symm (h d (List.mem_of_mem_drop (i := j) (by rw [hd]; simp))))
        simp [List.isPrefixOf, hb]
  unfold Lib.cut
  rw [hi, if_pos (by omega)]
  simp

def exOk (xs ys : List Int) : Prop := xs ≠ [] ∧ ys ≠ [] ∧ (∀ x ∈ xs, In64 x) ∧ ∀ y ∈ ys, In64 y

theorem txt_inj {q : Nat} (hq : q ≤ 62) : ∀ {xs ys : List Int}, (∀ x ∈ xs, In64 x) → (∀ y ∈ ys, In64 y) → txtL xs q = txtL ys q → xs = ys
  | [], [], _, _, _ => rfl
  | [], _ :: _, _, _, h => by simp [txtL] at h
  | _ :: _, [], _, _, h => by simp [txtL] at h
  | x :: xs, y :: ys, hx, hy, h => by
    simp only [txtL, List.map_cons, List.cons.injEq] at h
    have e := decText_inj h.1
    have := txt_inj hq (fun z hz => hx z (by simp [hz])) (fun z hz => hy z (by simp [hz])) h.2
    rw [e, this]

theorem arrow_split {A B C D : List (List UInt8)} (hA : ∀ y ∈ A, ∀ b ∈ y, b ≠ 62) (hC : ∀ y ∈ C, ∀ b ∈ y, b ≠ 62) (h : A ++ [62] :: B = C ++ [62] :: D) : A = C ∧ B = D := by
  induction A generalizing C with
  | nil =>
    cases C with
    | nil => simp at h; exact ⟨rfl, h⟩
    | cons c C =>
      simp at h
      exact absurd rfl (hC c (by simp) 62 (by rw [← h.1]; simp))
  | cons a A ih =>
    cases C with
    | nil =>
      simp at h
      exact absurd rfl (hA a (by simp) 62 (by rw [h.1]; simp))
    | cons c C =>
      simp at h
      obtain ⟨h1, h2⟩ := ih (fun y hy => hA y (by simp [hy])) (fun y hy => hC y (by simp [hy])) h.2
      rw [h.1, h1]
      exact ⟨rfl, h2⟩

theorem txt_no62 (v : List Int) (q : Nat) : ∀ y ∈ txtL v q, ∀ b ∈ y, b ≠ 62 := by
  intro y hy b hb
  obtain ⟨x, _, rfl⟩ := List.mem_map.1 hy
  exact numC_62 (decText_chars x q b hb)

theorem ex_inj {q : Nat} (hq : q ≤ 62) {xs ys us vs : List Int} (h1 : exOk xs ys) (h2 : exOk us vs) (h : exText xs ys q = exText us vs q) : xs = us ∧ ys = vs := by
  have e := congrArg (cutAt 32) h
  rw [cutAt_ex q h1.1 h1.2.1, cutAt_ex q h2.1 h2.2.1] at e
  obtain ⟨a, b⟩ := arrow_split (txt_no62 xs q) (txt_no62 us q) e
  exact ⟨txt_inj hq h1.2.2.1 h2.2.2.1 a, txt_inj hq h1.2.2.2 h2.2.2.2 b⟩

open Classical in
/-- The example with a text, or none. -/
noncomputable def exS (l : List UInt8) (q : Int) : (List Int × List Int) × Bool :=
  if h : (0 ≤ q ∧ q ≤ 62) ∧ ∃ p : List Int × List Int, exOk p.1 p.2 ∧ l = exText p.1 p.2 q.toNat then (h.2.choose, true) else (([], []), false)

theorem exS_yes {l : List UInt8} {q : Nat} {xs ys : List Int} (hq : q ≤ 62) (hx : exOk xs ys) (h : l = exText xs ys q) : exS l q = ((xs, ys), true) := by
  have hex : (0 ≤ (q : Int) ∧ (q : Int) ≤ 62) ∧ ∃ p : List Int × List Int, exOk p.1 p.2 ∧ l = exText p.1 p.2 (q : Int).toNat := ⟨by omega, (xs, ys), hx, h⟩
  unfold exS
  rw [dif_pos hex]
  have hs := hex.2.choose_spec
  have := ex_inj hq hs.1 hx (hs.2.symm.trans h)
  rw [show hex.2.choose = (xs, ys) from Prod.ext this.1 this.2]
theorem exS_no {l : List UInt8} {q : Nat} (h : ∀ xs ys, exOk xs ys → l ≠ exText xs ys q) : exS l q = (([], []), false) := by
  unfold exS
  rw [dif_neg]
  rintro ⟨_, p, hp, e⟩
  exact h p.1 p.2 hp e
theorem exS_out {l : List UInt8} {q : Int} (h : ¬ (0 ≤ q ∧ q ≤ 62)) : exS l q = (([], []), false) := by
  unfold exS
  rw [dif_neg]
  rintro ⟨hq, _⟩
  exact h hq

end Go.Proofs.YtiokdfkddcokoaaGreatDoor
