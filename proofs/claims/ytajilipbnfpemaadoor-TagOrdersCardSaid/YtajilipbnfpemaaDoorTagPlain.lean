/- Plain Lean: tags, their texts and their numbers. Conditions: none. -/
import Derived.Test.YtajilipbnfpemaaDoorCutAt
import Derived.Test.YtajilipbnfpemaaDoorNumPlain
namespace Go.Proofs.YtajilipbnfpemaaDoor

structure Tg where
  a : Int
  b : Int
  p : Int
  r : Int
  c : Int

def tagOk (t : Tg) : Prop := (0 ≤ t.a ∧ t.a < 1048576) ∧ (0 ≤ t.b ∧ t.b < 1048576) ∧ (0 ≤ t.p ∧ t.p < 2) ∧ (0 ≤ t.r ∧ t.r < 63) ∧ (0 ≤ t.c ∧ t.c < 1048576)
instance (t : Tg) : Decidable (tagOk t) := by unfold tagOk; infer_instance
def phaseL (p : Int) : List UInt8 := if p = 0 then [115, 99, 97, 116, 116, 101, 114] else if p = 1 then [103, 97, 116, 104, 101, 114] else []
def tagWords (t : Tg) : List (List UInt8) := [115 :: Lib.itoa t.a, 98 :: Lib.itoa t.b, phaseL t.p ++ Lib.itoa t.r, 99 :: Lib.itoa t.c]
def tagText (t : Tg) : List UInt8 := Lib.join (tagWords t) [46]

theorem itoa_free (x : Int) : ∀ b ∈ Lib.itoa x, b ≠ 46 := by
  intro b hb
  rw [itoa_parts] at hb
  rcases List.mem_append.1 hb with h | h
  · split at h
    · simp at h; subst h; decide
    · cases h
  · have := dec_all x.natAbs b h
    intro e
    subst e
    simp at this

theorem phase_free (p : Int) : ∀ b ∈ phaseL p, b ≠ 46 := by
  intro b hb
  unfold phaseL at hb
  split at hb
  · simp at hb; rcases hb with rfl | rfl | rfl | rfl | rfl | rfl <;> decide
  · split at hb
    · simp at hb; rcases hb with rfl | rfl | rfl | rfl | rfl | rfl <;> decide
    · cases hb

theorem tag_words (t : Tg) : cutAt 46 (tagText t) = tagWords t := by
  unfold tagText tagWords
  refine cutAt_join 46 _ _ ?_
  intro y hy b hb
  simp only [List.mem_cons, List.not_mem_nil, or_false] at hy
  rcases hy with rfl | rfl | rfl | rfl
  · rcases List.mem_cons.1 hb with rfl | h
    · decide
    · exact itoa_free _ b h
  · rcases List.mem_cons.1 hb with rfl | h
    · decide
    · exact itoa_free _ b h
  · rcases List.mem_append.1 hb with h | h
    · exact phase_free _ b h
    · exact itoa_free _ b h
  · rcases List.mem_cons.1 hb with rfl | h
    · decide
    · exact itoa_free _ b h

theorem words_text {t : Tg} {s : List UInt8} (h : cutAt 46 s = tagWords t) : s = tagText t := by
  unfold tagText
  rw [← h, join_cutAt]

theorem tag_inj {t u : Tg} (ht : tagOk t) (hu : tagOk u) (h : tagText t = tagText u) : t = u := by
  have e := congrArg (cutAt 46) h
  rw [tag_words, tag_words] at e
  unfold tagWords at e
  simp only [List.cons.injEq, and_true, true_and] at e
  obtain ⟨e1, e2, e3, e4⟩ := e
  have h1 := itoa_inj e1
  have h2 := itoa_inj e2
  have h4 := itoa_inj e4
  obtain ⟨a, b, p, r, c⟩ := t
  obtain ⟨a', b', p', r', c'⟩ := u
  unfold tagOk at ht hu
  dsimp only at *
  have hp : p = 0 ∨ p = 1 := by omega
  have hp' : p' = 0 ∨ p' = 1 := by omega
  subst h1 h2 h4
  rcases hp with rfl | rfl <;> rcases hp' with rfl | rfl
  · simp [phaseL] at e3; rw [itoa_inj e3]
  · simp [phaseL] at e3
  · simp [phaseL] at e3
  · simp [phaseL] at e3; rw [itoa_inj e3]

def tg0 : Tg := ⟨0, 0, 0, 0, 0⟩
open Classical in
/-- The tag with a text, or none. -/
noncomputable def tagS (l : List UInt8) : Tg × Bool := if h : ∃ t, tagOk t ∧ l = tagText t then (h.choose, true) else (tg0, false)

theorem tagS_yes {l : List UInt8} {t : Tg} (ht : tagOk t) (h : l = tagText t) : tagS l = (t, true) := by
  have hex : ∃ t, tagOk t ∧ l = tagText t := ⟨t, ht, h⟩
  unfold tagS
  rw [dif_pos hex]
  have := tag_inj hex.choose_spec.1 ht (hex.choose_spec.2.symm.trans h)
  rw [this]
theorem tagS_no {l : List UInt8} (h : ∀ t, tagOk t → l ≠ tagText t) : tagS l = (tg0, false) := by
  unfold tagS
  rw [dif_neg]
  rintro ⟨x, hx, e⟩
  exact h x hx e
theorem tagS_out (l : List UInt8) : ((tagS l).2 = true ∧ tagOk (tagS l).1 ∧ l = tagText (tagS l).1) ∨ ((tagS l).2 = false ∧ (tagS l).1 = tg0 ∧ ∀ t, tagOk t → l ≠ tagText t) := by
  by_cases h : ∃ t, tagOk t ∧ l = tagText t
  · obtain ⟨t, ht, e⟩ := h
    rw [tagS_yes ht e]
    exact .inl ⟨rfl, ht, e⟩
  · have h' : ∀ t, tagOk t → l ≠ tagText t := fun t ht e => h ⟨t, ht, e⟩
    rw [tagS_no h']
    exact .inr ⟨rfl, rfl, h'⟩

/-! The reference's digits. -/
def digF (n : Nat) : List UInt8 → Nat × List UInt8
  | [] => (n, [])
  | c :: l => if c = 46 then (n, l) else if 48 ≤ c.toNat ∧ c.toNat ≤ 57 ∧ n < 10000000 then digF (10 * n + (c.toNat - 48)) l else digF n l

theorem digF_bd : ∀ (l : List UInt8) (n : Nat), n < 100000000 → (digF n l).1 < 100000000
  | [], n, h => h
  | c :: l, n, h => by
    simp only [digF]
    split
    · exact h
    · split
      · exact digF_bd l _ (by omega)
      · exact digF_bd l n h

theorem digF_pre {n : Nat} {r : List UInt8} : ∀ {x : List UInt8}, (∀ b ∈ x, b ≠ 46 ∧ ¬ (48 ≤ b.toNat ∧ b.toNat ≤ 57)) → digF n (x ++ r) = digF n r
  | [], _ => rfl
  | b :: x, h => by
    have hb := h b (by simp)
    simp only [List.cons_append, digF, if_neg hb.1]
    rw [if_neg (fun e => hb.2 ⟨e.1, e.2.1⟩)]
    exact digF_pre (fun d hd => h d (by simp [hd]))

theorem digF_fold {r : List UInt8} : ∀ (l : List UInt8) (m : Nat), (∀ c ∈ l, 48 ≤ c.toNat ∧ c.toNat ≤ 57) → l.foldl (fun n c => 10 * n + (c.toNat - 48)) m < 10000000 → digF m (l ++ r) = digF (l.foldl (fun n c => 10 * n + (c.toNat - 48)) m) r
  | [], m, _, _ => rfl
  | c :: l, m, hd, h => by
    have hc := hd c (by simp)
    have hg := fold_ge l (10 * m + (c.toNat - 48))
    simp only [List.foldl_cons] at h ⊢
    have hne : c ≠ 46 := fun e => by subst e; simp at hc
    simp only [List.cons_append, digF, if_neg hne]
    rw [if_pos ⟨hc.1, hc.2, by omega⟩]
    exact digF_fold l _ (fun x hx => hd x (by simp [hx])) h

theorem digF_dec {u : Nat} (h : u < 10000000) (r : List UInt8) : digF 0 (Lib.decDigits u ++ r) = digF u r := by
  have e := decVal_digits u
  unfold decVal at e
  have := digF_fold (r := r) (Lib.decDigits u) 0 (dec_all u) (by rw [e]; exact h)
  rw [this, e]

theorem itoa_pos {x : Int} (h : 0 ≤ x) : Lib.itoa x = Lib.decDigits x.toNat := by
  rw [itoa_parts, if_neg (by omega), List.nil_append]
  congr 1
  omega

theorem digF_itoa {x : Int} (h0 : 0 ≤ x) (h1 : x < 1048576) (r : List UInt8) : digF 0 (Lib.itoa x ++ r) = digF x.toNat r := by
  rw [itoa_pos h0]
  exact digF_dec (by omega) r

theorem text_flat (t : Tg) : tagText t = 115 :: (Lib.itoa t.a ++ (46 :: 98 :: (Lib.itoa t.b ++ (46 :: (phaseL t.p ++ (Lib.itoa t.r ++ (46 :: 99 :: Lib.itoa t.c))))))) := by
  unfold tagText tagWords
  rw [Lib.join_cons]
  simp [Lib.joinTail]

/-- What the reference reads in a text. -/
def digT (s : List UInt8) : Tg × List UInt8 :=
  let d1 := digF 0 s
  let d2 := digF 0 d1.2
  let d3 := digF 0 d2.2
  let d4 := digF 0 d3.2
  (⟨d1.1, d2.1, if d2.2.head? = some 103 then 1 else 0, d3.1, d4.1⟩, d4.2)

theorem digT_text {t : Tg} (ht : tagOk t) : digT (tagText t) = (t, []) := by
  rw [text_flat]
  obtain ⟨a, b, p, r, c⟩ := t
  unfold tagOk at ht
  dsimp only at *
  obtain ⟨ha, hb, hp, hr, hc⟩ := ht
  have e1 : ∀ R, digF 0 (115 :: (Lib.itoa a ++ (46 :: R))) = (a.toNat, R) := fun R => by
    rw [show (115 : UInt8) :: (Lib.itoa a ++ (46 :: R)) = [115] ++ (Lib.itoa a ++ (46 :: R)) from rfl, digF_pre (by simp), digF_itoa ha.1 ha.2]
    simp [digF]
  have e2 : ∀ R, digF 0 (98 :: (Lib.itoa b ++ (46 :: R))) = (b.toNat, R) := fun R => by
    rw [show (98 : UInt8) :: (Lib.itoa b ++ (46 :: R)) = [98] ++ (Lib.itoa b ++ (46 :: R)) from rfl, digF_pre (by simp), digF_itoa hb.1 hb.2]
    simp [digF]
  have e3 : ∀ R, digF 0 (phaseL p ++ (Lib.itoa r ++ (46 :: R))) = (r.toNat, R) := fun R => by
    rw [digF_pre, digF_itoa hr.1 (by omega)]
    · simp [digF]
    · intro x hx
      unfold phaseL at hx
      split at hx
      · simp at hx; rcases hx with rfl | rfl | rfl | rfl | rfl | rfl <;> decide
      · split at hx
        · simp at hx; rcases hx with rfl | rfl | rfl | rfl | rfl | rfl <;> decide
        · cases hx
  have e4 : digF 0 (99 :: Lib.itoa c) = (c.toNat, []) := by
    have := digF_itoa hc.1 hc.2 []
    rw [List.append_nil] at this
    rw [show (99 : UInt8) :: Lib.itoa c = [99] ++ Lib.itoa c from rfl, digF_pre (by simp), this]
    rfl
  unfold digT
  simp only [e1, e2, e3, e4]
  have hp2 : p = 0 ∨ p = 1 := by omega
  rcases hp2 with rfl | rfl
  · simp [phaseL]; omega
  · simp [phaseL]; omega

theorem digT_spec (s : List UInt8) : tagS s = if (digT s).2 = [] ∧ tagOk (digT s).1 ∧ tagText (digT s).1 = s then ((digT s).1, true) else (tg0, false) := by
  split
  · rename_i h
    exact tagS_yes h.2.1 h.2.2.symm
  · rename_i h
    refine tagS_no fun t ht e => h ?_
    subst e
    rw [digT_text ht]
    exact ⟨rfl, ht, rfl⟩

/-! The numbers. -/
def packA (t : Tg) : Int := t.a * 1048576 + t.b
def packB (t : Tg) : Int := (t.p * 64 + t.r) * 1048576 + t.c
def unpT (x y : Int) : Tg := ⟨x / 1048576, x % 1048576, y / 1048576 / 64, y / 1048576 % 64, y % 1048576⟩
def unpS (x y : Int) : Tg × Bool := if tagOk (unpT x y) then (unpT x y, true) else (tg0, false)

theorem unp_pack {t : Tg} (ht : tagOk t) : unpT (packA t) (packB t) = t := by
  obtain ⟨a, b, p, r, c⟩ := t
  unfold tagOk at ht
  unfold unpT packA packB
  dsimp only at *
  simp only [Tg.mk.injEq]
  omega

theorem pack_unp (x y : Int) : packA (unpT x y) = x ∧ packB (unpT x y) = y := by
  unfold unpT packA packB
  dsimp only
  omega

/-- The order of tags. -/
def cmpI (x y : Int) : Int := if x < y then -1 else if y < x then 1 else 0
def orI (x y : Int) : Int := if x = 0 then y else x
def cmpT (t u : Tg) : Int := orI (cmpI t.a u.a) (orI (cmpI t.b u.b) (orI (cmpI t.p u.p) (orI (cmpI t.r u.r) (cmpI t.c u.c))))

theorem cmpI_neg (x y : Int) : cmpI y x = -cmpI x y := by
  unfold cmpI
  repeat' split
  all_goals omega
theorem cmpI_zero (x y : Int) : cmpI x y = 0 ↔ x = y := by
  unfold cmpI
  repeat' split
  all_goals omega
theorem orI_neg (x y : Int) : orI (-x) (-y) = -orI x y := by
  unfold orI
  repeat' split
  all_goals omega
theorem orI_zero (x y : Int) : orI x y = 0 ↔ x = 0 ∧ y = 0 := by
  unfold orI
  split <;> omega
theorem orI_assoc (x y z : Int) : orI (orI x y) z = orI x (orI y z) := by
  unfold orI
  by_cases h : x = 0
  · simp [h]
  · simp [h]
theorem cmpI_pair {a a' b b' m : Int} (hb : 0 ≤ b ∧ b < m) (hb' : 0 ≤ b' ∧ b' < m) (A A' : Int) (hA : A = m * a + b) (hA' : A' = m * a' + b') : cmpI A A' = orI (cmpI a a') (cmpI b b') := by
  have key : ∀ x y u v : Int, x < y → 0 ≤ u → u < m → 0 ≤ v → v < m → m * x + u < m * y + v := fun x y u v h h1 h2 h3 h4 => by
    have : m * (x + 1) ≤ m * y := Int.mul_le_mul_of_nonneg_left (by omega) (by omega)
    rw [Int.mul_add] at this
    omega
  rcases Int.lt_trichotomy a a' with h | h | h
  · have := key a a' b b' h hb.1 hb.2 hb'.1 hb'.2
    rw [← hA, ← hA'] at this
    unfold cmpI orI
    simp [h, this]
  · subst h
    unfold cmpI orI
    rw [hA, hA']
    generalize m * a = k
    repeat' split
    all_goals omega
  · have := key a' a b' b h hb'.1 hb'.2 hb.1 hb.2
    rw [← hA, ← hA'] at this
    have h2 : ¬ a < a' := by omega
    have h3 : ¬ A < A' := by omega
    unfold cmpI orI
    simp [h, this, h2, h3]

theorem cmpT_neg (t u : Tg) : cmpT u t = -cmpT t u := by
  unfold cmpT
  rw [cmpI_neg t.a, cmpI_neg t.b, cmpI_neg t.p, cmpI_neg t.r, cmpI_neg t.c, orI_neg, orI_neg, orI_neg, orI_neg]

theorem cmpT_zero (t u : Tg) : cmpT t u = 0 ↔ t = u := by
  obtain ⟨a, b, p, r, c⟩ := t
  obtain ⟨a', b', p', r', c'⟩ := u
  unfold cmpT
  rw [orI_zero, orI_zero, orI_zero, orI_zero, cmpI_zero, cmpI_zero, cmpI_zero, cmpI_zero, cmpI_zero]
  simp only [Tg.mk.injEq]

theorem cmpT_pack {t u : Tg} (ht : tagOk t) (hu : tagOk u) : cmpT t u = orI (cmpI (packA t) (packA u)) (cmpI (packB t) (packB u)) := by
  obtain ⟨a, b, p, r, c⟩ := t
  obtain ⟨a', b', p', r', c'⟩ := u
  unfold tagOk at ht hu
  dsimp only at ht hu
  obtain ⟨_, hb, _, hr, hc⟩ := ht
  obtain ⟨_, hb', _, hr', hc'⟩ := hu
  have e1 := cmpI_pair hb hb' (packA ⟨a, b, p, r, c⟩) (packA ⟨a', b', p', r', c'⟩) (show a * 1048576 + b = 1048576 * a + b by omega) (show a' * 1048576 + b' = 1048576 * a' + b' by omega)
  have e2 := cmpI_pair hc hc' (packB ⟨a, b, p, r, c⟩) (packB ⟨a', b', p', r', c'⟩) (show (p * 64 + r) * 1048576 + c = 1048576 * (p * 64 + r) + c by omega) (show (p' * 64 + r') * 1048576 + c' = 1048576 * (p' * 64 + r') + c' by omega)
  have e3 := cmpI_pair (m := 64) ⟨hr.1, by omega⟩ ⟨hr'.1, by omega⟩ (p * 64 + r) (p' * 64 + r') (show p * 64 + r = 64 * p + r by omega) (show p' * 64 + r' = 64 * p' + r' by omega)
  rw [e1, e2, e3]
  unfold cmpT
  rw [orI_assoc, orI_assoc]

end Go.Proofs.YtajilipbnfpemaaDoor
