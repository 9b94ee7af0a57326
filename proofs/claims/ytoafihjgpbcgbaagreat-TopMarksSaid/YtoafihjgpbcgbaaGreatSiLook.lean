/- A region that draws its order: what its checks say. Conditions: none. -/
import Derived.Test.YtoafihjgpbcgbaaGreatSiRun
namespace Go.Proofs.YtoafihjgpbcgbaaGreat.Si
noncomputable section
open Go.RowKit

theorem writers_mem : ∀ (l : List Oper) (k t j : Nat), (t, j) ∈ writers l k ↔ ∃ m o, j = k + m ∧ l[m]? = some o ∧ o.dst = some t
  | [], k, t, j => by simp [writers]
  | o :: r, k, t, j => by
    have ih := writers_mem r (k + 1) t j
    have key : ((t, j) ∈ writers (o :: r) k) ↔ ((o.dst = some t ∧ j = k) ∨ (t, j) ∈ writers r (k + 1)) := by
      have e : writers (o :: r) k = match o.dst with
          | some d => (d, k) :: writers r (k + 1)
          | none => writers r (k + 1) := rfl
      rw [e]
      cases hd : o.dst with
      | none => simp
      | some d => simp [eq_comm]
    rw [key, ih]
    constructor
    · rintro (⟨h1, h2⟩ | ⟨m, p, h1, h2, h3⟩)
      · exact ⟨0, o, by omega, rfl, h1⟩
      · exact ⟨m + 1, p, by omega, by simpa using h2, h3⟩
    · rintro ⟨m, p, h1, h2, h3⟩
      cases m with
      | zero =>
        simp only [List.getElem?_cons_zero, Option.some.injEq] at h2
        subst h2
        exact .inl ⟨h3, by omega⟩
      | succ m => exact .inr ⟨m, p, by omega, by simpa using h2, h3⟩

theorem twice_look : ∀ {W : List (Nat × Nat)} {t j : Nat}, noneTwice W = true → (t, j) ∈ W → look W t = some j
  | [], _, _, _, h => by cases h
  | (u, k) :: r, t, j, h, hm => by
    simp only [noneTwice, Bool.and_eq_true, List.all_eq_true] at h
    rw [look_cons]
    rcases List.mem_cons.1 hm with e | hm
    · injection e with e1 e2
      subst e1 e2
      rw [if_pos rfl]
    · have := h.1 _ hm
      rw [if_neg (fun e => by subst e; rw [show Nat.beq u u = true from Nat.beq_refl u] at this; cases this)]
      exact twice_look h.2 hm

theorem writer_iff {ops : Array Oper} (h : noneTwice (writers ops.toList 0) = true) (t j : Nat) : look (writers ops.toList 0) t = some j ↔ ∃ o, ops[j]? = some o ∧ o.dst = some t := by
  constructor
  · intro hl
    obtain ⟨m, o, h1, h2, h3⟩ := (writers_mem _ _ _ _).1 (look_mem hl)
    obtain rfl : j = m := by omega
    exact ⟨o, by simpa using h2, h3⟩
  · rintro ⟨o, h1, h2⟩
    exact twice_look h ((writers_mem _ _ _ _).2 ⟨j, o, by omega, by simpa using h1, h2⟩)

theorem end_at (V : List (Nat × AV)) : ∀ {W : List (Nat × Nat)} {ts : List AV} (_ : noneTwice W = true) (t : Nat), t < ts.length → (endR V W ts)[t]? = match look W t with
    | some j => some ((look V j).getD (.tup []))
    | none => ts[t]?
  | [], ts, _, t, _ => rfl
  | (u, k) :: r, ts, h, t, ht => by
    simp only [noneTwice, Bool.and_eq_true, List.all_eq_true] at h
    rw [endR, setQ_eq, end_at V h.2 t (by rw [List.length_set]; exact ht), look_cons]
    by_cases e : u = t
    · subst e
      rw [if_pos rfl]
      cases hl : look r u with
      | none => simp [ht]
      | some j =>
        have := h.1 _ (look_mem hl)
        rw [show Nat.beq u u = true from Nat.beq_refl u] at this
        cases this
    · rw [if_neg e]
      cases look r t with
      | none => simp [e]
      | some j => rfl
theorem end_len (V : List (Nat × AV)) : ∀ (W : List (Nat × Nat)) (ts : List AV), (endR V W ts).length = ts.length
  | [], _ => rfl
  | (_, _) :: r, ts => by rw [endR, setQ_eq, end_len V r, List.length_set]

theorem waits_bit (b : List Nat) (j : Nat) : ∀ es : List Edge, (waits b es).testBit j = true ↔ ∃ e ∈ es, Region.binds .any e = true ∧ (j = e.on ∨ (b.getD e.on 0).testBit j = true)
  | [] => by simp [waits]
  | e :: r => by
    have ih := waits_bit b j r
    unfold waits
    simp only [getQ_eq]
    cases hb : Region.binds .any e with
    | false => simp [hb, ih]
    | true =>
      simp only [cond_true, Nat.testBit_or, Bool.or_eq_true, ih, Nat.one_shiftLeft, Nat.testBit_two_pow, decide_eq_true_eq, List.mem_cons]
      constructor
      · rintro ((h | h) | ⟨f, h1, h2⟩)
        · exact ⟨e, .inl rfl, hb, .inl h.symm⟩
        · exact ⟨e, .inl rfl, hb, .inr h⟩
        · exact ⟨f, .inr h1, h2⟩
      · rintro ⟨f, rfl | h1, h2, h3⟩
        · rcases h3 with h3 | h3
          · exact .inl (.inl h3.symm)
          · exact .inl (.inr h3)
        · exact .inr ⟨f, h1, h2, h3⟩

/-- What is looked at of one operation. -/
structure Good (T : TT) (ops : Array Oper) (ts : List AV) (W : List (Nat × Nat)) (b rk : List Nat) (x : RS) (o : Oper) (i : Nat) : Prop where
  bits : b.getD i 0 = waits b o.after.toList
  rank : ∀ e ∈ o.after.toList, Region.binds .any e = true → rk.getD e.on 0 < rk.getD i 0 ∧ e.on < ops.size
  val : ∃ v, look x.V i = some v ∧ (isEff o.op = true → ∃ e ∈ x.log, e.1 = i) ∧ (isEff o.op = false → okR T ops (rhoA ts W b x.V i) b x.log.reverse x.s x.ids i o v = true)
  dst : ∀ d, o.dst = some d → d < ts.length

theorem chk_at {T : TT} {ops : Array Oper} {ts : List AV} {W : List (Nat × Nat)} {b rk : List Nat} {x : RS} : ∀ {l : List Oper} {k : Nat}, chkR T ops ts W b rk x l k = true → ∀ m o, l[m]? = some o → Good T ops ts W b rk x o (k + m)
  | [], _, _, m, o, h => by simp at h
  | p :: r, k, h, m, o, hm => by
    simp only [chkR, getQ_eq, Bool.and_eq_true] at h
    obtain ⟨⟨⟨⟨h1, h2⟩, h3⟩, h4⟩, h5⟩ := h
    cases m with
    | zero =>
      simp only [List.getElem?_cons_zero, Option.some.injEq] at hm
      subst hm
      refine ⟨Nat.eq_of_beq_eq_true h1, fun e he hb => ?_, ?_, fun d hd => ?_⟩
      · have := (List.all_eq_true.1 h2) e he
        rw [hb] at this
        simp only [Bool.not_true, Bool.false_or, Bool.and_eq_true] at this
        exact ⟨Nat.le_of_ble_eq_true this.1, Nat.le_of_ble_eq_true this.2⟩
      · cases hl : look x.V k with
        | none => rw [hl] at h3; cases h3
        | some v =>
          rw [hl] at h3
          refine ⟨v, rfl, fun he => ?_, fun he => ?_⟩
          · dsimp only at h3
            rw [he] at h3
            simp only [cond_true, List.any_eq_true] at h3
            obtain ⟨e, h6, h7⟩ := h3
            exact ⟨e, h6, Nat.eq_of_beq_eq_true h7⟩
          · dsimp only at h3
            rw [he] at h3
            exact h3
      · rw [hd] at h4
        exact Nat.le_of_ble_eq_true h4
    | succ m =>
      have := chk_at h5 m o (by simpa using hm)
      rwa [show k + 1 + m = k + (m + 1) by omega] at this

theorem ids_one : ∀ {L : List Ent} {ids : List (Nat × Nat)} (_ : idsOk L ids = true) {i j id : Nat}, (i, id) ∈ ids → (j, id) ∈ ids → i = j
  | L, [], _, _, _, _, h, _ => by cases h
  | L, (k, kd) :: r, h, i, j, id, hi, hj => by
    simp only [idsOk, Bool.and_eq_true, List.all_eq_true] at h
    rcases List.mem_cons.1 hi with e | hi <;> rcases List.mem_cons.1 hj with f | hj
    · injection e with e1 _
      injection f with f1 _
      exact e1.trans f1.symm
    · injection e with e1 e2
      have := (h.1.1 _ hj).1
      subst e2
      rw [show Nat.beq id id = true from Nat.beq_refl id] at this
      cases this
    · injection f with e1 e2
      have := (h.1.1 _ hi).1
      subst e2
      rw [show Nat.beq id id = true from Nat.beq_refl id] at this
      cases this
    · exact ids_one h.2 hi hj
theorem ids_eff : ∀ {L : List Ent} {ids : List (Nat × Nat)} (_ : idsOk L ids = true) {i id : Nat} {e : Ent}, (i, id) ∈ ids → e ∈ L → id < e.2.1.next ∨ e.2.2.next ≤ id
  | L, [], _, _, _, _, h, _ => by cases h
  | L, (k, kd) :: r, h, i, id, e, hi, he => by
    simp only [idsOk, Bool.and_eq_true, List.all_eq_true] at h
    rcases List.mem_cons.1 hi with f | hi
    · injection f with e1 e2
      have := h.1.2 _ he
      subst e2
      rcases (Bool.or_eq_true _ _).mp this with g | g
      · exact .inl (Nat.le_of_ble_eq_true g)
      · exact .inr (Nat.le_of_ble_eq_true g)
    · exact ids_eff h.2 hi he

theorem effs_at {b : List Nat} : ∀ {dn : List Ent} {e : Ent} {td : List Ent}, effsOk b (dn ++ e :: td) = true → ∀ f ∈ td, (b.getD f.1 0).testBit e.1 = true ∧ f.1 ≠ e.1
  | [], e, td, h, f, hf => by
    simp only [List.nil_append, effsOk, getQ_eq, Bool.and_eq_true, List.all_eq_true] at h
    have := h.1 f hf
    exact ⟨this.1, fun g => by rw [g, show Nat.beq e.1 e.1 = true from Nat.beq_refl _] at this; exact absurd this.2 (by simp)⟩
  | d :: dn, e, td, h, f, hf => by
    simp only [List.cons_append, effsOk, Bool.and_eq_true] at h
    exact effs_at h.2 f hf

theorem splits_at {b : List Nat} {i : Nat} {f : St → Bool} {fin : St} : ∀ {td dn td0 : List Ent}, splits b i f fin dn (td0 ++ td) = true → (∀ e ∈ dn, (b.getD e.1 0).testBit i = false) → (∀ e ∈ td0, (b.getD e.1 0).testBit i = false) → (∀ e ∈ td, (b.getD i 0).testBit e.1 = false) → f (curE fin td) = true
  | td, dn, [], h, h1, _, h3 => by
    unfold splits at h
    simp only [getQ_eq] at h
    simp only [List.nil_append, Bool.and_eq_true] at h
    have := h.1
    rw [show (dn.all fun e => !(b.getD e.1 0).testBit i) = true from List.all_eq_true.2 fun e he => by rw [h1 e he]; rfl, show (td.all fun e => !(b.getD i 0).testBit e.1) = true from List.all_eq_true.2 fun e he => by rw [h3 e he]; rfl] at this
    exact this
  | td, dn, d :: td0, h, h1, h2, h3 => by
    unfold splits at h
    simp only [getQ_eq] at h
    simp only [List.cons_append, Bool.and_eq_true] at h
    exact splits_at (dn := d :: dn) (td0 := td0) h.2 (fun e he => by
      rcases List.mem_cons.1 he with rfl | he
      · exact h2 _ (by simp)
      · exact h1 e he) (fun e he => h2 e (by simp [he])) h3

end
end Go.Proofs.YtoafihjgpbcgbaaGreat.Si
