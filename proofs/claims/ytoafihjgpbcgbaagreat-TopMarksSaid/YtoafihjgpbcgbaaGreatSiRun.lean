/- A region that draws its order: what its run says. Conditions: none. -/
import Derived.Test.YtoafihjgpbcgbaaGreatSiDrawn
namespace Go.Proofs.YtoafihjgpbcgbaaGreat.Si
noncomputable section
open Go.RowKit

theorem look_cons {α : Type} (i : Nat) (x : α) (l : List (Nat × α)) (j : Nat) : look ((i, x) :: l) j = if i = j then some x else look l j := by
  have e : look ((i, x) :: l) j = bif Nat.beq i j then some x else look l j := look_step i x l j
  rw [e]
  cases h : Nat.beq i j with
  | true => rw [if_pos (Nat.eq_of_beq_eq_true h)]; rfl
  | false => rw [if_neg (fun e => by subst e; rw [show Nat.beq i i = true from Nat.beq_refl i] at h; cases h)]; rfl

/-- What is known stays known. -/
def VLe (V V' : List (Nat × AV)) : Prop := ∀ j v, look V j = some v → look V' j = some v
theorem VLe.cons {V : List (Nat × AV)} {i : Nat} (h : look V i = none) (r : AV) : VLe V ((i, r) :: V) := fun j v hj => by
  rw [look_cons, if_neg (fun e => by subst e; rw [h] at hj; cases hj)]
  exact hj
theorem VLe.trans {V V' V'' : List (Nat × AV)} (h : VLe V V') (k : VLe V' V'') : VLe V V'' := fun j v e => k j v (h j v e)

theorem rho_mono {ts : List AV} {W : List (Nat × Nat)} {b : List Nat} {V V' : List (Nat × AV)} (h : VLe V V') (i : Nat) : ∀ y c, rhoA ts W b V i y = some c → rhoA ts W b V' i y = some c := by
  intro y c hy
  cases y with
  | tmp t =>
    simp only [rhoA, getQ_eq] at hy ⊢
    cases hl : look W t with
    | none => rw [hl] at hy; exact hy
    | some j =>
      rw [hl] at hy
      dsimp only at hy ⊢
      cases h1 : (b.getD i 0).testBit j with
      | true => rw [h1] at hy; exact h j c hy
      | false => rw [h1] at hy; exact hy
  | const v => exact hy
  | global g => exact hy
  | func f => exact hy

theorem wantedR_mono {ops : Array Oper} {ρ ρ' : Operand → Option AV} (h : ∀ y c, ρ y = some c → ρ' y = some c) {o : Oper} {v : Bool} (hw : wantedR ops ρ o = some v) : wantedR ops ρ' o = some v := by
  unfold wantedR at hw ⊢
  simp only [atQ_eq, Array.getElem?_toList] at hw ⊢
  split at hw
  · exact hw
  · rename_i j want hg
    cases hd : (ops[j]?).bind (·.dst) with
    | none => rw [hd] at hw; cases hw
    | some d =>
      rw [hd] at hw
      simp only [Option.bind_some] at hw ⊢
      cases hr : ρ (.tmp d) with
      | none => rw [hr] at hw; cases hw
      | some c => rw [hr] at hw; rw [h _ _ hr]; exact hw

/-- The same worlds and more: new objects alone. -/
def Grow (s s' : St) : Prop := s.next ≤ s'.next ∧ (∀ j, j < s.next → s'.get j = s.get j) ∧ ∀ (B : Nat) (w0 w : World) (φ : Phi), Stands B w0 φ s w → Stands B w0 φ s' w
theorem Grow.refl (s : St) : Grow s s := ⟨Nat.le_refl _, fun _ _ => rfl, fun _ _ _ _ h => h⟩
theorem Grow.new {s s' : St} (h : Grow s s') (o : AO) (hr : s'.next < 2 ^ dep) : Grow s (s'.new o) := ⟨Nat.le_succ_of_le h.1, fun j hj => by
  have h1 := h.1
  rw [St.get_new hr (by omega), if_neg (by omega)]
  exact h.2.1 j hj, fun B w0 w φ hs => (h.2.2 B w0 w φ hs).new o hr⟩

section
variable (T : TT) (cal : Cal) (ops : Array Oper) (ts : List AV) (W : List (Nat × Nat)) (b : List Nat) (V : List (Nat × AV))

/-- An effect of the log. -/
def Fact (e : Ent) : Prop := ∃ o ρ, ops[e.1]? = some o ∧ isEff o.op = true ∧ (∀ y c, ρ y = some c → rhoA ts W b V e.1 y = some c) ∧
  ((wantedR ops ρ o = some false ∧ e.2.2 = e.2.1 ∧ look V e.1 = some (.tup [])) ∨ (wantedR ops ρ o = some true ∧ ∃ r, effA T cal ρ e.2.1 o = some (r, e.2.2) ∧ look V e.1 = some r))

/-- The log, the latest first, and the state behind it. -/
def Chain (s0 : St) : List Ent → St → Prop
  | [], s => Grow s0 s
  | e :: r, s => Fact T cal ops ts W b V e ∧ Grow e.2.2 s ∧ Chain s0 r e.2.1

variable {T cal ops ts W b V}

theorem Chain.grow {s0 s s' : St} {log : List Ent} (h : Chain T cal ops ts W b V s0 log s) (g : ∀ s1, Grow s1 s → Grow s1 s') : Chain T cal ops ts W b V s0 log s' := by
  cases log with
  | nil => exact g _ h
  | cons e r => exact ⟨h.1, g _ h.2.1, h.2.2⟩

theorem step_le {x x' : RS} {i : Nat} (h : stepR T cal ops ts W b x i = some x') : VLe x.V x'.V ∧ ∃ v, look x'.V i = some v := by
  unfold stepR at h
  simp only [atQ_eq, Array.getElem?_toList] at h
  split at h
  · rename_i o ho hl
    have fin : ∀ r, VLe x.V ((i, r) :: x.V) ∧ ∃ v, look ((i, r) :: x.V) i = some v := fun r => ⟨VLe.cons hl r, r, by rw [look_cons, if_pos rfl]⟩
    split at h
    · cases h
    · cases he : isEff o.op <;> rw [he] at h <;> (injection h with h; subst h; exact fin _)
    · cases he : isEff o.op with
      | true =>
        rw [he] at h
        simp only [cond_true, Option.map_eq_some_iff] at h
        obtain ⟨p, _, rfl⟩ := h
        exact fin _
      | false =>
        rw [he] at h
        simp only [cond_false] at h
        split at h
        · injection h with h
          subst h
          exact fin _
        · split at h
          · simp only [Option.bind_eq_some_iff, Option.map_eq_some_iff] at h
            obtain ⟨_, _, _, _, rfl⟩ := h
            exact fin _
          · split at h
            · split at h
              · injection h with h
                subst h
                exact fin _
              · cases h
            · cases h
  · cases h

theorem run_le : ∀ {ord : List Nat} {x x' : RS}, runR T cal ops ts W b ord x = some x' → VLe x.V x'.V
  | [], x, x', h => by injection h with h; subst h; exact fun _ _ e => e
  | i :: r, x, x', h => by
    simp only [runR, Option.bind_eq_some_iff] at h
    obtain ⟨x1, h1, h2⟩ := h
    exact (step_le h1).1.trans (run_le h2)

theorem step_chain {x x' : RS} {i : Nat} (h : stepR T cal ops ts W b x i = some x') (hV : VLe x'.V V) {s0 : St} (hc : Chain T cal ops ts W b V s0 x.log x.s) : Chain T cal ops ts W b V s0 x'.log x'.s := by
  have hle := (step_le h).1.trans hV
  unfold stepR at h
  simp only [atQ_eq, Array.getElem?_toList] at h
  split at h
  · rename_i o ho hl
    split at h
    · cases h
    · rename_i hw
      cases he : isEff o.op with
      | true =>
        rw [he] at h
        simp only [cond_true] at h
        injection h with h
        subst h
        exact ⟨⟨o, _, ho, he, rho_mono hle i, .inl ⟨hw, rfl, hV i _ (by rw [look_cons, if_pos rfl])⟩⟩, Grow.refl _, hc⟩
      | false =>
        rw [he] at h
        simp only [cond_false] at h
        injection h with h
        subst h
        exact hc
    · rename_i hw
      cases he : isEff o.op with
      | true =>
        rw [he] at h
        simp only [cond_true, Option.map_eq_some_iff] at h
        obtain ⟨p, hp, rfl⟩ := h
        exact ⟨⟨o, _, ho, he, rho_mono hle i, .inr ⟨hw, p.1, hp, hV i _ (by rw [look_cons, if_pos rfl])⟩⟩, Grow.refl _, hc⟩
      | false =>
        rw [he] at h
        simp only [cond_false] at h
        split at h
        · injection h with h
          subst h
          exact hc
        · split at h
          · simp only [Option.bind_eq_some_iff, Option.map_eq_some_iff] at h
            obtain ⟨_, _, _, _, rfl⟩ := h
            exact hc
          · split at h
            · split at h
              · rename_i hr
                injection h with h
                subst h
                exact hc.grow fun s1 g => g.new _ hr
              · cases h
            · cases h
  · cases h

theorem run_chain : ∀ {ord : List Nat} {x x' : RS} (_ : runR T cal ops ts W b ord x = some x') (_ : VLe x'.V V) {s0 : St} (_ : Chain T cal ops ts W b V s0 x.log x.s), Chain T cal ops ts W b V s0 x'.log x'.s
  | [], x, x', h, _, s0, hc => by injection h with h; subst h; exact hc
  | i :: r, x, x', h, hV, s0, hc => by
    simp only [runR, Option.bind_eq_some_iff] at h
    obtain ⟨x1, h1, h2⟩ := h
    exact run_chain h2 hV (step_chain h1 ((run_le h2).trans hV) hc)

theorem cur_append (fin : St) (l : List Ent) (e : Ent) : curE fin (l ++ [e]) = curE e.2.1 l := by
  cases l with
  | nil => rfl
  | cons x r => rfl

/-- The chain up to any moment. -/
theorem Chain.at {s0 : St} : ∀ {rt dn : List Ent} {fin : St}, Chain T cal ops ts W b V s0 (rt ++ dn) fin → Chain T cal ops ts W b V s0 dn (curE fin rt.reverse)
  | [], dn, fin, h => h
  | e :: rt, dn, fin, h => by
    rw [List.reverse_cons, cur_append]
    exact Chain.at h.2.2

end
end
end Go.Proofs.YtoafihjgpbcgbaaGreat.Si
