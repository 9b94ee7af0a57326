/- What the interpreter knows of types: sizes, zero values, fields; a program's types are so. Conditions: none. -/
import Derived.Test.YtoafihjgpbcgbaaGreatSiHeap
import Derived.Deep.MidRow
namespace Go.Proofs.YtoafihjgpbcgbaaGreat.Si
noncomputable section
open Go.RowKit

/-- A field: its type, its place, its cells, whether it is a row of cells itself. -/
structure FD where
  type : TypeId
  off : Nat
  size : Nat
  agg : Bool

inductive TK where
  | other
  | bool
  | int (k : IntKind)
  | ptr
  | slice (e : TypeId)
  | struct (fs : List FD)
  | array (n : Nat) (e : TypeId) (es : Nat) (ea : Bool)

structure TI where
  size : Nat
  bytes : Nat
  zero : List AV
  agg : Bool
  k : TK

/-- The underlying type is as k says. -/
def KindOk (P : Program) (t : TypeId) (k : TK) (agg : Bool) : Prop := ∃ d, P.underlying t = some d ∧ d.isRow = agg ∧ match k with
  | .other => True
  | .bool => d = .bool
  | .int k => d = .int k
  | .ptr => ∃ e, d = .pointer e ∧ ((P.info? e).map (·.size)) ≠ some 0
  | .slice e => d = .slice e
  | .struct fs => ∃ F : Array Field, d = .struct F ∧ F.toList.map (fun f => (f.type, f.offset)) = fs.map (fun f => (f.type, f.off)) ∧
      (∀ f ∈ fs, (P.info? f.type).map (·.size) = some f.size ∧ 0 < f.size ∧ ∃ d', P.underlying f.type = some d' ∧ d'.isRow = f.agg)
  | .array n e es ea => d = .array n e ∧ (P.info? e).map (·.size) = some es ∧ ∃ d', P.underlying e = some d' ∧ d'.isRow = ea

structure TypeOk (P : Program) (t : TypeId) (i : TI) : Prop where
  info : ∃ z, (P.info? t).map (fun i => (i.size, i.bytes, i.zero)) = some (i.size, i.bytes, some z) ∧ absCs z.cells.toList = some i.zero
  len : i.zero.length = i.size
  pos : 0 < i.size
  kind : KindOk P t i.k i.agg

/-- A table of types. -/
abbrev TT := List (TypeId × TI)
def look {α : Type} (l : List (Nat × α)) (j : Nat) : Option α := List.rec (motive := fun _ => Option α) none (fun p _ ih => Bool.rec (motive := fun _ => Option α) ih (some p.2) (Nat.beq p.1 j)) l
theorem look_step {α : Type} (i : Nat) (y : α) (r : List (Nat × α)) (j : Nat) : look ((i, y) :: r) j = bif Nat.beq i j then some y else look r j := by
  show Bool.rec (motive := fun _ => Option α) (look r j) (some y) (Nat.beq i j) = _
  cases Nat.beq i j <;> rfl
theorem look_mem {α : Type} : ∀ {l : List (Nat × α)} {j : Nat} {x : α}, look l j = some x → (j, x) ∈ l
  | [], _, _, h => by cases h
  | (i, y) :: r, j, x, h => by
    rw [look_step] at h
    cases hb : Nat.beq i j with
    | true =>
      rw [hb] at h
      have := Nat.eq_of_beq_eq_true hb
      subst this
      injection h with h
      subst h
      exact List.mem_cons_self
    | false =>
      rw [hb] at h
      exact List.mem_cons_of_mem _ (look_mem h)

def TypesOk (P : Program) (T : TT) : Prop := ∀ p ∈ T, TypeOk P p.1 p.2
theorem TypesOk.at {P : Program} {T : TT} (h : TypesOk P T) {t : TypeId} {i : TI} (hl : look T t = some i) : TypeOk P t i := h _ (look_mem hl)

section
variable {P : Program} {t : TypeId} {i : TI}

theorem TypeOk.info_size (h : TypeOk P t i) : (P.info? t).map (·.size) = some i.size := by
  obtain ⟨z, h1, _⟩ := h.info
  cases hq : P.info? t with
  | none => rw [hq] at h1; cases h1
  | some x => rw [hq] at h1; simp at h1; simp [h1.1]
theorem TypeOk.size_run (h : TypeOk P t i) (w : World) : (sizeOf t).run P w = .ok i.size w := by
  have hs := h.info_size
  cases hq : P.info? t with
  | none => rw [hq] at hs; cases hs
  | some x => rw [hq] at hs; simp at hs; simp [sizeOf, typeInfo, hq, hs]
theorem TypeOk.agg_run (h : TypeOk P t i) (w : World) : (isAgg t).run P w = .ok i.agg w := by
  obtain ⟨d, hd, ha, _⟩ := h.kind
  unfold isAgg
  rw [Sem.run_bind, run_underlying hd w]
  cases d <;> simp_all
theorem TypeOk.zero_run (h : TypeOk P t i) (w : World) : ∃ z, (zeroValue t).run P w = .ok z w ∧ absCs z.cells.toList = some i.zero := by
  obtain ⟨z, h1, h2⟩ := h.info
  refine ⟨z, ?_, h2⟩
  cases hq : P.info? t with
  | none => rw [hq] at h1; cases h1
  | some x => rw [hq] at h1; simp at h1; simp [zeroValue, typeInfo, hq, h1.2.2]
theorem TypeOk.under (h : TypeOk P t i) : ∃ d, P.underlying t = some d ∧ d.isRow = i.agg := let ⟨d, h1, h2, _⟩ := h.kind; ⟨d, h1, h2⟩
end

/-- A part of a row of cells, as a value. -/
def partA (cs : List AV) (off size : Nat) (agg : Bool) : Option AV :=
  if agg then (if off + size ≤ cs.length then some (.agg ((cs.drop off).take size)) else none) else atQ cs off

theorem part_run {P : Program} {t : TypeId} {size : Nat} {agg : Bool} (hs : (P.info? t).map (·.size) = some size) (ha : ∃ d, P.underlying t = some d ∧ d.isRow = agg) {φ : Phi} {cs : List AV} {vs : List Value} (hc : concL φ cs = some vs) {off : Nat} {a : AV} (h : partA cs off size agg = some a) :
    ∃ v, conc φ a = some v ∧ ∀ w, (part t vs.toArray off).run P w = .ok v w := by
  obtain ⟨d, hd, hr⟩ := ha
  have hag : ∀ w, (isAgg t).run P w = .ok agg w := fun w => by
    unfold isAgg
    rw [Sem.run_bind, run_underlying hd w]
    cases d <;> simp_all
  have hsz : ∀ w, (sizeOf t).run P w = .ok size w := fun w => by
    cases hq : P.info? t with
    | none => rw [hq] at hs; cases hs
    | some x => rw [hq] at hs; simp at hs; simp [sizeOf, typeInfo, hq, hs]
  unfold partA at h
  simp only [atQ_eq] at h
  cases agg with
  | true =>
    simp only [if_true] at h
    split at h
    · injection h with h
      subst h
      have h1 := (concL_take (concL_take hc off).2 size).1
      refine ⟨.agg ((vs.drop off).take size).toArray, by simp [conc, show conc.concL φ _ = _ from h1], fun w => ?_⟩
      unfold part
      rw [Sem.run_bind, hag w]
      simp only [Result.andThen_ok, if_true, Sem.run_bind, hsz w, Sem.run_pure]
      congr 2
      apply Array.ext'
      simp [List.extract_eq_take_drop]
    · cases h
  | false =>
    simp only [Bool.false_eq_true, if_false] at h
    obtain ⟨v, h1, h2⟩ := concL_at hc off a h
    refine ⟨v, h2, fun w => ?_⟩
    unfold part
    rw [Sem.run_bind, hag w]
    simp [h1]

end
end Go.Proofs.YtoafihjgpbcgbaaGreat.Si
