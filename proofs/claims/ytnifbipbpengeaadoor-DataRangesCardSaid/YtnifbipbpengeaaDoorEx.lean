/- Examples (pairs of slices of numbers) in memory. Conditions: none. -/
import Derived.Test.YtnifbipbpengeaaDoorWords
namespace Go.Proofs.YtnifbipbpengeaaDoor
open Go.RowKit

/-- An example as it lies: two slices, each with its address, its numbers and its capacity. -/
structure Ex where
  ax : Option Addr
  xs : List Int
  cx : Nat
  ay : Option Addr
  ys : List Int
  cy : Nat

def Ex.cells (e : Ex) : List Value := [.slice e.ax e.xs.length e.cx, .slice e.ay e.ys.length e.cy]
def Ex.val (e : Ex) : Value := .agg #[.slice e.ax e.xs.length e.cx, .slice e.ay e.ys.length e.cy]
def exCells (l : List Ex) : List Value := l.flatMap Ex.cells

theorem exCells_len : ∀ l : List Ex, (exCells l).length = 2 * l.length
  | [] => rfl
  | e :: l => by
    have ih := exCells_len l
    have e1 : exCells (e :: l) = e.cells ++ exCells l := rfl
    rw [e1, List.length_append, ih, List.length_cons]
    show 2 + _ = _
    omega
theorem exCells_at : ∀ (l : List Ex) (k : Nat) (e : Ex), l[k]? = some e → (exCells l)[2 * k]? = some (.slice e.ax e.xs.length e.cx) ∧ (exCells l)[2 * k + 1]? = some (.slice e.ay e.ys.length e.cy)
  | [], _, _, h => by simp at h
  | x :: l, 0, e, h => by
    simp at h; subst h
    exact ⟨rfl, rfl⟩
  | x :: l, k + 1, e, h => by
    have ih := exCells_at l k e (by simpa using h)
    have e1 : exCells (x :: l) = x.cells ++ exCells l := rfl
    have h2 : x.cells.length = 2 := rfl
    rw [e1, List.getElem?_append_right (by omega), List.getElem?_append_right (by omega), h2]
    rw [show 2 * (k + 1) - 2 = 2 * k from by omega, show 2 * (k + 1) + 1 - 2 = 2 * k + 1 from by omega]
    exact ih

/-- The two slices of an example read as its numbers. -/
def RdX (w : World) (B : Nat) (e : Ex) : Prop := RdI w B e.ax e.xs ∧ RdI w B e.ay e.ys ∧ e.xs.length ≤ e.cx ∧ e.ys.length ≤ e.cy ∧ e.xs.length ≤ 9223372036854775807 ∧ e.ys.length ≤ 9223372036854775807
/-- The slice value '.slice A l.length cap' holds the examples l. -/
def RdE (w : World) (B : Nat) (A : Option Addr) (l : List Ex) : Prop := Rd w B A (exCells l) ∧ ∀ e ∈ l, RdX w B e

theorem RdX.below {w w' : World} {B : Nat} {e : Ex} (h : RdX w B e) (hb : Below B w w') : RdX w' B e := ⟨h.1.below hb, h.2.1.below hb, h.2.2⟩
theorem RdX.more {w : World} {B B' : Nat} {e : Ex} (h : RdX w B e) (hB : B ≤ B') : RdX w B' e := ⟨h.1.more hB, h.2.1.more hB, h.2.2⟩
theorem RdE.below {w w' : World} {B : Nat} {A : Option Addr} {l : List Ex} (h : RdE w B A l) (hb : Below B w w') : RdE w' B A l := ⟨h.1.below hb, fun e he => (h.2 e he).below hb⟩
theorem RdE.more {w : World} {B B' : Nat} {A : Option Addr} {l : List Ex} (h : RdE w B A l) (hB : B ≤ B') : RdE w B' A l := ⟨h.1.more hB, fun e he => (h.2 e he).more hB⟩

theorem RdE.at_ {w : World} {B : Nat} {A : Option Addr} {l : List Ex} (h : RdE w B A l) (h0 : 0 < l.length) :
    ∃ b off, A = some ⟨b, off, none⟩ ∧ b < B ∧ ∀ k e, l[k]? = some e → w.cell? ⟨b, off + k * 2, none⟩ = some (.slice e.ax e.xs.length e.cx) ∧ w.cell? ⟨b, off + k * 2 + 1, none⟩ = some (.slice e.ay e.ys.length e.cy) := by
  obtain ⟨b, off, rfl, hb, hc⟩ := h.1 (by rw [exCells_len]; omega)
  refine ⟨b, off, rfl, hb, fun k e he => ?_⟩
  have ha := exCells_at l k e he
  have h1 := hc _ _ ha.1
  have h2 := hc _ _ ha.2
  rw [Nat.mul_comm] at h1
  rw [Nat.mul_comm 2 k] at h2
  exact ⟨h1, by rw [Nat.add_assoc]; exact h2⟩

/-- An example whose lengths do not fit. -/
def exBad (inn out : Int) (e : Ex) : Bool := !(decide ((e.xs.length : Int) = inn) && decide ((e.ys.length : Int) = out))
/-- What the check of examples gives: the index of the first one that does not fit, or 0; whether all fit. -/
def exIdx (inn out : Int) (l : List Ex) : Nat := (l.findIdx? (exBad inn out)).getD 0
def exFits (inn out : Int) (l : List Ex) : Bool := l.all fun e => !exBad inn out e

theorem fits_step {inn out : Int} {l : List Ex} {k : Nat} {e : Ex} (he : l[k]? = some e) (h : exFits inn out (l.take k) = true) (hb : exBad inn out e = false) : exFits inn out (l.take (k + 1)) = true := by
  unfold exFits at h ⊢
  rw [List.take_add_one, he, List.all_append, h]
  simp [hb]
theorem fits_first {inn out : Int} : ∀ {l : List Ex} {k : Nat} {e : Ex}, l[k]? = some e → exFits inn out (l.take k) = true → exBad inn out e = true → exFits inn out l = false ∧ l.findIdx? (exBad inn out) = some k
  | [], k, e, h, _, _ => by simp at h
  | x :: l, 0, e, h, _, hb => by
    simp at h; subst h
    simp [exFits, hb, List.findIdx?_cons]
  | x :: l, k + 1, e, h, hf, hb => by
    simp only [exFits, List.take_succ_cons, List.all_cons, Bool.and_eq_true, Bool.not_eq_true'] at hf
    have ih := fits_first (l := l) (k := k) (by simpa using h) hf.2 hb
    simp [exFits, List.findIdx?_cons, hf.1, ih.2]
    have := ih.1
    simpa [exFits] using this
theorem fits_idx {inn out : Int} {l : List Ex} {k : Nat} {e : Ex} (he : l[k]? = some e) (h : exFits inn out (l.take k) = true) (hb : exBad inn out e = true) : exFits inn out l = false ∧ exIdx inn out l = k := by
  have := fits_first he h hb
  exact ⟨this.1, by unfold exIdx; rw [this.2]; rfl⟩
theorem fits_all : ∀ {inn out : Int} {l : List Ex}, exFits inn out l = true → exIdx inn out l = 0 := fun {inn out l} h => by
  unfold exIdx
  have : l.findIdx? (exBad inn out) = none := by
    rw [List.findIdx?_eq_none_iff]
    intro x hx
    have := List.all_eq_true.1 h x hx
    simpa using this
  rw [this]; rfl

end Go.Proofs.YtnifbipbpengeaaDoor
