/- Abstract values: values whose addresses are names; what they stand for once names have places. Conditions: none. -/
import Derived.Test.YtoafihjgpbcgbaaGreatSiQuick
import Derived.RangeFuncNested
import Derived.WalkKit
namespace Go.Proofs.YtoafihjgpbcgbaaGreat.Si
noncomputable section

/-- An abstract value: a pointer and a slice name a block by a number of their own. A slice's capacity is known, or known from below; es: the cells of an element. -/
inductive AV where
  | bool (b : Bool)
  | int (k : IntKind) (n : Int)
  | pnil
  | ptr (id off : Nat)
  | snil
  | sl (id off len cap : Nat) (ex : Bool) (es : Nat)
  | fnil
  | fn (f : Fn) (first cap : List AV)
  | yld (id : Nat)
  | inil
  | ifc (t : TypeId) (v : AV)
  | agg (l : List AV)
  | tup (l : List AV)
  deriving Inhabited

/-- Where a name lies: its block, its first cell there, how many cells there are from there on. -/
structure Loc where
  blk : Nat
  base : Nat
  size : Nat

abbrev Phi := Nat → Option Loc

/-- What an abstract value stands for. -/
def conc (φ : Phi) : AV → Option Value
  | .bool b => some (.bool b)
  | .int k n => some (.int k n)
  | .pnil => some (.pointer none)
  | .ptr id off => (φ id).map fun L => .pointer (some ⟨L.blk, L.base + off, none⟩)
  | .snil => some (.slice none 0 0)
  | .sl id off len cap ex es => (φ id).bind fun L =>
      if cap ≤ (if ex then cap else (L.size - off) / es) then some (.slice (some ⟨L.blk, L.base + off, none⟩) len (if ex then cap else (L.size - off) / es)) else none
  | .fnil => some .nilFunc
  | .fn f first cap => (concL φ first).bind fun a => (concL φ cap).map fun b => .func f a.toArray b.toArray
  | .yld id => (φ id).map fun L => .func (.yield L.blk) #[] #[]
  | .inil => some .nilIface
  | .ifc t v => (conc φ v).map fun x => .iface t x
  | .agg l => (concL φ l).map fun a => .agg a.toArray
  | .tup l => (concL φ l).map fun a => .tuple a.toArray
  where
  concL (φ : Phi) : List AV → Option (List Value)
    | [] => some []
    | v :: r => (conc φ v).bind fun x => (concL φ r).map fun l => x :: l

abbrev concL := conc.concL

theorem concL_nil (φ : Phi) : concL φ [] = some [] := rfl
theorem concL_cons (φ : Phi) (v : AV) (r : List AV) : concL φ (v :: r) = (conc φ v).bind fun x => (concL φ r).map fun l => x :: l := rfl

/-- More names have places. -/
def Phi.le (φ φ' : Phi) : Prop := ∀ id L, φ id = some L → φ' id = some L
theorem Phi.le_refl (φ : Phi) : φ.le φ := fun _ _ h => h
theorem Phi.le_trans {a b c : Phi} (h : a.le b) (k : b.le c) : a.le c := fun i L e => k i L (h i L e)

mutual
theorem conc_mono {φ φ' : Phi} (h : φ.le φ') : ∀ (a : AV) (v : Value), conc φ a = some v → conc φ' a = some v
  | .bool _, _, e => e
  | .int _ _, _, e => e
  | .pnil, _, e => e
  | .snil, _, e => e
  | .fnil, _, e => e
  | .inil, _, e => e
  | .ptr id off, v, e => by
    simp only [conc, Option.map_eq_some_iff] at e ⊢
    obtain ⟨L, h1, h2⟩ := e
    exact ⟨L, h _ _ h1, h2⟩
  | .sl id off len cap ex es, v, e => by
    simp only [conc, Option.bind_eq_some_iff] at e ⊢
    obtain ⟨L, h1, h2⟩ := e
    exact ⟨L, h _ _ h1, h2⟩
  | .yld id, v, e => by
    simp only [conc, Option.map_eq_some_iff] at e ⊢
    obtain ⟨L, h1, h2⟩ := e
    exact ⟨L, h _ _ h1, h2⟩
  | .ifc t a, v, e => by
    simp only [conc, Option.map_eq_some_iff] at e ⊢
    obtain ⟨x, h1, h2⟩ := e
    exact ⟨x, conc_mono h a x h1, h2⟩
  | .agg l, v, e => by
    simp only [conc, Option.map_eq_some_iff] at e ⊢
    obtain ⟨x, h1, h2⟩ := e
    exact ⟨x, concL_mono h l x h1, h2⟩
  | .tup l, v, e => by
    simp only [conc, Option.map_eq_some_iff] at e ⊢
    obtain ⟨x, h1, h2⟩ := e
    exact ⟨x, concL_mono h l x h1, h2⟩
  | .fn f first cap, v, e => by
    simp only [conc, Option.bind_eq_some_iff, Option.map_eq_some_iff] at e ⊢
    obtain ⟨x, h1, y, h2, h3⟩ := e
    exact ⟨x, concL_mono h first x h1, y, concL_mono h cap y h2, h3⟩
theorem concL_mono {φ φ' : Phi} (h : φ.le φ') : ∀ (l : List AV) (vs : List Value), conc.concL φ l = some vs → conc.concL φ' l = some vs
  | [], _, e => e
  | a :: r, vs, e => by
    simp only [conc.concL, Option.bind_eq_some_iff, Option.map_eq_some_iff] at e ⊢
    obtain ⟨x, h1, y, h2, h3⟩ := e
    exact ⟨x, conc_mono h a x h1, y, concL_mono h r y h2, h3⟩
end

theorem concL_len {φ : Phi} : ∀ {l : List AV} {vs : List Value}, concL φ l = some vs → vs.length = l.length
  | [], vs, e => by cases e; rfl
  | a :: r, vs, e => by
    rw [concL_cons] at e
    simp only [Option.bind_eq_some_iff, Option.map_eq_some_iff] at e
    obtain ⟨x, _, y, h2, rfl⟩ := e
    simp [concL_len h2]
theorem concL_at {φ : Phi} : ∀ {l : List AV} {vs : List Value} (_ : concL φ l = some vs) (j : Nat) (a : AV), l[j]? = some a → ∃ v, vs[j]? = some v ∧ conc φ a = some v
  | [], _, _, _, _, h => by simp at h
  | b :: r, vs, e, j, a, h => by
    rw [concL_cons] at e
    simp only [Option.bind_eq_some_iff, Option.map_eq_some_iff] at e
    obtain ⟨x, h1, y, h2, rfl⟩ := e
    cases j with
    | zero => simp at h; subst h; exact ⟨x, rfl, h1⟩
    | succ j => exact concL_at h2 j a (by simpa using h)
theorem concL_set {φ : Phi} : ∀ {l : List AV} {vs : List Value} (_ : concL φ l = some vs) (j : Nat) (a : AV) (v : Value), conc φ a = some v → concL φ (l.set j a) = some (vs.set j v)
  | [], vs, e, _, _, _, _ => by cases e; rfl
  | b :: r, vs, e, j, a, v, h => by
    rw [concL_cons] at e
    simp only [Option.bind_eq_some_iff, Option.map_eq_some_iff] at e
    obtain ⟨x, h1, y, h2, rfl⟩ := e
    cases j with
    | zero => simp [concL_cons, h, h2]
    | succ j => simp [concL_cons, h1, concL_set h2 j a v h]
theorem concL_append {φ : Phi} : ∀ {l m : List AV} {vs us : List Value}, concL φ l = some vs → concL φ m = some us → concL φ (l ++ m) = some (vs ++ us)
  | [], _, _, _, e, h => by cases e; simpa using h
  | b :: r, m, vs, us, e, h => by
    rw [concL_cons] at e
    simp only [Option.bind_eq_some_iff, Option.map_eq_some_iff] at e
    obtain ⟨x, h1, y, h2, rfl⟩ := e
    simp [concL_cons, h1, concL_append h2 h]
theorem concL_split {φ : Phi} : ∀ {l m : List AV} {vs : List Value}, concL φ (l ++ m) = some vs → ∃ a b, vs = a ++ b ∧ concL φ l = some a ∧ concL φ m = some b
  | [], m, vs, e => ⟨[], vs, rfl, rfl, e⟩
  | b :: r, m, vs, e => by
    rw [List.cons_append, concL_cons] at e
    simp only [Option.bind_eq_some_iff, Option.map_eq_some_iff] at e
    obtain ⟨x, h1, y, h2, rfl⟩ := e
    obtain ⟨u, t, rfl, h3, h4⟩ := concL_split h2
    exact ⟨x :: u, t, rfl, by simp [concL_cons, h1, h3], h4⟩
theorem concL_take {φ : Phi} {l : List AV} {vs : List Value} (e : concL φ l = some vs) (n : Nat) : concL φ (l.take n) = some (vs.take n) ∧ concL φ (l.drop n) = some (vs.drop n) := by
  have e' := e
  rw [← List.take_append_drop n l] at e'
  obtain ⟨a, b, rfl, h1, h2⟩ := concL_split e'
  have hl := concL_len h1
  rw [List.length_take] at hl
  have hb := concL_len h2
  rw [List.length_drop] at hb
  rcases Nat.le_total n l.length with hn | hn
  · have ha : a.length = n := by omega
    rw [List.take_left' ha, List.drop_left' ha]
    exact ⟨h1, h2⟩
  · have hb0 : b = [] := List.eq_nil_of_length_eq_zero (by omega)
    subst hb0
    rw [List.append_nil]
    exact ⟨by rw [List.take_of_length_le (l := a) (by omega)]; exact h1, by rw [show a.drop n = [] from List.drop_eq_nil_of_le (by omega)]; exact h2⟩

/-- The abstract value of a constant of one cell, of a constant. -/
def absC : Value → Option AV
  | .bool b => some (.bool b)
  | .int k n => some (.int k n)
  | .pointer none => some .pnil
  | .slice none 0 0 => some .snil
  | .nilFunc => some .fnil
  | .nilIface => some .inil
  | _ => none
def absCs : List Value → Option (List AV)
  | [] => some []
  | v :: r => (absC v).bind fun a => (absCs r).map fun l => a :: l
def absV : Value → Option AV
  | .tuple ⟨[]⟩ => some (.tup [])
  | .agg cs => (absCs cs.toList).map AV.agg
  | v => absC v

theorem absC_conc (φ : Phi) : ∀ (v : Value) (a : AV), absC v = some a → conc φ a = some v := by
  intro v a h
  unfold absC at h
  split at h <;> first | (cases h; done) | (injection h with h; subst h; rfl)
theorem absCs_conc (φ : Phi) : ∀ (l : List Value) (m : List AV), absCs l = some m → concL φ m = some l
  | [], _, h => by cases h; rfl
  | v :: r, _, h => by
    simp only [absCs, Option.bind_eq_some_iff, Option.map_eq_some_iff] at h
    obtain ⟨a, h1, l, h2, rfl⟩ := h
    simp [concL_cons, absC_conc φ v a h1, absCs_conc φ r l h2]
theorem absV_conc (φ : Phi) (v : Value) (a : AV) (h : absV v = some a) : conc φ a = some v := by
  unfold absV at h
  split at h
  · injection h with h; subst h; rfl
  · rename_i cs
    simp only [Option.map_eq_some_iff] at h
    obtain ⟨l, h1, rfl⟩ := h
    have := absCs_conc φ _ _ h1
    simp [conc, show conc.concL φ l = _ from this]
  · exact absC_conc φ _ _ h

end
end Go.Proofs.YtoafihjgpbcgbaaGreat.Si
