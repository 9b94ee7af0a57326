/- Copies of examples in memory of the call's own. Conditions: none. -/
import Derived.Test.YtajilipbnfpemaaDoorWithin
import Derived.Test.YtajilipbnfpemaaDoorClone
namespace Go.Proofs.YtajilipbnfpemaaDoor
open Go.RowKit

/-- c is a copy of e in memory from B on. -/
def CopyOf (B : Nat) (w : World) (e c : Ex) : Prop :=
  c.xs = e.xs ∧ c.ys = e.ys ∧ w.ownsRow B 2 1 (.slice c.ax c.xs.length c.cx) c.xs.length (c.xs.map (Value.int .i64)) ∧ w.ownsRow B 2 1 (.slice c.ay c.ys.length c.cy) c.ys.length (c.ys.map (Value.int .i64))

/-- The slice value v holds copies L of the examples l, all in memory from B on. -/
def Copies (B : Nat) (w : World) (v : Value) (l L : List Ex) : Prop :=
  L.length = l.length ∧ w.ownsRow B 46 2 v L.length (exCells L) ∧ ∀ (i : Nat) (e c : Ex), l[i]? = some e → L[i]? = some c → CopyOf B w e c

theorem own_more {w : World} {base base' e size n : Nat} {v : Value} {xs : List Value} (h : w.ownsRow base e size v n xs) (hb : base' ≤ base) : w.ownsRow base' e size v n xs := by
  rcases h.2 with ⟨rfl, h0⟩ | ⟨g, cap, cur, rfl, hg, h1⟩
  · exact ⟨h.1, .inl ⟨rfl, h0⟩⟩
  · exact ⟨h.1, .inr ⟨g, cap, cur, rfl, by omega, h1⟩⟩

theorem CopyOf.more {B B' : Nat} {w : World} {e c : Ex} (h : CopyOf B w e c) (hB : B' ≤ B) : CopyOf B' w e c := ⟨h.1, h.2.1, own_more h.2.2.1 hB, own_more h.2.2.2 hB⟩
theorem CopyOf.below {B : Nat} {w w' : World} {e c : Ex} (h : CopyOf B w e c) (hb : Below w.heap.size w w') : CopyOf B w' e c := ⟨h.1, h.2.1, own_below h.2.2.1 hb, own_below h.2.2.2 hb⟩
theorem CopyOf.grown {B base n : Nat} {w w' : World} {e c : Ex} {v : Value} {xs : List Value} (h : CopyOf B w e c) (hown : w.ownsRow base 46 2 v n xs) (hg : w.grownBy w' v.ownBlock) : CopyOf B w' e c :=
  ⟨h.1, h.2.1, h.2.2.1.kept hg (own_ne2 (own_more h.2.2.1 (Nat.zero_le _)) (own_more hown (Nat.zero_le _)) (by decide)), h.2.2.2.kept hg (own_ne2 (own_more h.2.2.2 (Nat.zero_le _)) (own_more hown (Nat.zero_le _)) (by decide))⟩

theorem exCells_snoc (L : List Ex) (c : Ex) : exCells (L ++ [c]) = exCells L ++ c.cells := by simp [exCells]

theorem CopyOf.alloc {B : Nat} {w : World} {e c : Ex} (h : CopyOf B w e c) (o : Obj) : CopyOf B (w.alloc o) e c := ⟨h.1, h.2.1, h.2.2.1.alloc o, h.2.2.2.alloc o⟩
theorem Copies.below {B : Nat} {w w' : World} {v : Value} {l L : List Ex} (h : Copies B w v l L) (hb : Below w.heap.size w w') : Copies B w' v l L := ⟨h.1, own_below h.2.1 hb, fun i e c he hc => (h.2.2 i e c he hc).below hb⟩
theorem Copies.alloc {B : Nat} {w : World} {v : Value} {l L : List Ex} (h : Copies B w v l L) (o : Obj) : Copies B (w.alloc o) v l L := ⟨h.1, h.2.1.alloc o, fun i e c he hc => (h.2.2 i e c he hc).alloc o⟩
theorem Copies.drew {B : Nat} {w : World} {v : Value} {l L : List Ex} (h : Copies B w v l L) : Copies B w.drew v l L := h
theorem Copies.nil_ (B : Nat) (w : World) : Copies B w (.slice none 0 0) [] [] := ⟨rfl, own_nil w B _ 2, fun i e c he _ => by simp at he⟩

theorem Copies.step {B : Nat} {w1 w2 : World} {v v' : Value} {l L : List Ex} {k : Nat} {e c : Ex} (hl : l[k]? = some e) (h : Copies B w1 v (l.take k) L) (hc : CopyOf B w1 e c)
    (hown' : w2.ownsRow B 46 2 v' (L.length + 1) (exCells L ++ c.cells)) (hg : w1.grownBy w2 v.ownBlock) : Copies B w2 v' (l.take (k + 1)) (L ++ [c]) := by
  have hk : k < l.length := (List.getElem?_eq_some_iff.1 hl).1
  have hL : L.length = k := by rw [h.1, List.length_take]; omega
  refine ⟨by rw [List.length_append, List.length_take, hL]; simp; omega, by rw [exCells_snoc, List.length_append]; exact hown', fun i x y hx hy => ?_⟩
  rw [List.take_add_one, hl] at hx
  rcases Nat.lt_or_ge i k with hi | hi
  · rw [List.getElem?_append_left (by rw [List.length_take]; omega)] at hx
    rw [List.getElem?_append_left (by omega)] at hy
    exact (h.2.2 i x y hx hy).grown h.2.1 hg
  · have hil : i < (L ++ [c]).length := (List.getElem?_eq_some_iff.1 hy).1
    rw [List.length_append, List.length_singleton] at hil
    have hik : i = k := by omega
    subst hik
    rw [List.getElem?_append_right (by rw [List.length_take]; omega)] at hx
    rw [List.getElem?_append_right (by omega)] at hy
    rw [show i - (l.take i).length = 0 from by rw [List.length_take]; omega] at hx
    rw [show i - L.length = 0 from by omega] at hy
    simp at hx hy
    subst hx hy
    exact hc.grown h.2.1 hg

theorem ex_cells (c : Ex) : c.cells = [.slice c.ax c.xs.length c.cx, .slice c.ay c.ys.length c.cy] := rfl
theorem infoEx : (Tryd.prog.info? 46).map (fun i => (i.zero, i.size, i.bytes)) = some (some (.agg #[.slice none 0 0, .slice none 0 0]), 2, 48) := by kernel_rfl

end Go.Proofs.YtajilipbnfpemaaDoor
