/- The least and the greatest number of a list; all numbers of examples. Conditions: none. -/
import Derived.Test.YtnifbipbpengeaaDoorEx
namespace Go.Proofs.YtnifbipbpengeaaDoor
open Go.RowKit

/-- The least number, 0 if there is none. -/
def lowOf : List Int → Int
  | [] => 0
  | z :: r => r.foldl min z
/-- The greatest number, 0 if there is none. -/
def highOf : List Int → Int
  | [] => 0
  | z :: r => r.foldl max z
theorem lowOf_snoc {l : List Int} (h : l ≠ []) (x : Int) : lowOf (l ++ [x]) = min (lowOf l) x := by
  cases l with
  | nil => exact absurd rfl h
  | cons z r => simp [lowOf, List.foldl_append]
theorem highOf_snoc {l : List Int} (h : l ≠ []) (x : Int) : highOf (l ++ [x]) = max (highOf l) x := by
  cases l with
  | nil => exact absurd rfl h
  | cons z r => simp [highOf, List.foldl_append]
theorem lowOf_self (z : Int) (r : List Int) : (z :: r).foldl min z = lowOf (z :: r) := by
  show r.foldl min (min z z) = _
  rw [Int.min_self]; rfl
theorem highOf_self (z : Int) (r : List Int) : (z :: r).foldl max z = highOf (z :: r) := by
  show r.foldl max (max z z) = _
  rw [Int.max_self]; rfl
theorem foldMin_snoc (l : List Int) (k : Nat) (x a : Int) (h : l[k]? = some x) : (l.take (k + 1)).foldl min a = min ((l.take k).foldl min a) x := by
  rw [List.take_add_one, h]; simp [List.foldl_append]
theorem foldMax_snoc (l : List Int) (k : Nat) (x a : Int) (h : l[k]? = some x) : (l.take (k + 1)).foldl max a = max ((l.take k).foldl max a) x := by
  rw [List.take_add_one, h]; simp [List.foldl_append]

/-- All numbers of an example, of examples. -/
def exNums (e : Ex) : List Int := e.xs ++ e.ys
def exAll (l : List Ex) : List Int := l.flatMap exNums
theorem exAll_snoc {l : List Ex} {k : Nat} {e : Ex} (h : l[k]? = some e) : exAll (l.take (k + 1)) = exAll (l.take k) ++ exNums e := by
  rw [List.take_add_one, h]; simp [exAll]
theorem exAll_pre {l : List Ex} {k : Nat} {e : Ex} (h : l[k]? = some e) : exAll (l.take k) ++ exNums e <+: exAll l := by
  rw [← exAll_snoc h]
  conv => rhs; rw [← List.take_append_drop (k + 1) l]
  unfold exAll
  rw [List.flatMap_append]
  exact List.prefix_append _ _
theorem exAll_len {l : List Ex} (h : ∀ e ∈ l, e.xs.length ≤ 600 ∧ e.ys.length ≤ 600) : (exAll l).length ≤ 1200 * l.length := by
  induction l with
  | nil => simp [exAll]
  | cons e r ih =>
    have h1 := h e (by simp)
    have h2 := ih (fun x hx => h x (by simp [hx]))
    have e1 : exAll (e :: r) = exNums e ++ exAll r := rfl
    rw [e1, List.length_append, exNums, List.length_append, List.length_cons]
    omega

/-- What Range returns. -/
def rngVal (z : List Int) : Value := .tuple #[.int .i64 (lowOf z), .int .i64 (highOf z), .bool (!z.isEmpty)]

end Go.Proofs.YtnifbipbpengeaaDoor
