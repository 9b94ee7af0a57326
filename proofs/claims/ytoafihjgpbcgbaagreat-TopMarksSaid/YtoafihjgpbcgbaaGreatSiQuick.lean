/- Lists read and written by plain recursion, for the kernel. Conditions: none. -/
import Derived.Test.YtoafihjgpbcgbaaGreatProg
namespace Go.Proofs.YtoafihjgpbcgbaaGreat.Si

noncomputable def atQ {α : Type} (l : List α) : Nat → Option α := List.rec (motive := fun _ => Nat → Option α) (fun _ => none) (fun a _ ih i => Nat.rec (motive := fun _ => Option α) (some a) (fun n _ => ih n) i) l
noncomputable def getQ {α : Type} (d : α) (l : List α) : Nat → α := List.rec (motive := fun _ => Nat → α) (fun _ => d) (fun a _ ih i => Nat.rec (motive := fun _ => α) a (fun n _ => ih n) i) l
noncomputable def setQ {α : Type} (l : List α) : Nat → α → List α := List.rec (motive := fun _ => Nat → α → List α) (fun _ _ => []) (fun a r ih i v => Nat.rec (motive := fun _ => List α) (v :: r) (fun n _ => a :: ih n v) i) l

theorem atQ_eq {α : Type} : ∀ (l : List α) (i : Nat), atQ l i = l[i]?
  | [], _ => rfl
  | _ :: _, 0 => rfl
  | a :: l, i + 1 => (show atQ (a :: l) (i + 1) = atQ l i from rfl).trans ((atQ_eq l i).trans (by simp))
theorem getQ_eq {α : Type} (d : α) : ∀ (l : List α) (i : Nat), getQ d l i = l.getD i d
  | [], _ => rfl
  | _ :: _, 0 => rfl
  | a :: l, i + 1 => (show getQ d (a :: l) (i + 1) = getQ d l i from rfl).trans ((getQ_eq d l i).trans (by simp))
theorem setQ_eq {α : Type} : ∀ (l : List α) (i : Nat) (v : α), setQ l i v = l.set i v
  | [], _, _ => rfl
  | _ :: _, 0, _ => rfl
  | a :: l, i + 1, v => by
    rw [List.set_cons_succ, ← setQ_eq l i v]
    rfl

end Go.Proofs.YtoafihjgpbcgbaaGreat.Si
