/- Opening one example that came in as an argument, with its numbers' bounds. Conditions: none. -/
import Derived.Test.YtajilipbnfpemaaDoorExArg
import Derived.Test.YtajilipbnfpemaaDoorRowKit
namespace Go.Proofs.YtajilipbnfpemaaDoor
open Go.ChangeShapes Go.WideShapes Go.ChangeAt Go.RowKit Go.Deep

/-- An example's numbers are of 64 bits. -/
def ExIn (e : Ex) : Prop := (∀ x ∈ e.xs, IntKind.i64.min ≤ x ∧ x ≤ IntKind.i64.max) ∧ ∀ y ∈ e.ys, IntKind.i64.min ≤ y ∧ y ≤ IntKind.i64.max

set_option maxRecDepth 100000 in
theorem open_arg_ex {H : Type} {enc : TypeId × Value → H} {w : World} {base b0 : Nat} {spare : Nat → Bool} {held : Bool} {r : Reach} {v : Value} {d : DataW H} {p : List MemPlace}
    (hv : Value.okWide Tryd.prog w r b0 46 v) (h : DataW.Trod enc Tryd.prog w base spare held 46 v d p) : ∃ e : Ex, v = e.val ∧ RdX w w.heap.size e ∧ ExIn e := by
  obtain ⟨cs, rfl, hlen, hcs⟩ := open_agg_any Tryd.underlying46 (by kernel_rfl) (by kernel_rfl) hv h
  match cs, hlen with
  | [a0, a1], _ =>
    obtain ⟨c0, y0, n0, e0, t0⟩ := hcs 0 _ rfl
    obtain ⟨c1, y1, n1, e1, t1⟩ := hcs 1 _ rfl
    obtain ⟨A, zs, cap, rfl, hcap, hm, hr, hw⟩ := open_slice_int Tryd.underlying44 Tryd.underlying2 Tryd.cellsInt64 t0
    obtain ⟨B, zs', cap', rfl, hcap', hm', hr', hw'⟩ := open_slice_int Tryd.underlying44 Tryd.underlying2 Tryd.cellsInt64 t1
    simp at e0 e1
    subst e0 e1
    exact ⟨⟨A, zs, cap, B, zs', cap'⟩, rfl, ⟨hr, hr', hcap, hcap', hm, hm'⟩, fun z hz => wf_bd (hw z hz), fun z hz => wf_bd (hw' z hz)⟩

end Go.Proofs.YtajilipbnfpemaaDoor
