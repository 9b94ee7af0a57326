/- What the rows of this seat's cards share: opening arguments, and the listed table of powers of ten. Conditions: none. -/
import Derived.Test.YtnifbipbpengeaaDoorCards
import Derived.Test.YtnifbipbpengeaaDoorTie
import Derived.Test.YtnifbipbpengeaaDoorLaw
import Derived.OpenShut
import Derived.Deep.DeepHandedRow
import Derived.Lib.LaidTab
import Derived.Lay
import Derived.Stop.LaidErr
namespace Go.Proofs.YtnifbipbpengeaaDoor
open Go.ChangeShapes Go.WideShapes Go.ChangeAt Go.RowKit Go.Deep

theorem open_arg_ints {H : Type} {enc : TypeId × Value → H} {P : Program} {w : World} {base b0 : Nat} {spare : Nat → Bool} {held : Bool} {r : Reach} {t e : TypeId} {k : IntKind} {v : Value} {d : DataW H} {p : List MemPlace} (ht : P.underlying t = some (.slice e)) (he : P.underlying e = some (.int k)) (hc : P.cellsOf e = 1)
    (hv : Value.okWide P w r b0 t v) (h : DataW.Trod enc P w base spare held t v d p) :
    ∃ (A : Option Addr) (zs : List Int) (cap : Nat), v = .slice A zs.length cap ∧ zs.length ≤ cap ∧ zs.length ≤ 9223372036854775807 ∧ Rd w w.heap.size A (zs.map (Value.int k)) ∧ ∀ z ∈ zs, (Lit.int k z).wf = true := by
  obtain ⟨a, n, c, rfl⟩ := okWide_slice ht hv
  obtain ⟨fuel, hf⟩ := h
  exact open_slice_int ht he hc hf

theorem wf_bd {k : IntKind} {n : Int} (h : (Lit.int k n).wf = true) : k.min ≤ n ∧ n ≤ k.max := by
  simpa [Lit.wf] using h

theorem own : ownKnob Tryd.prog.godebug = none := by kernel_rfl
theorem laidOut : laidOutB Tryd.prog = true := by kernel_rfl

end Go.Proofs.YtnifbipbpengeaaDoor
