/- The two sentinels of the library's numbers, as the rows list them. Conditions: none. -/
import Derived.Test.YtiokdfkddcokoaaGreatDoorRowKit
import Derived.Test.YtiokdfkddcokoaaGreatDoorParse
namespace Go.Proofs.YtiokdfkddcokoaaGreatDoor
open Go.ChangeShapes Go.WideShapes Go.ChangeAt Go.RowKit Go.Deep

theorem err_star : "*" ++ "errors.errorString" = "*errors.errorString" := by decide
theorem errString_row (u : TypeId) (h : Tryz.prog.typeName? 3 u = some "*errors.errorString") : u = 149 :=
  typeName_ptr_named (nm := "errors.errorString") (by rw [err_star]; kernel_rfl) (by kernel_rfl) (by decide) u (by rw [err_star]; exact h)

theorem errAt_of {W : World} {n : String} {a : Addr} {g : Nat} {tp : TypeId} (hg : Tryz.prog.globalNamed n = some g) (h : W.var? Tryz.prog n = some #[.iface tp (.pointer (some a))]) : ErrAt W.heap.size W n := by
  refine ⟨g, tp, _, hg, ?_, h⟩
  unfold World.var? at h
  rw [hg] at h
  simp only [Option.bind_some] at h
  rcases Nat.lt_or_ge g W.heap.size with h' | h'
  · exact h'
  · rw [Array.getElem?_eq_none h'] at h
    cases h

theorem syntax_laid {W : World} {r : List (String × DataW Unit)} (h : laidMet Tryz.prog (("strconv.ErrSyntax", Rows.laid_strconv_ErrSyntax) :: r) W) : ErrAt W.heap.size W "strconv.ErrSyntax" := by
  obtain ⟨a, s, hv, _⟩ := laid_sentinel h (g := 4) (ti := 74) (by kernel_rfl) (by kernel_rfl) Tryz.underlying74 errString_row Tryz.underlying149 Tryz.underlying151 rfl rfl Tryz.underlying9 (by kernel_rfl) (by kernel_rfl)
  exact errAt_of (g := 4) (by kernel_rfl) hv
theorem range_laid {W : World} {r : List (String × DataW Unit)} (h : laidMet Tryz.prog (("strconv.ErrRange", Rows.laid_strconv_ErrRange) :: r) W) : ErrAt W.heap.size W "strconv.ErrRange" := by
  obtain ⟨a, s, hv, _⟩ := laid_sentinel h (g := 5) (ti := 74) (by kernel_rfl) (by kernel_rfl) Tryz.underlying74 errString_row Tryz.underlying149 Tryz.underlying151 rfl rfl Tryz.underlying9 (by kernel_rfl) (by kernel_rfl)
  exact errAt_of (g := 5) (by kernel_rfl) hv

end Go.Proofs.YtiokdfkddcokoaaGreatDoor
