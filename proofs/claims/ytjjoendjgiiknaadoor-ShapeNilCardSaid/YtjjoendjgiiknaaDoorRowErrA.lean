/- The two sentinels of the library's numbers, as the rows list them. Conditions: none. -/
import Derived.Test.YtjjoendjgiiknaaDoorRowKit
import Derived.Test.YtjjoendjgiiknaaDoorAtoi
namespace Go.Proofs.YtjjoendjgiiknaaDoor
open Go.ChangeShapes Go.WideShapes Go.ChangeAt Go.RowKit Go.Deep

theorem err_star : "*" ++ "errors.errorString" = "*errors.errorString" := by decide
theorem errString_row (u : TypeId) (h : Tryd.prog.typeName? 3 u = some "*errors.errorString") : u = 111 :=
  typeName_ptr_named (nm := "errors.errorString") (by rw [err_star]; kernel_rfl) (by kernel_rfl) (by decide) u (by rw [err_star]; exact h)

theorem errAt_of {W : World} {n : String} {a : Addr} {g : Nat} {tp : TypeId} (hg : Tryd.prog.globalNamed n = some g) (h : W.var? Tryd.prog n = some #[.iface tp (.pointer (some a))]) : ErrAt W.heap.size W n := by
  refine ⟨g, tp, _, hg, ?_, h⟩
  unfold World.var? at h
  rw [hg] at h
  simp only [Option.bind_some] at h
  rcases Nat.lt_or_ge g W.heap.size with h' | h'
  · exact h'
  · rw [Array.getElem?_eq_none h'] at h
    cases h

theorem syntax_laid {W : World} {r : List (String × DataW Unit)} (h : laidMet Tryd.prog (("strconv.ErrSyntax", Rows.laid_strconv_ErrSyntax) :: r) W) : ErrAt W.heap.size W "strconv.ErrSyntax" := by
  obtain ⟨a, s, hv, _⟩ := laid_sentinel h (g := 0) (ti := 64) (by kernel_rfl) (by kernel_rfl) Tryd.underlying64 errString_row Tryd.underlying111 Tryd.underlying113 rfl rfl Tryd.underlying9 (by kernel_rfl) (by kernel_rfl)
  exact errAt_of (g := 0) (by kernel_rfl) hv
theorem range_laid {W : World} {r : List (String × DataW Unit)} (h : laidMet Tryd.prog (("strconv.ErrRange", Rows.laid_strconv_ErrRange) :: r) W) : ErrAt W.heap.size W "strconv.ErrRange" := by
  obtain ⟨a, s, hv, _⟩ := laid_sentinel h (g := 1) (ti := 64) (by kernel_rfl) (by kernel_rfl) Tryd.underlying64 errString_row Tryd.underlying111 Tryd.underlying113 rfl rfl Tryd.underlying9 (by kernel_rfl) (by kernel_rfl)
  exact errAt_of (g := 1) (by kernel_rfl) hv

end Go.Proofs.YtjjoendjgiiknaaDoor
