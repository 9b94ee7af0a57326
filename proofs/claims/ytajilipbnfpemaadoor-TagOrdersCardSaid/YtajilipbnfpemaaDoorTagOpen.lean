/- Opening a tag that came in. Conditions: none. -/
import Derived.Test.YtajilipbnfpemaaDoorLaw
import Derived.Test.YtajilipbnfpemaaDoorTag
namespace Go.Proofs.YtajilipbnfpemaaDoor
open Go.ChangeShapes Go.WideShapes Go.ChangeAt Go.RowKit Go.Deep

theorem list5 {l : List Value} (h : l.length = 5) : ∃ a0 a1 a2 a3 a4, l = [a0, a1, a2, a3, a4] := by
  match l, h with
  | [a0, a1, a2, a3, a4], _ => exact ⟨_, _, _, _, _, rfl⟩

set_option maxRecDepth 100000 in
theorem open_tag {H : Type} {enc : TypeId × Value → H} {w : World} {base : Nat} {spare : Nat → Bool} {held : Bool} {r : Reach} {b0 : Nat} {v : Value} {d : DataW H} {p : List MemPlace} (hv : Value.okWide Tryd.prog w r b0 23 v) (h : DataW.Trod enc Tryd.prog w base spare held 23 v d p) :
    ∃ t : Tg, v = tgV t := by
  obtain ⟨cs, rfl, hlen, hcs⟩ := open_agg_any Tryd.underlying23 (by kernel_rfl) (by kernel_rfl) hv h
  obtain ⟨a0, a1, a2, a3, a4, rfl⟩ := list5 (hlen.trans rfl)
  obtain ⟨c0, y0, n0, e0, t0⟩ := hcs 0 _ rfl
  obtain ⟨i0, g0, _, _⟩ := DataW.trod_int Tryd.underlying3 t0
  obtain ⟨c1, y1, n1, e1, t1⟩ := hcs 1 _ rfl
  obtain ⟨i1, g1, _, _⟩ := DataW.trod_int Tryd.underlying3 t1
  obtain ⟨c2, y2, n2, e2, t2⟩ := hcs 2 _ rfl
  obtain ⟨i2, g2, _, _⟩ := DataW.trod_int Tryd.underlying3 t2
  obtain ⟨c3, y3, n3, e3, t3⟩ := hcs 3 _ rfl
  obtain ⟨i3, g3, _, _⟩ := DataW.trod_int Tryd.underlying3 t3
  obtain ⟨c4, y4, n4, e4, t4⟩ := hcs 4 _ rfl
  obtain ⟨i4, g4, _, _⟩ := DataW.trod_int Tryd.underlying3 t4
  simp at e0 e1 e2 e3 e4 g0 g1 g2 g3 g4
  subst e0 e1 e2 e3 e4 g0 g1 g2 g3 g4
  exact ⟨⟨i0, i1, i2, i3, i4⟩, rfl⟩

end Go.Proofs.YtajilipbnfpemaaDoor
