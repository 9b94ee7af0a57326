/- Opening a configuration that came in, with the bounds of its numbers. Conditions: none. -/
import Derived.Test.YtiokdfkddcokoaaGreatDoorConfOpen
import Derived.Test.YtiokdfkddcokoaaGreatDoorRowKit
import Derived.Test.YtiokdfkddcokoaaGreatDoorSameP
namespace Go.Proofs.YtiokdfkddcokoaaGreatDoor
open Go.ChangeShapes Go.WideShapes Go.ChangeAt Go.RowKit Go.Deep

theorem wf_64 {x : Int} (h : (Lit.int .i64 x).wf = true) : In64 x := wf_bd h

set_option maxRecDepth 100000 in
theorem cells_conf64 {H : Type} {enc : TypeId × Value → H} {w : World} {base : Nat} {spare : Nat → Bool} {held : Bool} {fuel : Nat} {cs : List Value} {y : DataW H × List MemPlace} (h : DataW.trod enc Tryz.prog w base spare held fuel 24 cs = some y) :
    ∃ (A : Option Addr) (zs : List Int) (cap : Nat) (c : Cf), cs = (cfCells A zs.length cap c).toList ∧ zs.length ≤ cap ∧ zs.length ≤ 9223372036854775807 ∧ RdI w w.heap.size A zs ∧ Cf64 zs c := by
  obtain ⟨hlen, hcs⟩ := cells_any Tryz.underlying24 (by kernel_rfl) (by kernel_rfl) h
  obtain ⟨a0, a1, a2, a3, a4, a5, a6, a7, a8, a9, a10, a11, rfl⟩ := list12 (hlen.trans rfl)
  obtain ⟨c0, y0, n0, e0, t0⟩ := hcs 0 _ rfl
  obtain ⟨A, zs, cap, rfl, hcap, hm, hr, wf0⟩ := open_slice_int Tryz.underlying22 Tryz.underlying3 Tryz.cellsInt t0
  obtain ⟨c1, y1, n1, e1, t1⟩ := hcs 1 _ rfl
  obtain ⟨i1, g1, _, wf1⟩ := DataW.trod_int Tryz.underlying3 t1
  obtain ⟨c2, y2, n2, e2, t2⟩ := hcs 2 _ rfl
  obtain ⟨i2, g2, _, wf2⟩ := DataW.trod_int Tryz.underlying2 t2
  obtain ⟨c3, y3, n3, e3, t3⟩ := hcs 3 _ rfl
  obtain ⟨i3, g3, _, wf3⟩ := DataW.trod_int Tryz.underlying2 t3
  obtain ⟨c4, y4, n4, e4, t4⟩ := hcs 4 _ rfl
  obtain ⟨i4, g4, _, wf4⟩ := DataW.trod_int Tryz.underlying3 t4
  obtain ⟨c5, y5, n5, e5, t5⟩ := hcs 5 _ rfl
  obtain ⟨i5, g5, _, wf5⟩ := DataW.trod_int Tryz.underlying3 t5
  obtain ⟨c6, y6, n6, e6, t6⟩ := hcs 6 _ rfl
  obtain ⟨i6, g6, _, wf6⟩ := DataW.trod_int Tryz.underlying3 t6
  obtain ⟨c7, y7, n7, e7, t7⟩ := hcs 7 _ rfl
  obtain ⟨i7, g7, _, wf7⟩ := DataW.trod_int Tryz.underlying3 t7
  obtain ⟨c8, y8, n8, e8, t8⟩ := hcs 8 _ rfl
  obtain ⟨i8, g8, _, wf8⟩ := DataW.trod_int Tryz.underlying3 t8
  obtain ⟨c9, y9, n9, e9, t9⟩ := hcs 9 _ rfl
  obtain ⟨i9, g9, _, wf9⟩ := DataW.trod_int Tryz.underlying3 t9
  obtain ⟨c10, y10, n10, e10, t10⟩ := hcs 10 _ rfl
  obtain ⟨i10, g10, _, wf10⟩ := DataW.trod_int Tryz.underlying3 t10
  obtain ⟨c11, y11, n11, e11, t11⟩ := hcs 11 _ rfl
  obtain ⟨i11, g11, _, wf11⟩ := DataW.trod_int Tryz.underlying3 t11
  simp at e0 e1 e2 e3 e4 e5 e6 e7 e8 e9 e10 e11 g1 g2 g3 g4 g5 g6 g7 g8 g9 g10 g11
  subst e0 e1 e2 e3 e4 e5 e6 e7 e8 e9 e10 e11 g1 g2 g3 g4 g5 g6 g7 g8 g9 g10 g11
  refine ⟨A, zs, cap, ⟨i1, i2, i3, i4, i5, i6, i7, i8, i9, i10, i11⟩, rfl, hcap, hm, hr, fun z hz => wf_64 (wf0 z hz), fun k => ?_⟩
  unfold numK
  split
  · exact wf_64 wf1
  · exact wf_64 wf2
  · exact wf_64 wf3
  · exact wf_64 wf4
  · exact wf_64 wf5
  · exact wf_64 wf6
  · exact wf_64 wf7
  · exact wf_64 wf8
  · exact wf_64 wf9
  · exact wf_64 wf10
  · exact wf_64 wf11
  · unfold In64; omega

set_option maxRecDepth 100000 in
theorem open_conf64 {H : Type} {enc : TypeId × Value → H} {w : World} {base : Nat} {spare : Nat → Bool} {held : Bool} {r : Reach} {b0 : Nat} {v : Value} {d : DataW H} {p : List MemPlace} (hv : Value.okWide Tryz.prog w r b0 24 v) (h : DataW.Trod enc Tryz.prog w base spare held 24 v d p) :
    ∃ (A : Option Addr) (zs : List Int) (cap : Nat) (c : Cf), v = .agg (cfCells A zs.length cap c) ∧ zs.length ≤ cap ∧ zs.length ≤ 9223372036854775807 ∧ RdI w w.heap.size A zs ∧ Cf64 zs c := by
  obtain ⟨cs, rfl, hsz⟩ := okWide_struct Tryz.underlying24 hv
  obtain ⟨fuel, hf⟩ := h
  obtain ⟨A, zs, cap, c, he, h1, h2, h3, h4⟩ := cells_conf64 hf
  refine ⟨A, zs, cap, c, ?_, h1, h2, h3, h4⟩
  have he' : cs.toList = _ := he
  rw [show cs = cs.toList.toArray by simp, he', Array.toArray_toList]

end Go.Proofs.YtiokdfkddcokoaaGreatDoor
