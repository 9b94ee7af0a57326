/- Opening a configuration that came in. Conditions: none. -/
import Derived.Test.YtiokdfkddcokoaaGreatDoorLaw
namespace Go.Proofs.YtiokdfkddcokoaaGreatDoor
open Go.ChangeShapes Go.WideShapes Go.ChangeAt Go.RowKit Go.Deep

theorem Tryz.own : ownKnob Tryz.prog.godebug = none := by kernel_rfl
theorem Tryz.laidOut : laidOutB Tryz.prog = true := by kernel_rfl
theorem Tryz.cellsInt : Tryz.prog.cellsOf 3 = 1 := by kernel_rfl
theorem Tryz.cellsInt64 : Tryz.prog.cellsOf 2 = 1 := by kernel_rfl

theorem cells_any {H : Type} {enc : TypeId × Value → H} {P : Program} {w : World} {base : Nat} {spare : Nat → Bool} {held : Bool} {t : TypeId} {fs : Array Field} {fuel : Nat} {cs : List Value} {y : DataW H × List MemPlace} (hs : P.underlying t = some (.struct fs)) (hone : oneCellFields P fs = true) (hC : P.cellsOf t = fs.size)
    (h : DataW.trod enc P w base spare held fuel t cs = some y) : cs.length = fs.size ∧ ∀ (j : Nat) (f : Field), fs[j]? = some f → ∃ (c : Value) (y : DataW H × List MemPlace) (n : Nat), cs[j]? = some c ∧ DataW.trod enc P w base spare held n f.type [c] = some y := by
  obtain ⟨ys, n, _, hx, hlen, hyl, hg⟩ := DataW.trod_struct hs h
  have hcl : cs.length = fs.size := by rw [hlen, hC]
  refine ⟨hcl, fun j f hj => ?_⟩
  obtain ⟨ho, hk⟩ := hone_of hone j f hj
  have hjl : j < fs.size := (Array.getElem?_eq_some_iff.1 hj).1
  have h1 := hg j f hj
  rw [ho, hk] at h1
  have hd : (cs.drop j).take 1 = [cs[j]'(by omega)] := by
    rw [List.drop_eq_getElem_cons (by omega)]
    rfl
  rw [hd, List.getElem?_eq_getElem (by omega)] at h1
  exact ⟨_, _, n, List.getElem?_eq_getElem (by omega), h1⟩

set_option maxRecDepth 100000 in
theorem cells_conf {H : Type} {enc : TypeId × Value → H} {w : World} {base : Nat} {spare : Nat → Bool} {held : Bool} {fuel : Nat} {cs : List Value} {y : DataW H × List MemPlace} (h : DataW.trod enc Tryz.prog w base spare held fuel 24 cs = some y) :
    ∃ (A : Option Addr) (zs : List Int) (cap : Nat) (sh ra mo wo ba mi st bu ch wi ca : Int), cs = [.slice A zs.length cap, .int .i64 sh, .int .i64 ra, .int .i64 mo, .int .i64 wo, .int .i64 ba, .int .i64 mi, .int .i64 st, .int .i64 bu, .int .i64 ch, .int .i64 wi, .int .i64 ca] ∧ zs.length ≤ cap ∧ zs.length ≤ 9223372036854775807 ∧ RdI w w.heap.size A zs := by
  obtain ⟨hlen, hcs⟩ := cells_any Tryz.underlying24 (by kernel_rfl) (by kernel_rfl) h
  obtain ⟨a0, a1, a2, a3, a4, a5, a6, a7, a8, a9, a10, a11, rfl⟩ := list12 (hlen.trans rfl)
  obtain ⟨c0, y0, n0, e0, t0⟩ := hcs 0 _ rfl
  obtain ⟨A, zs, cap, rfl, hcap, hm, hr, _⟩ := open_slice_int Tryz.underlying22 Tryz.underlying3 Tryz.cellsInt t0
  obtain ⟨c1, y1, n1, e1, t1⟩ := hcs 1 _ rfl
  obtain ⟨i1, g1, _, _⟩ := DataW.trod_int Tryz.underlying3 t1
  obtain ⟨c2, y2, n2, e2, t2⟩ := hcs 2 _ rfl
  obtain ⟨i2, g2, _, _⟩ := DataW.trod_int Tryz.underlying2 t2
  obtain ⟨c3, y3, n3, e3, t3⟩ := hcs 3 _ rfl
  obtain ⟨i3, g3, _, _⟩ := DataW.trod_int Tryz.underlying2 t3
  obtain ⟨c4, y4, n4, e4, t4⟩ := hcs 4 _ rfl
  obtain ⟨i4, g4, _, _⟩ := DataW.trod_int Tryz.underlying3 t4
  obtain ⟨c5, y5, n5, e5, t5⟩ := hcs 5 _ rfl
  obtain ⟨i5, g5, _, _⟩ := DataW.trod_int Tryz.underlying3 t5
  obtain ⟨c6, y6, n6, e6, t6⟩ := hcs 6 _ rfl
  obtain ⟨i6, g6, _, _⟩ := DataW.trod_int Tryz.underlying3 t6
  obtain ⟨c7, y7, n7, e7, t7⟩ := hcs 7 _ rfl
  obtain ⟨i7, g7, _, _⟩ := DataW.trod_int Tryz.underlying3 t7
  obtain ⟨c8, y8, n8, e8, t8⟩ := hcs 8 _ rfl
  obtain ⟨i8, g8, _, _⟩ := DataW.trod_int Tryz.underlying3 t8
  obtain ⟨c9, y9, n9, e9, t9⟩ := hcs 9 _ rfl
  obtain ⟨i9, g9, _, _⟩ := DataW.trod_int Tryz.underlying3 t9
  obtain ⟨c10, y10, n10, e10, t10⟩ := hcs 10 _ rfl
  obtain ⟨i10, g10, _, _⟩ := DataW.trod_int Tryz.underlying3 t10
  obtain ⟨c11, y11, n11, e11, t11⟩ := hcs 11 _ rfl
  obtain ⟨i11, g11, _, _⟩ := DataW.trod_int Tryz.underlying3 t11
  simp at e0 e1 e2 e3 e4 e5 e6 e7 e8 e9 e10 e11 g1 g2 g3 g4 g5 g6 g7 g8 g9 g10 g11
  subst e0 e1 e2 e3 e4 e5 e6 e7 e8 e9 e10 e11 g1 g2 g3 g4 g5 g6 g7 g8 g9 g10 g11
  exact ⟨A, zs, cap, i1, i2, i3, i4, i5, i6, i7, i8, i9, i10, i11, rfl, hcap, hm, hr⟩

set_option maxRecDepth 100000 in
theorem open_conf {H : Type} {enc : TypeId × Value → H} {w : World} {base : Nat} {spare : Nat → Bool} {held : Bool} {r : Reach} {b0 : Nat} {v : Value} {d : DataW H} {p : List MemPlace} (hv : Value.okWide Tryz.prog w r b0 24 v) (h : DataW.Trod enc Tryz.prog w base spare held 24 v d p) :
    ∃ (A : Option Addr) (zs : List Int) (cap : Nat) (sh ra mo wo ba mi st bu ch wi ca : Int), v = .agg #[.slice A zs.length cap, .int .i64 sh, .int .i64 ra, .int .i64 mo, .int .i64 wo, .int .i64 ba, .int .i64 mi, .int .i64 st, .int .i64 bu, .int .i64 ch, .int .i64 wi, .int .i64 ca] ∧ zs.length ≤ cap ∧ zs.length ≤ 9223372036854775807 ∧ RdI w w.heap.size A zs := by
  obtain ⟨cs, rfl, hsz⟩ := okWide_struct Tryz.underlying24 hv
  obtain ⟨fuel, hf⟩ := h
  obtain ⟨A, zs, cap, i1, i2, i3, i4, i5, i6, i7, i8, i9, i10, i11, he, h1, h2, h3⟩ := cells_conf hf
  refine ⟨A, zs, cap, i1, i2, i3, i4, i5, i6, i7, i8, i9, i10, i11, ?_, h1, h2, h3⟩
  have he' : cs.toList = _ := he
  rw [show cs = cs.toList.toArray by simp, he']

end Go.Proofs.YtiokdfkddcokoaaGreatDoor
