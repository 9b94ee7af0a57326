/- ConfChecks holds: for every configuration the law returns true, and each argument reads afterwards as it read before. Conditions: none. -/
import Derived.Test.YtiokdfkddcokoaaRows
import Derived.Test.YtiokdfkddcokoaaConfChecks
import Derived.Test.YtiokdfkddcokoaaLaw
namespace Go.Proofs.Ytiokdfkddcokoaa
open Go.ChangeShapes Go.WideShapes Go.ChangeAt Go.RowKit Go.Deep

theorem Try.own : ownKnob Try.prog.godebug = none := by kernel_rfl
theorem Try.laidOut : laidOutB Try.prog = true := by kernel_rfl
theorem Try.cellsInt : Try.prog.cellsOf 3 = 1 := by kernel_rfl

set_option maxRecDepth 100000 in
theorem confChecks_lifted (os : Os) (started : os.Started) (H : Type) (enc : TypeId × Value → H) :
    ReturnsInHanded {} Try.checked os 3 .any (Rows.confChecksSpec.pre6 enc Try.prog Try.f3 Rows.confChecksRow.domain false) (Rows.confChecksSpec.post enc Try.prog Try.f3 false true false false) := by
  refine returnsInHanded_of_change (C := Try.checked) Try.own started (by kernel_rfl) Try.func3
    (ChangeSpec.witness6 (enc := enc) (C := Try.checked) false ⟨#[], #[.agg #[.slice none 0 0, .int .i64 0, .int .i64 0, .int .i64 0, .int .i64 0, .int .i64 0, .int .i64 0, .int .i64 0, .int .i64 0, .int .i64 0, .int .i64 0, .int .i64 0], .int .i64 0], []⟩ 8 (by kernel_rfl) (by kernel_rfl) (by kernel_rfl) (by kernel_rfl)) ?_
  intro W base args ds gs before hval0 hW _ _
  have hval : ∀ (j : Nat) t v, Try.f3.params[j]? = some t → args[j]? = some v → Value.okWide Try.prog W .any base t v := hval0
  have hW' := hW
  obtain ⟨p, q, hA0, hV, rfl, _, _⟩ := hW
  have hA : DataW.TrodAll enc Try.prog W 0 (fun _ => true) true Try.f3.params.toList args.toList ds p := hA0
  rw [Try.params3] at hA hval
  obtain ⟨v0, v1, d0, d1, p0, p1, rfl, rfl, rfl, h0, h1⟩ := trodAll_two hA
  obtain ⟨rfl, rfl⟩ := trodVars_none hV
  obtain ⟨cs, rfl, hlen, hcs⟩ := open_agg_any Try.underlying24 (by kernel_rfl) (by kernel_rfl) (hval 0 24 v0 rfl rfl) h0
  obtain ⟨x, rfl, _, _, _⟩ := open_int Try.underlying2 (hval 1 2 v1 rfl rfl) h1
  obtain ⟨a0, a1, a2, a3, a4, a5, a6, a7, a8, a9, a10, a11, rfl⟩ := list12 (hlen.trans rfl)
  obtain ⟨c0, y0, n0, e0, t0⟩ := hcs 0 _ rfl
  obtain ⟨A, zs, cap, rfl, hcap, hm, hr, _⟩ := open_slice_int Try.underlying22 Try.underlying3 Try.cellsInt t0
  obtain ⟨c1, y1, n1, e1, t1⟩ := hcs 1 _ rfl
  obtain ⟨i1, g1, _, _⟩ := DataW.trod_int Try.underlying3 t1
  obtain ⟨c2, y2, n2, e2, t2⟩ := hcs 2 _ rfl
  obtain ⟨i2, g2, _, _⟩ := DataW.trod_int Try.underlying2 t2
  obtain ⟨c3, y3, n3, e3, t3⟩ := hcs 3 _ rfl
  obtain ⟨i3, g3, _, _⟩ := DataW.trod_int Try.underlying2 t3
  obtain ⟨c4, y4, n4, e4, t4⟩ := hcs 4 _ rfl
  obtain ⟨i4, g4, _, _⟩ := DataW.trod_int Try.underlying3 t4
  obtain ⟨c5, y5, n5, e5, t5⟩ := hcs 5 _ rfl
  obtain ⟨i5, g5, _, _⟩ := DataW.trod_int Try.underlying3 t5
  obtain ⟨c6, y6, n6, e6, t6⟩ := hcs 6 _ rfl
  obtain ⟨i6, g6, _, _⟩ := DataW.trod_int Try.underlying3 t6
  obtain ⟨c7, y7, n7, e7, t7⟩ := hcs 7 _ rfl
  obtain ⟨i7, g7, _, _⟩ := DataW.trod_int Try.underlying3 t7
  obtain ⟨c8, y8, n8, e8, t8⟩ := hcs 8 _ rfl
  obtain ⟨i8, g8, _, _⟩ := DataW.trod_int Try.underlying3 t8
  obtain ⟨c9, y9, n9, e9, t9⟩ := hcs 9 _ rfl
  obtain ⟨i9, g9, _, _⟩ := DataW.trod_int Try.underlying3 t9
  obtain ⟨c10, y10, n10, e10, t10⟩ := hcs 10 _ rfl
  obtain ⟨i10, g10, _, _⟩ := DataW.trod_int Try.underlying3 t10
  obtain ⟨c11, y11, n11, e11, t11⟩ := hcs 11 _ rfl
  obtain ⟨i11, g11, _, _⟩ := DataW.trod_int Try.underlying3 t11
  simp at e0 e1 e2 e3 e4 e5 e6 e7 e8 e9 e10 e11 g1 g2 g3 g4 g5 g6 g7 g8 g9 g10 g11
  subst e0 e1 e2 e3 e4 e5 e6 e7 e8 e9 e10 e11 g1 g2 g3 g4 g5 g6 g7 g8 g9 g10 g11
  refine (confChecks_any A cap zs i1 i2 i3 i4 i5 i6 i7 i8 i9 i10 i11 x W hr hcap hm).mono fun e W' ⟨he, hb⟩ => ?_
  subst he
  refine ⟨_, rfl, law_post Try.laidOut (by kernel_rfl) rfl Try.underlying4 rfl rfl hW' hb⟩

theorem confChecks_holds : Rows.ConfChecksSaid :=
  OpenClaim.holds_of_wide 3 Try.f3 rfl rfl rfl rfl rfl rfl rfl ⟨rfl, rfl, rfl, rfl, rfl⟩ rfl rfl rfl rfl rfl (by kernel_rfl) Try.func3 (by kernel_rfl)
    (of_decide_eq_true (by kernel_rfl)) (by unfold Func.isWrapper; rw [if_neg (of_decide_eq_false (by kernel_rfl))]; exact ⟨rfl, rfl⟩)
    (fun os started H enc _ => confChecks_lifted os started H enc)

end Go.Proofs.Ytiokdfkddcokoaa
