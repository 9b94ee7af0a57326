/- MarkVectors holds, and its card: for every input the law returns true, and each argument reads afterwards as it read before. Conditions: the listed tables read as listed (the row's own 'laid', which the card ties to the text). -/
import Derived.Test.YtdaomkjlnakdcaaDoorCards
import Derived.Test.YtdaomkjlnakdcaaDoorTie
import Derived.Test.YtdaomkjlnakdcaaDoorMarkVectors
import Derived.Test.YtdaomkjlnakdcaaDoorLaw
import Derived.OpenShut
import Derived.Deep.DeepHandedRow
import Derived.Lib.LaidTab
import Derived.Lay
import Derived.Stop.LaidErr
namespace Go.Proofs.YtdaomkjlnakdcaaDoor
open Go.ChangeShapes Go.WideShapes Go.ChangeAt Go.RowKit Go.Deep

theorem open_arg_ints {H : Type} {enc : TypeId × Value → H} {P : Program} {w : World} {base b0 : Nat} {spare : Nat → Bool} {held : Bool} {r : Reach} {t e : TypeId} {k : IntKind} {v : Value} {d : DataW H} {p : List MemPlace} (ht : P.underlying t = some (.slice e)) (he : P.underlying e = some (.int k)) (hc : P.cellsOf e = 1)
    (hv : Value.okWide P w r b0 t v) (h : DataW.Trod enc P w base spare held t v d p) :
    ∃ (A : Option Addr) (zs : List Int) (cap : Nat), v = .slice A zs.length cap ∧ zs.length ≤ cap ∧ zs.length ≤ 9223372036854775807 ∧ Rd w w.heap.size A (zs.map (Value.int k)) ∧ ∀ z ∈ zs, (Lit.int k z).wf = true := by
  obtain ⟨a, n, c, rfl⟩ := okWide_slice ht hv
  obtain ⟨fuel, hf⟩ := h
  exact open_slice_int ht he hc hf

theorem own : ownKnob Tryd.prog.godebug = none := by kernel_rfl
theorem laidOut : laidOutB Tryd.prog = true := by kernel_rfl

theorem pow_of_laid {W : World} (h : laidMetH Tryd.prog Rows.markVectorsRow.laid W) : Pow W.heap.size W := by
  have h1 : laidMet Tryd.prog Rows.markVectorsRow.laid W := h
  have h2 := laidMet.tail (laidMet.tail h1)
  exact Lib.tabBelow_of_tabIs (Lib.tabIs_of_head (rest := []) (g := 0) (t := 131) (e := 49) (n := 20) (by kernel_rfl) (by kernel_rfl) (by kernel_rfl) (by kernel_rfl) (by kernel_rfl) (by kernel_rfl) h2)

theorem markVectors_laid (os : Os) : laidMetH Tryd.prog Rows.markVectorsRow.laid ((World.laidAll Tryd.prog os Rows.markVectorsRow.laid).forCall (fun _ _ => 0) ⟨#[], #[.slice none 0 0, .int .i64 0], []⟩).memory :=
  laidMet_laidAll (laid := Rows.markVectorsRow.laid) _ (by kernel_rfl) (by kernel_rfl)
theorem markVectors_reads (os : Os) {H : Type} (enc : TypeId × Value → H) : ∃ places, DataW.whole enc Tryd.prog ((World.laidAll Tryd.prog os Rows.markVectorsRow.laid).forCall (fun _ _ => 0) ⟨#[], #[.slice none 0 0, .int .i64 0], []⟩).memory Tryd.f3.params.toList Rows.markVectorsSpec.vars false #[Value.slice none 0 0, .int .i64 0].toList 8 = some ([.nil, .lit (.int .i64 0)], [], places) :=
  ⟨[], by kernel_rfl⟩

set_option maxRecDepth 100000 in
theorem markVectors_lifted (os : Os) (started : os.Started) (H : Type) (enc : TypeId × Value → H) (F : Stop.Interp) :
    ReturnsInHanded {} Tryd.checked os 3 .any ((OpenSpec.ofChange Rows.markVectorsSpec).preRow enc Tryd.prog Tryd.f3 Rows.markVectorsRow.domain false Rows.markVectorsRow.laid) (((OpenSpec.ofChange Rows.markVectorsSpec).at F).post enc Tryd.prog Tryd.f3 false true false false) := by
  obtain ⟨places, hx⟩ := markVectors_reads os enc
  refine returnsInHanded_of_row (C := Tryd.checked) (s := OpenSpec.ofChange Rows.markVectorsSpec) own started (by kernel_rfl) Tryd.func3
    (witness_row_at (enc := enc) (C := Tryd.checked) false (World.laidAll Tryd.prog os Rows.markVectorsRow.laid) #[.slice none 0 0, .int .i64 0] (World.laidAll_os _ _ _) (by kernel_rfl) (by kernel_rfl) (by kernel_rfl)
      (OpenSpec.preRow_of_cond 8 hx (by kernel_rfl) (fun k hk => by cases hk) (by kernel_rfl) (markVectors_laid os))) ?_
  intro W base args ds gs before hval0 hW _ _ _ hL _ _
  have hval : ∀ (j : Nat) t v, Tryd.f3.params[j]? = some t → args[j]? = some v → Value.okWide Tryd.prog W .any base t v := hval0
  have hW' := hW
  obtain ⟨p, q, hA0, hV, rfl, _, _⟩ := hW
  have hA : DataW.TrodAll enc Tryd.prog W 0 (fun _ => true) true Tryd.f3.params.toList args.toList ds p := hA0
  rw [Tryd.params3] at hA hval
  obtain ⟨v0, v1, d0, d1, p0, p1, rfl, rfl, rfl, h0, h1⟩ := trodAll_two hA
  obtain ⟨rfl, rfl⟩ := trodVars_none hV
  obtain ⟨A, zs, cap, rfl, hcap, hlm, hr, _⟩ := open_arg_ints Tryd.underlying22 Tryd.underlying2 (by kernel_rfl) (hval 0 22 v0 rfl rfl) h0
  obtain ⟨x, rfl, _, _, _⟩ := open_int Tryd.underlying2 (hval 1 2 v1 rfl rfl) h1
  refine (markVectors_any A cap zs x W (pow_of_laid hL) hr).mono fun e W' ⟨he, hb⟩ => ?_
  subst he
  exact ⟨_, rfl, law_post laidOut (by kernel_rfl) rfl Tryd.underlying4 rfl rfl hW' hb⟩

theorem markVectors_said : Rows.MarkVectorsSaid :=
  OpenClaim.holds_of_cond 3 Tryd.f3 rfl rfl rfl rfl rfl rfl rfl ⟨rfl, rfl, rfl, rfl, rfl⟩ rfl rfl rfl rfl rfl (by kernel_rfl) Tryd.func3 (by kernel_rfl)
    (of_decide_eq_true (by kernel_rfl)) (by unfold Func.isWrapper; first | (rw [if_pos (by decide +kernel)]; kernel_rfl) | (rw [if_neg (by decide +kernel)]; exact ⟨rfl, rfl⟩))
    (fun os started H enc _ F => by rw [OpenClaim.pre_eq_preRow]; exact markVectors_lifted os started H enc F)

theorem markVectors_plain (f : FuncId) (fn : Func) (hf : Tryd.pinned.checked.prog.funcNamed "sakia/sakialaw16.MarkVectors" = some f) (hfn : Tryd.pinned.checked.prog.funcs[f]? = some fn) :
    true = Tryd.pinned.checked.prog.looks [] ∧ ∀ (j : Nat) t, fn.params[j]? = some t → Tryd.pinned.checked.prog.wantsStandIn t = false := by
  obtain rfl : f = 3 := Option.some.inj ((show Tryd.prog.funcNamed "sakia/sakialaw16.MarkVectors" = some 3 by kernel_rfl).symm.trans hf) |>.symm
  obtain rfl : fn = Tryd.f3 := (Option.some.inj (Tryd.func3.symm.trans hfn)).symm
  refine ⟨by kernel_rfl, fun j t ht => ?_⟩
  have hall : (Tryd.f3.params.all fun t => !Tryd.prog.wantsStandIn t) = true := by kernel_rfl
  have := Array.all_eq_true_iff_forall_mem.1 hall t (Array.mem_of_getElem? ht)
  show Tryd.prog.wantsStandIn t = false
  simpa using this

theorem markVectors_card : Rows.MarkVectorsCardSaid :=
  Claim7.holds_tied_plain_at .later [] _ _ _ _ markVectors_said (fun _ h => by cases h) (by kernel_rfl) (fun _ h => by cases h) markVectors_row_tie rfl ⟨rfl, rfl⟩ (by kernel_rfl) rfl markVectors_plain (by kernel_rfl)

end Go.Proofs.YtdaomkjlnakdcaaDoor
