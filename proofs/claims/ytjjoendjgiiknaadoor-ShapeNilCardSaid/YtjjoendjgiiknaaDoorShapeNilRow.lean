/- ShapeNil holds, and its card: for every input the law returns true, and each argument reads afterwards as it read before. Conditions: the listed variables read as listed (the row's own 'laid', which the card ties to the text). -/
import Derived.Test.YtjjoendjgiiknaaDoorRowKit
import Derived.ChangeMaps5
import Derived.Test.YtjjoendjgiiknaaDoorShapeNil
import Derived.Test.YtjjoendjgiiknaaDoorRowErrA
import Derived.Test.YtjjoendjgiiknaaDoorRowMax
namespace Go.Proofs.YtjjoendjgiiknaaDoor
open Go.ChangeShapes Go.WideShapes Go.ChangeAt Go.RowKit Go.Deep

theorem shapeNil_laid (os : Os) : laidMetH Tryd.prog Rows.shapeNilRow.laid ((World.laidAll Tryd.prog os Rows.shapeNilRow.laid).forCall (fun _ _ => 0) ⟨#[], #[.slice none 0 0, .int .i64 0, .string ⟨#[]⟩], []⟩).memory :=
  laidMet_laidAll (laid := Rows.shapeNilRow.laid) _ (by kernel_rfl) (by kernel_rfl)
theorem shapeNil_reads (os : Os) {H : Type} (enc : TypeId × Value → H) : ∃ places, DataW.whole enc Tryd.prog ((World.laidAll Tryd.prog os Rows.shapeNilRow.laid).forCall (fun _ _ => 0) ⟨#[], #[.slice none 0 0, .int .i64 0, .string ⟨#[]⟩], []⟩).memory Tryd.f7.params.toList Rows.shapeNilSpec.vars false (#[.slice none 0 0, .int .i64 0, .string ⟨#[]⟩] : Array Value).toList 8 = some ([.nil, .lit (.int .i64 0), .lit (.string [])], [], places) :=
  ⟨[], by kernel_rfl⟩

set_option maxRecDepth 100000 in
theorem shapeNil_lifted (os : Os) (started : os.Started) (H : Type) (enc : TypeId × Value → H) (F : Stop.Interp) :
    ReturnsInHanded {} Tryd.checked os 7 .any ((OpenSpec.ofChange Rows.shapeNilSpec).preRow enc Tryd.prog Tryd.f7 Rows.shapeNilRow.domain false Rows.shapeNilRow.laid) (((OpenSpec.ofChange Rows.shapeNilSpec).at F).post enc Tryd.prog Tryd.f7 false true false false) := by
  obtain ⟨places, hx⟩ := shapeNil_reads os enc
  refine returnsInHanded_of_row (C := Tryd.checked) (s := OpenSpec.ofChange Rows.shapeNilSpec) own started (by kernel_rfl) Tryd.func7
    (witness_row_at (enc := enc) (C := Tryd.checked) false (World.laidAll Tryd.prog os Rows.shapeNilRow.laid) #[.slice none 0 0, .int .i64 0, .string ⟨#[]⟩] (World.laidAll_os _ _ _) (by kernel_rfl) (by kernel_rfl) (by kernel_rfl)
      (OpenSpec.preRow_of_cond 8 hx (by kernel_rfl) (fun k hk => by cases hk) (by kernel_rfl) (shapeNil_laid os))) ?_
  intro W base args ds gs before hval0 hW hI _ _ hL hSh _
  have hval : ∀ (j : Nat) t v, Tryd.f7.params[j]? = some t → args[j]? = some v → Value.okWide Tryd.prog W .any base t v := hval0
  have hW' := hW
  obtain ⟨p, q, hA0, hV, rfl, _, _⟩ := hW
  have hA : DataW.TrodAll enc Tryd.prog W 0 (fun _ => true) true Tryd.f7.params.toList args.toList ds p := hA0
  rw [Tryd.params7] at hA hval
  obtain ⟨v0, v1, v2, d0, d1, d2, p0, p1, p2, rfl, rfl, rfl, h0, h1, h2⟩ := trodAll_three hA
  obtain ⟨rfl, rfl⟩ := trodVars_none hV
  obtain ⟨A0, zs0, cap0, rfl, hcap0, hlm0, hr0, hw0⟩ := open_arg_ints Tryd.underlying22 Tryd.underlying3 (by kernel_rfl) (hval 0 22 v0 rfl rfl) h0
  obtain ⟨x1, rfl, _, _, hw1⟩ := open_int Tryd.underlying3 (hval 1 3 v1 rfl rfl) h1
  replace hw1 := wf_bd hw1
  obtain ⟨s2, rfl, _, _, hs2⟩ := Go.ChangeMaps.open_string Tryd.underlying9 (hval 2 9 v2 rfl rfl) h2
  have hp : Pow W.heap.size W := Lib.tabBelow_of_tabIs (Lib.tabIs_of_head (rest := _) (g := 3) (t := 115) (e := 72) (n := 20) (by kernel_rfl) (by kernel_rfl) (by kernel_rfl) (by kernel_rfl) (by kernel_rfl) (by kernel_rfl) (laidMet.tail (laidMet.tail hL)))
  have he : Errs W.heap.size W := ⟨syntax_laid (laidMet.tail (laidMet.tail (laidMet.tail (laidMet.tail (laidMet.tail hL))))), range_laid (laidMet.tail (laidMet.tail (laidMet.tail (laidMet.tail hL))))⟩
  have hm : MaxL W.heap.size W := maxL_shaped hSh
  refine (shapeNil_any A0 cap0 zs0 x1 s2 W hp he hm hr0 hlm0 hcap0 (by unfold maxLen at hs2; exact hs2)).mono fun e W' ⟨he, hb⟩ => ?_
  subst he
  exact ⟨_, rfl, law_post laidOut (by kernel_rfl) rfl Tryd.underlying4 rfl rfl hW' hb⟩

theorem shapeNil_said : Rows.ShapeNilSaid :=
  OpenClaim.holds_of_cond 7 Tryd.f7 rfl rfl rfl rfl rfl rfl rfl ⟨rfl, rfl, rfl, rfl, rfl⟩ rfl rfl rfl rfl rfl (by kernel_rfl) Tryd.func7 (by kernel_rfl)
    (of_decide_eq_true (by kernel_rfl)) (by unfold Func.isWrapper; first | (rw [if_pos (by decide +kernel)]; kernel_rfl) | (rw [if_neg (by decide +kernel)]; exact ⟨rfl, rfl⟩))
    (fun os started H enc _ F => by rw [OpenClaim.pre_eq_preRow]; exact shapeNil_lifted os started H enc F)

theorem shapeNil_plain (f : FuncId) (fn : Func) (hf : Tryd.pinned.checked.prog.funcNamed "sakia/sakialaw08.ShapeNil" = some f) (hfn : Tryd.pinned.checked.prog.funcs[f]? = some fn) :
    true = Tryd.pinned.checked.prog.looks [] ∧ ∀ (j : Nat) t, fn.params[j]? = some t → Tryd.pinned.checked.prog.wantsStandIn t = false := by
  obtain rfl : f = 7 := Option.some.inj ((show Tryd.prog.funcNamed "sakia/sakialaw08.ShapeNil" = some 7 by kernel_rfl).symm.trans hf) |>.symm
  obtain rfl : fn = Tryd.f7 := (Option.some.inj (Tryd.func7.symm.trans hfn)).symm
  refine ⟨by kernel_rfl, fun j t ht => ?_⟩
  have hall : (Tryd.f7.params.all fun t => !Tryd.prog.wantsStandIn t) = true := by kernel_rfl
  have := Array.all_eq_true_iff_forall_mem.1 hall t (Array.mem_of_getElem? ht)
  show Tryd.prog.wantsStandIn t = false
  simpa using this

theorem shapeNil_card : Rows.ShapeNilCardSaid :=
  Claim7.holds_tied_plain_at .later [] _ _ _ _ shapeNil_said (fun _ h => by cases h) (by kernel_rfl) (fun _ h => by cases h) shapeNil_row_tie rfl ⟨rfl, rfl⟩ (by kernel_rfl) rfl shapeNil_plain (by kernel_rfl)

end Go.Proofs.YtjjoendjgiiknaaDoor
