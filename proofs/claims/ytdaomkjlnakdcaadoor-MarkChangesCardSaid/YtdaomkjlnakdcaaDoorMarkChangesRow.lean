/- MarkChanges holds, and its card: for every input the law returns true, and each argument reads afterwards as it read before. Conditions: the listed variables read as listed (the row's own 'laid', which the card ties to the text). -/
import Derived.Test.YtdaomkjlnakdcaaDoorRowKit
import Derived.Test.YtdaomkjlnakdcaaDoorMarkChanges
namespace Go.Proofs.YtdaomkjlnakdcaaDoor
open Go.ChangeShapes Go.WideShapes Go.ChangeAt Go.RowKit Go.Deep

theorem markChanges_laid (os : Os) : laidMetH Tryd.prog Rows.markChangesRow.laid ((World.laidAll Tryd.prog os Rows.markChangesRow.laid).forCall (fun _ _ => 0) ⟨#[], #[.slice none 0 0, .int .u16 0, .int .u16 0], []⟩).memory :=
  laidMet_laidAll (laid := Rows.markChangesRow.laid) _ (by kernel_rfl) (by kernel_rfl)
theorem markChanges_reads (os : Os) {H : Type} (enc : TypeId × Value → H) : ∃ places, DataW.whole enc Tryd.prog ((World.laidAll Tryd.prog os Rows.markChangesRow.laid).forCall (fun _ _ => 0) ⟨#[], #[.slice none 0 0, .int .u16 0, .int .u16 0], []⟩).memory Tryd.f5.params.toList Rows.markChangesSpec.vars false (#[.slice none 0 0, .int .u16 0, .int .u16 0] : Array Value).toList 8 = some ([.nil, .lit (.int .u16 0), .lit (.int .u16 0)], [], places) :=
  ⟨[], by kernel_rfl⟩

set_option maxRecDepth 100000 in
theorem markChanges_lifted (os : Os) (started : os.Started) (H : Type) (enc : TypeId × Value → H) (F : Stop.Interp) :
    ReturnsInHanded {} Tryd.checked os 5 .any ((OpenSpec.ofChange Rows.markChangesSpec).preRow enc Tryd.prog Tryd.f5 Rows.markChangesRow.domain false Rows.markChangesRow.laid) (((OpenSpec.ofChange Rows.markChangesSpec).at F).post enc Tryd.prog Tryd.f5 false true false false) := by
  obtain ⟨places, hx⟩ := markChanges_reads os enc
  refine returnsInHanded_of_row (C := Tryd.checked) (s := OpenSpec.ofChange Rows.markChangesSpec) own started (by kernel_rfl) Tryd.func5
    (witness_row_at (enc := enc) (C := Tryd.checked) false (World.laidAll Tryd.prog os Rows.markChangesRow.laid) #[.slice none 0 0, .int .u16 0, .int .u16 0] (World.laidAll_os _ _ _) (by kernel_rfl) (by kernel_rfl) (by kernel_rfl)
      (OpenSpec.preRow_of_cond 8 hx (by kernel_rfl) (fun k hk => by cases hk) (by kernel_rfl) (markChanges_laid os))) ?_
  intro W base args ds gs before hval0 hW hI _ _ hL _ _
  have hval : ∀ (j : Nat) t v, Tryd.f5.params[j]? = some t → args[j]? = some v → Value.okWide Tryd.prog W .any base t v := hval0
  have hW' := hW
  obtain ⟨p, q, hA0, hV, rfl, _, _⟩ := hW
  have hA : DataW.TrodAll enc Tryd.prog W 0 (fun _ => true) true Tryd.f5.params.toList args.toList ds p := hA0
  rw [Tryd.params5] at hA hval
  obtain ⟨v0, v1, v2, d0, d1, d2, p0, p1, p2, rfl, rfl, rfl, h0, h1, h2⟩ := trodAll_three hA
  obtain ⟨rfl, rfl⟩ := trodVars_none hV
  obtain ⟨A0, zs0, cap0, rfl, hcap0, hlm0, hr0, hw0⟩ := open_arg_ints Tryd.underlying22 Tryd.underlying2 (by kernel_rfl) (hval 0 22 v0 rfl rfl) h0
  obtain ⟨x1, rfl, _, _, hw1⟩ := open_int Tryd.underlying40 (hval 1 40 v1 rfl rfl) h1
  replace hw1 := wf_bd hw1
  obtain ⟨x2, rfl, _, _, hw2⟩ := open_int Tryd.underlying40 (hval 2 40 v2 rfl rfl) h2
  replace hw2 := wf_bd hw2
  have hp : Pow W.heap.size W := Lib.tabBelow_of_tabIs (Lib.tabIs_of_head (rest := []) (g := 0) (t := 131) (e := 49) (n := 20) (by kernel_rfl) (by kernel_rfl) (by kernel_rfl) (by kernel_rfl) (by kernel_rfl) (by kernel_rfl) (laidMet.tail (laidMet.tail hL)))
  refine (markChanges_any A0 cap0 zs0 x1 x2 W hp hr0 hw1 hw2).mono fun e W' ⟨he, hb⟩ => ?_
  subst he
  exact ⟨_, rfl, law_post laidOut (by kernel_rfl) rfl Tryd.underlying4 rfl rfl hW' hb⟩

theorem markChanges_said : Rows.MarkChangesSaid :=
  OpenClaim.holds_of_cond 5 Tryd.f5 rfl rfl rfl rfl rfl rfl rfl ⟨rfl, rfl, rfl, rfl, rfl⟩ rfl rfl rfl rfl rfl (by kernel_rfl) Tryd.func5 (by kernel_rfl)
    (of_decide_eq_true (by kernel_rfl)) (by unfold Func.isWrapper; first | (rw [if_pos (by decide +kernel)]; kernel_rfl) | (rw [if_neg (by decide +kernel)]; exact ⟨rfl, rfl⟩))
    (fun os started H enc _ F => by rw [OpenClaim.pre_eq_preRow]; exact markChanges_lifted os started H enc F)

theorem markChanges_plain (f : FuncId) (fn : Func) (hf : Tryd.pinned.checked.prog.funcNamed "sakia/sakialaw16.MarkChanges" = some f) (hfn : Tryd.pinned.checked.prog.funcs[f]? = some fn) :
    true = Tryd.pinned.checked.prog.looks [] ∧ ∀ (j : Nat) t, fn.params[j]? = some t → Tryd.pinned.checked.prog.wantsStandIn t = false := by
  obtain rfl : f = 5 := Option.some.inj ((show Tryd.prog.funcNamed "sakia/sakialaw16.MarkChanges" = some 5 by kernel_rfl).symm.trans hf) |>.symm
  obtain rfl : fn = Tryd.f5 := (Option.some.inj (Tryd.func5.symm.trans hfn)).symm
  refine ⟨by kernel_rfl, fun j t ht => ?_⟩
  have hall : (Tryd.f5.params.all fun t => !Tryd.prog.wantsStandIn t) = true := by kernel_rfl
  have := Array.all_eq_true_iff_forall_mem.1 hall t (Array.mem_of_getElem? ht)
  show Tryd.prog.wantsStandIn t = false
  simpa using this

theorem markChanges_card : Rows.MarkChangesCardSaid :=
  Claim7.holds_tied_plain_at .later [] _ _ _ _ markChanges_said (fun _ h => by cases h) (by kernel_rfl) (fun _ h => by cases h) markChanges_row_tie rfl ⟨rfl, rfl⟩ (by kernel_rfl) rfl markChanges_plain (by kernel_rfl)

end Go.Proofs.YtdaomkjlnakdcaaDoor
