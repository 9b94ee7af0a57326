/- DataRanges holds, and its card: for every input the law returns true, and each argument reads afterwards as it read before. Conditions: the listed variables read as listed (the row's own 'laid', which the card ties to the text). -/
import Derived.Test.YtnifbipbpengeaaDoorRowKit
import Derived.Test.YtnifbipbpengeaaDoorDataRanges
import Derived.Test.YtnifbipbpengeaaDoorExArg
namespace Go.Proofs.YtnifbipbpengeaaDoor
open Go.ChangeShapes Go.WideShapes Go.ChangeAt Go.RowKit Go.Deep

theorem dataRanges_laid (os : Os) : laidMetH Tryd.prog Rows.dataRangesRow.laid ((World.laidAll Tryd.prog os Rows.dataRangesRow.laid).forCall (fun _ _ => 0) ⟨#[], #[.slice none 0 0], []⟩).memory :=
  laidMet_laidAll (laid := Rows.dataRangesRow.laid) _ (by kernel_rfl) (by kernel_rfl)
theorem dataRanges_reads (os : Os) {H : Type} (enc : TypeId × Value → H) : ∃ places, DataW.whole enc Tryd.prog ((World.laidAll Tryd.prog os Rows.dataRangesRow.laid).forCall (fun _ _ => 0) ⟨#[], #[.slice none 0 0], []⟩).memory Tryd.f3.params.toList Rows.dataRangesSpec.vars false (#[.slice none 0 0] : Array Value).toList 8 = some ([.nil], [], places) :=
  ⟨[], by kernel_rfl⟩

set_option maxRecDepth 100000 in
theorem dataRanges_lifted (os : Os) (started : os.Started) (H : Type) (enc : TypeId × Value → H) (F : Stop.Interp) :
    ReturnsInHanded {} Tryd.checked os 3 .any ((OpenSpec.ofChange Rows.dataRangesSpec).preRow enc Tryd.prog Tryd.f3 Rows.dataRangesRow.domain false Rows.dataRangesRow.laid) (((OpenSpec.ofChange Rows.dataRangesSpec).at F).post enc Tryd.prog Tryd.f3 false true false false) := by
  obtain ⟨places, hx⟩ := dataRanges_reads os enc
  refine returnsInHanded_of_row (C := Tryd.checked) (s := OpenSpec.ofChange Rows.dataRangesSpec) own started (by kernel_rfl) Tryd.func3
    (witness_row_at (enc := enc) (C := Tryd.checked) false (World.laidAll Tryd.prog os Rows.dataRangesRow.laid) #[.slice none 0 0] (World.laidAll_os _ _ _) (by kernel_rfl) (by kernel_rfl) (by kernel_rfl)
      (OpenSpec.preRow_of_cond 8 hx (by kernel_rfl) (fun k hk => by cases hk) (by kernel_rfl) (dataRanges_laid os))) ?_
  intro W base args ds gs before hval0 hW hI _ _ hL _ _
  have hval : ∀ (j : Nat) t v, Tryd.f3.params[j]? = some t → args[j]? = some v → Value.okWide Tryd.prog W .any base t v := hval0
  have hW' := hW
  obtain ⟨p, q, hA0, hV, rfl, _, _⟩ := hW
  have hA : DataW.TrodAll enc Tryd.prog W 0 (fun _ => true) true Tryd.f3.params.toList args.toList ds p := hA0
  rw [Tryd.params3] at hA hval
  obtain ⟨v0, d0, rfl, rfl, h0⟩ := trodAll_one hA
  obtain ⟨rfl, rfl⟩ := trodVars_none hV
  obtain ⟨A0, l0, cap0, rfl, _, hm0, hr0⟩ := open_arg_exs (hval 0 22 v0 rfl rfl) h0
  have hp : Pow W.heap.size W := Lib.tabBelow_of_tabIs (Lib.tabIs_of_head (rest := []) (g := 0) (t := 76) (e := 52) (n := 20) (by kernel_rfl) (by kernel_rfl) (by kernel_rfl) (by kernel_rfl) (by kernel_rfl) (by kernel_rfl) (laidMet.tail (laidMet.tail hL)))
  refine (dataRanges_any A0 l0 cap0 W hp hr0 hm0).mono fun e W' ⟨he, hb⟩ => ?_
  subst he
  exact ⟨_, rfl, law_post laidOut (by kernel_rfl) rfl Tryd.underlying4 rfl rfl hW' hb⟩

theorem dataRanges_said : Rows.DataRangesSaid :=
  OpenClaim.holds_of_cond 3 Tryd.f3 rfl rfl rfl rfl rfl rfl rfl ⟨rfl, rfl, rfl, rfl, rfl⟩ rfl rfl rfl rfl rfl (by kernel_rfl) Tryd.func3 (by kernel_rfl)
    (of_decide_eq_true (by kernel_rfl)) (by unfold Func.isWrapper; first | (rw [if_pos (by decide +kernel)]; kernel_rfl) | (rw [if_neg (by decide +kernel)]; exact ⟨rfl, rfl⟩))
    (fun os started H enc _ F => by rw [OpenClaim.pre_eq_preRow]; exact dataRanges_lifted os started H enc F)

theorem dataRanges_plain (f : FuncId) (fn : Func) (hf : Tryd.pinned.checked.prog.funcNamed "sakia/sakialaw10.DataRanges" = some f) (hfn : Tryd.pinned.checked.prog.funcs[f]? = some fn) :
    false = Tryd.pinned.checked.prog.looks [] ∧ ∀ (j : Nat) t, fn.params[j]? = some t → Tryd.pinned.checked.prog.wantsStandIn t = false := by
  obtain rfl : f = 3 := Option.some.inj ((show Tryd.prog.funcNamed "sakia/sakialaw10.DataRanges" = some 3 by kernel_rfl).symm.trans hf) |>.symm
  obtain rfl : fn = Tryd.f3 := (Option.some.inj (Tryd.func3.symm.trans hfn)).symm
  refine ⟨by kernel_rfl, fun j t ht => ?_⟩
  have hall : (Tryd.f3.params.all fun t => !Tryd.prog.wantsStandIn t) = true := by kernel_rfl
  have := Array.all_eq_true_iff_forall_mem.1 hall t (Array.mem_of_getElem? ht)
  show Tryd.prog.wantsStandIn t = false
  simpa using this

theorem dataRanges_card : Rows.DataRangesCardSaid :=
  Claim7.holds_tied_plain_at .later [] _ _ _ _ dataRanges_said (fun _ h => by cases h) (by kernel_rfl) (fun _ h => by cases h) dataRanges_row_tie rfl ⟨rfl, rfl⟩ (by kernel_rfl) rfl dataRanges_plain (by kernel_rfl)

end Go.Proofs.YtnifbipbpengeaaDoor
