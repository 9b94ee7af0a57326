/- TagUnpacks holds, and its card: for every input the law returns true, and each argument reads afterwards as it read before. Conditions: the listed variables read as listed (the row's own 'laid', which the card ties to the text). -/
import Derived.Test.YtajilipbnfpemaaDoorRowKit
import Derived.Test.YtajilipbnfpemaaDoorTagUnpacks
namespace Go.Proofs.YtajilipbnfpemaaDoor
open Go.ChangeShapes Go.WideShapes Go.ChangeAt Go.RowKit Go.Deep

theorem tagUnpacks_laid (os : Os) : laidMetH Tryd.prog Rows.tagUnpacksRow.laid ((World.laidAll Tryd.prog os Rows.tagUnpacksRow.laid).forCall (fun _ _ => 0) ⟨#[], #[.int .u64 0, .int .u64 0], []⟩).memory :=
  laidMet_laidAll (laid := Rows.tagUnpacksRow.laid) _ (by kernel_rfl) (by kernel_rfl)
theorem tagUnpacks_reads (os : Os) {H : Type} (enc : TypeId × Value → H) : ∃ places, DataW.whole enc Tryd.prog ((World.laidAll Tryd.prog os Rows.tagUnpacksRow.laid).forCall (fun _ _ => 0) ⟨#[], #[.int .u64 0, .int .u64 0], []⟩).memory Tryd.f4.params.toList Rows.tagUnpacksSpec.vars false (#[.int .u64 0, .int .u64 0] : Array Value).toList 8 = some ([.lit (.int .u64 0), .lit (.int .u64 0)], [], places) :=
  ⟨[], by kernel_rfl⟩

set_option maxRecDepth 100000 in
theorem tagUnpacks_lifted (os : Os) (started : os.Started) (H : Type) (enc : TypeId × Value → H) (F : Stop.Interp) :
    ReturnsInHanded {} Tryd.checked os 4 .any ((OpenSpec.ofChange Rows.tagUnpacksSpec).preRow enc Tryd.prog Tryd.f4 Rows.tagUnpacksRow.domain false Rows.tagUnpacksRow.laid) (((OpenSpec.ofChange Rows.tagUnpacksSpec).at F).post enc Tryd.prog Tryd.f4 false true false false) := by
  obtain ⟨places, hx⟩ := tagUnpacks_reads os enc
  refine returnsInHanded_of_row (C := Tryd.checked) (s := OpenSpec.ofChange Rows.tagUnpacksSpec) own started (by kernel_rfl) Tryd.func4
    (witness_row_at (enc := enc) (C := Tryd.checked) false (World.laidAll Tryd.prog os Rows.tagUnpacksRow.laid) #[.int .u64 0, .int .u64 0] (World.laidAll_os _ _ _) (by kernel_rfl) (by kernel_rfl) (by kernel_rfl)
      (OpenSpec.preRow_of_cond 8 hx (by kernel_rfl) (fun k hk => by cases hk) (by kernel_rfl) (tagUnpacks_laid os))) ?_
  intro W base args ds gs before hval0 hW hI _ _ hL _ _
  have hval : ∀ (j : Nat) t v, Tryd.f4.params[j]? = some t → args[j]? = some v → Value.okWide Tryd.prog W .any base t v := hval0
  have hW' := hW
  obtain ⟨p, q, hA0, hV, rfl, _, _⟩ := hW
  have hA : DataW.TrodAll enc Tryd.prog W 0 (fun _ => true) true Tryd.f4.params.toList args.toList ds p := hA0
  rw [Tryd.params4] at hA hval
  obtain ⟨v0, v1, d0, d1, p0, p1, rfl, rfl, rfl, h0, h1⟩ := trodAll_two hA
  obtain ⟨rfl, rfl⟩ := trodVars_none hV
  obtain ⟨x0, rfl, _, _, hw0⟩ := open_int Tryd.underlying24 (hval 0 24 v0 rfl rfl) h0
  replace hw0 := wf_bd hw0
  obtain ⟨x1, rfl, _, _, hw1⟩ := open_int Tryd.underlying24 (hval 1 24 v1 rfl rfl) h1
  replace hw1 := wf_bd hw1
  have hp : Pow W.heap.size W := Lib.tabBelow_of_tabIs (Lib.tabIs_of_head (rest := []) (g := 1) (t := 167) (e := 24) (n := 20) (by kernel_rfl) (by kernel_rfl) (by kernel_rfl) (by kernel_rfl) (by kernel_rfl) (by kernel_rfl) (laidMet.tail (laidMet.tail hL)))
  refine (tagUnpacks_any x0 x1 W hp hw0 hw1).mono fun e W' ⟨he, hb⟩ => ?_
  subst he
  exact ⟨_, rfl, law_post laidOut (by kernel_rfl) rfl Tryd.underlying4 rfl rfl hW' hb⟩

theorem tagUnpacks_said : Rows.TagUnpacksSaid :=
  OpenClaim.holds_of_cond 4 Tryd.f4 rfl rfl rfl rfl rfl rfl rfl ⟨rfl, rfl, rfl, rfl, rfl⟩ rfl rfl rfl rfl rfl (by kernel_rfl) Tryd.func4 (by kernel_rfl)
    (of_decide_eq_true (by kernel_rfl)) (by unfold Func.isWrapper; first | (rw [if_pos (by decide +kernel)]; kernel_rfl) | (rw [if_neg (by decide +kernel)]; exact ⟨rfl, rfl⟩))
    (fun os started H enc _ F => by rw [OpenClaim.pre_eq_preRow]; exact tagUnpacks_lifted os started H enc F)

theorem tagUnpacks_plain (f : FuncId) (fn : Func) (hf : Tryd.pinned.checked.prog.funcNamed "sakia/sakialaw17.TagUnpacks" = some f) (hfn : Tryd.pinned.checked.prog.funcs[f]? = some fn) :
    true = Tryd.pinned.checked.prog.looks [] ∧ ∀ (j : Nat) t, fn.params[j]? = some t → Tryd.pinned.checked.prog.wantsStandIn t = false := by
  obtain rfl : f = 4 := Option.some.inj ((show Tryd.prog.funcNamed "sakia/sakialaw17.TagUnpacks" = some 4 by kernel_rfl).symm.trans hf) |>.symm
  obtain rfl : fn = Tryd.f4 := (Option.some.inj (Tryd.func4.symm.trans hfn)).symm
  refine ⟨by kernel_rfl, fun j t ht => ?_⟩
  have hall : (Tryd.f4.params.all fun t => !Tryd.prog.wantsStandIn t) = true := by kernel_rfl
  have := Array.all_eq_true_iff_forall_mem.1 hall t (Array.mem_of_getElem? ht)
  show Tryd.prog.wantsStandIn t = false
  simpa using this

theorem tagUnpacks_card : Rows.TagUnpacksCardSaid :=
  Claim7.holds_tied_plain_at .later [] _ _ _ _ tagUnpacks_said (fun _ h => by cases h) (by kernel_rfl) (fun _ h => by cases h) tagUnpacks_row_tie rfl ⟨rfl, rfl⟩ (by kernel_rfl) rfl tagUnpacks_plain (by kernel_rfl)

end Go.Proofs.YtajilipbnfpemaaDoor
