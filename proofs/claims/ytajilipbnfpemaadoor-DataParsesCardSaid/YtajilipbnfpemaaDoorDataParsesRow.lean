/- DataParses holds, and its card: for every input the law returns true, and each argument reads afterwards as it read before. Conditions: the listed variables read as listed (the row's own 'laid', which the card ties to the text). -/
import Derived.Test.YtajilipbnfpemaaDoorRowKit
import Derived.ChangeMaps5
import Derived.Test.YtajilipbnfpemaaDoorDataParses
import Derived.Test.YtajilipbnfpemaaDoorRowErr
import Derived.Test.YtajilipbnfpemaaDoorRowMax
namespace Go.Proofs.YtajilipbnfpemaaDoor
open Go.ChangeShapes Go.WideShapes Go.ChangeAt Go.RowKit Go.Deep

theorem dataParses_laid (os : Os) : laidMetH Tryd.prog Rows.dataParsesRow.laid ((World.laidAll Tryd.prog os Rows.dataParsesRow.laid).forCall (fun _ _ => 0) ⟨#[], #[.string ⟨#[]⟩, .int .i64 0], []⟩).memory :=
  laidMet_laidAll (laid := Rows.dataParsesRow.laid) _ (by kernel_rfl) (by kernel_rfl)
theorem dataParses_reads (os : Os) {H : Type} (enc : TypeId × Value → H) : ∃ places, DataW.whole enc Tryd.prog ((World.laidAll Tryd.prog os Rows.dataParsesRow.laid).forCall (fun _ _ => 0) ⟨#[], #[.string ⟨#[]⟩, .int .i64 0], []⟩).memory Tryd.f13.params.toList Rows.dataParsesSpec.vars false (#[.string ⟨#[]⟩, .int .i64 0] : Array Value).toList 8 = some ([.lit (.string []), .lit (.int .i64 0)], [], places) :=
  ⟨[], by kernel_rfl⟩

set_option maxRecDepth 100000 in
theorem dataParses_lifted (os : Os) (started : os.Started) (H : Type) (enc : TypeId × Value → H) (F : Stop.Interp) :
    ReturnsInHanded {} Tryd.checked os 13 .any ((OpenSpec.ofChange Rows.dataParsesSpec).preRow enc Tryd.prog Tryd.f13 Rows.dataParsesRow.domain false Rows.dataParsesRow.laid) (((OpenSpec.ofChange Rows.dataParsesSpec).at F).post enc Tryd.prog Tryd.f13 false true false false) := by
  obtain ⟨places, hx⟩ := dataParses_reads os enc
  refine returnsInHanded_of_row (C := Tryd.checked) (s := OpenSpec.ofChange Rows.dataParsesSpec) own started (by kernel_rfl) Tryd.func13
    (witness_row_at (enc := enc) (C := Tryd.checked) false (World.laidAll Tryd.prog os Rows.dataParsesRow.laid) #[.string ⟨#[]⟩, .int .i64 0] (World.laidAll_os _ _ _) (by kernel_rfl) (by kernel_rfl) (by kernel_rfl)
      (OpenSpec.preRow_of_cond 8 hx (by kernel_rfl) (fun k hk => by cases hk) (by kernel_rfl) (dataParses_laid os))) ?_
  intro W base args ds gs before hval0 hW hI _ _ hL hSh _
  have hval : ∀ (j : Nat) t v, Tryd.f13.params[j]? = some t → args[j]? = some v → Value.okWide Tryd.prog W .any base t v := hval0
  have hW' := hW
  obtain ⟨p, q, hA0, hV, rfl, _, _⟩ := hW
  have hA : DataW.TrodAll enc Tryd.prog W 0 (fun _ => true) true Tryd.f13.params.toList args.toList ds p := hA0
  rw [Tryd.params13] at hA hval
  obtain ⟨v0, v1, d0, d1, p0, p1, rfl, rfl, rfl, h0, h1⟩ := trodAll_two hA
  obtain ⟨rfl, rfl⟩ := trodVars_none hV
  obtain ⟨s0, rfl, _, _, hs0⟩ := Go.ChangeMaps.open_string Tryd.underlying9 (hval 0 9 v0 rfl rfl) h0
  obtain ⟨x1, rfl, _, _, hw1⟩ := open_int Tryd.underlying3 (hval 1 3 v1 rfl rfl) h1
  replace hw1 := wf_bd hw1
  have hp : Pow W.heap.size W := Lib.tabBelow_of_tabIs (Lib.tabIs_of_head (rest := _) (g := 1) (t := 167) (e := 24) (n := 20) (by kernel_rfl) (by kernel_rfl) (by kernel_rfl) (by kernel_rfl) (by kernel_rfl) (by kernel_rfl) (laidMet.tail (laidMet.tail hL)))
  have he : Errs W.heap.size W := ⟨syntax_laid (laidMet.tail (laidMet.tail (laidMet.tail (laidMet.tail (laidMet.tail hL))))), range_laid (laidMet.tail (laidMet.tail (laidMet.tail (laidMet.tail hL))))⟩
  have hm : MaxL W.heap.size W := maxL_shaped hSh
  refine (dataParses_any s0 x1 W hp he hm).mono fun e W' ⟨he, hb⟩ => ?_
  subst he
  exact ⟨_, rfl, law_post laidOut (by kernel_rfl) rfl Tryd.underlying4 rfl rfl hW' hb⟩

theorem dataParses_said : Rows.DataParsesSaid :=
  OpenClaim.holds_of_cond 13 Tryd.f13 rfl rfl rfl rfl rfl rfl rfl ⟨rfl, rfl, rfl, rfl, rfl⟩ rfl rfl rfl rfl rfl (by kernel_rfl) Tryd.func13 (by kernel_rfl)
    (of_decide_eq_true (by kernel_rfl)) (by unfold Func.isWrapper; first | (rw [if_pos (by decide +kernel)]; kernel_rfl) | (rw [if_neg (by decide +kernel)]; exact ⟨rfl, rfl⟩))
    (fun os started H enc _ F => by rw [OpenClaim.pre_eq_preRow]; exact dataParses_lifted os started H enc F)

theorem dataParses_plain (f : FuncId) (fn : Func) (hf : Tryd.pinned.checked.prog.funcNamed "sakia/sakialaw10.DataParses" = some f) (hfn : Tryd.pinned.checked.prog.funcs[f]? = some fn) :
    true = Tryd.pinned.checked.prog.looks [] ∧ ∀ (j : Nat) t, fn.params[j]? = some t → Tryd.pinned.checked.prog.wantsStandIn t = false := by
  obtain rfl : f = 13 := Option.some.inj ((show Tryd.prog.funcNamed "sakia/sakialaw10.DataParses" = some 13 by kernel_rfl).symm.trans hf) |>.symm
  obtain rfl : fn = Tryd.f13 := (Option.some.inj (Tryd.func13.symm.trans hfn)).symm
  refine ⟨by kernel_rfl, fun j t ht => ?_⟩
  have hall : (Tryd.f13.params.all fun t => !Tryd.prog.wantsStandIn t) = true := by kernel_rfl
  have := Array.all_eq_true_iff_forall_mem.1 hall t (Array.mem_of_getElem? ht)
  show Tryd.prog.wantsStandIn t = false
  simpa using this

theorem dataParses_card : Rows.DataParsesCardSaid :=
  Claim7.holds_tied_plain_at .later [] _ _ _ _ dataParses_said (fun _ h => by cases h) (by kernel_rfl) (fun _ h => by cases h) dataParses_row_tie rfl ⟨rfl, rfl⟩ (by kernel_rfl) rfl dataParses_plain (by kernel_rfl)

end Go.Proofs.YtajilipbnfpemaaDoor
