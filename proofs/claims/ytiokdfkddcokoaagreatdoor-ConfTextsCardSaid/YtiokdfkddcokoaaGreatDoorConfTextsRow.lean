/- ConfTexts holds, and its card: for every input the law returns true, and each argument reads afterwards as it read before. Conditions: the listed variables read as listed (the row's own 'laid', which the card ties to the text). -/
import Derived.Test.YtiokdfkddcokoaaGreatDoorRowKit
import Derived.Test.YtiokdfkddcokoaaGreatDoorConfTexts
import Derived.Test.YtiokdfkddcokoaaGreatDoorConfOpen64
import Derived.Test.YtiokdfkddcokoaaGreatDoorRowErr
import Derived.Test.YtiokdfkddcokoaaGreatDoorRowMax
namespace Go.Proofs.YtiokdfkddcokoaaGreatDoor
open Go.ChangeShapes Go.WideShapes Go.ChangeAt Go.RowKit Go.Deep

theorem confTexts_laid (os : Os) : laidMetH Tryz.prog Rows.confTextsRow.laid ((World.laidAll Tryz.prog os Rows.confTextsRow.laid).forCall (fun _ _ => 0) ⟨#[], #[.agg #[.slice none 0 0, .int .i64 0, .int .i64 0, .int .i64 0, .int .i64 0, .int .i64 0, .int .i64 0, .int .i64 0, .int .i64 0, .int .i64 0, .int .i64 0, .int .i64 0]], []⟩).memory :=
  laidMet_laidAll (laid := Rows.confTextsRow.laid) _ (by kernel_rfl) (by kernel_rfl)
theorem confTexts_reads (os : Os) {H : Type} (enc : TypeId × Value → H) : ∃ places, DataW.whole enc Tryz.prog ((World.laidAll Tryz.prog os Rows.confTextsRow.laid).forCall (fun _ _ => 0) ⟨#[], #[.agg #[.slice none 0 0, .int .i64 0, .int .i64 0, .int .i64 0, .int .i64 0, .int .i64 0, .int .i64 0, .int .i64 0, .int .i64 0, .int .i64 0, .int .i64 0, .int .i64 0]], []⟩).memory Tryz.f3.params.toList Rows.confTextsSpec.vars false (#[.agg #[.slice none 0 0, .int .i64 0, .int .i64 0, .int .i64 0, .int .i64 0, .int .i64 0, .int .i64 0, .int .i64 0, .int .i64 0, .int .i64 0, .int .i64 0, .int .i64 0]] : Array Value).toList 8 = some ([.agg [.nil, .lit (.int .i64 0), .lit (.int .i64 0), .lit (.int .i64 0), .lit (.int .i64 0), .lit (.int .i64 0), .lit (.int .i64 0), .lit (.int .i64 0), .lit (.int .i64 0), .lit (.int .i64 0), .lit (.int .i64 0), .lit (.int .i64 0)]], [], places) :=
  ⟨[], by kernel_rfl⟩

set_option maxRecDepth 100000 in
theorem confTexts_lifted (os : Os) (started : os.Started) (H : Type) (enc : TypeId × Value → H) (F : Stop.Interp) :
    ReturnsInHanded {} Tryz.checked os 3 .any ((OpenSpec.ofChange Rows.confTextsSpec).preRow enc Tryz.prog Tryz.f3 Rows.confTextsRow.domain false Rows.confTextsRow.laid) (((OpenSpec.ofChange Rows.confTextsSpec).at F).post enc Tryz.prog Tryz.f3 false true false false) := by
  obtain ⟨places, hx⟩ := confTexts_reads os enc
  refine returnsInHanded_of_row (C := Tryz.checked) (s := OpenSpec.ofChange Rows.confTextsSpec) own started (by kernel_rfl) Tryz.func3
    (witness_row_at (enc := enc) (C := Tryz.checked) false (World.laidAll Tryz.prog os Rows.confTextsRow.laid) #[.agg #[.slice none 0 0, .int .i64 0, .int .i64 0, .int .i64 0, .int .i64 0, .int .i64 0, .int .i64 0, .int .i64 0, .int .i64 0, .int .i64 0, .int .i64 0, .int .i64 0]] (World.laidAll_os _ _ _) (by kernel_rfl) (by kernel_rfl) (by kernel_rfl)
      (OpenSpec.preRow_of_cond 8 hx (by kernel_rfl) (fun k hk => by cases hk) (by kernel_rfl) (confTexts_laid os))) ?_
  intro W base args ds gs before hval0 hW hI _ _ hL hSh _
  have hval : ∀ (j : Nat) t v, Tryz.f3.params[j]? = some t → args[j]? = some v → Value.okWide Tryz.prog W .any base t v := hval0
  have hW' := hW
  obtain ⟨p, q, hA0, hV, rfl, _, _⟩ := hW
  have hA : DataW.TrodAll enc Tryz.prog W 0 (fun _ => true) true Tryz.f3.params.toList args.toList ds p := hA0
  rw [Tryz.params3] at hA hval
  obtain ⟨v0, d0, rfl, rfl, h0⟩ := trodAll_one hA
  obtain ⟨rfl, rfl⟩ := trodVars_none hV
  obtain ⟨A0, zs0, cap0, c0, rfl, hcap0, hm0, hr0, h640⟩ := open_conf64 (hval 0 24 v0 rfl rfl) h0
  have hp : Pow W.heap.size W := Lib.tabBelow_of_tabIs (Lib.tabIs_of_head (rest := _) (g := 3) (t := 142) (e := 46) (n := 20) (by kernel_rfl) (by kernel_rfl) (by kernel_rfl) (by kernel_rfl) (by kernel_rfl) (by kernel_rfl) (laidMet.tail (laidMet.tail hL)))
  have he : Errs W.heap.size W := ⟨syntax_laid (laidMet.tail (laidMet.tail (laidMet.tail (laidMet.tail (laidMet.tail hL))))), range_laid (laidMet.tail (laidMet.tail (laidMet.tail (laidMet.tail hL))))⟩
  have hm : MaxL W.heap.size W := maxL_shaped hSh
  refine (confTexts_any A0 cap0 zs0 c0 W hr0 hm0 h640 hp he hm).mono fun e W' ⟨he, hb⟩ => ?_
  subst he
  exact ⟨_, rfl, law_post laidOut (by kernel_rfl) rfl Tryz.underlying4 rfl rfl hW' hb⟩

theorem confTexts_said : Rows.ConfTextsSaid :=
  OpenClaim.holds_of_cond 3 Tryz.f3 rfl rfl rfl rfl rfl rfl rfl ⟨rfl, rfl, rfl, rfl, rfl⟩ rfl rfl rfl rfl rfl (by kernel_rfl) Tryz.func3 (by kernel_rfl)
    (of_decide_eq_true (by kernel_rfl)) (by unfold Func.isWrapper; first | (rw [if_pos (by decide +kernel)]; kernel_rfl) | (rw [if_neg (by decide +kernel)]; exact ⟨rfl, rfl⟩))
    (fun os started H enc _ F => by rw [OpenClaim.pre_eq_preRow]; exact confTexts_lifted os started H enc F)

theorem confTexts_plain (f : FuncId) (fn : Func) (hf : Tryz.pinned.checked.prog.funcNamed "sakia/sakialaw11.ConfTexts" = some f) (hfn : Tryz.pinned.checked.prog.funcs[f]? = some fn) :
    true = Tryz.pinned.checked.prog.looks [] ∧ ∀ (j : Nat) t, fn.params[j]? = some t → Tryz.pinned.checked.prog.wantsStandIn t = false := by
  obtain rfl : f = 3 := Option.some.inj ((show Tryz.prog.funcNamed "sakia/sakialaw11.ConfTexts" = some 3 by kernel_rfl).symm.trans hf) |>.symm
  obtain rfl : fn = Tryz.f3 := (Option.some.inj (Tryz.func3.symm.trans hfn)).symm
  refine ⟨by kernel_rfl, fun j t ht => ?_⟩
  have hall : (Tryz.f3.params.all fun t => !Tryz.prog.wantsStandIn t) = true := by kernel_rfl
  have := Array.all_eq_true_iff_forall_mem.1 hall t (Array.mem_of_getElem? ht)
  show Tryz.prog.wantsStandIn t = false
  simpa using this

theorem confTexts_card : Rows.ConfTextsCardSaid :=
  Claim7.holds_tied_plain_at .later [] _ _ _ _ confTexts_said (fun _ h => by cases h) (by kernel_rfl) (fun _ h => by cases h) confTexts_row_tie rfl ⟨rfl, rfl⟩ (by kernel_rfl) rfl confTexts_plain (by kernel_rfl)

end Go.Proofs.YtiokdfkddcokoaaGreatDoor
