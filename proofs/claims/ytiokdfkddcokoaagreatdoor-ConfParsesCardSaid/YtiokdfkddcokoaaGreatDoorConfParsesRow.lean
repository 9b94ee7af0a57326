/- ConfParses holds, and its card: for every input the law returns true, and each argument reads afterwards as it read before. Conditions: the listed variables read as listed (the row's own 'laid', which the card ties to the text). -/
import Derived.Test.YtiokdfkddcokoaaGreatDoorRowKit
import Derived.Test.YtiokdfkddcokoaaGreatDoorParse
import Derived.Test.YtiokdfkddcokoaaGreatDoorMaxL
import Derived.HandedShaped
import Derived.Shelf.Vars
import Derived.ChangeMaps5
import Derived.Test.YtiokdfkddcokoaaGreatDoorConfParses
namespace Go.Proofs.YtiokdfkddcokoaaGreatDoor
open Go.ChangeShapes Go.WideShapes Go.ChangeAt Go.RowKit Go.Deep

theorem err_star : "*" ++ "errors.errorString" = "*errors.errorString" := by decide
theorem errString_row (u : TypeId) (h : Tryz.prog.typeName? 3 u = some "*errors.errorString") : u = 149 :=
  typeName_ptr_named (nm := "errors.errorString") (by rw [err_star]; kernel_rfl) (by kernel_rfl) (by decide) u (by rw [err_star]; exact h)

theorem errAt_of {W : World} {n : String} {a : Addr} {g : Nat} {tp : TypeId} (hg : Tryz.prog.globalNamed n = some g) (h : W.var? Tryz.prog n = some #[.iface tp (.pointer (some a))]) : ErrAt W.heap.size W n := by
  refine ⟨g, tp, _, hg, ?_, h⟩
  unfold World.var? at h
  rw [hg] at h
  simp only [Option.bind_some] at h
  rcases Nat.lt_or_ge g W.heap.size with h' | h'
  · exact h'
  · rw [Array.getElem?_eq_none h'] at h
    cases h

theorem syntax_laid {W : World} {r : List (String × DataW Unit)} (h : laidMet Tryz.prog (("strconv.ErrSyntax", Rows.laid_strconv_ErrSyntax) :: r) W) : ErrAt W.heap.size W "strconv.ErrSyntax" := by
  obtain ⟨a, s, hv, _⟩ := laid_sentinel h (g := 4) (ti := 74) (by kernel_rfl) (by kernel_rfl) Tryz.underlying74 errString_row Tryz.underlying149 Tryz.underlying151 rfl rfl Tryz.underlying9 (by kernel_rfl) (by kernel_rfl)
  exact errAt_of (g := 4) (by kernel_rfl) hv
theorem range_laid {W : World} {r : List (String × DataW Unit)} (h : laidMet Tryz.prog (("strconv.ErrRange", Rows.laid_strconv_ErrRange) :: r) W) : ErrAt W.heap.size W "strconv.ErrRange" := by
  obtain ⟨a, s, hv, _⟩ := laid_sentinel h (g := 5) (ti := 74) (by kernel_rfl) (by kernel_rfl) Tryz.underlying74 errString_row Tryz.underlying149 Tryz.underlying151 rfl rfl Tryz.underlying9 (by kernel_rfl) (by kernel_rfl)
  exact errAt_of (g := 5) (by kernel_rfl) hv

end Go.Proofs.YtiokdfkddcokoaaGreatDoor

namespace Go.Proofs.YtiokdfkddcokoaaGreatDoor
open Go.ChangeShapes Go.WideShapes Go.ChangeAt Go.RowKit Go.Deep

theorem maxL_shaped {W : World} (h : W.ShapedOpen Tryz.prog) : MaxL W.heap.size W := by
  obtain ⟨m, hm⟩ := cell_of_shapedOpen_int (P := Tryz.prog) (g := 0) (t := 3) (zero := #[.int .i64 0]) h (of_decide_eq_true (by kernel_rfl)) (by kernel_rfl) rfl (by kernel_rfl) (by kernel_rfl) Tryz.underlying3
  exact ⟨⟨m, hm⟩, World.block_lt_of_cell? W _ hm⟩

end Go.Proofs.YtiokdfkddcokoaaGreatDoor

namespace Go.Proofs.YtiokdfkddcokoaaGreatDoor
open Go.ChangeShapes Go.WideShapes Go.ChangeAt Go.RowKit Go.Deep

theorem confParses_laid (os : Os) : laidMetH Tryz.prog Rows.confParsesRow.laid ((World.laidAll Tryz.prog os Rows.confParsesRow.laid).forCall (fun _ _ => 0) ⟨#[], #[.string ⟨#[]⟩], []⟩).memory :=
  laidMet_laidAll (laid := Rows.confParsesRow.laid) _ (by kernel_rfl) (by kernel_rfl)
theorem confParses_reads (os : Os) {H : Type} (enc : TypeId × Value → H) : ∃ places, DataW.whole enc Tryz.prog ((World.laidAll Tryz.prog os Rows.confParsesRow.laid).forCall (fun _ _ => 0) ⟨#[], #[.string ⟨#[]⟩], []⟩).memory Tryz.f4.params.toList Rows.confParsesSpec.vars false (#[.string ⟨#[]⟩] : Array Value).toList 8 = some ([.lit (.string [])], [], places) :=
  ⟨[], by kernel_rfl⟩

set_option maxRecDepth 100000 in
theorem confParses_lifted (os : Os) (started : os.Started) (H : Type) (enc : TypeId × Value → H) (F : Stop.Interp) :
    ReturnsInHanded {} Tryz.checked os 4 .any ((OpenSpec.ofChange Rows.confParsesSpec).preRow enc Tryz.prog Tryz.f4 Rows.confParsesRow.domain false Rows.confParsesRow.laid) (((OpenSpec.ofChange Rows.confParsesSpec).at F).post enc Tryz.prog Tryz.f4 false true false false) := by
  obtain ⟨places, hx⟩ := confParses_reads os enc
  refine returnsInHanded_of_row (C := Tryz.checked) (s := OpenSpec.ofChange Rows.confParsesSpec) own started (by kernel_rfl) Tryz.func4
    (witness_row_at (enc := enc) (C := Tryz.checked) false (World.laidAll Tryz.prog os Rows.confParsesRow.laid) #[.string ⟨#[]⟩] (World.laidAll_os _ _ _) (by kernel_rfl) (by kernel_rfl) (by kernel_rfl)
      (OpenSpec.preRow_of_cond 8 hx (by kernel_rfl) (fun k hk => by cases hk) (by kernel_rfl) (confParses_laid os))) ?_
  intro W base args ds gs before hval0 hW hI _ _ hL hSh _
  have hval : ∀ (j : Nat) t v, Tryz.f4.params[j]? = some t → args[j]? = some v → Value.okWide Tryz.prog W .any base t v := hval0
  have hW' := hW
  obtain ⟨p, q, hA0, hV, rfl, _, _⟩ := hW
  have hA : DataW.TrodAll enc Tryz.prog W 0 (fun _ => true) true Tryz.f4.params.toList args.toList ds p := hA0
  rw [Tryz.params4] at hA hval
  obtain ⟨v0, d0, rfl, rfl, h0⟩ := trodAll_one hA
  obtain ⟨rfl, rfl⟩ := trodVars_none hV
  obtain ⟨s0, rfl, _, _, hs0⟩ := Go.ChangeMaps.open_string Tryz.underlying9 (hval 0 9 v0 rfl rfl) h0
  have hp : Pow W.heap.size W := Lib.tabBelow_of_tabIs (Lib.tabIs_of_head (rest := _) (g := 3) (t := 142) (e := 46) (n := 20) (by kernel_rfl) (by kernel_rfl) (by kernel_rfl) (by kernel_rfl) (by kernel_rfl) (by kernel_rfl) (laidMet.tail (laidMet.tail hL)))
  have he : Errs W.heap.size W := ⟨syntax_laid (laidMet.tail (laidMet.tail (laidMet.tail (laidMet.tail (laidMet.tail hL))))), range_laid (laidMet.tail (laidMet.tail (laidMet.tail (laidMet.tail hL))))⟩
  have hm : MaxL W.heap.size W := maxL_shaped hSh
  refine (confParses_any s0 W (by unfold maxLen at hs0; omega) hp he hm).mono fun e W' ⟨he, hb⟩ => ?_
  subst he
  exact ⟨_, rfl, law_post laidOut (by kernel_rfl) rfl Tryz.underlying4 rfl rfl hW' hb⟩

theorem confParses_said : Rows.ConfParsesSaid :=
  OpenClaim.holds_of_cond 4 Tryz.f4 rfl rfl rfl rfl rfl rfl rfl ⟨rfl, rfl, rfl, rfl, rfl⟩ rfl rfl rfl rfl rfl (by kernel_rfl) Tryz.func4 (by kernel_rfl)
    (of_decide_eq_true (by kernel_rfl)) (by unfold Func.isWrapper; first | (rw [if_pos (by decide +kernel)]; kernel_rfl) | (rw [if_neg (by decide +kernel)]; exact ⟨rfl, rfl⟩))
    (fun os started H enc _ F => by rw [OpenClaim.pre_eq_preRow]; exact confParses_lifted os started H enc F)

theorem confParses_plain (f : FuncId) (fn : Func) (hf : Tryz.pinned.checked.prog.funcNamed "sakia/sakialaw11.ConfParses" = some f) (hfn : Tryz.pinned.checked.prog.funcs[f]? = some fn) :
    true = Tryz.pinned.checked.prog.looks [] ∧ ∀ (j : Nat) t, fn.params[j]? = some t → Tryz.pinned.checked.prog.wantsStandIn t = false := by
  obtain rfl : f = 4 := Option.some.inj ((show Tryz.prog.funcNamed "sakia/sakialaw11.ConfParses" = some 4 by kernel_rfl).symm.trans hf) |>.symm
  obtain rfl : fn = Tryz.f4 := (Option.some.inj (Tryz.func4.symm.trans hfn)).symm
  refine ⟨by kernel_rfl, fun j t ht => ?_⟩
  have hall : (Tryz.f4.params.all fun t => !Tryz.prog.wantsStandIn t) = true := by kernel_rfl
  have := Array.all_eq_true_iff_forall_mem.1 hall t (Array.mem_of_getElem? ht)
  show Tryz.prog.wantsStandIn t = false
  simpa using this

theorem confParses_card : Rows.ConfParsesCardSaid :=
  Claim7.holds_tied_plain_at .later [] _ _ _ _ confParses_said (fun _ h => by cases h) (by kernel_rfl) (fun _ h => by cases h) confParses_row_tie rfl ⟨rfl, rfl⟩ (by kernel_rfl) rfl confParses_plain (by kernel_rfl)

end Go.Proofs.YtiokdfkddcokoaaGreatDoor
