/- The run of works(): it returns true, from whatever world, and turns nothing that lay there. Conditions: none. -/
import Derived.Test.YtoafihjgpbcgbaaGreatSiTypes
import Derived.Test.YtoafihjgpbcgbaaGreatSiOrcs
import Derived.Test.YtoafihjgpbcgbaaGreatSiRunA
import Derived.Test.YtoafihjgpbcgbaaGreatSiRunB
import Derived.Test.YtoafihjgpbcgbaaGreatSiRunC
namespace Go.Proofs.YtoafihjgpbcgbaaGreat.Si
open Go.RowKit

theorem siFuncs : FuncsAre Tryz.prog siFT := ⟨Tryz.func5, Tryz.func12, Tryz.func13, Tryz.func14, Tryz.func15, Tryz.func16, Tryz.func20, Tryz.func21, Tryz.func22, Tryz.func23, Tryz.func24, Tryz.func26, Tryz.func27, Tryz.func28, Tryz.func29, Tryz.func30, Tryz.func31, Tryz.func32, Tryz.func33, Tryz.func34, Tryz.func35, Tryz.func36, Tryz.func37, Tryz.func38, Tryz.func39, Tryz.func40, Tryz.func41, Tryz.func42, Tryz.func43, Tryz.func44, Tryz.func45, Tryz.func46, Tryz.func47, Tryz.func48, Tryz.func49, Tryz.func50, Tryz.func51, Tryz.func52, Tryz.func53, Tryz.func54, Tryz.func55, Tryz.func56, Tryz.func57, Tryz.func58, Tryz.func59, Tryz.func60, Tryz.func61, Tryz.func62, Tryz.func63, Tryz.func64, Tryz.func65, Tryz.func66, Tryz.func67, Tryz.func68, Tryz.func69, Tryz.func70, Tryz.func71, Tryz.func72, Tryz.func73, Tryz.func74, Tryz.func75, Tryz.func76, Tryz.func77, Tryz.func78, Tryz.func79, Tryz.func80, Tryz.func81, Tryz.func82, Tryz.func83, Tryz.func84, Tryz.func85, Tryz.func86, Tryz.func87, Tryz.func88, Tryz.func89, Tryz.func108, Tryz.func109, Tryz.func110, Tryz.func111, Tryz.func112, Tryz.func113, Tryz.func114, Tryz.func115, Tryz.func116, Tryz.func117, Tryz.func118, Tryz.func119, Tryz.func120, Tryz.func121, Tryz.func122, Tryz.func123, Tryz.func124, Tryz.func125, Tryz.func126, Tryz.func127, Tryz.func128, Tryz.func129, Tryz.func130, Tryz.func131, Tryz.func132, Tryz.func133, Tryz.func134, Tryz.func135, Tryz.func136, Tryz.func137, Tryz.func138, Tryz.func139, Tryz.func140, Tryz.func141, Tryz.func142, Tryz.func143, Tryz.func144, Tryz.func145, Tryz.func146, Tryz.func147, Tryz.func148, Tryz.func149, Tryz.func150, Tryz.func151, Tryz.func152, Tryz.func153, Tryz.func154, Tryz.func155, Tryz.func156, Tryz.func157, Tryz.func158, Tryz.func159, Tryz.func160, Tryz.func161, Tryz.func162, Tryz.func163, Tryz.func164, Tryz.func165, Tryz.func166, Tryz.func167, Tryz.func168, trivial⟩
theorem siMT_ok : MTOk Tryz.prog siMT := by
  intro p hp v w
  simp only [siMT, List.mem_cons, List.not_mem_nil, or_false] at hp
  rcases hp with rfl | rfl | rfl <;> kernel_rfl

theorem siT_ok : TypesOk Tryz.prog siT := typesB_ok (by kernel_rfl)
theorem siFT_ok : FTabOk Tryz.prog siFT := ftab_ok siFuncs (by kernel_rfl)
theorem siMixed : Tryz.prog.follows .mixedOrders = true := by kernel_rfl

/-- The run has come to true. -/
def trueRun (o : Option (AV × St)) : Bool := match o with
  | some (.bool true, _) => true
  | _ => false
theorem works_run : trueRun (runK siT siMT siFT (orCal (tagE 80) (orcA siOT2 siOF2)) 120 false 5 [] ⟨.e, 0⟩) = true := by kernel_rfl

theorem allOf {F : Fence} (hw : F = Fence.wide ∨ ∃ l, F = Fence.wide.inRound l) : ∀ f, F.fn f := by
  rcases hw with rfl | ⟨l, rfl⟩ <;> exact fun _ => trivial
theorem orc_of {E : Cal} (hE : ∀ F, (F = Fence.wide ∨ ∃ l, F = Fence.wide.inRound l) → ∀ n, CalOk F n Tryz.prog E) {k : Nat} {e : Orc} (h : chkO (runK siT siMT siFT E k false e.f e.args e.s0) e = true) : OrcOk Tryz.prog e :=
  (runK_ok siT_ok siMT_ok siFT_ok hE siMixed k).1 _ _ _ _ _ (chkO_eq h)

theorem tag_all (F : Fence) (hw : F = Fence.wide ∨ ∃ l, F = Fence.wide.inRound l) (n : Nat) : CalOk F n Tryz.prog (tagE 80) := tagE_ok F n (allOf hw)

theorem siOT_ok : ∀ e ∈ siOT, OrcOk Tryz.prog e := by
  intro e he
  simp only [siOT, List.mem_cons, List.not_mem_nil, or_false] at he
  rcases he with rfl | rfl | rfl | rfl | rfl | rfl | rfl | rfl | rfl | rfl | rfl | rfl | rfl
  · exact orc_of (fun F hw n => tag_all F hw n) siR0
  · exact orc_of (fun F hw n => tag_all F hw n) siR1
  · exact orc_of (fun F hw n => tag_all F hw n) siR2
  · exact orc_of (fun F hw n => tag_all F hw n) siR3
  · exact orc_of (fun F hw n => tag_all F hw n) siR4
  · exact orc_of (fun F hw n => tag_all F hw n) siR5
  · exact orc_of (fun F hw n => tag_all F hw n) siR6
  · exact orc_of (fun F hw n => tag_all F hw n) siR7
  · exact orc_of (fun F hw n => tag_all F hw n) siR8
  · exact orc_of (fun F hw n => tag_all F hw n) siR10
  · exact orc_of (fun F hw n => tag_all F hw n) siR11
  · exact orc_of (fun F hw n => tag_all F hw n) siR12
  · exact orc_of (fun F hw n => tag_all F hw n) siR13
theorem siOT2_ok : ∀ e ∈ siOT2, OrcOk Tryz.prog e := by
  intro e he
  simp only [siOT2, List.mem_cons, List.not_mem_nil, or_false] at he
  rcases he with rfl | rfl | rfl | rfl | rfl | rfl | rfl | rfl | rfl | rfl | rfl | rfl | rfl | rfl
  · exact orc_of (fun F hw n => orCal_ok (tag_all F hw n) (orcA_ok siOT_ok F hw n)) siR9
  · exact orc_of (fun F hw n => tag_all F hw n) siR0
  · exact orc_of (fun F hw n => tag_all F hw n) siR1
  · exact orc_of (fun F hw n => tag_all F hw n) siR2
  · exact orc_of (fun F hw n => tag_all F hw n) siR3
  · exact orc_of (fun F hw n => tag_all F hw n) siR4
  · exact orc_of (fun F hw n => tag_all F hw n) siR5
  · exact orc_of (fun F hw n => tag_all F hw n) siR6
  · exact orc_of (fun F hw n => tag_all F hw n) siR7
  · exact orc_of (fun F hw n => tag_all F hw n) siR8
  · exact orc_of (fun F hw n => tag_all F hw n) siR10
  · exact orc_of (fun F hw n => tag_all F hw n) siR11
  · exact orc_of (fun F hw n => tag_all F hw n) siR12
  · exact orc_of (fun F hw n => tag_all F hw n) siR13

/-- works() returns true, from whatever world; what lay there lies as it lay. -/
theorem works_any (w : World) : Calls Tryz.prog 5 #[] w fun e w' => e = .returned (.bool true) ∧ Below w.heap.size w w' := by
  have hE : ∀ F, (F = Fence.wide ∨ ∃ l, F = Fence.wide.inRound l) → ∀ n, CalOk F n Tryz.prog (orCal (tagE 80) (orcA siOT2 siOF2)) := fun F hw n => orCal_ok (tag_all F hw n) (orcA_ok siOT2_ok F hw n)
  have h := works_run
  unfold trueRun at h
  split at h
  · rename_i s' hrun
    obtain ⟨_, hc⟩ := (runK_ok siT_ok siMT_ok siFT_ok hE siMixed 120).1 _ _ _ _ _ hrun
    refine callsIn_wide.1 (hc 0 w.heap.size w w (fun _ => none) [] rfl ⟨Below.refl _ w, Nat.le_refl _, Nat.zero_le _, fun i L h => by (cases h), fun i L o h => by (cases h), fun i j L M o p h => by (cases h)⟩ _ fun φ' w' v hE hv => ?_)
    injection hv with hv
    exact ⟨by rw [hv], hE.stands.below⟩
  · cases h

end Go.Proofs.YtoafihjgpbcgbaaGreat.Si
