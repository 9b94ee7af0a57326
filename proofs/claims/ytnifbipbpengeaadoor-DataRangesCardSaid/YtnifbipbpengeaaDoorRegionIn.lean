/- A region that draws its order in a round of a loop over a function: it goes as anywhere. Conditions: none. -/
import Derived.Test.YtnifbipbpengeaaDoorRegion
import Derived.OrdersIn
import Derived.RangeFuncCalls
namespace Go.Proofs.YtnifbipbpengeaaDoor
open Go.RowKit

section
variable {P : Program} {ops : Array Oper} {Q : Exit → Act → World → Prop} {md : Region.Mode} {l n : Nat}

theorem wpIn_of_wp {o : Oper} (hd : ∀ c, o.op ≠ .defer c) {a : Act} {w : World} {K : Act → World → Prop} (h : o.wp P a w K Q) : o.wpIn (Fence.wide.inRound l) n P a w K Q := by
  refine ⟨fun _ _ => trivial, ?_⟩
  rw [Oper.semAt_eq _ _ _ hd]
  unfold Oper.wp at h
  generalize (execOp a.eval o).run P w = r at *
  cases r with
  | ok x w' =>
    cases x <;> simp only [Oper.upon, Oper.uponIn] at h ⊢ <;>
      first
        | exact h
        | exact ⟨(fun hh => by cases hh), CallsIn.inRound l (callsIn_wide.2 h)⟩
        | exact ⟨(fun hh => by cases hh), fun c cs _ => let ⟨v, w1, r, s⟩ := h c cs; ⟨v, w1, r, stepsIn_wide.2 s⟩⟩
  | halt x w' => cases x <;> simp only [Oper.upon, Oper.uponIn] at h ⊢ <;> exact h

theorem wpAnyIn_of (hd : ∀ (i : Nat) (o : Oper) c, ops[i]? = some o → o.op ≠ .defer c) (hQ : ¬ LetsOut Q) : ∀ (fuel : Nat) (listed : Array Bool) (a : Act) (w : World),
    wpAny P md ops Q fuel listed a w → wpAnyIn (Fence.wide.inRound l) n P md ops Q fuel listed a w
  | 0, _, _, _, h => h
  | fuel + 1, listed, a, w, h => ⟨h.1, fun i hi => by
      have hh := wpOp_mono (fun a' w' h' => wpAnyIn_of hd hQ fuel _ a' w' h') (h.2 i hi)
      unfold wpOp at hh
      unfold wpOpIn
      cases ho : ops[i]? with
      | none => rw [ho] at hh; exact hh
      | some o =>
        rw [ho] at hh
        dsimp only at hh ⊢
        by_cases hw : Region.wanted o (yielded ops a.tmps) = true
        · rw [if_pos hw] at hh ⊢
          exact wpIn_of_wp (hd i o · ho) (hh.resolve_right fun h2 => hQ h2.2)
        · rw [if_neg hw] at hh ⊢
          exact ⟨fun _ _ => trivial, hh⟩⟩

theorem wpIn_region_but {id : Nat} {a : Act} {w : World} (L : Nat) (S : World → Prop) (hm : P.follows .mixedOrders = true) (hd : ∀ (i : Nat) (o : Oper) c, ops[i]? = some o → o.op ≠ .defer c) (hQ : ¬ LetsOut Q) (hS : S w.drew)
    (h : S w.drew → AnyBut P .any ops Q S L ops.size (Array.replicate ops.size false) a w.drew) : (Code.region id ops true).wpIn (Fence.wide.inRound l) n P Q a w :=
  wpIn_region_any hm (wpAnyIn_of hd hQ _ _ _ _ (AnyBut.any _ _ _ _ (h hS)))

/-- No operation of a list is a defer statement. -/
theorem noDefer_of {l : List Oper} (h : l.all (fun o => !(o.op matches .defer _)) = true) : ∀ (i : Nat) (o : Oper) c, (l.toArray)[i]? = some o → o.op ≠ .defer c := by
  intro i o c ho e
  have hm : o ∈ l := by simpa using Array.mem_of_getElem? ho
  have := List.all_eq_true.1 h o hm
  rw [e] at this
  cases this

end
end Go.Proofs.YtnifbipbpengeaaDoor
