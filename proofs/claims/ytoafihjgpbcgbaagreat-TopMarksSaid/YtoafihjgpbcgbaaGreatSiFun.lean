/- The interpreter's functions, one calling another, by fuel. Conditions: none. -/
import Derived.Test.YtoafihjgpbcgbaaGreatSiCall
namespace Go.Proofs.YtoafihjgpbcgbaaGreat.Si
noncomputable section
open Go.RowKit

/-- A call through an interface value: whose method. -/
def lookM : List (Nat × String × Nat) → Nat → String → Option Nat
  | [], _, _ => none
  | (t, m, f) :: r, u, name => if t = u ∧ m = name then some f else lookM r u name
theorem lookM_mem : ∀ {l : List (Nat × String × Nat)} {t f : Nat} {m : String}, lookM l t m = some f → (t, m, f) ∈ l
  | [], _, _, _, h => by cases h
  | (u, n, g) :: r, t, f, m, h => by
    unfold lookM at h
    split at h
    · rename_i e
      injection h with h
      obtain ⟨rfl, rfl⟩ := e
      subst h
      exact List.mem_cons_self
    · exact List.mem_cons_of_mem _ (lookM_mem h)

def calI (cf : CF) (MT : List (Nat × String × Nat)) : Cal := fun ρ s o => match o.op with
  | .call { callee := .invoke x name, args := xs, .. } => match ρ x with
    | some (.ifc t v) => (lookM MT t name).bind fun f => (evalL ρ xs.toList).bind fun qs => cf f (v :: qs) s
    | _ => none
  | _ => none

def orCal (c d : Cal) : Cal := fun ρ s o => match c ρ s o with
  | some p => some p
  | none => d ρ s o

/-- The methods are found so. -/
def MTOk (P : Program) (MT : List (Nat × String × Nat)) : Prop := ∀ p ∈ MT, ∀ v w, (method (P.types.size + Made.depth) p.1 v p.2.1).run P w = .ok (p.2.2, v) w

/-- The functions are these, and are entered. -/
abbrev FTab := List (Nat × Func × List (Nat × RI))
def FTOk (P : Program) (FT : FTab) : Prop := ∀ p ∈ FT, P.funcs[p.1]? = some p.2.1 ∧ ∀ qs w, (callFunc p.1 qs).run P w = .ok (.enter p.1 qs) w

def callF (T : TT) (MT : List (Nat × String × Nat)) (FT : FTab) : Nat → CF
  | 0, _, _, _ => none
  | k + 1, f, args, s => match look FT f with
    | none => none
    | some (fn, ri) => match fn.body with
      | none => none
      | some c => match execA T (orCal (calV (callF T MT FT k)) (calI (callF T MT FT k) MT)) (look ri) (fun _ _ _ => none) k c (args ++ List.replicate (fn.ntmps - args.length) (.tup [])) s with
        | some (.normal, ts', s') => (resA T s' ts' fn.results.toList).map fun rs => (oneOf rs, s')
        | some (.ret, ts', s') => (resA T s' ts' fn.results.toList).map fun rs => (oneOf rs, s')
        | _ => none

section
variable {F : Fence} {n : Nat} {P : Program} {T : TT}

theorem orCal_ok {c d : Cal} (h : CalOk F n P c) (k : CalOk F n P d) : CalOk F n P (orCal c d) := by
  intro B w0 w φ ρ s s' o a r hρ hs hcal K Q hK
  unfold orCal at hcal
  split at hcal
  · rename_i p hp
    injection hcal with hcal
    subst hcal
    exact h hρ hs hp K Q hK
  · exact k hρ hs hcal K Q hK

theorem calI_ok {cf : CF} {MT : List (Nat × String × Nat)} (hM : MTOk P MT) (h : CallOk F P cf) (hF : ∀ f, F.fn f) (hD : F.depth = none) : CalOk F n P (calI cf MT) := by
  intro B w0 w φ ρ s s' o a r hρ hs hcal K Q hK
  unfold calI at hcal
  split at hcal
  · rename_i x name xs ats ho
    split at hcal
    · rename_i t v hg
      simp only [Option.bind_eq_some_iff] at hcal
      obtain ⟨f, hf, qs, has, hcf⟩ := hcal
      obtain ⟨hen, hcall⟩ := h _ _ _ _ _ hcf
      have hgv := hρ _ _ hg
      simp only [conc, Option.map_eq_some_iff] at hgv
      obtain ⟨u, k1, k3⟩ := hgv
      have k4 := evalL_ok hρ has
      have hargs : concL φ (v :: qs) = some (u :: xs.toList.map a.eval) := by rw [concL_cons, k1, k4]; rfl
      have hmeth := hM _ (lookM_mem hf) u w
      dsimp only at hmeth
      have hrun : (execOp a.eval o).run P w = .ok (.enter f (u :: xs.toList.map a.eval).toArray) w := by
        have e1 : execOp a.eval o = (do let d ← resolve a.eval { callee := .invoke x name, args := xs, argTypes := ats } o.type; invoke d.target d.args) := by unfold execOp; rw [ho]
        rw [e1]
        simp only [resolve, ← k3, Sem.run_bind, Sem.run_pure, Result.andThen_ok, invoke]
        have e2 : (#[Value.iface t u] ++ xs.map a.eval)[0]? = some (.iface t u) := by rw [Array.getElem?_append_left (Nat.lt_succ_self 0)]; rfl
        simp only [e2, callMethod, Sem.run_bind, run_program, Result.andThen_ok, hmeth]
        rw [hen]
        congr 2
        apply Array.ext'
        simp [List.take_of_length_le]
      refine ⟨fun f _ => hF f, ?_⟩
      rw [Oper.semAt_eq _ _ _ (fun c e => by rw [e] at ho; cases ho), hrun]
      rw [Oper.uponIn_enter]
      exact ⟨fun hd => by rw [hD] at hd; simp at hd, hcall (n - 1) B w0 w φ _ hargs hs _ hK⟩
    · cases hcal
  · cases hcal

theorem callF_ok (hT : TypesOk P T) {MT : List (Nat × String × Nat)} (hM : MTOk P MT) {FT : FTab} (hFT : FTOk P FT) (hF : ∀ f, F.fn f) (hD : F.depth = none) (hro : F.round = none) (hm : P.follows .mixedOrders = true) : ∀ k, CallOk F P (callF T MT FT k)
  | 0 => fun f args s r s' h => by simp [callF] at h
  | k + 1 => fun f args s r s' h => by
    have ih := callF_ok hT hM hFT hF hD hro hm k
    simp only [callF] at h
    split at h
    · cases h
    · rename_i fn ri hl
      obtain ⟨hf, hen⟩ := hFT _ (look_mem hl)
      split at h
      · cases h
      · rename_i c hb
        refine ⟨hen, fun n B w0 w φ qs hq hs R hR => ?_⟩
        have hcal : CalOk F n P (orCal (calV (callF T MT FT k)) (calI (callF T MT FT k) MT)) := orCal_ok (calV_ok ih hF hD) (calI_ok hM ih hF hD)
        have hoth : OthOk F n P (fun _ _ _ => none) := fun _ _ _ _ _ _ h => by cases h
        split at h
        · rename_i ts' s1 hx
          simp only [Option.map_eq_some_iff] at h
          obtain ⟨rs, hrs, h⟩ := h
          obtain ⟨rfl, rfl⟩ : oneOf rs = r ∧ s1 = s' := by simpa using h
          exact fun_ok hT hf hb (hF f) hro (exec_ok hT hcal hF hm hoth k c _ s _ ts' s1 hx) (.inl rfl) hrs hq hs hR
        · rename_i ts' s1 hx
          simp only [Option.map_eq_some_iff] at h
          obtain ⟨rs, hrs, h⟩ := h
          obtain ⟨rfl, rfl⟩ : oneOf rs = r ∧ s1 = s' := by simpa using h
          exact fun_ok hT hf hb (hF f) hro (exec_ok hT hcal hF hm hoth k c _ s _ ts' s1 hx) (.inr rfl) hrs hq hs hR
        · cases h

end
end
end Go.Proofs.YtoafihjgpbcgbaaGreat.Si
