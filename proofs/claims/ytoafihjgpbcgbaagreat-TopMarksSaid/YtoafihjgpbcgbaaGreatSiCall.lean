/- The interpreter's calls of functions by value, function by function. Conditions: none. -/
import Derived.Test.YtoafihjgpbcgbaaGreatSiCode
import Derived.RangeFuncCalls
namespace Go.Proofs.YtoafihjgpbcgbaaGreat.Si
noncomputable section
open Go.RowKit

/-- A function is called and comes back. -/
abbrev CF := Nat → List AV → St → Option (AV × St)

/-- Calls are carried out qs the interpreter says. -/
def CallOk (F : Fence) (P : Program) (cf : CF) : Prop := ∀ f args s r s', cf f args s = some (r, s') → (∀ qs w, (callFunc f qs).run P w = .ok (.enter f qs) w) ∧
  ∀ (n B : Nat) (w0 w : World) (φ : Phi) (qs : List Value), concL φ args = some qs → Stands B w0 φ s w → ∀ R : Ending → World → Prop,
    (∀ φ' w' v, Eff B w0 φ φ' s s' w' → conc φ' r = some v → R (.returned v) w') → CallsIn F n P f qs.toArray w R

/-- A call of a function value. -/
def calV (cf : CF) : Cal := fun ρ s o => match o.op with
  | .call { callee := .value g, args := xs, .. } => match ρ g with
    | some (.fn (.func f) first cap) => (evalL ρ xs.toList).bind fun qs => cf f (first ++ qs ++ cap) s
    | _ => none
  | _ => none

/-- The results. -/
def resA (T : TT) (s : St) (ts : List AV) : List ResultVar → Option (List AV)
  | [] => some []
  | .tmp t :: r => (resA T s ts r).map fun l => getQ (.tup []) ts t :: l
  | .cell a t :: r => (loadA T s t (getQ (.tup []) ts a)).bind fun v => (resA T s ts r).map fun l => v :: l
def oneOf : List AV → AV
  | [v] => v
  | l => .tup l

section
variable {F : Fence} {n : Nat} {P : Program} {T : TT}

theorem calV_ok {cf : CF} (h : CallOk F P cf) (hF : ∀ f, F.fn f) (hD : F.depth = none) : CalOk F n P (calV cf) := by
  intro B w0 w φ ρ s s' o a r hρ hs hcal K Q hK
  unfold calV at hcal
  split at hcal
  · rename_i g xs ats ho
    split at hcal
    · rename_i f first cap hg
      simp only [Option.bind_eq_some_iff] at hcal
      obtain ⟨qs, has, hcf⟩ := hcal
      obtain ⟨hen, hcall⟩ := h _ _ _ _ _ hcf
      have hgv := hρ _ _ hg
      simp only [conc, Option.bind_eq_some_iff, Option.map_eq_some_iff] at hgv
      obtain ⟨fs, k1, cs, k2, k3⟩ := hgv
      have k4 := evalL_ok hρ has
      have hargs := concL_append (concL_append (show concL φ first = some fs from k1) k4) (show concL φ cap = some cs from k2)
      have hrun : (execOp a.eval o).run P w = .ok (.enter f (fs ++ xs.toList.map a.eval ++ cs).toArray) w := by
        have e1 : execOp a.eval o = (do let d ← resolve a.eval { callee := .value g, args := xs, argTypes := ats } o.type; invoke d.target d.args) := by unfold execOp; rw [ho]
        rw [e1]
        simp only [resolve, ← k3, Deferred.ofValue, Sem.run_bind, Sem.run_pure, Result.andThen_ok, invoke]
        rw [hen]
        congr 2
        apply Array.ext'
        simp
      refine ⟨fun f _ => hF f, ?_⟩
      rw [Oper.semAt_eq _ _ _ (fun c e => by rw [e] at ho; cases ho), hrun]
      rw [Oper.uponIn_enter]
      exact ⟨fun hd => by rw [hD] at hd; simp at hd, hcall (n - 1) B w0 w φ _ hargs hs _ hK⟩
    · cases hcal
  · cases hcal

/-- One result, read. -/
def resOne (tmps : Array Value) : ResultVar → Sem Value
  | .tmp t => pure (tmps.getD t undef)
  | .cell c t => do loadVar t (← asAddr (tmps.getD c undef))

theorem res_ok (hT : TypesOk P T) {B : Nat} {w0 w : World} {φ : Phi} {s : St} {ts : List AV} {a : Act} (ha : Slots φ ts a) (hs : Stands B w0 φ s w) : ∀ {l : List ResultVar} {rs : List AV}, resA T s ts l = some rs →
    ∃ vs, concL φ rs = some vs ∧ (l.mapM (resOne a.tmps)).run P w = .ok vs w
  | [], rs, h => by
    injection h with h
    subst h
    exact ⟨[], rfl, by simp⟩
  | .tmp t :: r, rs, h => by
    simp only [resA, Option.map_eq_some_iff] at h
    obtain ⟨l, hl, rfl⟩ := h
    obtain ⟨vs, k1, k2⟩ := res_ok hT ha hs hl
    refine ⟨a.eval (.tmp t) :: vs, by rw [concL_cons, ha.eval (.tmp t) _ rfl, k1]; rfl, ?_⟩
    rw [List.mapM_cons, Sem.run_bind]
    simp only [resOne, Sem.run_pure, Result.andThen_ok]
    rw [Sem.run_bind, k2]
    simp [Act.eval]
  | .cell c t :: r, rs, h => by
    simp only [resA, Option.bind_eq_some_iff, Option.map_eq_some_iff] at h
    obtain ⟨v, hv, l, hl, rfl⟩ := h
    obtain ⟨vs, k1, k2⟩ := res_ok hT ha hs hl
    obtain ⟨u, m1, m2⟩ := load_ok hT hs hv (ha.eval (.tmp c) _ rfl)
    refine ⟨u :: vs, by rw [concL_cons, m1, k1]; rfl, ?_⟩
    have hp : ∃ id off, getQ (.tup []) ts c = .ptr id off := by
      unfold loadA at hv
      split at hv
      · rename_i id off ti h1 _
        exact ⟨id, off, h1⟩
      · cases hv
    obtain ⟨id, off, hp⟩ := hp
    have he := ha.eval (.tmp c) _ rfl
    rw [hp] at he
    obtain ⟨L, _, he⟩ := ptr_of he
    have he' : a.tmps.getD c undef = .pointer (some ⟨L.blk, L.base + off, none⟩) := he
    rw [he] at m2
    rw [List.mapM_cons, Sem.run_bind]
    simp only [resOne, he', asAddr, Sem.run_bind, Sem.run_pure, Result.andThen_ok]
    simp only [Instr.loadAt, Instr.sureAddr, Sem.run_bind, Sem.run_pure, Result.andThen_ok] at m2
    rw [m2]
    simp only [Result.andThen_ok]
    rw [k2]
    simp

theorem oneOf_ok {φ : Phi} {rs : List AV} {vs : List Value} (h : concL φ rs = some vs) : conc φ (oneOf rs) = some (if h : vs.toArray.size = 1 then vs.toArray[0] else .tuple vs.toArray) := by
  have hl := concL_len h
  unfold oneOf
  split
  · rename_i v
    rw [concL_cons] at h
    simp only [Option.bind_eq_some_iff, Option.map_eq_some_iff, concL_nil] at h
    obtain ⟨x, h1, y, h2, rfl⟩ := h
    injection h2 with h2
    subst h2
    simpa using h1
  · rename_i hne
    have h1 : ¬ vs.length = 1 := fun e => by
      rw [hl] at e
      obtain ⟨v, rfl⟩ := List.length_eq_one_iff.1 e
      exact hne v rfl
    simp only [List.size_toArray, h1, dif_neg, not_false_eq_true]
    simp [conc, show conc.concL φ rs = _ from h]

theorem results_ok (hT : TypesOk P T) {B : Nat} {w0 w : World} {φ : Phi} {s : St} {ts : List AV} {a : Act} (ha : Slots φ ts a) (hs : Stands B w0 φ s w) {fn : Func} {rs : List AV} (h : resA T s ts fn.results.toList = some rs) :
    ∃ v, conc φ (oneOf rs) = some v ∧ (results fn a.tmps).run P w = .ok v w := by
  obtain ⟨vs, k1, k2⟩ := res_ok hT ha hs h
  refine ⟨_, oneOf_ok k1, ?_⟩
  have e : (fn.results.mapM (resOne a.tmps)).run P w = .ok vs.toArray w := by
    obtain ⟨l⟩ : ∃ l, fn.results = ⟨l⟩ := ⟨fn.results.toList, rfl⟩
    rename_i hl
    rw [hl] at k2 ⊢
    rw [List.mapM_toArray, map_eq_pure_bind, Sem.run_bind, k2]
    simp
  have e2 : results fn a.tmps = (do let vs ← fn.results.mapM (resOne a.tmps); pure (if h : vs.size = 1 then vs[0] else .tuple vs)) := by
    unfold results
    congr 1
  rw [e2, Sem.run_bind, e]
  rfl

/-- A function that lays down no deferred call. -/
theorem fun_ok (hT : TypesOk P T) {f : FuncId} {fn : Func} {c : Code} (hf : P.funcs[f]? = some fn) (hb : fn.body = some c) (hF : F.fn f) (hro : F.round = none) {args ts' : List AV} {s s' : St} {e : Ex} {rs : List AV}
    (hrun : Runs F n P c (args ++ List.replicate (fn.ntmps - args.length) (.tup [])) s e ts' s') (he : e = .normal ∨ e = .ret) (hres : resA T s' ts' fn.results.toList = some rs)
    {B : Nat} {w0 w : World} {φ : Phi} {qs : List Value} (hq : concL φ args = some qs) (hs : Stands B w0 φ s w) {R : Ending → World → Prop} (hR : ∀ φ' w' v, Eff B w0 φ φ' s s' w' → conc φ' (oneOf rs) = some v → R (.returned v) w') : CallsIn F n P f qs.toArray w R := by
  have hl := concL_len hq
  have hrep : ∀ k, concL φ (List.replicate k (.tup [])) = some (List.replicate k undef) := fun k => by
    induction k with
    | zero => rfl
    | succ k ih => rw [List.replicate_succ, List.replicate_succ, concL_cons, ih]; rfl
  refine callsIn_of_wp hf hb hF ?_ hro
  refine hrun B w0 w φ _ (by
    have := concL_append hq (hrep (fn.ntmps - args.length))
    simpa [Slots, hl] using this) hs _ fun φ' w' a' hE hsl hd => ?_
  obtain ⟨v, k1, k2⟩ := results_ok hT hsl hE.stands hres
  rcases he with rfl | rfl
  · exact ⟨hd, v, k2, hR φ' w' v hE k1⟩
  · exact ⟨hd, v, k2, hR φ' w' v hE k1⟩

end
end
end Go.Proofs.YtoafihjgpbcgbaaGreat.Si
