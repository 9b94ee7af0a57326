/- Calls that have been run already: their results are taken over where arguments and state are the same. Conditions: none. -/
import Derived.Test.YtoafihjgpbcgbaaGreatSiAll
namespace Go.Proofs.YtoafihjgpbcgbaaGreat.Si
noncomputable section
open Go.RowKit

/-- Objects are put, one after the other; each is looked at, so that the kernel carries it out. -/
def updT (t : Tr) (l : List (Nat × Option AO)) : Tr := List.rec (motive := fun _ => Tr → Tr) (fun t => t) (fun p _ ih t => Option.rec (motive := fun _ => Tr) (ih (t.set dep p.1 p.2)) (fun _ => ih (t.set dep p.1 p.2)) ((t.set dep p.1 p.2).get dep p.1)) l t

/-- Is it the same object? (loops: never) -/
def beqO : AO → AO → Bool
  | .cells cs t, .cells cs' t' => Nat.beq t t' && beqL cs cs'
  | .dfr, .dfr => true
  | _, _ => false
theorem beqO_eq (o p : AO) (h : beqO o p = true) : o = p := by
  unfold beqO at h
  split at h
  · simp only [Bool.and_eq_true] at h
    rw [Nat.eq_of_beq_eq_true h.1, beqL_eq _ _ h.2]
  · rfl
  · cases h

/-- Is it the same tree? -/
def beqT (t : Tr) : Tr → Bool := Tr.rec (motive := fun _ => Tr → Bool) (fun u => Tr.rec (motive := fun _ => Bool) true (fun _ => false) (fun _ _ _ _ => false) u)
  (fun o u => Tr.rec (motive := fun _ => Bool) false (fun p => beqO o p) (fun _ _ _ _ => false) u)
  (fun _ _ il ir u => Tr.rec (motive := fun _ => Bool) false (fun _ => false) (fun l r _ _ => Bool.rec (motive := fun _ => Bool) false (ir r) (il l)) u) t

theorem beqT_eq : ∀ (t u : Tr), beqT t u = true → t = u
  | .e, .e, _ => rfl
  | .e, .leaf _, h => by cases h
  | .e, .n _ _, h => by cases h
  | .leaf _, .e, h => by cases h
  | .leaf o, .leaf p, h => by rw [beqO_eq o p h]
  | .leaf _, .n _ _, h => by cases h
  | .n _ _, .e, h => by cases h
  | .n _ _, .leaf _, h => by cases h
  | .n l r, .n l' r', h => by
    have h' : Bool.rec (motive := fun _ => Bool) false (beqT r r') (beqT l l') = true := h
    cases hl : beqT l l' with
    | false => rw [hl] at h'; cases h'
    | true => rw [hl] at h'; rw [beqT_eq l l' hl, beqT_eq r r' h']

/-- A call that has been run: function, arguments, state, result, state after. -/
structure Orc where
  f : Nat
  args : List AV
  s0 : St
  r : AV
  s1 : St

/-- The run has come to what is said. -/
def chkO (x : Option (AV × St)) (e : Orc) : Bool := match x with
  | some (r, s) => beqA r e.r && Nat.beq s.next e.s1.next && beqT s.t e.s1.t
  | none => false
theorem chkO_eq {x : Option (AV × St)} {e : Orc} (h : chkO x e = true) : x = some (e.r, e.s1) := by
  unfold chkO at h
  split at h
  · rename_i r s
    simp only [Bool.and_eq_true] at h
    have e1 := beqA_eq _ _ h.1.1
    have e2 := Nat.eq_of_beq_eq_true h.1.2
    have e3 := beqT_eq _ _ h.2
    obtain ⟨t, nx⟩ := s
    dsimp only at e2 e3
    rw [e1, e2, e3]
  · cases h

def findO : List Orc → Nat → List AV → St → Option (AV × St)
  | [], _, _, _ => none
  | e :: l, f, args, s => bif Nat.beq e.f f && Nat.beq e.s0.next s.next then (bif beqL e.args args && beqT e.s0.t s.t then some (e.r, e.s1) else none) else findO l f args s

/-- What the calls that have been run do. -/
def orcA (OT : List Orc) (F : List Nat) : Cal := fun ρ s o => match o.op with
  | .call { callee := .value (.func f), args := xs, .. } => bif F.any (fun g => Nat.beq g f) then (evalL ρ xs.toList).bind fun qs => findO OT f qs s else none
  | _ => none

/-- It has been run so. -/
def OrcOk (P : Program) (e : Orc) : Prop := (∀ qs w, (callFunc e.f qs).run P w = .ok (.enter e.f qs) w) ∧
  ∀ (n B : Nat) (w0 w : World) (φ : Phi) (qs : List Value), concL φ e.args = some qs → Stands B w0 φ e.s0 w → ∀ R : Ending → World → Prop,
    (∀ φ' w' v, Eff B w0 φ φ' e.s0 e.s1 w' → conc φ' e.r = some v → R (.returned v) w') → CallsIn Fence.wide n P e.f qs.toArray w R

theorem findO_ok {P : Program} : ∀ {OT : List Orc}, (∀ e ∈ OT, OrcOk P e) → ∀ {f : Nat} {args : List AV} {s s' : St} {r : AV}, findO OT f args s = some (r, s') → OrcOk P ⟨f, args, s, r, s'⟩
  | [], _, _, _, _, _, _, h => by cases h
  | e :: l, hO, f, args, s, s', r, h => by
    unfold findO at h
    cases h1 : (Nat.beq e.f f && Nat.beq e.s0.next s.next) with
    | false =>
      rw [h1] at h
      exact findO_ok (fun e he => hO e (List.mem_cons_of_mem _ he)) h
    | true =>
      rw [h1] at h
      simp only [cond_true] at h
      cases h2 : (beqL e.args args && beqT e.s0.t s.t) with
      | false => rw [h2] at h; cases h
      | true =>
        rw [h2] at h
        simp only [cond_true, Option.some.injEq, Prod.mk.injEq] at h
        simp only [Bool.and_eq_true] at h1 h2
        have e1 := Nat.eq_of_beq_eq_true h1.1
        have e2 := Nat.eq_of_beq_eq_true h1.2
        have e3 := beqL_eq _ _ h2.1
        have e4 := beqT_eq _ _ h2.2
        have e5 : e.s0 = s := by
          obtain ⟨t, nx⟩ := s
          have : e.s0 = ⟨e.s0.t, e.s0.next⟩ := rfl
          rw [this, e4, e2]
        have := hO e List.mem_cons_self
        obtain ⟨f0, a0, s0, r0, s1⟩ := e
        dsimp only at e1 e3 e5 h
        obtain ⟨rfl, rfl⟩ := h
        subst e1 e3 e5
        exact this

theorem orcA_ok {P : Program} {OT : List Orc} {FL : List Nat} (hO : ∀ e ∈ OT, OrcOk P e) (F : Fence) (hw : F = Fence.wide ∨ ∃ l, F = Fence.wide.inRound l) (n : Nat) : CalOk F n P (orcA OT FL) := by
  intro B w0 w φ ρ s s' o a r hρ hs hcal K Q hK
  unfold orcA at hcal
  split at hcal
  · rename_i f xs ats ho
    cases hF : FL.any (fun g => Nat.beq g f) with
    | false => rw [hF] at hcal; cases hcal
    | true =>
      rw [hF] at hcal
      simp only [cond_true, Option.bind_eq_some_iff] at hcal
      obtain ⟨qs, has, hfo⟩ := hcal
      obtain ⟨hen, hcall⟩ := findO_ok hO hfo
      dsimp only at hen hcall
      have k4 := evalL_ok hρ has
      have hrun : (execOp a.eval o).run P w = .ok (.enter f (xs.toList.map a.eval).toArray) w := by
        have e1 : execOp a.eval o = (do let d ← resolve a.eval { callee := .value (.func f), args := xs, argTypes := ats } o.type; invoke d.target d.args) := by unfold execOp; rw [ho]
        have e2 : a.eval (.func f) = .func (.func f) #[] #[] := rfl
        rw [e1]
        simp only [resolve, e2, Deferred.ofValue, Sem.run_bind, Sem.run_pure, Result.andThen_ok, invoke]
        rw [hen]
        congr 2
        apply Array.ext'
        simp
      have hall : ∀ f, F.fn f := by rcases hw with rfl | ⟨l, rfl⟩ <;> exact fun _ => trivial
      have hdep : F.depth.isSome = true → 1 ≤ n := by rcases hw with rfl | ⟨l, rfl⟩ <;> exact fun h => by cases h
      refine ⟨fun f _ => hall f, ?_⟩
      rw [Oper.semAt_eq _ _ _ (fun c e => by rw [e] at ho; cases ho), hrun]
      rw [Oper.uponIn_enter]
      refine ⟨hdep, ?_⟩
      have hc : ∀ R : Ending → World → Prop, (∀ φ' w' v, Eff B w0 φ φ' s s' w' → conc φ' r = some v → R (.returned v) w') → CallsIn F (n - 1) P f (xs.toList.map a.eval).toArray w R := fun R hR => by
        have := hcall (n - 1) B w0 w φ _ k4 hs R hR
        rcases hw with rfl | ⟨l, rfl⟩
        · exact this
        · exact this
      exact hc _ hK
  · cases hcal

end
end Go.Proofs.YtoafihjgpbcgbaaGreat.Si
