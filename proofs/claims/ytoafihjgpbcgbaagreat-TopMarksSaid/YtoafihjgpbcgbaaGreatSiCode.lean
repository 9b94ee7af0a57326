/- The interpreter's code: all but scopes and ranges over functions. Conditions: none. -/
import Derived.Test.YtoafihjgpbcgbaaGreatSiRegion
import Derived.LoopNIn
namespace Go.Proofs.YtoafihjgpbcgbaaGreat.Si
noncomputable section
open Go.RowKit

/-- How code ends. -/
inductive Ex where
  | normal
  | exit (id : Nat)
  | goto (l : Nat)
  | ret

def Ex.toExit : Ex → Exit
  | .normal => .normal
  | .exit id => .exit id
  | .goto l => .goto l
  | .ret => .ret

/-- Orders, bits and ranks of the regions that draw their order. -/
structure RI where
  ord : List Nat
  b : List Nat
  rk : List Nat

/-- What code does; 'oth': scopes and ranges over functions, given from without. -/
def execA (T : TT) (cal : Cal) (ri : Nat → Option RI) (oth : Code → List AV → St → Option (Ex × List AV × St)) : Nat → Code → List AV → St → Option (Ex × List AV × St)
  | 0, _, _, _ => none
  | _ + 1, .skip, ts, s => some (.normal, ts, s)
  | _ + 1, .label _, ts, s => some (.normal, ts, s)
  | _ + 1, .exit id, ts, s => some (.exit id, ts, s)
  | _ + 1, .goto l, ts, s => some (.goto l, ts, s)
  | _ + 1, .ret, ts, s => some (.ret, ts, s)
  | f + 1, .seq x y, ts, s => match execA T cal ri oth f x ts s with
    | some (.normal, ts, s) => execA T cal ri oth f y ts s
    | r => r
  | f + 1, .cond c x y, ts, s => match evalA ts c with
    | some (.bool true) => execA T cal ri oth f x ts s
    | some (.bool false) => execA T cal ri oth f y ts s
    | _ => none
  | f + 1, .block id c, ts, s => match execA T cal ri oth f c ts s with
    | some (.exit k, ts, s) => if k = id then some (.normal, ts, s) else some (.exit k, ts, s)
    | r => r
  | f + 1, .loop c, ts, s => match execA T cal ri oth f c ts s with
    | some (.normal, ts, s) => execA T cal ri oth f (.loop c) ts s
    | r => r
  | _ + 1, .region _ ops false, ts, s => (plainA T cal ops ops.toList ts s).map fun p => (.normal, p.1, p.2)
  | _ + 1, .region id ops true, ts, s => match ri id with
    | some r => (drawnA T cal ops r.ord r.b r.rk ts s).map fun p => (.normal, p.1, p.2)
    | none => none
  | _ + 1, c, ts, s => oth c ts s

section
variable {F : Fence} {n : Nat} {P : Program} {T : TT} {cal : Cal} {ri : Nat → Option RI} {oth : Code → List AV → St → Option (Ex × List AV × St)}

/-- Code is carried out as the interpreter says. -/
def Runs (F : Fence) (n : Nat) (P : Program) (c : Code) (ts : List AV) (s : St) (e : Ex) (ts' : List AV) (s' : St) : Prop :=
  ∀ (B : Nat) (w0 w : World) (φ : Phi) (a : Act), Slots φ ts a → Stands B w0 φ s w → ∀ Q : Exit → Act → World → Prop,
    (∀ φ' w' a', Eff B w0 φ φ' s s' w' → Slots φ' ts' a' → a'.defers = a.defers → Q e.toExit a' w') → c.wpIn F n P Q a w

def OthOk (F : Fence) (n : Nat) (P : Program) (oth : Code → List AV → St → Option (Ex × List AV × St)) : Prop := ∀ c ts s e ts' s', oth c ts s = some (e, ts', s') → Runs F n P c ts s e ts' s'

theorem exec_ok (hT : TypesOk P T) (hc : CalOk F n P cal) (hF : ∀ f, F.fn f) (hm : P.follows .mixedOrders = true) (ho : OthOk F n P oth) : ∀ (f : Nat) (c : Code) (ts : List AV) (s : St) (e : Ex) (ts' : List AV) (s' : St), execA T cal ri oth f c ts s = some (e, ts', s') → Runs F n P c ts s e ts' s'
  | 0, _, _, _, _, _, _, h => by simp [execA] at h
  | f + 1, c, ts, s, e, ts', s', h => by
    intro B w0 w φ a ha hs Q hQ
    cases c with
    | skip =>
      obtain ⟨rfl, rfl, rfl⟩ : Ex.normal = e ∧ ts = ts' ∧ s = s' := by simpa [execA] using h
      exact wpIn_skip (hQ φ w a (Eff.refl hs) ha rfl)
    | label l =>
      obtain ⟨rfl, rfl, rfl⟩ : Ex.normal = e ∧ ts = ts' ∧ s = s' := by simpa [execA] using h
      exact wpIn_label (hQ φ w a (Eff.refl hs) ha rfl)
    | exit id =>
      obtain ⟨rfl, rfl, rfl⟩ : Ex.exit id = e ∧ ts = ts' ∧ s = s' := by simpa [execA] using h
      exact wpIn_exit (hQ φ w a (Eff.refl hs) ha rfl)
    | goto l =>
      obtain ⟨rfl, rfl, rfl⟩ : Ex.goto l = e ∧ ts = ts' ∧ s = s' := by simpa [execA] using h
      exact wpIn_goto (hQ φ w a (Eff.refl hs) ha rfl)
    | ret =>
      obtain ⟨rfl, rfl, rfl⟩ : Ex.ret = e ∧ ts = ts' ∧ s = s' := by simpa [execA] using h
      exact wpIn_ret (hQ φ w a (Eff.refl hs) ha rfl)
    | seq x y =>
      simp only [execA] at h
      refine wpIn_seq ?_
      split at h
      · rename_i ts1 s1 hx
        refine exec_ok hT hc hF hm ho f x ts s _ ts1 s1 hx B w0 w φ a ha hs _ fun φ1 w1 a1 he h1 hd => ?_
        exact exec_ok hT hc hF hm ho f y ts1 s1 e ts' s' h B w0 w1 φ1 a1 h1 he.stands Q fun φ2 w2 a2 he2 h2 hd2 => hQ φ2 w2 a2 (he.trans he2) h2 (hd2.trans hd)
      · rename_i hne
        refine exec_ok hT hc hF hm ho f x ts s e ts' s' h B w0 w φ a ha hs _ fun φ1 w1 a1 he h1 hd => ?_
        have := hQ φ1 w1 a1 he h1 hd
        cases e with
        | normal => exact absurd h (hne ts' s')
        | exit id => exact this
        | goto l => exact this
        | ret => exact this
    | cond c x y =>
      simp only [execA] at h
      split at h
      · rename_i hb
        have hv := ha.eval _ _ hb
        injection hv with hv
        exact wpIn_cond_true hv.symm (exec_ok hT hc hF hm ho f x ts s e ts' s' h B w0 w φ a ha hs Q hQ)
      · rename_i hb
        have hv := ha.eval _ _ hb
        injection hv with hv
        exact wpIn_cond_false hv.symm (exec_ok hT hc hF hm ho f y ts s e ts' s' h B w0 w φ a ha hs Q hQ)
      · cases h
    | block id c =>
      simp only [execA] at h
      refine wpIn_block ?_
      split at h
      · rename_i k ts1 s1 hx
        refine exec_ok hT hc hF hm ho f c ts s _ ts1 s1 hx B w0 w φ a ha hs _ fun φ1 w1 a1 he h1 hd => ?_
        split at h
        · rename_i hk
          obtain ⟨rfl, rfl, rfl⟩ : Ex.normal = e ∧ ts1 = ts' ∧ s1 = s' := by simpa using h
          have := hQ φ1 w1 a1 he h1 hd
          simp only [Ex.toExit, Exit.inBlock, hk, if_true]
          exact this
        · rename_i hk
          obtain ⟨rfl, rfl, rfl⟩ : Ex.exit k = e ∧ ts1 = ts' ∧ s1 = s' := by simpa using h
          have := hQ φ1 w1 a1 he h1 hd
          simp only [Ex.toExit, Exit.inBlock, hk, if_false]
          exact this
      · rename_i hne
        refine exec_ok hT hc hF hm ho f c ts s e ts' s' h B w0 w φ a ha hs _ fun φ1 w1 a1 he h1 hd => ?_
        have := hQ φ1 w1 a1 he h1 hd
        cases e with
        | normal => exact this
        | exit k => exact absurd h (hne k ts' s')
        | goto l => exact this
        | ret => exact this
    | loop c =>
      have key : ∀ (f2 : Nat) (hf2 : f2 ≤ f + 1) (ts : List AV) (s : St) (w : World) (φ : Phi) (a : Act), execA T cal ri oth f2 (.loop c) ts s = some (e, ts', s') → Slots φ ts a → Stands B w0 φ s w →
          (∀ φ' w' a', Eff B w0 φ φ' s s' w' → Slots φ' ts' a' → a'.defers = a.defers → Q e.toExit a' w') → Code.roundsIn F n P c Q f2 a w := by
        intro f2
        induction f2 with
        | zero => intro _ ts s w φ a h; simp [execA] at h
        | succ f2 ih =>
          intro hf2 ts s w φ a h ha hs hQ
          simp only [execA] at h
          show c.wpIn F n P (Exit.then (Code.roundsIn F n P c Q f2) Q) a w
          split at h
          · rename_i ts1 s1 hx
            refine exec_ok hT hc hF hm ho f2 c ts s _ ts1 s1 hx B w0 w φ a ha hs _ fun φ1 w1 a1 he h1 hd => ?_
            exact ih (by omega) ts1 s1 w1 φ1 a1 h h1 he.stands fun φ2 w2 a2 he2 h2 hd2 => hQ φ2 w2 a2 (he.trans he2) h2 (hd2.trans hd)
          · rename_i hne
            refine exec_ok hT hc hF hm ho f2 c ts s e ts' s' h B w0 w φ a ha hs _ fun φ1 w1 a1 he h1 hd => ?_
            have := hQ φ1 w1 a1 he h1 hd
            cases e with
            | normal => exact absurd h (hne ts' s')
            | exit id => exact this
            | goto l => exact this
            | ret => exact this
      exact wpIn_loop_rounds (f + 1) (key (f + 1) (Nat.le_refl _) ts s w φ a h ha hs hQ)
    | region id ops d =>
      cases d with
      | false =>
        simp only [execA, Option.map_eq_some_iff] at h
        obtain ⟨p, hp, h⟩ := h
        obtain ⟨rfl, rfl, rfl⟩ : Ex.normal = e ∧ p.1 = ts' ∧ p.2 = s' := by simpa using h
        exact wpIn_region_list (plain_ok hT hc hF ops.toList ha hs (ts' := p.1) (s' := p.2) hp hQ)
      | true =>
        simp only [execA] at h
        split at h
        · simp only [Option.map_eq_some_iff] at h
          obtain ⟨p, hp, h⟩ := h
          obtain ⟨rfl, rfl, rfl⟩ : Ex.normal = e ∧ p.1 = ts' ∧ p.2 = s' := by simpa using h
          exact drawn_ok hT hc hF hm (ts' := p.1) (s' := p.2) hp ha hs hQ
        · cases h
    | _ =>
      simp only [execA] at h
      exact ho _ ts s e ts' s' h B w0 w φ a ha hs Q hQ
  termination_by f => f
  decreasing_by all_goals omega

end
end
end Go.Proofs.YtoafihjgpbcgbaaGreat.Si
