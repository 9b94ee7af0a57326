/- The interpreter's step: one operation of a region, its guard too. Conditions: none. -/
import Derived.Test.YtoafihjgpbcgbaaGreatSiEff
import Derived.TacticsIn
import Derived.OrdersIn
namespace Go.Proofs.YtoafihjgpbcgbaaGreat.Si
noncomputable section
open Go.RowKit

/-- An operand. -/
def evalA (ts : List AV) : Operand → Option AV
  | .tmp t => some (getQ (.tup []) ts t)
  | .const v => absV v
  | .global _ => none
  | .func f => some (.fn (.func f) [] [])

/-- The slot gets its value. -/
def putA (ts : List AV) (dst : Option Tmp) (v : AV) : List AV := match dst with
  | some d => setQ ts d v
  | none => ts

/-- Is the operation wanted? -/
def wantedA (ops : Array Oper) (ts : List AV) (o : Oper) : Option Bool := match o.guard with
  | none => some true
  | some (j, want) => match ((atQ ops.toList j).bind (·.dst)).bind (fun d => atQ ts d) with
    | some (.bool b) => some (b == want)
    | some (.tup _) => some false
    | _ => none

/-- What a call does, and what else is given from without: the value, the state after. -/
abbrev Cal := (Operand → Option AV) → St → Oper → Option (AV × St)

/-- An effect. -/
def effA (T : TT) (cal : Cal) (ρ : Operand → Option AV) (s : St) (o : Oper) : Option (AV × St) := match memOp T ρ s o.op with
  | some p => some p
  | none => cal ρ s o

/-- One operation, wanted. -/
def doA (T : TT) (cal : Cal) (ρ : Operand → Option AV) (s : St) (o : Oper) : Option (AV × St) :=
  match pureOp T ρ o.op with
  | some r => some (r, s)
  | none => match o.op with
    | .load t x => (ρ x).bind fun a => (loadA T s t a).map fun r => (r, s)
    | _ => match newOp T ρ s.next o.op with
      | some (r, cs, t) => if s.next < 2 ^ dep then some (r, s.new (.cells cs t)) else none
      | none => effA T cal ρ s o

def stepA (T : TT) (cal : Cal) (ops : Array Oper) (ts : List AV) (s : St) (o : Oper) : Option (List AV × St) := match wantedA ops ts o with
  | some true => (doA T cal (evalA ts) s o).map fun p => (putA ts o.dst p.1, p.2)
  | some false => some (putA ts o.dst (.tup []), s)
  | none => none

/-- The slots' values. -/
def Slots (φ : Phi) (ts : List AV) (a : Act) : Prop := concL φ ts = some a.tmps.toList

theorem Slots.eval {φ : Phi} {ts : List AV} {a : Act} (h : Slots φ ts a) : ∀ x b, evalA ts x = some b → conc φ b = some (a.eval x) := by
  intro x b hx
  cases x with
  | tmp t =>
    injection hx with hx
    subst hx
    simp only [Act.eval, getQ_eq]
    rcases Nat.lt_or_ge t ts.length with ht | ht
    · obtain ⟨v, h1, h2⟩ := concL_at h t ts[t] (by simp [ht])
      have hg : a.tmps.getD t undef = v := by
        rw [Array.getElem?_toList] at h1
        simp [Array.getD_eq_getD_getElem?, h1]
      rw [hg]
      simpa [List.getD_eq_getElem?_getD, ht] using h2
    · have hl := concL_len h
      rw [List.getD_eq_getElem?_getD, List.getElem?_eq_none ht, Array.getD_eq_getD_getElem?, Array.getElem?_eq_none (by simp at hl; omega)]
      rfl
  | const v => exact absV_conc φ v b hx
  | global g => cases hx
  | func f =>
    injection hx with hx
    subst hx
    rfl

theorem Slots.put {φ : Phi} {ts : List AV} {a : Act} (h : Slots φ ts a) (dst : Option Tmp) {b : AV} {v : Value} (hv : conc φ b = some v) : Slots φ (putA ts dst b) (a.put dst v) := by
  cases dst with
  | none => exact h
  | some d =>
    unfold Slots at h ⊢
    have := concL_set h d b v hv
    simpa [putA, setQ_eq, Act.put] using this

theorem Slots.mono {φ φ' : Phi} {ts : List AV} {a : Act} (h : Slots φ ts a) (hle : φ.le φ') : Slots φ' ts a := concL_mono hle _ _ h

theorem wanted_ok {φ : Phi} {ops : Array Oper} {ts : List AV} {a : Act} (h : Slots φ ts a) {o : Oper} {b : Bool} (hw : wantedA ops ts o = some b) : Region.wanted o (yielded ops a.tmps) = b := by
  unfold wantedA at hw
  simp only [atQ_eq, Array.getElem?_toList] at hw
  unfold Region.wanted
  split at hw
  · rename_i hg
    injection hw with hw
    subst hw
    rw [hg]
  · rename_i j want hg
    rw [hg]
    dsimp only
    unfold yielded
    cases hd : (ops[j]?).bind (·.dst) with
    | none => rw [hd] at hw; cases hw
    | some d =>
      rw [hd] at hw
      simp only [Option.bind_some] at hw ⊢
      cases ht : ts[d]? with
      | none => rw [ht] at hw; cases hw
      | some x =>
        rw [ht] at hw
        obtain ⟨v, h1, h2⟩ := concL_at h d x ht
        rw [Array.getElem?_toList] at h1
        rw [h1]
        cases x <;> dsimp only at hw <;> first
          | (cases hw; done)
          | (injection hw with hw
             subst hw
             injection h2 with h2
             subst h2
             simp)
          | (injection hw with hw
             subst hw
             simp only [conc, Option.map_eq_some_iff] at h2
             obtain ⟨l, _, rfl⟩ := h2
             simp)

section
variable {F : Fence} {n : Nat} {P : Program} {B : Nat} {w0 : World}

/-- What is given from without is sound. -/
def CalOk (F : Fence) (n : Nat) (P : Program) (cal : Cal) : Prop :=
  ∀ {B : Nat} {w0 w : World} {φ : Phi} {ρ : Operand → Option AV} {s s' : St} {o : Oper} {a : Act} {r : AV}, (∀ x b, ρ x = some b → conc φ b = some (a.eval x)) → Stands B w0 φ s w → cal ρ s o = some (r, s') →
    ∀ (K : Act → World → Prop) (Q : Exit → Act → World → Prop), (∀ φ' w' v, Eff B w0 φ φ' s s' w' → conc φ' r = some v → K (a.put o.dst v) w') → o.wpIn F n P a w K Q

theorem wp_of_run {o : Oper} {a : Act} {w w' : World} {nx : Next} {v : Value} (hF : ∀ f, F.fn f) (hd : ∀ c, o.op ≠ .defer c) (h : (execOp a.eval o).run P w = .ok nx w') (hn : nx = .value v ∨ nx = .skip ∧ v = undef)
    {K : Act → World → Prop} {Q : Exit → Act → World → Prop} (hK : K (a.put o.dst v) w') : o.wpIn F n P a w K Q := by
  refine ⟨fun f _ => hF f, ?_⟩
  rw [Oper.semAt_eq _ _ _ hd, h]
  rcases hn with rfl | ⟨rfl, rfl⟩
  · exact hK
  · exact hK

theorem eff_ok {T : TT} (hT : TypesOk P T) {cal : Cal} (hc : CalOk F n P cal) (hF : ∀ f, F.fn f) {w : World} {φ : Phi} {ρ : Operand → Option AV} {s s' : St} {o : Oper} {a : Act} {r : AV} (hρ : ∀ x b, ρ x = some b → conc φ b = some (a.eval x)) (hs : Stands B w0 φ s w) (h : effA T cal ρ s o = some (r, s'))
    {K : Act → World → Prop} {Q : Exit → Act → World → Prop} (hK : ∀ φ' w' v, Eff B w0 φ φ' s s' w' → conc φ' r = some v → K (a.put o.dst v) w') : o.wpIn F n P a w K Q := by
  unfold effA at h
  split at h
  · rename_i p hm
    injection h with h
    subst h
    obtain ⟨φ', w', nx, v, k1, k2, k3, k4⟩ := mem_ok hT hρ hs o hm
    exact wp_of_run hF (fun c e => by rw [e] at hm; simp [memOp] at hm) k1 k2 (hK φ' w' v k3 k4)
  · exact hc hρ hs h K Q hK

theorem do_ok {T : TT} (hT : TypesOk P T) {cal : Cal} (hc : CalOk F n P cal) (hF : ∀ f, F.fn f) {w : World} {φ : Phi} {ρ : Operand → Option AV} {s s' : St} {o : Oper} {a : Act} {r : AV} (hρ : ∀ x b, ρ x = some b → conc φ b = some (a.eval x)) (hs : Stands B w0 φ s w) (h : doA T cal ρ s o = some (r, s'))
    {K : Act → World → Prop} {Q : Exit → Act → World → Prop} (hK : ∀ φ' w' v, Eff B w0 φ φ' s s' w' → conc φ' r = some v → K (a.put o.dst v) w') : o.wpIn F n P a w K Q := by
  unfold doA at h
  split at h
  · rename_i r1 hp
    obtain ⟨rfl, rfl⟩ : r1 = r ∧ s = s' := by simpa using h
    obtain ⟨v, k1, k2⟩ := pure_ok hT hρ o hp
    exact wp_of_run hF (fun c e => by rw [e] at hp; simp [pureOp] at hp) (k2 w) (.inl rfl) (hK φ w v (Eff.refl hs) k1)
  · split at h
    · rename_i t x ho
      simp only [Option.bind_eq_some_iff, Option.map_eq_some_iff] at h
      obtain ⟨b, hb, r1, hl, h⟩ := h
      obtain ⟨rfl, rfl⟩ : r1 = r ∧ s = s' := by simpa using h
      obtain ⟨u, k1, k2⟩ := load_ok hT hs hl (hρ x b hb)
      exact wp_of_run hF (fun c e => by rw [e] at ho; cases ho) (nx := .value u) (by simp [execOp, ho, k2]) (.inl rfl) (hK φ w u (Eff.refl hs) k1)
    · split at h
      · rename_i r1 cs t hn
        split at h
        · rename_i hr
          obtain ⟨rfl, rfl⟩ : r1 = r ∧ s.new (.cells cs t) = s' := by simpa using h
          obtain ⟨C, k1, k2⟩ := new_ok hT hρ hn
          obtain ⟨v, k3, k4⟩ := k2 w
          have hnn := hs.none_next
          have hnx : (s.new (.cells cs t)).next = s.next + 1 := rfl
          refine wp_of_run hF (fun c e => by rw [e] at hn; simp [newOp] at hn) k3 (.inl rfl) (hK _ _ v ⟨Phi.up_le hnn _, ?_, by omega, fun j hj hjn => ⟨?_, ?_⟩⟩ k4)
          · refine (hs.new (.cells cs t) hr).place hnn (by omega) rfl fun p hp => ?_
            rw [St.get_new hr hr, if_pos rfl] at hp
            injection hp with hp
            subst hp
            exact ⟨C.toArray, C, heap_alloc_new _ _, by simp, by rw [concL_len k1]; exact Nat.le_refl _, concL_mono (Phi.up_le hnn _) _ _ k1, fun j v hj => by simpa using hj⟩
          · unfold Phi.up
            rw [if_neg (by omega)]
            exact hjn
          · rw [St.get_new hr (by omega), if_neg (by omega)]
        · cases h
      · exact eff_ok hT hc hF hρ hs h hK

theorem Eff.trans {φ φ' φ'' : Phi} {s s' s'' : St} {w' w'' : World} (h : Eff B w0 φ φ' s s' w') (k : Eff B w0 φ' φ'' s' s'' w'') : Eff B w0 φ φ'' s s'' w'' :=
  ⟨Phi.le_trans h.le k.le, k.stands, Nat.le_trans h.next k.next, fun j hj hjn => by
    obtain ⟨a1, a2⟩ := h.kept j hj hjn
    obtain ⟨b1, b2⟩ := k.kept j (Nat.lt_of_lt_of_le hj h.next) a1
    exact ⟨b1, b2.trans a2⟩⟩

/-- A step, its guard too. -/
theorem step_ok {T : TT} (hT : TypesOk P T) {cal : Cal} (hc : CalOk F n P cal) (hF : ∀ f, F.fn f) {w : World} {φ : Phi} {ops : Array Oper} {ts ts' : List AV} {s s' : St} {o : Oper} {a : Act} (ha : Slots φ ts a) (hs : Stands B w0 φ s w) (h : stepA T cal ops ts s o = some (ts', s'))
    {K : Act → World → Prop} {Q : Exit → Act → World → Prop} (hK : ∀ φ' w' a', Eff B w0 φ φ' s s' w' → Slots φ' ts' a' → a'.defers = a.defers → K a' w') :
    if Region.wanted o (yielded ops a.tmps) then o.wpIn F n P a w K Q else (∀ f, o.about P w a.eval = some f → F.fn f) ∧ K (a.put o.dst undef) w := by
  have hdef : ∀ v, (a.put o.dst v).defers = a.defers := fun v => by unfold Act.put; split <;> rfl
  unfold stepA at h
  split at h
  · rename_i hw
    simp only [Option.map_eq_some_iff] at h
    obtain ⟨p, hp, h⟩ := h
    obtain ⟨rfl, rfl⟩ : putA ts o.dst p.1 = ts' ∧ p.2 = s' := by simpa using h
    rw [wanted_ok ha hw, if_pos rfl]
    exact do_ok hT hc hF ha.eval hs hp fun φ' w' v he hv => hK φ' w' _ he ((ha.mono he.le).put o.dst hv) (hdef v)
  · rename_i hw
    obtain ⟨rfl, rfl⟩ : putA ts o.dst (.tup []) = ts' ∧ s = s' := by simpa using h
    rw [wanted_ok ha hw]
    simp only [Bool.false_eq_true, if_false]
    exact ⟨fun f _ => hF f, hK φ w _ (Eff.refl hs) (ha.put o.dst rfl) (hdef _)⟩
  · cases h

/-- A region whose operations come in the text's order. -/
def plainA (T : TT) (cal : Cal) (ops : Array Oper) : List Oper → List AV → St → Option (List AV × St)
  | [], ts, s => some (ts, s)
  | o :: r, ts, s => (stepA T cal ops ts s o).bind fun p => plainA T cal ops r p.1 p.2

theorem plain_ok {T : TT} (hT : TypesOk P T) {cal : Cal} (hc : CalOk F n P cal) (hF : ∀ f, F.fn f) {ops : Array Oper} {Q : Exit → Act → World → Prop} : ∀ (l : List Oper) {w : World} {φ : Phi} {ts ts' : List AV} {s s' : St} {a : Act} (_ : Slots φ ts a) (_ : Stands B w0 φ s w) (_ : plainA T cal ops l ts s = some (ts', s'))
    (_ : ∀ φ' w' a', Eff B w0 φ φ' s s' w' → Slots φ' ts' a' → a'.defers = a.defers → Q .normal a' w'), wpListIn F n P ops Q l a w
  | [], w, φ, ts, ts', s, s', a, ha, hs, h, hK => by
    obtain ⟨rfl, rfl⟩ : ts = ts' ∧ s = s' := by simpa [plainA] using h
    exact hK φ w a (Eff.refl hs) ha rfl
  | o :: r, w, φ, ts, ts', s, s', a, ha, hs, h, hK => by
    simp only [plainA, Option.bind_eq_some_iff] at h
    obtain ⟨p, hp, h⟩ := h
    unfold wpListIn
    exact step_ok hT hc hF ha hs (ts' := p.1) (s' := p.2) hp fun φ1 w1 a1 he h1 hd => plain_ok hT hc hF r h1 he.stands h fun φ2 w2 a2 he2 h2 hd2 => hK φ2 w2 a2 (he.trans he2) h2 (hd2.trans hd)

end
end
end Go.Proofs.YtoafihjgpbcgbaaGreat.Si
