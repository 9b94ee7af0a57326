/- A region that draws its order: every order comes to the same. Conditions: none. -/
import Derived.Test.YtoafihjgpbcgbaaGreatSiLook
namespace Go.Proofs.YtoafihjgpbcgbaaGreat.Si
noncomputable section
open Go.RowKit

theorem eval_put_self (a : Act) (d : Nat) (v : Value) (h : d < a.tmps.size) : (a.put (some d) v).eval (.tmp d) = v := by
  simp [Act.put, Act.eval, h]
theorem eval_put_ne (a : Act) (dst : Option Tmp) (v : Value) (t : Nat) (h : dst ≠ some t) : (a.put dst v).eval (.tmp t) = a.eval (.tmp t) := by
  cases dst with
  | none => rfl
  | some d =>
    have hd : d ≠ t := fun e => h (by rw [e])
    simp [Act.put, Act.eval, hd]

theorem set_self {l : Array Bool} {i : Nat} {c : Bool} (h : l[i]? = some c) : (l.setIfInBounds i true)[i]? = some true := by
  have hi : i < l.size := (Array.getElem?_eq_some_iff.1 h).1
  simp [hi]
theorem set_ne {l : Array Bool} {i j : Nat} (h : i ≠ j) : (l.setIfInBounds i true)[j]? = l[j]? := by
  simp [h]

/-- What holds of the region. -/
structure Ctx (T : TT) (cal : Cal) (ops : Array Oper) (ts : List AV) (b rk : List Nat) (x : RS) (s0 : St) : Prop where
  twice : noneTwice (writers ops.toList 0) = true
  good : ∀ i o, ops[i]? = some o → Good T ops ts (writers ops.toList 0) b rk x o i
  ids : idsOk x.log x.ids = true
  effs : effsOk b x.log.reverse = true
  chain : Chain T cal ops ts (writers ops.toList 0) b x.V s0 x.log x.s
  range : ∀ e ∈ x.log, e.1 < ops.size
  base : ∀ p ∈ x.ids, s0.next ≤ p.2

/-- What holds at any moment. -/
structure Inv (ops : Array Oper) (ts : List AV) (b : List Nat) (x : RS) (B : Nat) (w0 : World) (φ0 : Phi) (s0 : St) (a0 : Act) (listed : Array Bool) (a : Act) (w : World) (φ : Phi) (dn td : List Ent) : Prop where
  log : x.log = td.reverse ++ dn
  size : listed.size = ops.size
  done : ∀ e ∈ dn, listed[e.1]? = some true
  todo : ∀ e ∈ td, listed[e.1]? = some false
  closed : ∀ i j, listed[i]? = some true → (b.getD i 0).testBit j = true → listed[j]? = some true
  stands : Stands B w0 φ (curE x.s td) w
  slotW : ∀ t j, look (writers ops.toList 0) t = some j → listed[j]? = some true → ∃ c, look x.V j = some c ∧ conc φ c = some (a.eval (.tmp t))
  slot0 : ∀ t, (∀ j, look (writers ops.toList 0) t = some j → listed[j]? ≠ some true) → conc φ (ts.getD t (.tup [])) = some (a.eval (.tmp t))
  tsize : a.tmps.size = ts.length
  ids : ∀ i id, (i, id) ∈ x.ids → listed[i]? = some false → φ id = none
  le : φ0.le φ
  next : s0.next ≤ (curE x.s td).next
  kept : ∀ j, j < s0.next → φ0 j = none → φ j = none ∧ (curE x.s td).get j = s0.get j
  defers : a.defers = a0.defers

section
variable {F : Fence} {n : Nat} {P : Program} {B : Nat} {w0 : World} {T : TT} {cal : Cal} {ops : Array Oper} {ts : List AV} {b rk : List Nat} {x : RS} {φ0 : Phi} {s0 : St} {a0 : Act}

theorem Inv.rho {listed : Array Bool} {a : Act} {w : World} {φ : Phi} {dn td : List Ent} (I : Inv ops ts b x B w0 φ0 s0 a0 listed a w φ dn td) {i : Nat} (hi : listed[i]? = some false) (hp : ∀ j, (b.getD i 0).testBit j = true → listed[j]? = some true) :
    ∀ y c, rhoA ts (writers ops.toList 0) b x.V i y = some c → conc φ c = some (a.eval y) := by
  intro y c hy
  cases y with
  | tmp t =>
    simp only [rhoA, getQ_eq] at hy
    cases hl : look (writers ops.toList 0) t with
    | none =>
      rw [hl] at hy
      injection hy with hy
      subst hy
      exact I.slot0 t fun j hj => by rw [hl] at hj; cases hj
    | some j =>
      rw [hl] at hy
      dsimp only at hy
      cases h1 : (b.getD i 0).testBit j with
      | true =>
        rw [h1] at hy
        obtain ⟨c', k1, k2⟩ := I.slotW t j hl (hp j h1)
        rw [cond_true, k1] at hy
        injection hy with hy
        subst hy
        exact k2
      | false =>
        rw [h1] at hy
        cases h2 : (b.getD j 0).testBit i with
        | true =>
          rw [h2] at hy
          injection hy with hy
          subst hy
          refine I.slot0 t fun k hk hlk => ?_
          rw [hl] at hk
          injection hk with hk
          subst hk
          have := I.closed _ _ hlk h2
          rw [hi] at this
          cases this
        | false => rw [h2] at hy; cases hy
  | const v => exact absV_conc φ v c hy
  | global g => cases hy
  | func f =>
    injection hy with hy
    subst hy
    rfl

theorem wantedR_ok {φ : Phi} {ρ : Operand → Option AV} {a : Act} (hρ : ∀ y c, ρ y = some c → conc φ c = some (a.eval y)) {o : Oper} {v : Bool} (hw : wantedR ops ρ o = some v) : Region.wanted o (yielded ops a.tmps) = v := by
  unfold wantedR at hw
  simp only [atQ_eq, Array.getElem?_toList] at hw
  unfold Region.wanted
  split at hw
  · rename_i hg
    injection hw with hw
    subst hw
    rw [hg]
  · rename_i j want hg
    rw [hg]
    dsimp only
    unfold yielded
    cases hd : (ops[j]?).bind (·.dst) with
    | none => rw [hd] at hw; cases hw
    | some d =>
      rw [hd] at hw
      simp only [Option.bind_some] at hw ⊢
      cases hr : ρ (.tmp d) with
      | none => rw [hr] at hw; cases hw
      | some c =>
        rw [hr] at hw
        have hc := hρ _ _ hr
        simp only [Act.eval, Array.getD_eq_getD_getElem?] at hc
        cases c <;> dsimp only at hw <;> first
          | (cases hw; done)
          | (injection hw with hw
             subst hw
             injection hc with hc
             cases ht : a.tmps[d]? with
             | none => rw [ht] at hc; cases hc
             | some u =>
               rw [ht] at hc
               simp only [Option.getD_some] at hc
               subst hc
               simp)
          | (injection hw with hw
             subst hw
             simp only [conc, Option.map_eq_some_iff] at hc
             obtain ⟨l, _, hc⟩ := hc
             cases ht : a.tmps[d]? with
             | none => simp
             | some u =>
               rw [ht] at hc
               simp only [Option.getD_some] at hc
               subst hc
               simp)

/-- One more operation is listed. -/
theorem Inv.adv (C : Ctx T cal ops ts b rk x s0) {listed : Array Bool} {a : Act} {w w' : World} {φ φ' : Phi} {dn td dn' td' : List Ent} (I : Inv ops ts b x B w0 φ0 s0 a0 listed a w φ dn td) {i : Nat} {o : Oper} (ho : ops[i]? = some o) (hi : listed[i]? = some false)
    (hp : ∀ j, (b.getD i 0).testBit j = true → listed[j]? = some true) {r : AV} {v : Value} (hr : look x.V i = some r) (hv : conc φ' r = some v) (hle : φ.le φ') (hs : Stands B w0 φ' (curE x.s td') w') (hlog : x.log = td'.reverse ++ dn')
    (hd : ∀ e ∈ dn', e ∈ dn ∨ e.1 = i) (ht : ∀ e ∈ td', e ∈ td ∧ e.1 ≠ i) (hids : ∀ j id, (j, id) ∈ x.ids → j ≠ i → φ id = none → listed[j]? = some false → φ' id = none)
    (hnx : (curE x.s td).next ≤ (curE x.s td').next) (hk : ∀ j, j < (curE x.s td).next → φ j = none → j < s0.next → φ' j = none ∧ (curE x.s td').get j = (curE x.s td).get j) :
    Inv ops ts b x B w0 φ0 s0 a0 (listed.setIfInBounds i true) (a.put o.dst v) w' φ' dn' td' where
  log := hlog
  size := by rw [Array.size_setIfInBounds]; exact I.size
  done e he := by
    rcases hd e he with h | h
    · by_cases hei : i = e.1
      · rw [← hei]; exact set_self hi
      · rw [set_ne hei]; exact I.done e h
    · rw [h]; exact set_self hi
  todo e he := by
    obtain ⟨h1, h2⟩ := ht e he
    rw [set_ne (Ne.symm h2)]
    exact I.todo e h1
  closed k j hk hb := by
    by_cases hj : i = j
    · rw [← hj]; exact set_self hi
    · rw [set_ne hj]
      by_cases hki : i = k
      · subst hki; exact hp j hb
      · rw [set_ne hki] at hk; exact I.closed k j hk hb
  stands := hs
  slotW t j hl hj := by
    by_cases hij : i = j
    · subst hij
      obtain ⟨o', k1, k2⟩ := (writer_iff C.twice t i).1 hl
      rw [ho] at k1
      injection k1 with k1
      subst k1
      have hlt := (C.good i o ho).dst t k2
      refine ⟨r, hr, ?_⟩
      rw [k2, eval_put_self a t v (by rw [I.tsize]; exact hlt)]
      exact hv
    · rw [set_ne hij] at hj
      obtain ⟨c, k1, k2⟩ := I.slotW t j hl hj
      refine ⟨c, k1, ?_⟩
      rw [eval_put_ne a o.dst v t fun e => ?_]
      · exact conc_mono hle _ _ k2
      · have := (writer_iff C.twice t i).2 ⟨o, ho, e⟩
        rw [hl] at this
        injection this with this
        exact hij this.symm
  slot0 t h := by
    rw [eval_put_ne a o.dst v t fun e => ?_]
    · refine conc_mono hle _ _ (I.slot0 t fun j hj hlj => ?_)
      refine h j hj ?_
      by_cases hij : i = j
      · rw [← hij]; exact set_self hi
      · rw [set_ne hij]; exact hlj
    · exact h i ((writer_iff C.twice t i).2 ⟨o, ho, e⟩) (set_self hi)
  tsize := by
    rw [← I.tsize]
    unfold Act.put
    split <;> simp
  ids j id hj hl := by
    by_cases hij : i = j
    · subst hij
      rw [set_self hi] at hl
      cases hl
    · rw [set_ne hij] at hl
      exact hids j id hj (Ne.symm hij) (I.ids j id hj hl) hl
  le := Phi.le_trans I.le hle
  next := Nat.le_trans I.next hnx
  kept j hj hn := by
    obtain ⟨k1, k2⟩ := I.kept j hj hn
    obtain ⟨m1, m2⟩ := hk j (Nat.lt_of_lt_of_le hj I.next) k1 hj
    exact ⟨m1, m2.trans k2⟩
  defers := by
    rw [← I.defers]
    unfold Act.put
    split <;> rfl

end
end
end Go.Proofs.YtoafihjgpbcgbaaGreat.Si
