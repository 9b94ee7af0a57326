/- A region that draws its order: whatever comes next, the invariant holds behind it. Conditions: none. -/
import Derived.Test.YtoafihjgpbcgbaaGreatSiAny
namespace Go.Proofs.YtoafihjgpbcgbaaGreat.Si
noncomputable section
open Go.RowKit

section
variable {F : Fence} {n : Nat} {P : Program} {B : Nat} {w0 : World} {T : TT} {cal : Cal} {ops : Array Oper} {ts : List AV} {b rk : List Nat} {x : RS} {φ0 : Phi} {s0 : St} {a0 : Act}

theorem Chain.fact {W : List (Nat × Nat)} {V : List (Nat × AV)} : ∀ {log : List Ent} {s : St} (_ : Chain T cal ops ts W b V s0 log s) {e : Ent}, e ∈ log → Fact T cal ops ts W b V e
  | [], _, _, _, h => by cases h
  | d :: r, s, h, e, he => by
    rcases List.mem_cons.1 he with rfl | he
    · exact h.1
    · exact Chain.fact h.2.2 he

/-- One operation, whichever may come now. -/
theorem one_ok (hT : TypesOk P T) (hc : CalOk F n P cal) (hF : ∀ f, F.fn f) (C : Ctx T cal ops ts b rk x s0) {listed : Array Bool} {a : Act} {w : World} {φ : Phi} {dn td : List Ent} (I : Inv ops ts b x B w0 φ0 s0 a0 listed a w φ dn td) {i : Nat} {o : Oper} (ho : ops[i]? = some o) (hi : listed[i]? = some false)
    (hp : ∀ j, (b.getD i 0).testBit j = true → listed[j]? = some true) {K : Act → World → Prop} {Q : Exit → Act → World → Prop}
    (hK : ∀ φ' w' v dn' td', Inv ops ts b x B w0 φ0 s0 a0 (listed.setIfInBounds i true) (a.put o.dst v) w' φ' dn' td' → K (a.put o.dst v) w') :
    if Region.wanted o (yielded ops a.tmps) then o.wpIn F n P a w K Q else (∀ f, o.about P w a.eval = some f → F.fn f) ∧ K (a.put o.dst undef) w := by
  obtain ⟨v, hv, heff, hne⟩ := (C.good i o ho).val
  have hρ := I.rho hi hp
  cases he : isEff o.op with
  | false =>
    have hok := hne he
    -- it is no effect: none of those left is it
    have htd : ∀ e ∈ td, e ∈ td ∧ e.1 ≠ i := fun e hm => ⟨hm, fun ee => by
      obtain ⟨o', _, k1, k2, _⟩ := C.chain.fact (e := e) (by rw [I.log]; simp [hm])
      rw [ee, ho] at k1
      injection k1 with k1
      subst k1
      rw [he] at k2
      cases k2⟩
    have hsp : ∀ f, splits b i f x.s [] x.log.reverse = true → f (curE x.s td) = true := fun f h => by
      rw [I.log, List.reverse_append, List.reverse_reverse] at h
      refine splits_at (dn := []) (td0 := dn.reverse) h (by simp) (fun e hm => ?_) (fun e hm => ?_)
      · cases hb : (b.getD e.1 0).testBit i with
        | false => rfl
        | true =>
          have := I.closed _ _ (I.done e (by simpa using hm)) hb
          rw [hi] at this
          cases this
      · cases hb : (b.getD i 0).testBit e.1 with
        | false => rfl
        | true =>
          have := hp _ hb
          rw [I.todo e hm] at this
          cases this
    have same : ∀ u, conc φ v = some u → K (a.put o.dst u) w := fun u hu => hK φ w u dn td (I.adv C ho hi hp hv hu φ.le_refl I.stands I.log (fun e h => .inl h) htd (fun _ _ _ _ h _ => h) (Nat.le_refl _) fun j _ h _ => ⟨h, rfl⟩)
    unfold okR at hok
    split at hok
    · cases hok
    · rename_i hw
      obtain rfl := beqA_eq _ _ hok
      rw [wantedR_ok hρ hw]
      simp only [Bool.false_eq_true, if_false]
      exact ⟨fun f _ => hF f, same undef rfl⟩
    · rename_i hw
      rw [wantedR_ok hρ hw, if_pos rfl]
      split at hok
      · rename_i r hpu
        obtain rfl := beqA_eq _ _ hok
        obtain ⟨u, k1, k2⟩ := pure_ok hT hρ o hpu
        exact wp_of_run hF (fun c e => by rw [e] at hpu; simp [pureOp] at hpu) (k2 w) (.inl rfl) (same u k1)
      · split at hok
        · rename_i t p hop
          split at hok
          · rename_i y hy
            have h1 := hsp _ hok
            split at h1
            · rename_i r hl
              obtain rfl := beqA_eq _ _ h1
              obtain ⟨u, k1, k2⟩ := load_ok hT I.stands hl (hρ p y hy)
              exact wp_of_run hF (fun c e => by rw [e] at hop; cases hop) (nx := .value u) (by simp [execOp, hop, k2]) (.inl rfl) (same u k1)
            · cases h1
          · cases hok
        · split at hok
          · rename_i id hid
            split at hok
            · rename_i r cs t hn
              simp only [Bool.and_eq_true] at hok
              obtain rfl := beqA_eq _ _ hok.1
              have h1 := hsp _ hok.2
              simp only [Bool.and_eq_true] at h1
              have hlt : id < (curE x.s td).next := Nat.le_of_ble_eq_true h1.1
              have hget : (curE x.s td).get id = some (.cells cs t) := by
                have h2 := h1.2
                split at h2
                · rename_i cs' t' hg
                  simp only [Bool.and_eq_true] at h2
                  rw [hg, beqL_eq _ _ h2.1, Nat.eq_of_beq_eq_true h2.2]
                · cases h2
              have hmem := look_mem hid
              have hnone := I.ids i id hmem hi
              obtain ⟨cv, k1, k2⟩ := new_ok hT hρ hn
              obtain ⟨u, k3, k4⟩ := k2 w
              refine wp_of_run hF (fun c e => by rw [e] at hn; simp [newOp] at hn) k3 (.inl rfl) (hK _ _ u dn td (I.adv C ho hi hp hv k4 (Phi.up_le hnone _) ?_ I.log (fun e h => .inl h) htd (fun j jd hj hji hjn _ => ?_) (Nat.le_refl _) fun j _ h hj0 => ⟨?_, rfl⟩))
              · refine I.stands.place hnone hlt rfl fun q hq => ?_
                rw [hget] at hq
                injection hq with hq
                subst hq
                exact ⟨cv.toArray, cv, heap_alloc_new _ _, by simp, by rw [concL_len k1]; exact Nat.le_refl _, concL_mono (Phi.up_le hnone _) _ _ k1, fun j v hj => by simpa using hj⟩
              · unfold Phi.up
                rw [if_neg (fun e => hji (by subst e; exact ids_one C.ids hj hmem))]
                exact hjn
              · have := C.base _ hmem
                unfold Phi.up
                rw [if_neg (by dsimp only at this; omega)]
                exact h
            · cases hok
          · cases hok
  | true =>
    obtain ⟨e, hel, hei⟩ := heff he
    -- it is the first effect of those left
    have het : e ∈ td := by
      rw [I.log] at hel
      rcases List.mem_append.1 hel with h | h
      · simpa using h
      · have := I.done e h
        rw [hei, hi] at this
        cases this
    cases td with
    | nil => cases het
    | cons e1 rest =>
      have hfirst := effs_at (b := b) (dn := dn.reverse) (e := e1) (td := rest) (by
        have := C.effs
        rwa [I.log, List.reverse_append, List.reverse_reverse] at this)
      have h1 : e1.1 = i := by
        rcases List.mem_cons.1 het with rfl | h
        · exact hei
        · have := (hfirst e h).1
          rw [hei] at this
          have := hp _ this
          rw [I.todo e1 (by simp)] at this
          cases this
      have hlog : x.log = rest.reverse ++ (e1 :: dn) := by rw [I.log]; simp
      have hch := C.chain
      rw [hlog] at hch
      have hch := Chain.at hch
      rw [List.reverse_reverse] at hch
      obtain ⟨hfact, hgrow, _⟩ := hch
      obtain ⟨o', ρ, k1, k2, k3, k4⟩ := hfact
      rw [h1, ho] at k1
      injection k1 with k1
      subst k1
      rw [h1] at k3 k4
      have hρ' : ∀ y c, ρ y = some c → conc φ c = some (a.eval y) := fun y c hy => hρ y c (k3 y c hy)
      have hdn : ∀ f ∈ e1 :: dn, f ∈ dn ∨ f.1 = i := fun f hf => by
        rcases List.mem_cons.1 hf with rfl | hf
        · exact .inr h1
        · exact .inl hf
      have hrest : ∀ f ∈ rest, f ∈ e1 :: rest ∧ f.1 ≠ i := fun f hf => ⟨by simp [hf], by rw [← h1]; exact (hfirst f hf).2⟩
      rcases k4 with ⟨hw, hst, hl⟩ | ⟨hw, r, hef, hl⟩
      · rw [wantedR_ok hρ' hw]
        simp only [Bool.false_eq_true, if_false]
        rw [hst] at hgrow
        refine ⟨fun f _ => hF f, hK φ w undef (e1 :: dn) rest (I.adv C ho hi hp hl rfl φ.le_refl (hgrow.2.2 _ _ _ _ I.stands) hlog hdn hrest (fun _ _ _ _ h _ => h) hgrow.1 fun j hj h _ => ⟨h, hgrow.2.1 j hj⟩)⟩
      · rw [wantedR_ok hρ' hw, if_pos rfl]
        refine eff_ok hT hc hF hρ' I.stands hef fun φ' w' u hE hu => hK φ' w' u (e1 :: dn) rest (I.adv C ho hi hp hl hu hE.le (hgrow.2.2 _ _ _ _ hE.stands) hlog hdn hrest (fun j jd hj _ hjn _ => ?_) (Nat.le_trans hE.next hgrow.1) fun j hj h _ => ?_)
        · rcases ids_eff C.ids hj (e := e1) (by rw [hlog]; simp) with h | h
          · exact (hE.kept jd h hjn).1
          · cases hq : φ' jd with
            | none => rfl
            | some L => have := (hE.stands.dom jd L hq).1; omega
        · obtain ⟨m1, m2⟩ := hE.kept j hj h
          exact ⟨m1, (hgrow.2.1 j (Nat.lt_of_lt_of_le hj hE.next)).trans m2⟩

end
end
end Go.Proofs.YtoafihjgpbcgbaaGreat.Si
