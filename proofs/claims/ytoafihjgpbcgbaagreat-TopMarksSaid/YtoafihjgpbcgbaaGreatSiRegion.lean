/- A region that draws its order is sound. Conditions: none. -/
import Derived.Test.YtoafihjgpbcgbaaGreatSiAnyOk
namespace Go.Proofs.YtoafihjgpbcgbaaGreat.Si
noncomputable section
open Go.RowKit

theorem concL_of {φ : Phi} : ∀ {l : List AV} {vs : List Value}, l.length = vs.length → (∀ (j : Nat) (c : AV) (v : Value), l[j]? = some c → vs[j]? = some v → conc φ c = some v) → concL φ l = some vs
  | [], [], _, _ => rfl
  | [], _ :: _, h, _ => by cases h
  | _ :: _, [], h, _ => by cases h
  | a :: r, v :: vs, h, hc => by
    rw [concL_cons, hc 0 a v rfl rfl, concL_of (l := r) (vs := vs) (by simpa using h) fun j c u h1 h2 => hc (j + 1) c u (by simpa using h1) (by simpa using h2)]
    rfl

theorem count_set_true {l : Array Bool} {i : Nat} (h : l[i]? = some false) : (l.setIfInBounds i true).toList.count false + 1 = l.toList.count false := by
  obtain ⟨hi, hv⟩ := Array.getElem?_eq_some_iff.1 h
  have hc : 0 < l.toList.count false := List.count_pos_iff.2 (by rw [← hv]; simp)
  rw [Array.toList_setIfInBounds, List.count_set (by simpa using hi)]
  simp [hv]
  have hc' : 0 < Array.count false l := by simpa using hc
  omega

section
variable {F : Fence} {n : Nat} {P : Program} {B : Nat} {w0 : World} {T : TT} {cal : Cal} {ops : Array Oper} {ts : List AV} {b rk : List Nat} {x : RS} {φ0 : Phi} {s0 : St} {a0 : Act}

theorem getD_true {l : Array Bool} {i : Nat} : l.getD i false = true ↔ l[i]? = some true := by
  rw [Array.getD_eq_getD_getElem?]
  cases h : l[i]? with
  | none => simp
  | some c => simp
theorem getD_false {l : Array Bool} {i : Nat} : l.getD i true = false ↔ l[i]? = some false := by
  rw [Array.getD_eq_getD_getElem?]
  cases h : l[i]? with
  | none => simp
  | some c => simp

/-- Nothing may come any more: all have come. -/
theorem ready_nil (C : Ctx T cal ops ts b rk x s0) {listed : Array Bool} (hz : listed.size = ops.size) (hr : Region.ready .any ops listed = []) : ∀ m i, rk.getD i 0 < m → i < ops.size → listed[i]? = some true
  | 0, i, h, _ => absurd h (Nat.not_lt_zero _)
  | m + 1, i, h, hi => by
    have hex : listed[i]? = some listed[i] := Array.getElem?_eq_getElem (by omega)
    cases hv : listed[i] with
    | true => rw [hex, hv]
    | false =>
      rw [hv] at hex
      have ho : ops[i]? = some ops[i] := Array.getElem?_eq_getElem hi
      have hmem : i ∈ Region.ready .any ops listed := by
        rw [mem_ready]
        refine ⟨getD_false.2 hex, ops[i], ho, fun e he hb => getD_true.2 ?_⟩
        obtain ⟨h1, h2⟩ := (C.good i _ ho).rank e (by simpa using he) hb
        exact ready_nil C hz hr m e.on (by omega) h2
      rw [hr] at hmem
      cases hmem

theorem any_ok (hT : TypesOk P T) (hc : CalOk F n P cal) (hF : ∀ f, F.fn f) (C : Ctx T cal ops ts b rk x s0) {Q : Exit → Act → World → Prop}
    (hend : ∀ (listed : Array Bool) (a : Act) (w : World) (φ : Phi) (dn td : List Ent), Inv ops ts b x B w0 φ0 s0 a0 listed a w φ dn td → (∀ i, i < ops.size → listed[i]? = some true) → Q .normal a w) :
    ∀ (fuel : Nat) (listed : Array Bool) (a : Act) (w : World) (φ : Phi) (dn td : List Ent), Inv ops ts b x B w0 φ0 s0 a0 listed a w φ dn td → listed.toList.count false ≤ fuel → wpAnyIn F n P .any ops Q fuel listed a w
  | 0, listed, a, w, φ, dn, td, I, hcnt => by
    have hall : ∀ i, i < ops.size → listed[i]? = some true := fun i hi => by
      have hsz : i < listed.size := by rw [I.size]; exact hi
      have hex : listed[i]? = some listed[i] := Array.getElem?_eq_getElem hsz
      cases hv : listed[i] with
      | true => rw [hex, hv]
      | false =>
        have : 0 < listed.toList.count false := List.count_pos_iff.2 (by rw [← hv]; simp)
        omega
    refine ⟨?_, hend listed a w φ dn td I hall⟩
    refine List.eq_nil_iff_forall_not_mem.2 fun i hi => ?_
    have h1 := getD_false.1 (mem_ready.1 hi).1
    have h2 : i < ops.size := by rw [← I.size]; exact (Array.getElem?_eq_some_iff.1 h1).1
    rw [hall i h2] at h1
    cases h1
  | fuel + 1, listed, a, w, φ, dn, td, I, hcnt => by
    refine ⟨fun hr => hend listed a w φ dn td I fun i hi => ready_nil C I.size hr _ i (Nat.lt_succ_self _) hi, fun i hi => ?_⟩
    obtain ⟨h1, o, ho, h2⟩ := mem_ready.1 hi
    have hi0 := getD_false.1 h1
    have hcs := count_set_true hi0
    have G := C.good i o ho
    unfold wpOpIn
    simp only [ho]
    refine one_ok hT hc hF C I ho hi0 (fun j hj => ?_) fun φ' w' v dn' td' I' => any_ok hT hc hF C hend fuel _ _ _ φ' dn' td' I' (by omega)
    rw [G.bits] at hj
    obtain ⟨e, he, hb, hj⟩ := (waits_bit b j _).1 hj
    have hon := getD_true.1 (h2 e (by simpa using he) hb)
    rcases hj with rfl | hj
    · exact hon
    · exact I.closed _ _ hon hj

theorem drawn_ok (hT : TypesOk P T) (hc : CalOk F n P cal) (hF : ∀ f, F.fn f) (hm : P.follows .mixedOrders = true) {id : Nat} {ord : List Nat} {ts' : List AV} {s s' : St} (h : drawnA T cal ops ord b rk ts s = some (ts', s')) {φ : Phi} {a : Act} {w : World} (ha : Slots φ ts a) (hs : Stands B w0 φ s w) {Q : Exit → Act → World → Prop}
    (hK : ∀ φ' w' a', Eff B w0 φ φ' s s' w' → Slots φ' ts' a' → a'.defers = a.defers → Q .normal a' w') : (Code.region id ops true).wpIn F n P Q a w := by
  simp only [drawnA, Option.bind_eq_some_iff] at h
  obtain ⟨x, hx, h⟩ := h
  cases hch : (noneTwice (writers ops.toList 0) && chkR T ops ts (writers ops.toList 0) b rk x ops.toList 0 && idsOk x.log x.ids && effsOk b x.log.reverse && x.log.all (fun e => Nat.blt e.1 ops.size) && x.ids.all (fun p => Nat.ble s.next p.2)) with
  | false => rw [hch] at h; cases h
  | true =>
    rw [hch] at h
    obtain ⟨rfl, rfl⟩ : endR x.V (writers ops.toList 0) ts = ts' ∧ x.s = s' := by simpa using h
    simp only [Bool.and_eq_true, List.all_eq_true] at hch
    obtain ⟨⟨⟨⟨⟨h1, h2⟩, h3⟩, h4⟩, h5⟩, h6⟩ := hch
    have C : Ctx T cal ops ts b rk x s := ⟨h1, fun i o ho => by
      have := chk_at h2 i o (by simpa using ho)
      rwa [Nat.zero_add] at this, h3, h4, run_chain hx (fun _ _ e => e) (Grow.refl s), fun e he => Nat.le_of_ble_eq_true (h5 e he), fun p hp => Nat.le_of_ble_eq_true (h6 p hp)⟩
    have hgrow : Grow s (curE x.s x.log.reverse) := by
      have := C.chain
      rw [← List.append_nil x.log] at this
      exact Chain.at this
    refine wpIn_region_any hm (any_ok (φ0 := φ) (s0 := s) (a0 := a) hT hc hF C (fun listed a' w' φ' dn td I hall => ?_) ops.size _ a w.drew φ [] x.log.reverse ⟨by simp, by simp, fun e he => (by cases he), fun e he => ?_, fun i j hi _ => ?_, hgrow.2.2 _ _ _ _ hs.drew, fun t j _ hj => ?_, fun t _ => ?_, ?_, fun i jd hj _ => ?_, φ.le_refl, hgrow.1, fun j hj hn => ⟨hn, hgrow.2.1 j hj⟩, rfl⟩ (by simp))
    · have htd : td = [] := by
        cases td with
        | nil => rfl
        | cons e r =>
          have h7 := I.todo e (by simp)
          rw [hall e.1 (C.range e (by rw [I.log]; simp))] at h7
          cases h7
      subst htd
      refine hK φ' w' a' ⟨I.le, I.stands, I.next, I.kept⟩ (concL_of (by rw [end_len]; simpa using I.tsize.symm) fun t c v hc1 hv => ?_) I.defers
      have ht : t < ts.length := by rw [← end_len x.V (writers ops.toList 0) ts]; exact (List.getElem?_eq_some_iff.1 hc1).1
      rw [end_at x.V C.twice t ht] at hc1
      rw [Array.getElem?_toList] at hv
      have hev : a'.eval (.tmp t) = v := by simp [Act.eval, hv]
      split at hc1
      · rename_i j hl
        obtain ⟨o, ho, _⟩ := (writer_iff C.twice t j).1 hl
        obtain ⟨c', k1, k2⟩ := I.slotW t j hl (hall j (Array.getElem?_eq_some_iff.1 ho).1)
        rw [k1] at hc1
        injection hc1 with hc1
        simp only [Option.getD_some] at hc1
        subst hc1
        rw [← hev]
        exact k2
      · rename_i hl
        have := I.slot0 t fun j hj => by rw [hl] at hj; cases hj
        rw [List.getD_eq_getElem?_getD, hc1, hev] at this
        exact this
    · have := C.range e (by simpa using he)
      simp [this]
    · exfalso
      rw [Array.getElem?_replicate] at hi
      split at hi <;> simp at hi
    · exfalso
      rw [Array.getElem?_replicate] at hj
      split at hj <;> simp at hj
    · exact ha.eval (.tmp t) _ (by rw [← getQ_eq]; rfl)
    · have := concL_len ha
      simpa using this
    · cases hq : φ jd with
      | none => rfl
      | some L =>
        have h7 := (hs.dom jd L hq).1
        have h8 := C.base _ hj
        dsimp only at h8
        omega

end
end
end Go.Proofs.YtoafihjgpbcgbaaGreat.Si
