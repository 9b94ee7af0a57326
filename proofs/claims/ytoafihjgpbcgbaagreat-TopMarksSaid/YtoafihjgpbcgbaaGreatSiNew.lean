/- The interpreter's new objects: made in the abstract state first, given a place when the operation is carried out. Conditions: none. -/
import Derived.Test.YtoafihjgpbcgbaaGreatSiMem
import Derived.IntWalk
namespace Go.Proofs.YtoafihjgpbcgbaaGreat.Si
noncomputable section
open Go.RowKit

/-- n elements, one after the other. -/
def rep {α : Type} : Nat → List α → List α
  | 0, _ => []
  | n + 1, z => z ++ rep n z

/-- What an operation that makes an object yields, and the object's cells; its name is id. -/
def newOp (T : TT) (ρ : Operand → Option AV) (id : Nat) : Op → Option (AV × List AV × TypeId)
  | .alloc e => (look T e).map fun i => (.ptr id 0, i.zero, e)
  | .box e x => (ρ x).map fun a => (.ptr id 0, avCells a, e)
  | .buildSlice t len ps => match look T t with
    | some { k := .slice e, .. } => (look T e).bind fun te => if len * te.size ≤ 2 ^ 24 then
        (evalP ρ ps.toList).bind fun ps => (fillA (placeE te.size) (rep len te.zero) ps).map fun cs => (.sl id 0 len len true te.size, cs, e)
      else none
    | _ => none
  | .makeSlice t l c => match ρ l, ρ c, look T t with
    | some (.int _ l), some (.int _ c), some { k := .slice e, .. } => (look T e).bind fun te => if 0 ≤ l ∧ l ≤ c ∧ c ≤ 2 ^ 20 ∧ te.bytes * c ≤ 2 ^ 48 then
        some (.sl id 0 l.toNat c.toNat true te.size, rep c.toNat te.zero, e)
      else none
    | _, _, _ => none
  | _ => none

/-- A name gets a place. -/
def Phi.up (φ : Phi) (id : Nat) (L : Loc) : Phi := fun j => if j = id then some L else φ j
theorem Phi.up_le {φ : Phi} {id : Nat} (h : φ id = none) (L : Loc) : φ.le (φ.up id L) := fun j M hj => by
  unfold Phi.up
  rw [if_neg (fun e => by subst e; rw [h] at hj; cases hj)]
  exact hj
theorem Phi.up_self (φ : Phi) (id : Nat) (L : Loc) : (φ.up id L) id = some L := by simp [Phi.up]

theorem Stands.new {B : Nat} {w0 w : World} {φ : Phi} {s : St} (hs : Stands B w0 φ s w) (o : AO) (hr : s.next < 2 ^ dep) : Stands B w0 φ (s.new o) w :=
  ⟨hs.below, hs.size, hr, fun i L h => ⟨Nat.lt_succ_of_lt (hs.dom i L h).1, (hs.dom i L h).2⟩, fun i L p h hp => by
    rw [St.get_new hr (hs.lt h), if_neg (Nat.ne_of_lt (hs.dom i L h).1)] at hp
    exact hs.lies i L p h hp, fun i j L M o p hi hj ho hp he => by
    rw [St.get_new hr (hs.lt hi), if_neg (Nat.ne_of_lt (hs.dom i L hi).1)] at ho
    rw [St.get_new hr (hs.lt hj), if_neg (Nat.ne_of_lt (hs.dom j M hj).1)] at hp
    exact hs.apart i j L M o p hi hj ho hp he⟩

/-- A name without a place gets a new block. -/
theorem Stands.place {B : Nat} {w0 w : World} {φ : Phi} {s : St} (hs : Stands B w0 φ s w) {id : Nat} (h0 : φ id = none) (h1 : id < s.next) {ob : Obj} {L : Loc} (hb : L.blk = w.heap.size)
    (hl : ∀ o, s.get id = some o → Lies (φ.up id L) (w.alloc ob) L o) : Stands B w0 (φ.up id L) s (w.alloc ob) :=
  have hheap : ∀ i M, φ i = some M → (w.alloc ob).heap[M.blk]? = w.heap[M.blk]? := fun i M h => by
    have := (hs.dom i M h).2.2
    rw [show (w.alloc ob).heap = w.heap.push ob from rfl, Array.getElem?_push, if_neg (by omega)]
  ⟨hs.below.alloc hs.size ob, by rw [World.size_alloc]; exact Nat.le_succ_of_le hs.size, hs.room, fun i M h => by
    unfold Phi.up at h
    split at h
    · rename_i e
      subst e
      injection h with h
      subst h
      exact ⟨h1, by rw [hb]; exact hs.size, by rw [hb, World.size_alloc]; omega⟩
    · have := hs.dom i M h
      exact ⟨this.1, this.2.1, by rw [World.size_alloc]; omega⟩, fun i M o h ho => by
    by_cases e : i = id
    · subst e
      rw [Phi.up_self] at h
      injection h with h
      subst h
      exact hl o ho
    · have h' : φ i = some M := by unfold Phi.up at h; rwa [if_neg e] at h
      exact ((hs.lies i M o h' ho).heap (hheap i M h')).mono (Phi.up_le h0 L), fun i j M N o p hi hj ho hp he => by
    unfold Phi.up at hi hj
    split at hi <;> split at hj <;> rename_i e1 e2
    · exact e1.trans e2.symm
    · injection hi with hi
      subst hi
      have := (hs.dom j N hj).2.2
      omega
    · injection hj with hj
      subst hj
      have := (hs.dom i M hi).2.2
      omega
    · exact hs.apart i j M N o p hi hj ho hp he⟩

theorem rep_ok {φ : Phi} {z : List AV} {vs : List Value} (h : concL φ z = some vs) : ∀ n, concL φ (rep n z) = some (rep n vs)
  | 0 => rfl
  | n + 1 => concL_append h (rep_ok h n)
theorem rep_len {α : Type} (z : List α) : ∀ n, (rep n z).length = n * z.length
  | 0 => by simp [rep]
  | n + 1 => by rw [rep, List.length_append, rep_len z n, Nat.succ_mul, Nat.add_comm]
theorem rep_at {α : Type} (z : List α) : ∀ n j, j < n * z.length → (rep n z)[j]? = z[j % z.length]?
  | 0, j, h => by simp at h
  | n + 1, j, h => by
    rw [rep]
    rcases Nat.lt_or_ge j z.length with hj | hj
    · rw [List.getElem?_append_left hj, Nat.mod_eq_of_lt hj]
    · rw [List.getElem?_append_right hj, rep_at z n _ (by rw [Nat.succ_mul] at h; omega), ← Nat.mod_eq_sub_mod hj]
theorem rep_range (z : Array Value) (n : Nat) : (Array.range (n * z.size)).map (fun j => z[j % z.size]!) = (rep n z.toList).toArray := by
  apply Array.ext'
  apply List.ext_getElem?
  intro j
  by_cases hj : j < n * z.size
  · have hz : 0 < z.size := by
      rcases Nat.eq_zero_or_pos z.size with h | h
      · rw [h] at hj; simp at hj
      · exact h
    have hm := Nat.mod_lt j hz
    rw [show (rep n z.toList).toArray.toList = rep n z.toList from rfl, rep_at _ _ _ (by simpa using hj)]
    simp [hj, hm]
  · rw [show (rep n z.toList).toArray.toList = rep n z.toList from rfl, List.getElem?_eq_none (by simpa using hj), List.getElem?_eq_none (by rw [rep_len]; simpa using hj)]

section
variable {P : Program} {φ : Phi} {ρ : Operand → Option AV} {ρc : Operand → Value}

/-- An operation that makes an object: in every world a new block with the object's cells; the value is known once the name has this place. -/
theorem new_ok {T : TT} (hT : TypesOk P T) (hρ : ∀ x a, ρ x = some a → conc φ a = some (ρc x)) {id : Nat} {o : Oper} {a : AV} {cs : List AV} {t : TypeId} (h : newOp T ρ id o.op = some (a, cs, t)) :
    ∃ C : List Value, concL φ cs = some C ∧ ∀ w, ∃ v, (execOp ρc o).run P w = .ok (.value v) (w.alloc (.cells C.toArray t (0, 0))) ∧ conc (φ.up id ⟨w.heap.size, 0, C.length⟩) a = some v := by
  cases ho : o.op <;> rw [ho] at h <;> simp only [newOp] at h <;> try (cases h; done)
  case alloc e =>
    simp only [Option.map_eq_some_iff] at h
    obtain ⟨i, hi, h⟩ := h
    simp only [Prod.mk.injEq] at h
    obtain ⟨rfl, rfl, rfl⟩ := h
    obtain ⟨z, hz, k⟩ := (hT.at hi).info
    refine ⟨z.cells.toList, absCs_conc φ _ _ k, fun w => ?_⟩
    have hzr : (zeroValue e).run P w = .ok z w := by
      cases hq : P.info? e with
      | none => rw [hq] at hz; cases hz
      | some x => rw [hq] at hz; simp at hz; simp [zeroValue, typeInfo, hq, hz.2.2]
    exact ⟨.pointer (some ⟨w.heap.size, 0, none⟩), by simp [execOp, ho, Instr.alloc, Sem.run_bind, hzr, newVar, newRow], by simp [conc, Phi.up_self]⟩
  case box e x =>
    simp only [Option.map_eq_some_iff] at h
    obtain ⟨b, hb, h⟩ := h
    simp only [Prod.mk.injEq] at h
    obtain ⟨rfl, rfl, rfl⟩ := h
    exact ⟨(ρc x).cells.toList, avCells_ok (hρ _ _ hb), fun w => ⟨.pointer (some ⟨w.heap.size, 0, none⟩), by simp [execOp, ho, Instr.box, newVar, newRow], by simp [conc, Phi.up_self]⟩⟩
  case buildSlice t' len ps =>
    split at h
    · rename_i ti e hl
      simp only [Option.bind_eq_some_iff] at h
      obtain ⟨te, hte, h⟩ := h
      split at h
      · rename_i hsz
        simp only [Option.bind_eq_some_iff, Option.map_eq_some_iff] at h
        obtain ⟨qs, hq, cs', hf, h⟩ := h
        simp only [Prod.mk.injEq] at h
        obtain ⟨rfl, rfl, rfl⟩ := h
        obtain ⟨d, hd, _, hkk⟩ := (hT.at hl).kind
        dsimp only at hkk
        subst hkk
        have hte' := hT.at hte
        obtain ⟨z, hz, k⟩ := hte'.info
        obtain ⟨e1, e2⟩ := evalP_ok hρ hq
        have e1' : qs.map (·.1) = ((ps.map fun p => (p.1, ρc p.2)).toList).map (·.1) := by rw [e1]; simp
        have e2' : concL φ (qs.map (·.2)) = some (((ps.map fun p => (p.1, ρc p.2)).toList).map (·.2)) := by rw [e2]; simp
        obtain ⟨rs, k1, k2⟩ := fill_ok e1' e2' (rep_ok (absCs_conc φ _ _ k) len) hf
        refine ⟨rs, k1, fun w => ?_⟩
        have hzr : (zeroValue e).run P w = .ok z w := by
          cases hq : P.info? e with
          | none => rw [hq] at hz; cases hz
          | some x => rw [hq] at hz; simp at hz; simp [zeroValue, typeInfo, hq, hz.2.2]
        have hzs : z.cells.size = te.size := by
          have := concL_len (absCs_conc φ _ _ k)
          rw [hte'.len] at this
          simpa using this
        rw [← rep_range, hzs] at k2
        refine ⟨.slice (some ⟨w.heap.size, 0, none⟩) len len, ?_, by simp [conc, Phi.up_self]⟩
        simp only [execOp, ho, Instr.buildSlice]
        simp only [Sem.run_bind, run_underlying hd w, Result.andThen_ok, hte'.size_run w, Sem.run_pure]
        rw [if_neg (Nat.not_lt.2 hsz)]
        by_cases hne : len * te.size = 0
        · rw [if_pos hne]
          simp only [Sem.run_bind, Result.andThen_ok, Sem.run_pure]
          have hr0 : ∀ z' : Array Value, (Array.range (len * te.size)).map (fun j => z'[j % z'.size]!) = #[] := fun z' => by rw [hne]; simp
          have k3 := k2
          rw [show (Array.range (len * te.size)).map (fun j => z.cells[j % te.size]!) = #[] by rw [hne]; simp] at k3
          rw [hr0, show (fun i => some (i * te.size, te.size)) = placeE te.size from rfl, k3]
          simp [newRow]
        · rw [if_neg hne]
          simp only [Sem.run_bind, Result.andThen_ok, Sem.run_pure, hzr, hzs]
          rw [show (fun i => some (i * te.size, te.size)) = placeE te.size from rfl, k2]
          simp [newRow]
      · cases h
    · cases h
  case makeSlice t' l c =>
    split at h
    · rename_i k1 l' k2 c' _ _ _ _ e hl hc ht
      simp only [Option.bind_eq_some_iff] at h
      obtain ⟨te, hte, h⟩ := h
      split at h
      · rename_i hb
        obtain ⟨b0, b1, b2, b3⟩ := hb
        simp only [Option.some.injEq, Prod.mk.injEq] at h
        obtain ⟨rfl, rfl, rfl⟩ := h
        obtain ⟨d, hd, _, hkk⟩ := (hT.at ht).kind
        dsimp only at hkk
        subst hkk
        have hte' := hT.at hte
        obtain ⟨z, hz, k⟩ := hte'.info
        have el : ρc l = .int k1 l' := by have := hρ _ _ hl; simpa [conc] using this.symm
        have ec : ρc c = .int k2 c' := by have := hρ _ _ hc; simpa [conc] using this.symm
        have wl : IntKind.i64.wrap l' = l' := IntWalk.i64_in _ (by omega)
        have wc : IntKind.i64.wrap c' = c' := IntWalk.i64_in _ (by omega)
        refine ⟨rep c'.toNat z.cells.toList, rep_ok (absCs_conc φ _ _ k) _, fun w => ?_⟩
        have hzs : z.cells.size = te.size := by
          have := concL_len (absCs_conc φ _ _ k)
          rw [hte'.len] at this
          simpa using this
        have hr := rep_range z.cells c'.toNat
        rw [hzs] at hr
        refine ⟨.slice (some ⟨w.heap.size, 0, none⟩) l'.toNat c'.toNat, ?_, by simp [conc, Phi.up_self]⟩
        cases hq : P.info? e with
        | none => rw [hq] at hz; cases hz
        | some x =>
          rw [hq] at hz
          simp at hz
          have hn1 : ¬ (c' < 0) := by omega
          have hn2 : ¬ (l' < 0) := by omega
          have hn3 : ¬ (c' < l') := by omega
          have hn4 : ¬ ((281474976710656 : Int) < (te.bytes : Int) * c') := by omega
          simp only [execOp, ho, Instr.makeSlice, el, ec]
          by_cases hne : c'.toNat * te.size = 0
          · have hr2 : (rep c'.toNat z.cells.toList).toArray = #[] := by rw [← hr, hne]; simp
            simp [Sem.run_bind, run_underlying hd w, asInt, asIntOf, typeInfo, hq, hz, wl, wc, hn1, hn2, hn3, hn4, sizeOf, hne, newRow, hr2]
            rw [show Array.map (fun (_ : Nat) => (default : Value)) (Array.range 0) = #[] by simp]
          · simp [Sem.run_bind, run_underlying hd w, asInt, asIntOf, typeInfo, hq, hz, wl, wc, hn1, hn2, hn3, hn4, sizeOf, hne, zeroValue, newRow, hzs, hr]
      · cases h
    · cases h

end
end
end Go.Proofs.YtoafihjgpbcgbaaGreat.Si
