/- What every law's row of this seat needs behind the walk: opening the arguments, and closing the row by 'it returned true, and nothing that lay below the heap has turned'. Conditions: none. -/
import Derived.Test.YtoafihjgpbcgbaaGreatWords
import Derived.ProofKit
import Derived.Deep.Fields
import Derived.Deep.Slices
import Derived.ChangeSame
import Derived.Carry
namespace Go.Proofs.YtoafihjgpbcgbaaGreat
open Go.ChangeShapes Go.WideShapes Go.ChangeAt Go.RowKit Go.Deep

section
variable {H : Type} {enc : TypeId × Value → H} {P : Program}

theorem trodAll_stays (hl : laidOutB P = true) {W W' : World} {sp : Nat → Bool} : ∀ {ts : List TypeId} {vs : List Value} {ds : List (DataW H)} {ps : List MemPlace}, (∀ t ∈ ts, P.readableRec t = true ∧ t < P.types.size) →
    DataW.TrodAll enc P W 0 (fun _ => true) true ts vs ds ps → (∀ p ∈ ps, W.sameAt W' p) → (∀ p ∈ ps, sp p.block = true) → DataW.TrodAll enc P W' 0 sp true ts vs ds ps
  | [], [], [], _, _, h, _, _ => h
  | t :: ts, v :: vs, d :: ds, ps, ht, h, hs, hp => by
    obtain ⟨p, q, h1, h2, rfl⟩ := h
    exact ⟨p, q, WideElems.Trod_stays hl (ht t (by simp)).1 (ht t (by simp)).2 h1 (fun x hx => hs x (by simp [hx])) (fun x hx => hp x (by simp [hx])),
      trodAll_stays hl (fun t' h' => ht t' (by simp [h'])) h2 (fun x hx => hs x (by simp [hx])) (fun x hx => hp x (by simp [hx])), rfl⟩
  | [], _ :: _, _, _, _, h, _, _ => h.elim
  | [], [], _ :: _, _, _, h, _, _ => h.elim
  | _ :: _, [], _, _, _, h, _, _ => h.elim
  | _ :: _, _ :: _, [], _, _, h, _, _ => h.elim

/-- The conclusion of a law's row: the call has returned true, and below the heap's size all is as it was. -/
theorem law_post {f : Func} {s : ChangeSpec} {apart fresh handsOn again : Bool} {W W' : World} {args : Array Value} {ds gs : List (DataW H)} {before : List MemPlace} {tb : TypeId}
    (hl : laidOutB P = true) (hpb : (f.params.toList.all fun t => P.readableRec t && decide (t < P.types.size)) = true) (hrt : f.resultTypes = #[tb]) (htb : P.underlying tb = some .bool) (hv : s.vars = [])
    (hs : s.fn H (ds ++ gs) = { results := [.lit (.bool true)], args := ds })
    (hW : DataW.Whole enc P f.params.toList s.vars apart W args.toList ds gs before) (hb : Below W.heap.size W W') : s.post enc P f apart fresh handsOn again W args (.bool true) W' := by
  have hp : ∀ t ∈ f.params.toList, P.readableRec t = true ∧ t < P.types.size := fun t ht => by
    have := List.all_eq_true.1 hpb t ht
    simpa using this
  have hW' := hW
  obtain ⟨p, q, hA, hV, rfl, hfz, hnd⟩ := hW
  rw [hv] at hV
  obtain ⟨rfl, rfl⟩ := trodVars_none hV
  have hlt : ∀ x ∈ p ++ ([] : List MemPlace), x.block < W.heap.size := fun x hx => hW'.lt x hx
  have hlt' : ∀ x ∈ p, x.block < W.heap.size := fun x hx => hlt x (by simp [hx])
  have hargs : ∀ sp : Nat → Bool, (∀ x ∈ p ++ ([] : List MemPlace), sp x.block = true) → DataW.TrodAll enc P W' 0 sp true f.params.toList args.toList (s.fn H (ds ++ [])).args p := fun sp hsp => by
    rw [hs]
    exact trodAll_stays hl hp hA (fun x hx => hb.same (hlt' x hx)) (fun x hx => hsp x (by simp [hx]))
  have hres : ∀ (b : Nat) (sp : Nat → Bool) (hd : Bool), DataW.TrodAll enc P W' b sp hd f.resultTypes.toList ((Value.bool true).resultList f.resultTypes.size) (s.fn H (ds ++ [])).results [] := fun _ _ _ => by
    rw [hs, hrt]
    exact trodAll_mk1 (shut_bool htb true)
  have hvars : ∀ sp : Nat → Bool, (∀ x ∈ p ++ ([] : List MemPlace), sp x.block = true) → DataW.TrodVars enc P W' sp s.vars (s.fn H (ds ++ [])).vars [] := fun _ _ => by
    rw [hv, hs]
    exact rfl
  have hold : ∀ x ∈ p ++ ([] : List MemPlace), (fun b => decide (b < W.heap.size)) x.block = true := fun x hx => by simpa using hlt x hx
  refine ⟨ds, [], p ++ [], [], p, [], hW', hres _ _ _, hargs _ hold, hvars _ hold, World.keptBut_mono (fun x hx => ⟨hx, ?_⟩) (hb.frame (· ∈ p ++ [])), fun _ => ?_⟩
  · right; simpa using hx
  · refine ⟨?_, _, _, ([] ++ p) ++ [], ⟨[] ++ p, [], trodAll_append (hargs _ (fun _ _ => rfl)) (hres _ _ _), hvars _ (fun _ _ => rfl), rfl, ?_, ?_⟩, ?_⟩
    · intro j t r ht hr
      rw [hrt] at ht hr
      match j with
      | 0 =>
        simp at ht
        subst ht
        simp [Value.resultList] at hr
        subst hr
        exact okWide_bool_mk htb true
      | j + 1 => simp at ht
    · intro b off hx
      have hin : MemPlace.cell b off ∈ p ++ [] := by simpa using hx
      rw [hb.frozen (hlt _ hin)]
      exact hfz b off hin
    · intro ha
      have := hnd ha
      simpa using this
    · intro x hx _
      simpa using hx

/-- A struct by value, each field of one cell: its cells, each with its own reading. -/
theorem open_agg_any {w : World} {base : Nat} {spare : Nat → Bool} {held : Bool} {r : Reach} {b0 : Nat} {t : TypeId} {fs : Array Field} {v : Value} {d : DataW H} {p : List MemPlace} (hs : P.underlying t = some (.struct fs)) (hone : oneCellFields P fs = true) (hC : P.cellsOf t = fs.size)
    (hv : Value.okWide P w r b0 t v) (h : DataW.Trod enc P w base spare held t v d p) :
    ∃ cs : List Value, v = .agg cs.toArray ∧ cs.length = fs.size ∧ ∀ (j : Nat) (f : Field), fs[j]? = some f → ∃ (c : Value) (y : DataW H × List MemPlace) (n : Nat), cs[j]? = some c ∧ DataW.trod enc P w base spare held n f.type [c] = some y := by
  obtain ⟨cs, rfl, hsz⟩ := okWide_struct hs hv
  obtain ⟨fuel, hf⟩ := h
  obtain ⟨ys, n, _, hx, hlen, hyl, hg⟩ := DataW.trod_struct hs hf
  have hcl : cs.toList.length = fs.size := by simpa [hC] using hsz
  refine ⟨cs.toList, by simp, hcl, fun j f hj => ?_⟩
  obtain ⟨ho, hk⟩ := hone_of hone j f hj
  have hjl : j < fs.size := (Array.getElem?_eq_some_iff.1 hj).1
  have h1 := hg j f hj
  rw [ho, hk] at h1
  have hd : ((Value.agg cs).cells.toList.drop j).take 1 = [cs.toList[j]'(by omega)] := by
    show (cs.toList.drop j).take 1 = _
    rw [List.drop_eq_getElem_cons (by omega)]
    rfl
  rw [hd, List.getElem?_eq_getElem (by omega)] at h1
  exact ⟨_, _, n, List.getElem?_eq_getElem (by omega), h1⟩

theorem list12 {l : List Value} (h : l.length = 12) : ∃ a0 a1 a2 a3 a4 a5 a6 a7 a8 a9 a10 a11, l = [a0, a1, a2, a3, a4, a5, a6, a7, a8, a9, a10, a11] := by
  match l, h with
  | [a0, a1, a2, a3, a4, a5, a6, a7, a8, a9, a10, a11], _ => exact ⟨_, _, _, _, _, _, _, _, _, _, _, _, rfl⟩

/-- A cell that is a slice of integers. -/
theorem open_slice_int {w : World} {base : Nat} {spare : Nat → Bool} {held : Bool} {t e : TypeId} {k : IntKind} {fuel : Nat} {c : Value} {y : DataW H × List MemPlace} (ht : P.underlying t = some (.slice e)) (he : P.underlying e = some (.int k)) (hc : P.cellsOf e = 1)
    (h : DataW.trod enc P w base spare held fuel t [c] = some y) :
    ∃ (A : Option Addr) (zs : List Int) (cap : Nat), c = .slice A zs.length cap ∧ zs.length ≤ cap ∧ zs.length ≤ 9223372036854775807 ∧ Rd w w.heap.size A (zs.map (Value.int k)) ∧ ∀ z ∈ zs, (Lit.int k z).wf = true := by
  rcases open_ints ht he hc h with ⟨hcs, hx⟩ | ⟨a, len, cap, zs, hcs, _, hl, hm, hz, hx, hcell, hwz⟩
  · injection hcs with hcs _
    exact ⟨none, [], 0, hcs, by simp, by simp, Rd.nil_ _ _ _, by simp⟩
  · injection hcs with hcs _
    have hlz : len ≤ zs.length := by rw [hz]; split <;> omega
    have htl : (zs.take len).length = len := by simp; omega
    unfold maxLen at hm
    refine ⟨some a, zs.take len, cap, by rw [htl]; exact hcs, by omega, by omega, fun h0 => ?_, fun z hz => hwz z (List.mem_of_mem_take hz)⟩
    have h0' : 0 < zs.length := by simp at h0; omega
    have c0 := hcell 0 h0'
    obtain ⟨b, off, spot⟩ := a
    have hsp : spot = none := by
      cases spot with
      | none => rfl
      | some s =>
        simp only [Addr.add, if_true, World.cell?] at c0
        split at c0 <;> simp at c0
    subst hsp
    refine ⟨b, off, rfl, World.block_lt_of_cell? w _ (by simpa [Addr.add] using c0), fun j u hu => ?_⟩
    rw [List.getElem?_map, List.getElem?_take] at hu
    split at hu
    · rename_i hj
      have hjz : j < zs.length := by omega
      have := hcell j hjz
      rw [show (⟨b, off, none⟩ : Addr).add j = ⟨b, off + j, none⟩ from by unfold Addr.add; split <;> simp_all] at this
      rw [this]
      simpa [List.getD, hjz] using hu
    · cases hu
end

end Go.Proofs.YtoafihjgpbcgbaaGreat
