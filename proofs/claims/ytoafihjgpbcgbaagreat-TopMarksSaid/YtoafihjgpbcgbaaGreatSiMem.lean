/- The interpreter's loads and stores. Conditions: none. -/
import Derived.Test.YtoafihjgpbcgbaaGreatSiPureOp
import Derived.Laws.NewFold
import Derived.Below
namespace Go.Proofs.YtoafihjgpbcgbaaGreat.Si
noncomputable section
open Go.RowKit

/-- One cell, no row. -/
def oneA : AV → Bool
  | .agg _ => false
  | .tup _ => false
  | _ => true

/-- A load. -/
def loadA (T : TT) (s : St) (t : TypeId) (x : AV) : Option AV := match x, look T t with
  | .ptr id off, some ti => match s.get id with
    | some (.cells cs _) => partA cs off ti.size ti.agg
    | _ => none
  | _, _ => none

/-- Cells are written at a name. -/
def writeA (s : St) (id off : Nat) (l : List AV) : Option St := match s.get id with
  | some (.cells cs t) => if off + l.length ≤ cs.length ∧ l.all oneA = true then some (s.put id (some (.cells (setL cs off l) t))) else none
  | _ => none

/-- A store. -/
def storeA (T : TT) (s : St) (t : TypeId) (x y : AV) : Option St := match x, look T t with
  | .ptr id off, some ti => if (avCells y).length = ti.size then writeA s id off (avCells y) else none
  | _, _ => none

theorem oneA_ok {φ : Phi} {a : AV} {v : Value} (h : conc φ a = some v) (h1 : oneA a = true) : v.oneCell' = true := by
  cases a <;> simp only [oneA] at h1 <;> first
    | (cases h1; done)
    | (injection h with h; subst h; rfl)
    | (obtain ⟨_, _, _, rfl, _⟩ := conc_sl h; rfl)
    | (simp only [conc, Option.map_eq_some_iff, Option.bind_eq_some_iff] at h
       first
         | (obtain ⟨_, _, rfl⟩ := h; rfl)
         | (obtain ⟨_, _, _, _, rfl⟩ := h; rfl))

theorem allOne_ok {φ : Phi} : ∀ {l : List AV} {us : List Value}, concL φ l = some us → l.all oneA = true → ∀ u ∈ us, u.oneCell' = true
  | [], _, h, _ => by cases h; simp
  | a :: r, _, h, h1 => by
    rw [concL_cons] at h
    simp only [Option.bind_eq_some_iff, Option.map_eq_some_iff] at h
    obtain ⟨x, k1, y, k2, rfl⟩ := h
    simp only [List.all_cons, Bool.and_eq_true] at h1
    intro u hu
    rcases List.mem_cons.1 hu with rfl | hu
    · exact oneA_ok k1 h1.1
    · exact allOne_ok k2 h1.2 u hu

theorem heap_setCells (b : Nat) : ∀ (vs : List Value) (o : Nat) (w : World) (i : Nat), i ≠ b → (w.setCells b o vs).heap[i]? = w.heap[i]?
  | [], _, _, _, _ => rfl
  | v :: r, o, w, i, h => (heap_setCells b r (o + 1) _ i h).trans (Below.heap_setCell w ⟨b, o, none⟩ v i h)
theorem below_setCells {B b : Nat} (hb : B ≤ b) : ∀ (vs : List Value) (o : Nat) (w0 w : World), Below B w0 w → Below B w0 (w.setCells b o vs)
  | [], _, _, _, h => h
  | v :: r, o, w0, _, h => below_setCells hb r (o + 1) w0 _ (h.setCell (p := ⟨b, o, none⟩) hb v)
theorem size_setCells (b : Nat) : ∀ (vs : List Value) (o : Nat) (w : World), (w.setCells b o vs).heap.size = w.heap.size
  | [], _, _ => rfl
  | v :: r, o, w => (size_setCells b r (o + 1) _).trans (by simp [World.setCell])

theorem setV_len (l : List Value) : ∀ (cs : List Value) (off : Nat), (setV cs off l).length = cs.length := by
  induction l with
  | nil => intro cs off; rfl
  | cons a r ih => intro cs off; rw [setV, ih, List.length_set]
theorem setV_at : ∀ (us cs : List Value) (off j : Nat), off + us.length ≤ cs.length → (setV cs off us)[j]? = if off ≤ j ∧ j < off + us.length then us[j - off]? else cs[j]?
  | [], cs, off, j, _ => by
    rw [if_neg (by simp)]
    rfl
  | u :: r, cs, off, j, h => by
    rw [List.length_cons] at h
    rw [setV, setV_at r _ _ _ (by rw [List.length_set]; omega)]
    rcases Nat.lt_trichotomy j off with hj | hj | hj
    · rw [if_neg (by omega), if_neg (by rw [List.length_cons]; omega), List.getElem?_set_ne (by omega)]
    · subst hj
      rw [if_neg (by omega), if_pos (by rw [List.length_cons]; omega), List.getElem?_set_self (by omega)]
      simp
    · by_cases hk : j < off + (r.length + 1)
      · rw [if_pos (by omega), if_pos (by rw [List.length_cons]; omega), show j - off = (j - (off + 1)) + 1 by omega]
        simp
      · rw [if_neg (by omega), if_neg (by rw [List.length_cons]; omega), List.getElem?_set_ne (by omega)]

/-- The block that is written. -/
theorem block_setCells (b : Nat) : ∀ (us : List Value) (o : Nat) (w : World) (cs : List Value) (t : TypeId) (fr : Nat × Nat), w.heap[b]? = some (.cells cs.toArray t fr) → (w.setCells b o us).heap[b]? = some (.cells (setV cs o us).toArray t fr)
  | [], _, _, _, _, _, h => h
  | u :: r, o, w, cs, t, fr, h => by
    rw [World.setCells, setV]
    refine block_setCells b r (o + 1) _ _ t fr ?_
    simp [World.setCell, Array.getElem?_modify, h]

section
variable {P : Program} {φ : Phi}

theorem load_ok {T : TT} (hT : TypesOk P T) {B : Nat} {w0 w : World} {s : St} (hs : Stands B w0 φ s w) {t : TypeId} {x a : AV} (h : loadA T s t x = some a) {v : Value} (hx : conc φ x = some v) :
    ∃ u, conc φ a = some u ∧ (Instr.loadAt t v).run P w = .ok u w := by
  unfold loadA at h
  split at h
  · rename_i id off ti hl
    split at h
    · rename_i cs ct hg
      obtain ⟨L, hL, rfl⟩ := ptr_of hx
      obtain ⟨C, vs, h1, h2, h3, h4, h5⟩ := hs.lies id L _ hL hg
      have ht := hT.at hl
      unfold partA at h
      simp only [atQ_eq] at h
      split at h
      · rename_i hag
        split at h
        · rename_i hle
          injection h with h
          subst h
          have k1 := (concL_take (concL_take h4 off).2 ti.size).1
          obtain ⟨d, hd, hr⟩ := ht.under
          have hlen := concL_len k1
          have hle' := concL_len h4
          refine ⟨.agg ((vs.drop off).take ti.size).toArray, by simp [conc, show conc.concL φ _ = _ from k1], ?_⟩
          refine run_loadAt_mid w L.blk (L.base + off) t _ d (fun j u hj => ?_) hd (by rw [← hag]; exact hr) (by rw [ht.info_size, hlen, List.length_take, List.length_drop]; congr 1; omega)
          rw [cell_of_row w L.blk _ C ct (0, 0) h1, Nat.add_assoc]
          refine h5 (off + j) u ?_
          rw [List.getElem?_take] at hj
          split at hj
          · rwa [List.getElem?_drop] at hj
          · cases hj
        · cases h
      · rename_i hag
        obtain ⟨u, k1, k2⟩ := concL_at h4 off a h
        refine ⟨u, k2, ?_⟩
        have hc : w.cell? ⟨L.blk, L.base + off, none⟩ = some u := by rw [cell_of_row w L.blk _ C ct (0, 0) h1]; exact h5 off u k1
        have hag' : ti.agg = false := by simpa using hag
        simp [Instr.loadAt, Instr.sureAddr, loadVar, Sem.run_bind, ht.agg_run w, hag', hc]
    · cases h
  · cases h

/-- What a write does to what the world stands for. -/
theorem Stands.write {B : Nat} {w0 w : World} {s s' : St} (hs : Stands B w0 φ s w) {id off : Nat} {L : Loc} (hL : φ id = some L) {l : List AV} (h : writeA s id off l = some s') {us : List Value} (hu : concL φ l = some us) :
    Stands B w0 φ s' (w.setCells L.blk (L.base + off) us) ∧ (∀ j, j < us.length → (w.cell? ⟨L.blk, L.base + off + j, none⟩).isSome = true ∧ w.frozen? ⟨L.blk, L.base + off + j, none⟩ = false) ∧ s'.next = s.next ∧ (∀ j, j < 2 ^ dep → φ j = none → s'.get j = s.get j) := by
  unfold writeA at h
  split at h
  · rename_i cs t hg
    split at h
    · rename_i hc
      injection h with h
      subst h
      obtain ⟨C, vs, h1, h2, h3, h4, h5⟩ := hs.lies id L _ hL hg
      have hlu := concL_len hu
      have hlv := concL_len h4
      have hid := hs.lt hL
      refine ⟨⟨below_setCells (hs.dom id L hL).2.1 us _ w0 w hs.below, by rw [size_setCells]; exact hs.size, hs.room, fun i M hM => by rw [size_setCells]; exact hs.dom i M hM, fun i M o hM ho => ?_, fun i j M N o p hM hN ho hp he => ?_⟩, fun j hj => ⟨?_, ?_⟩, rfl, fun j hj hn => ?_⟩
      · rw [St.get_put hid (hs.lt hM)] at ho
        split at ho
        · rename_i he
          subst he
          rw [hL] at hM
          injection hM with hM
          subst hM
          injection ho with ho
          subst ho
          refine ⟨_, setV vs off us, block_setCells L.blk us _ w C.toList t (0, 0) (by simpa using h1), by simp [setV_len, h2], by rw [setL_len]; exact h3, setL_ok hu h4 off, fun j v hj => ?_⟩
          rw [setV_at _ _ _ _ (by omega)] at hj
          rw [List.getElem?_toArray, setV_at _ _ _ _ (by simp; omega)]
          split at hj
          · rename_i hr
            rw [if_pos (by omega), show L.base + j - (L.base + off) = j - off by omega]
            exact hj
          · rename_i hr
            rw [if_neg (by omega)]
            simpa using h5 j v hj
        · rename_i hne
          have hb : M.blk ≠ L.blk := fun he => hne (hs.apart i id M L _ _ hM hL ho hg he)
          exact (hs.lies i M o hM ho).heap (heap_setCells _ us _ w _ hb)
      · rw [St.get_put hid (hs.lt hM)] at ho
        rw [St.get_put hid (hs.lt hN)] at hp
        split at ho <;> split at hp <;> rename_i e1 e2
        · exact e1.trans e2.symm
        · subst e1
          exact hs.apart _ j M N _ _ hM hN hg hp he
        · subst e2
          exact hs.apart i _ M N _ _ hM hN ho hg he
        · exact hs.apart i j M N _ _ hM hN ho hp he
      · rw [cell_of_row w L.blk _ C t (0, 0) h1, Array.getElem?_eq_getElem (by omega)]
        rfl
      · simp [World.frozen?, h1]
      · rw [St.get_put hid hj, if_neg (fun e => by subst e; rw [hL] at hn; cases hn)]
    · cases h
  · cases h

theorem store_ok {T : TT} (hT : TypesOk P T) {B : Nat} {w0 w : World} {s s' : St} (hs : Stands B w0 φ s w) {t : TypeId} {x y : AV} (h : storeA T s t x y = some s') {u v : Value} (hx : conc φ x = some u) (hy : conc φ y = some v) :
    ∃ w', (Instr.storeAt t u v).run P w = .ok () w' ∧ Stands B w0 φ s' w' ∧ s'.next = s.next ∧ ∀ j, j < 2 ^ dep → φ j = none → s'.get j = s.get j := by
  unfold storeA at h
  split at h
  · rename_i id off ti hl
    split at h
    · rename_i hlen
      obtain ⟨L, hL, rfl⟩ := ptr_of hx
      have hc := avCells_ok hy
      obtain ⟨k1, k2, k3, k4⟩ := hs.write hL h hc
      have hone : ∀ u ∈ v.cells.toList, u.oneCell' = true := by
        unfold writeA at h
        split at h
        · split at h
          · rename_i hw
            exact allOne_ok hc hw.2
          · cases h
        · cases h
      refine ⟨_, ?_, k1, k3, k4⟩
      have hsz : v.cells.size = ti.size := by have := concL_len hc; simp at this; omega
      have hrun := run_storeCells_cells (P := P) L.blk (L.base + off) v.cells.toList 0 w (fun j hj => by simpa using (k2 j hj).1) (fun j hj => by simpa using (k2 j hj).2) hone
      simp only [Nat.add_zero] at hrun
      simp [Instr.storeAt, Instr.sureAddr, storeVar, Sem.run_bind, (hT.at hl).size_run w, hsz, hrun]
    · cases h
  · cases h

end
end
end Go.Proofs.YtoafihjgpbcgbaaGreat.Si
